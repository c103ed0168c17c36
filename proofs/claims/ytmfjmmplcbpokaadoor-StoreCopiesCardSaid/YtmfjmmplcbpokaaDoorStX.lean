/-
  What the loops of the program's Store do: Fence, Crash, Copy. For every store.
-/
import Derived.Test.YtmfjmmplcbpokaaDoorStW
namespace Go.Proofs.YtmfjmmplcbpokaaDoor
set_option linter.unusedSimpArgs false
set_option linter.unusedVariables false
set_option linter.unusedSectionVars false
open Go.RowKit
attribute [local go_sem ↓] Go.wp_at_zero Go.wp_at_succ

theorem stFence_out (g : Nat) (t : Int) (w : World) (ho : ¬ (0 ≤ t ∧ t < 4)) :
    Calls Tryd.prog 24 #[.pointer (some ⟨g, 0, none⟩), .int .i64 t] w fun e w' => e = .returned (.iface 39 (.int .i64 2)) ∧ w = w' := by
  by_cases h0 : t < 0
  · go_enter Tryd.func24, Tryd.ntmps24
    go_wp2
    go_ret
    exact ⟨rfl, rfl⟩
  · have h1 : 4 ≤ t := by omega
    go_enter Tryd.func24, Tryd.ntmps24
    go_wp2
    go_ret
    exact ⟨rfl, rfl⟩
theorem infoWantsA (s : Sst) (t : Nat) : (Tryd.prog.info? 82).map (·.size) = some (wantA s t).toList.length := by rw [infoWants, Array.length_toList, wantA, rowF_size]
theorem run_index_want (s : Sst) (t k : Nat) (hk : k < 9) (w : World) : (Instr.index 82 (.agg (wantA s t)) (.int .i64 k)).run Tryd.prog w = .ok (.bool (s.want t k)) w := by
  have h9 : (k : Int) < 9 := by omega
  have hp : (wantA s t)[k]? = some (.bool (s.want t k)) := rowF_get hk
  simp [Instr.index, asIntOf, run_underlying Tryd.underlying82, part, Tryd.underlying4, isAgg, Sem.run_bind, hk, h9, hp]
theorem infoWZ : (Tryd.prog.info? 82).map (·.size) = some (falseA 9).size := by rw [infoWants]; rfl
theorem infoWsZ : (Tryd.prog.info? 83).map (·.size) = some (falseA 36).size := by rw [infoAll]; rfl
set_option maxRecDepth 100000 in
set_option maxHeartbeats 1000000 in
theorem stFence_in (g t : Nat) (s : Sst) (w : World) (hb : Blk w g 85 (stA s)) (ht : t < 4) (hfe : s.fe ≤ 1000) :
    Calls Tryd.prog 24 #[.pointer (some ⟨g, 0, none⟩), .int .i64 t] w fun e w' => e = .returned .nilIface ∧ Blk w' g 85 (stA (s.fence t)) ∧ Keeps (Only g) w w' := by
  have HB := Lib.hid hb
  clear hb
  have d3 : decide ((t : Int) < 0) = false := by simp
  have d4 : decide ((4 : Int) ≤ t) = false := by simp; omega
  have l9 : (t : Int) < 4 := by omega
  go_enter Tryd.func24, Tryd.ntmps24
  go_wp2_with (refine wpList_load_mid rfl 82 _ rfl g (144 + t * 9) rfl (wantA s t).toList _ (range_want HB.out ht) Tryd.underlying82 rfl (infoWantsA _ _) ?_)
  go_loopw [20] (fun i wr => ∃ k : Nat, k ≤ 9 ∧ i = .int .i64 k ∧ Hid (Blk wr g 85 (stA (s.lands t k))) ∧ Hid (Keeps (Only g) w wr)) (fun i _ => 9 - (intOf i).toNat)
  case atStart => exact ⟨0, by omega, rfl, Lib.hid (by rw [Sst.lands0]; exact HB.out), Lib.hid (Keeps.refl _ _)⟩
  case round =>
    obtain ⟨k, hk, rfl, HR, HK⟩ := hrel
    by_cases hk9 : k < 9
    · have b1 : (k : Int) < 9 := by omega
      have hix := run_index_want s t k hk9
      by_cases hw : s.want t k = true
      · have HY := Lib.hid (s.lands_yes hw)
        rw [hw] at hix
        clear hw
        generalize hS : s.lands t k = S at *
        clear hS
        go_wp2
        refine wp_region_rely 11 nowhere [] (by kernel_rfl) (by kernel_rfl) ?_
        iterate 11
          refine wpRely_step (fun K hK => ?_)
          first
          | (refine .inl ?_
             apply Exists.intro
             refine ⟨Any, ?_, hK _ _ _ _ ?_⟩
             · simp only [RelyOp, fillE]
               refine ⟨?_, fun w9 hw9 _ => ?_⟩
               · first | rfl | (go_simp; done)
               obtain ⟨hc9, hf9⟩ := hw9.all
               first
               | (exact relyAt_load_midA 80 _ rfl g (k * 8) rfl (lineA S.now (k * 8)) _ (range_now (HR.out.below hw9.same HR.out.lt) hk9) Tryd.underlying80 rfl (infoLineS _ _) ⟨⟨rfl, trivial⟩, Keeps.refl _ _⟩)
               | (go_simp
                  first
                  | exact ⟨⟨rfl, trivial⟩, Keeps.refl _ _⟩)
             clear hK K
             try simp only [Act.put, List.setIfInBounds_toArray, List.set_cons_zero, List.set_cons_succ])
          | (refine .inr (.inl ⟨?_, hK _ _ _ _ ?_⟩)
             · simp only [fillE]
               first | rfl | (go_simp; done)
             clear hK K
             try simp only [Act.put, List.setIfInBounds_toArray, List.set_cons_zero, List.set_cons_succ])
        refine wpRely_nil ?_
        simp only [fillE]
        intro w9 hw9 _
        obtain ⟨hc9, hf9⟩ := hw9.all
        simp only [List.drop_succ_cons, List.drop_zero]
        have HR9 := Lib.hid (HR.out.below hw9.same HR.out.lt)
        have HK9 : Hid (Keeps (Only g) w w9) := Lib.hid (HK.out.trans (Keeps.of_same hw9.same))
        clear hw9
        go_wp2_with (with_reducible refine fStoreMid 80 g (72 + k * 8) (lineA S.now (k * 8)) (by kernel_rfl) (by kernel_rfl) (there_st HR9.out (by rw [lineA_size]; omega)) (infoLineS _ _) (lineA_one _ _) ?_)
        go_roundw
        case rel => exact ⟨k + 1, by omega, by go_num, Lib.hid (by rw [← HY.out, ← stA_land S hk9]; exact HR9.out.setCells), Lib.hid (only_sets HK9.out _ _)⟩
        case measure => simp [intOf]; omega
      · have hw0 : s.want t k = false := by simpa using hw
        have HY := Lib.hid (s.lands_no hw0)
        rw [hw0] at hix
        clear hw hw0
        go_wp2
        go_roundw
        case rel => exact ⟨k + 1, by omega, by go_num, Lib.hid (by rw [← HY.out]; exact HR.out), HK⟩
        case measure => simp [intOf]; omega
    · obtain rfl : k = 9 := by omega
      have HC : Hid (Blk (wr.setCells g (144 + t * 9) (falseA 9).toList) g 85 (stA ((s.lands t 9).quiet t))) := Lib.hid (by
        have h := Blk.setCells (vs := (falseA 9).toList) (o := 144 + t * 9) HR.out
        rw [stA_quiet _ ht] at h
        exact h)
      have hc2 : (wr.setCells g (144 + t * 9) (falseA 9).toList).cell? ⟨g, 181, none⟩ = some (.int .i64 (s.fe : Int)) := by
        rw [HC.out.cell, stA_fe]
        rfl
      have hf2 : (wr.setCells g (144 + t * 9) (falseA 9).toList).frozen? ⟨g, 181, none⟩ = false := HC.out.frozen _
      go_wp2_with (with_reducible refine fStoreMid 82 g (144 + t * 9) (falseA 9) (by kernel_rfl) (by kernel_rfl) (there_st HR.out (by rw [falseA, rowF_size]; omega)) infoWZ (falseA_one 9) ?_)
      go_ret
      refine ⟨rfl, ?_, only_set (only_sets HK.out _ _) _⟩
      have h := HC.out.set_ 181 (.int .i64 ((s.fe + 1 : Nat) : Int))
      rw [stA_fe1] at h
      exact (show ((s.fe + 1 : Nat) : Int) = (s.fe : Int) + 1 from by omega) ▸ h
theorem bitI (x k : Nat) (hx : x < 18446744073709551616) (b : Bool) (hb : decide (x / 2 ^ k % 2 = 1) = b) : (bits BinOp.and IntKind.u64 ((x : Int) / 2 ^ k) 1 == 1) = b := by
  rw [and_one x k hx, eq_one, hb]
set_option maxRecDepth 100000 in
set_option maxHeartbeats 1000000 in
theorem stCrash (g x : Nat) (s : Sst) (w : World) (hb : Blk w g 85 (stA s)) (hx : x < 18446744073709551616) :
    Calls Tryd.prog 8 #[.pointer (some ⟨g, 0, none⟩), .int .u64 x] w fun e w' => e = .returned (.tuple #[]) ∧ Blk w' g 85 (stA (s.crash x)) ∧ Keeps (Only g) w w' := by
  have HB := Lib.hid hb
  clear hb
  go_enter Tryd.func8, Tryd.ntmps8
  go_wp2
  go_loopw [5] (fun i wr => ∃ k : Nat, k ≤ 9 ∧ i = .int .i64 k ∧ Hid (Blk wr g 85 (stA (s.fallK x k))) ∧ Hid (Keeps (Only g) w wr)) (fun i _ => 9 - (intOf i).toNat)
  case atStart => exact ⟨0, by omega, rfl, Lib.hid (by rw [Sst.fallK0]; exact HB.out), Lib.hid (Keeps.refl _ _)⟩
  case round =>
    obtain ⟨k, hk, rfl, HR, HK⟩ := hrel
    by_cases hk9 : k < 9
    · have b1 : (k : Int) < 9 := by omega
      by_cases hw : x / 2 ^ k % 2 = 1
      · have HY := Lib.hid (s.fallK_yes hw)
        have hbit := bitI x k hx true (decide_eq_true hw)
        clear hw
        generalize hS : s.fallK x k = S at *
        clear hS
        go_wp2
        refine wp_region_rely 11 nowhere [] (by kernel_rfl) (by kernel_rfl) ?_
        iterate 11
          refine wpRely_step (fun K hK => ?_)
          first
          | (refine .inl ?_
             apply Exists.intro
             refine ⟨Any, ?_, hK _ _ _ _ ?_⟩
             · simp only [RelyOp, fillE]
               refine ⟨?_, fun w9 hw9 _ => ?_⟩
               · first | rfl | (go_simp; done)
               obtain ⟨hc9, hf9⟩ := hw9.all
               first
               | (exact relyAt_load_midA 80 _ rfl g (k * 8) rfl (lineA S.now (k * 8)) _ (range_now (HR.out.below hw9.same HR.out.lt) hk9) Tryd.underlying80 rfl (infoLineS _ _) ⟨⟨rfl, trivial⟩, Keeps.refl _ _⟩)
               | (go_simp
                  first
                  | exact ⟨⟨rfl, trivial⟩, Keeps.refl _ _⟩)
             clear hK K
             try simp only [Act.put, List.setIfInBounds_toArray, List.set_cons_zero, List.set_cons_succ])
          | (refine .inr (.inl ⟨?_, hK _ _ _ _ ?_⟩)
             · simp only [fillE]
               first | rfl | (go_simp; done)
             clear hK K
             try simp only [Act.put, List.setIfInBounds_toArray, List.set_cons_zero, List.set_cons_succ])
        refine wpRely_nil ?_
        simp only [fillE]
        intro w9 hw9 _
        obtain ⟨hc9, hf9⟩ := hw9.all
        simp only [List.drop_succ_cons, List.drop_zero]
        have HR9 := Lib.hid (HR.out.below hw9.same HR.out.lt)
        have HK9 : Hid (Keeps (Only g) w w9) := Lib.hid (HK.out.trans (Keeps.of_same hw9.same))
        clear hw9 hc9 hf9
        have HR10 : Hid (Blk (w9.setCells g (72 + k * 8) (lineA S.now (k * 8)).toList) g 85 (stA (S.land k))) := Lib.hid (by rw [← stA_land S hk9]; exact HR9.out.setCells)
        have HK10 := Lib.hid (only_sets HK9.out (72 + k * 8) (lineA S.now (k * 8)).toList)
        go_wp2_with (with_reducible refine fStoreMid 80 g (72 + k * 8) (lineA S.now (k * 8)) (by kernel_rfl) (by kernel_rfl) (there_st HR9.out (by rw [lineA_size]; omega)) (infoLineS _ _) (lineA_one _ _) ?_)
        generalize w9.setCells g (72 + k * 8) (lineA S.now (k * 8)).toList = w10 at *
        generalize S.land k = S1 at *
        clear HR9 HK9 HR HK
        refine wp_region_rely 11 nowhere [] (by kernel_rfl) (by kernel_rfl) ?_
        iterate 11
          refine wpRely_step (fun K hK => ?_)
          first
          | (refine .inl ?_
             apply Exists.intro
             refine ⟨Any, ?_, hK _ _ _ _ ?_⟩
             · simp only [RelyOp, fillE]
               refine ⟨?_, fun w9 hw9 _ => ?_⟩
               · first | rfl | (go_simp; done)
               obtain ⟨hc9, hf9⟩ := hw9.all
               first
               | (exact relyAt_load_midA 80 _ rfl g (72 + k * 8) rfl (lineA S1.good (k * 8)) _ (range_good (HR10.out.below hw9.same HR10.out.lt) hk9) Tryd.underlying80 rfl (infoLineS _ _) ⟨⟨rfl, trivial⟩, Keeps.refl _ _⟩)
               | (go_simp
                  first
                  | exact ⟨⟨rfl, trivial⟩, Keeps.refl _ _⟩)
             clear hK K
             try simp only [Act.put, List.setIfInBounds_toArray, List.set_cons_zero, List.set_cons_succ])
          | (refine .inr (.inl ⟨?_, hK _ _ _ _ ?_⟩)
             · simp only [fillE]
               first | rfl | (go_simp; done)
             clear hK K
             try simp only [Act.put, List.setIfInBounds_toArray, List.set_cons_zero, List.set_cons_succ])
        refine wpRely_nil ?_
        simp only [fillE]
        intro w9 hw9 _
        obtain ⟨hc9, hf9⟩ := hw9.all
        simp only [List.drop_succ_cons, List.drop_zero]
        rename World => w11
        have HR11 := Lib.hid (HR10.out.below hw9.same HR10.out.lt)
        have HK11 : Hid (Keeps (Only g) w w11) := Lib.hid (HK10.out.trans (Keeps.of_same hw9.same))
        clear hw9 hc9 hf9
        go_wp2_with (with_reducible refine fStoreMid 80 g (k * 8) (lineA S1.good (k * 8)) (by kernel_rfl) (by kernel_rfl) (there_st HR11.out (by rw [lineA_size]; omega)) (infoLineS _ _) (lineA_one _ _) ?_)
        go_roundw
        case rel => exact ⟨k + 1, by omega, by go_num, Lib.hid (by rw [← HY.out, ← stA_back S1 hk9]; exact HR11.out.setCells), Lib.hid (only_sets HK11.out _ _)⟩
        case measure => simp [intOf]; omega
      · have HY := Lib.hid (s.fallK_no hw)
        have hbit := bitI x k hx false (decide_eq_false hw)
        clear hw
        generalize hS : s.fallK x k = S1 at *
        clear hS
        go_wp2
        refine wp_region_rely 11 nowhere [] (by kernel_rfl) (by kernel_rfl) ?_
        iterate 11
          refine wpRely_step (fun K hK => ?_)
          first
          | (refine .inl ?_
             apply Exists.intro
             refine ⟨Any, ?_, hK _ _ _ _ ?_⟩
             · simp only [RelyOp, fillE]
               refine ⟨?_, fun w9 hw9 _ => ?_⟩
               · first | rfl | (go_simp; done)
               obtain ⟨hc9, hf9⟩ := hw9.all
               first
               | (exact relyAt_load_midA 80 _ rfl g (72 + k * 8) rfl (lineA S1.good (k * 8)) _ (range_good (HR.out.below hw9.same HR.out.lt) hk9) Tryd.underlying80 rfl (infoLineS _ _) ⟨⟨rfl, trivial⟩, Keeps.refl _ _⟩)
               | (go_simp
                  first
                  | exact ⟨⟨rfl, trivial⟩, Keeps.refl _ _⟩)
             clear hK K
             try simp only [Act.put, List.setIfInBounds_toArray, List.set_cons_zero, List.set_cons_succ])
          | (refine .inr (.inl ⟨?_, hK _ _ _ _ ?_⟩)
             · simp only [fillE]
               first | rfl | (go_simp; done)
             clear hK K
             try simp only [Act.put, List.setIfInBounds_toArray, List.set_cons_zero, List.set_cons_succ])
        refine wpRely_nil ?_
        simp only [fillE]
        intro w9 hw9 _
        obtain ⟨hc9, hf9⟩ := hw9.all
        simp only [List.drop_succ_cons, List.drop_zero]
        rename World => w11
        have HR11 := Lib.hid (HR.out.below hw9.same HR.out.lt)
        have HK11 : Hid (Keeps (Only g) w w11) := Lib.hid (HK.out.trans (Keeps.of_same hw9.same))
        clear hw9 hc9 hf9
        go_wp2_with (with_reducible refine fStoreMid 80 g (k * 8) (lineA S1.good (k * 8)) (by kernel_rfl) (by kernel_rfl) (there_st HR11.out (by rw [lineA_size]; omega)) (infoLineS _ _) (lineA_one _ _) ?_)
        go_roundw
        case rel => exact ⟨k + 1, by omega, by go_num, Lib.hid (by rw [← HY.out, ← stA_back S1 hk9]; exact HR11.out.setCells), Lib.hid (only_sets HK11.out _ _)⟩
        case measure => simp [intOf]; omega
    · obtain rfl : k = 9 := by omega
      have HC : Hid (Blk (wr.setCells g 144 (falseA 36).toList) g 85 (stA (s.crash x))) := Lib.hid (by
        have h := Blk.setCells (vs := (falseA 36).toList) (o := 144) HR.out
        rw [stA_none, stA_fallen] at h
        exact h)
      go_wp2_with (with_reducible refine fStoreMid 83 g 144 (falseA 36) (by kernel_rfl) (by kernel_rfl) (there_st HR.out (by rw [falseA, rowF_size]; omega)) infoWsZ (falseA_one 36) ?_)
      refine bodyPost_end (v := .tuple #[]) (by simp [results, Tryd.results8, go_sem]) rfl ⟨rfl, HC.out, only_sets HK.out _ _⟩
theorem infoStA (s : Sst) : (Tryd.prog.info? 85).map (·.size) = some (stA s).size := by rw [infoStore, stA_size]
theorem stA_one (s : Sst) : (stA s).all (·.oneCell') = true := rowF_one fun i _ => stV_one s i
set_option maxRecDepth 100000 in
set_option maxHeartbeats 1000000 in
theorem stCopy (g : Nat) (s : Sst) (w : World) (hb : Blk w g 85 (stA s)) :
    Calls Tryd.prog 6 #[.pointer (some ⟨g, 0, none⟩)] w fun e w' => e = .returned (.pointer (some ⟨w.heap.size, 0, none⟩)) ∧ Blk w' w.heap.size 85 (stA s) ∧ Below w.heap.size w w' := by
  have HB := Lib.hid hb
  clear hb
  have HN : Hid (Blk (w.alloc (.cells Tryd.zeroCells85 85)) w.heap.size 85 Tryd.zeroCells85) := Lib.hid (Blk.new _ _ _)
  have hZ : (Tryd.zeroCells85).size = (stA s).size := by rw [zeroSt, stA_size, stA_size]
  have HZ := Lib.hid hZ
  clear hZ
  have HA := Lib.hid (stA_one s)
  go_enter Tryd.func6, Tryd.ntmps6
  go_wp2_with (first
    | (with_reducible refine fLoad 85 g 85 (stA s) (by kernel_rfl) HB.out Tryd.underlying85 (by kernel_rfl) (infoStA s) ?_)
    | (with_reducible refine fStore 85 w.heap.size (stA s) 85 Tryd.zeroCells85 (by kernel_rfl) (by kernel_rfl) HN.out (infoStA s) HZ.out HA.out ?_))
  go_ret
  exact ⟨rfl, Blk.setRow HN.out _, below_setRow (by go_grown) (Nat.le_refl _) _⟩
end Go.Proofs.YtmfjmmplcbpokaaDoor
