/-
  What the methods of the reference's Store do: There, Lands, Dirty, Flush, Fence, Crash, NewStore. For every store.
-/
import Derived.Test.YtmfjmmplcbpokaaDoorStR
namespace Go.Proofs.YtmfjmmplcbpokaaDoor
set_option linter.unusedSimpArgs false
set_option linter.unusedVariables false
set_option linter.unusedSectionVars false
open Go.RowKit Go.Maps
attribute [local go_sem ↓] Go.wp_at_zero Go.wp_at_succ

theorem rsThere (h : Nat) (a : Int) (w : World) : Calls Tryd.prog 12 #[.pointer (some ⟨h, 0, none⟩), .int .i64 a] w fun e w' => e = .returned (.bool (decide (0 ≤ a ∧ a < 72))) ∧ w = w' := by
  have hw : withinB a 0 71 = decide (0 ≤ a ∧ a < 72) := by unfold withinB; rw [Bool.eq_iff_iff]; simp; omega
  generalize decide (0 ≤ a ∧ a < 72) = b at *
  go_enter Tryd.func12, Tryd.ntmps12
  go_wp2_with (go_at_call 30; refine (within_any _ _ _ _).mono ?_; rintro e w1 ⟨rfl, rfl⟩)
  go_ret
  exact ⟨ret_bool (by simp_all [withinB]), rfl⟩
/-- Behind k words of Lands. -/
def Sst.landK (s : Sst) (l k : Nat) : Sst := { s with good := fun i => if i < k ∧ i / 8 = l then s.now i else s.good i }
theorem landK0 (s : Sst) (l : Nat) : s.landK l 0 = s := by simp [Sst.landK]
theorem landK_yes (s : Sst) {l k : Nat} (h : k / 8 = l) : { s.landK l k with good := fun i => if i = k then s.now k else (s.landK l k).good i } = s.landK l (k + 1) := by
  show Sst.mk s.now (fun i => if i = k then s.now k else (if i < k ∧ i / 8 = l then s.now i else s.good i)) s.want s.fl s.fe = Sst.mk s.now (fun i => if i < k + 1 ∧ i / 8 = l then s.now i else s.good i) s.want s.fl s.fe
  congr 1
  funext i
  by_cases e : i = k
  · subst e; simp [h]
  · by_cases e2 : i < k
    · have : i < k + 1 := by omega
      simp [e, e2, this]
    · have : ¬ i < k + 1 := by omega
      simp [e, e2, this]
theorem landK_no (s : Sst) {l k : Nat} (h : ¬ k / 8 = l) : s.landK l k = s.landK l (k + 1) := by
  unfold Sst.landK
  congr 1
  funext i
  by_cases e : i = k
  · subst e; simp [h]
  · by_cases e2 : i < k
    · have : i < k + 1 := by omega
      simp [e2, this]
    · have : ¬ i < k + 1 := by omega
      simp [e2, this]
theorem rsA_landK (s : Sst) (l m : Nat) : rsA (s.landK l 72) m = rsA (s.land l) m := rowF_congr fun j hj => by
  rw [rsV, rsV]
  by_cases c1 : j < 72
  · rw [if_pos c1, if_pos c1]; rfl
  · rw [if_neg c1, if_neg c1]
    by_cases c2 : j < 144
    · rw [if_pos c2, if_pos c2]
      have : j - 72 < 72 := by omega
      simp [Sst.landK, Sst.land, this]
    · rw [if_neg c2, if_neg c2]; rfl
set_option maxRecDepth 100000 in
set_option maxHeartbeats 1000000 in
theorem rsLands (h m l : Nat) (s : Sst) (w : World) (hb : Blk w h 43 (rsA s m)) (hl : l < 9) :
    Calls Tryd.prog 26 #[.pointer (some ⟨h, 0, none⟩), .int .i64 l] w fun e w' => e = .returned (.tuple #[]) ∧ Blk w' h 43 (rsA (s.land l) m) ∧ Keeps (Only h) w w' := by
  have HB := Lib.hid hb
  clear hb
  go_enter Tryd.func26, Tryd.ntmps26
  go_wp2
  go_loopw [5] (fun i wr => ∃ k : Nat, k ≤ 72 ∧ i = .int .i64 k ∧ Hid (Blk wr h 43 (rsA (s.landK l k) m)) ∧ Hid (Keeps (Only h) w wr)) (fun i _ => 72 - (intOf i).toNat)
  case atStart => exact ⟨0, by omega, rfl, Lib.hid (by rw [landK0]; exact HB.out), Lib.hid (Keeps.refl _ _)⟩
  case round =>
    obtain ⟨k, hk, rfl, HR, HK⟩ := hrel
    by_cases hk9 : k < 72
    · have b1 : (k : Int) < 72 := by omega
      by_cases hw : k / 8 = l
      · have q : ((k : Int) / 8 == (l : Int)) = true := by simp; omega
        have HY := Lib.hid (landK_yes s hw)
        have c1 : wr.cell? ⟨h, k, none⟩ = some (.int .u64 (s.now k)) := by rw [HR.out.cell, rsA_now _ _ hk9]; rfl
        have c2 : wr.cell? ⟨h, 72 + k, none⟩ = some (.int .u64 ((s.landK l k).good k)) := by rw [HR.out.cell, rsA_good _ _ hk9]
        have f2 : wr.frozen? ⟨h, 72 + k, none⟩ = false := HR.out.frozen _
        have HX := Lib.hid (rsA_good1 (s.landK l k) m (s.now k) hk9)
        generalize (s.landK l k).good k = v2 at c2
        clear hw
        have hlt := HR.out.lt
        have HNK : Hid ((s.landK l k).now k = s.now k) := Lib.hid rfl
        generalize s.now k = v1 at *
        go_wp2
        refine wp_region_rely 11 nowhere [] (by kernel_rfl) (by kernel_rfl) ?_
        iterate 11
          refine wpRely_step (fun K hK => ?_)
          first
          | (refine .inl ?_
             apply Exists.intro
             refine ⟨Any, ?_, hK _ _ _ _ ?_⟩
             · simp only [RelyOp, fillE]
               refine ⟨?_, fun w9 hw9 _ => ?_⟩
               · first | rfl | (go_simp; done)
               obtain ⟨hc9, hf9⟩ := hw9.all
               go_simp
               first
               | exact ⟨⟨rfl, trivial⟩, Keeps.refl _ _⟩
             clear hK K
             try simp only [Act.put, List.setIfInBounds_toArray, List.set_cons_zero, List.set_cons_succ])
          | (refine .inr (.inl ⟨?_, hK _ _ _ _ ?_⟩)
             · simp only [fillE]
               first | rfl | (go_simp; done)
             clear hK K
             try simp only [Act.put, List.setIfInBounds_toArray, List.set_cons_zero, List.set_cons_succ])
        refine wpRely_nil ?_
        simp only [fillE]
        intro w9 hw9 _
        obtain ⟨hc9, hf9⟩ := hw9.all
        simp only [List.drop_succ_cons, List.drop_zero]
        have c2' : w9.cell? ⟨h, 72 + k, none⟩ = some (.int .u64 v2) := (hw9.same.cell (p := ⟨h, 72 + k, none⟩) HR.out.lt).trans c2
        have f2' : w9.frozen? ⟨h, 72 + k, none⟩ = false := (hw9.same.frozen (p := ⟨h, 72 + k, none⟩) HR.out.lt).trans f2
        have HR9 := Lib.hid (HR.out.below hw9.same HR.out.lt)
        have HK9 : Hid (Keeps (Only h) w w9) := Lib.hid (HK.out.trans (Keeps.of_same hw9.same))
        clear hw9 hc9 hf9 c1 c2 f2
        go_wp2
        go_roundw
        case rel => exact ⟨k + 1, by omega, by go_num, Lib.hid (by rw [← HY.out, ← HX.out]; exact HR9.out.set_ (72 + k) _), Lib.hid (only_set HK9.out _)⟩
        case measure => simp [intOf]; omega
      · have q : ((k : Int) / 8 == (l : Int)) = false := by simp; omega
        have HY := Lib.hid (landK_no s hw)
        clear hw
        go_wp2
        go_roundw
        case rel => exact ⟨k + 1, by omega, by go_num, Lib.hid (by rw [← HY.out]; exact HR.out), HK⟩
        case measure => simp [intOf]; omega
    · obtain rfl : k = 72 := by omega
      go_wp2
      refine bodyPost_end (v := .tuple #[]) (by simp [results, Tryd.results26, go_sem]) rfl ⟨rfl, by rw [← rsA_landK]; exact HR.out, HK.out⟩

/-- Are words of a line other ones? -/
def dirtyR (s : Sst) (l : Nat) : Bool := (List.range 72).any fun i => decide (i / 8 = l) && (s.now i != s.good i)
theorem dirtyR_eq (s : Sst) {l : Nat} (hl : l < 9) : dirtyR s l = s.dirty l := by
  rw [dirty_eq, Bool.eq_iff_iff]
  simp only [dirtyR, sameL, List.any_eq_true, List.mem_range, Bool.and_eq_true, decide_eq_true_eq, bne_iff_ne, Bool.not_eq_true', List.all_eq_false, beq_iff_eq]
  constructor
  · rintro ⟨i, hi, h1, h2⟩
    exact ⟨i % 8, by omega, by rwa [show l * 8 + i % 8 = i by omega]⟩
  · rintro ⟨j, hj, h⟩
    exact ⟨l * 8 + j, by omega, by omega, h⟩
set_option maxRecDepth 100000 in
set_option maxHeartbeats 1000000 in
theorem rsDirty (h m l : Nat) (s : Sst) (w : World) (hb : Blk w h 43 (rsA s m)) (hl : l < 9) :
    Calls Tryd.prog 10 #[.pointer (some ⟨h, 0, none⟩), .int .i64 l] w fun e w' => e = .returned (.bool (s.dirty l)) ∧ Below w.heap.size w w' := by
  have HB := Lib.hid hb
  have HD := Lib.hid (dirtyR_eq s hl)
  clear hb
  go_enter Tryd.func10, Tryd.ntmps10
  go_wp2
  go_loopw [6] (fun i wr => ∃ k : Nat, k ≤ 72 ∧ i = .int .i64 k ∧ Hid (Below w.heap.size w wr) ∧ Hid (∀ j, j < k → j / 8 = l → s.now j = s.good j)) (fun i _ => 72 - (intOf i).toNat)
  case atStart => exact ⟨0, by omega, rfl, Lib.hid (Below.refl _ _), Lib.hid fun j hj => absurd hj (by omega)⟩
  case round =>
    obtain ⟨k, hk, rfl, HW, HZ⟩ := hrel
    by_cases hk9 : k < 72
    · have b1 : (k : Int) < 72 := by omega
      by_cases hw : k / 8 = l
      · have q : ((k : Int) / 8 == (l : Int)) = true := by simp; omega
        have q' : (IntKind.i64.wrap ((k : Int) / 8) == (l : Int)) = true := by rw [IntWalk.i64_in _ (by omega)]; exact q
        have HR := HB.out.below HW.out HB.out.lt
        have c1 : wr.cell? ⟨h, k, none⟩ = some (.int .u64 (s.now k)) := by rw [HR.cell, rsA_now _ _ hk9]
        have c2 : wr.cell? ⟨h, 72 + k, none⟩ = some (.int .u64 (s.good k)) := by rw [HR.cell, rsA_good _ _ hk9]
        have hlt := HR.lt
        clear HR
        by_cases he : s.now k = s.good k
        · have HZ2 : Hid (∀ j, j < k + 1 → j / 8 = l → s.now j = s.good j) := Lib.hid fun j hj h1 => by
            by_cases e : j = k
            · rw [e]; exact he
            · exact HZ.out j (by omega) h1
          have q2 : (s.now k != s.good k) = false := by simpa using he
          generalize s.now k = v1 at *
          generalize s.good k = v2 at *
          clear hw he
          go_wp2
          refine wp_region_rely 19 nowhere [] (by kernel_rfl) (by kernel_rfl) ?_
          iterate 19
            refine wpRely_step (fun K hK => ?_)
            first
            | (refine .inl ?_
               apply Exists.intro
               refine ⟨Any, ?_, hK _ _ _ _ ?_⟩
               · simp only [RelyOp, fillE]
                 refine ⟨?_, fun w9 hw9 _ => ?_⟩
                 · first | rfl | (go_simp; done)
                 obtain ⟨hc9, hf9⟩ := hw9.all
                 go_simp
                 first
                 | exact ⟨⟨rfl, trivial⟩, Keeps.refl _ _⟩
               clear hK K
               try simp only [Act.put, List.setIfInBounds_toArray, List.set_cons_zero, List.set_cons_succ])
            | (refine .inr (.inl ⟨?_, hK _ _ _ _ ?_⟩)
               · simp only [fillE]
                 first | rfl | (go_simp; done)
               clear hK K
               try simp only [Act.put, List.setIfInBounds_toArray, List.set_cons_zero, List.set_cons_succ])
          refine wpRely_nil ?_
          simp only [fillE]
          intro w9 hw9 _
          obtain ⟨hc9, hf9⟩ := hw9.all
          simp only [List.drop_succ_cons, List.drop_zero]
          have HW9 := Lib.hid (HW.out.trans (hw9.same.mono HW.out.size))
          clear hw9 hc9 hf9 c1 c2
          go_wp2
          go_roundw
          case rel => exact ⟨k + 1, by omega, by go_num, HW9, HZ2⟩
          case measure => simp [intOf]; omega
        · have HT : Hid (s.dirty l = true) := Lib.hid (by
            rw [← HD.out, dirtyR, List.any_eq_true]
            exact ⟨k, by simpa using hk9, by simp [hw, he]⟩)
          have q2 : (s.now k != s.good k) = true := by simpa using he
          generalize s.now k = v1 at *
          generalize s.good k = v2 at *
          clear hw he
          go_wp2
          refine wp_region_rely 19 nowhere [] (by kernel_rfl) (by kernel_rfl) ?_
          iterate 19
            refine wpRely_step (fun K hK => ?_)
            first
            | (refine .inl ?_
               apply Exists.intro
               refine ⟨Any, ?_, hK _ _ _ _ ?_⟩
               · simp only [RelyOp, fillE]
                 refine ⟨?_, fun w9 hw9 _ => ?_⟩
                 · first | rfl | (go_simp; done)
                 obtain ⟨hc9, hf9⟩ := hw9.all
                 go_simp
                 first
                 | exact ⟨⟨rfl, trivial⟩, Keeps.refl _ _⟩
               clear hK K
               try simp only [Act.put, List.setIfInBounds_toArray, List.set_cons_zero, List.set_cons_succ])
            | (refine .inr (.inl ⟨?_, hK _ _ _ _ ?_⟩)
               · simp only [fillE]
                 first | rfl | (go_simp; done)
               clear hK K
               try simp only [Act.put, List.setIfInBounds_toArray, List.set_cons_zero, List.set_cons_succ])
          refine wpRely_nil ?_
          simp only [fillE]
          intro w9 hw9 _
          obtain ⟨hc9, hf9⟩ := hw9.all
          simp only [List.drop_succ_cons, List.drop_zero]
          have HW9 := Lib.hid (HW.out.trans (hw9.same.mono HW.out.size))
          clear hw9 hc9 hf9 c1 c2
          go_wp2
          go_ret
          exact ⟨ret_bool (by rw [HT.out]), HW9.out⟩
      · have q : ((k : Int) / 8 == (l : Int)) = false := by simp; omega
        have q' : (IntKind.i64.wrap ((k : Int) / 8) == (l : Int)) = false := by rw [IntWalk.i64_in _ (by omega)]; exact q
        have HZ2 : Hid (∀ j, j < k + 1 → j / 8 = l → s.now j = s.good j) := Lib.hid fun j hj h1 => by
          by_cases e : j = k
          · rw [e] at h1; exact absurd h1 hw
          · exact HZ.out j (by omega) h1
        clear hw
        go_wp2
        refine wp_region_rely 19 nowhere [] (by kernel_rfl) (by kernel_rfl) ?_
        iterate 19
          refine wpRely_step (fun K hK => ?_)
          first
          | (refine .inl ?_
             apply Exists.intro
             refine ⟨Any, ?_, hK _ _ _ _ ?_⟩
             · simp only [RelyOp, fillE]
               refine ⟨?_, fun w9 hw9 _ => ?_⟩
               · first | rfl | (go_simp; done)
               obtain ⟨hc9, hf9⟩ := hw9.all
               go_simp
               first
               | exact ⟨⟨rfl, trivial⟩, Keeps.refl _ _⟩
             clear hK K
             try simp only [Act.put, List.setIfInBounds_toArray, List.set_cons_zero, List.set_cons_succ])
          | (refine .inr (.inl ⟨?_, hK _ _ _ _ ?_⟩)
             · simp only [fillE]
               first | rfl | (go_simp; done)
             clear hK K
             try simp only [Act.put, List.setIfInBounds_toArray, List.set_cons_zero, List.set_cons_succ])
        refine wpRely_nil ?_
        simp only [fillE]
        intro w9 hw9 _
        obtain ⟨hc9, hf9⟩ := hw9.all
        simp only [List.drop_succ_cons, List.drop_zero]
        have HW9 := Lib.hid (HW.out.trans (hw9.same.mono HW.out.size))
        clear hw9 hc9 hf9
        go_wp2
        go_roundw
        case rel => exact ⟨k + 1, by omega, by go_num, HW9, HZ2⟩
        case measure => simp [intOf]; omega
    · obtain rfl : k = 72 := by omega
      have HF : Hid (s.dirty l = false) := Lib.hid (by
        rw [← HD.out, dirtyR, List.any_eq_false]
        intro i hi
        have h1 := HZ.out i (by simpa using hi)
        by_cases e : i / 8 = l
        · simp [h1 e]
        · simp [e])
      go_wp2
      go_ret
      exact ⟨ret_bool (by rw [HF.out]), HW.out⟩
end Go.Proofs.YtmfjmmplcbpokaaDoor
