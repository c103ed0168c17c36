/-
  What object.slots returns: for any seventeen words.
  What the two tests for a heap return: heap.Right for every slice; gristmillref.HeapRight for slices of at most 60 numbers.
  What object.Right returns: for any kind and any seventeen words.
  Seventeen words that are an object of a kind. No program in sight.
-/
import Derived.Test.YtkoflhjnpilchaaGreatDoorProg
import Derived.Test.YtkoflhjnpilchaaGreatDoorMBase
import Derived.Test.YtkoflhjnpilchaaGreatDoorMSets
import Derived.Test.YtkoflhjnpilchaaGreatDoorMThing
import Derived.Test.YtkoflhjnpilchaaGreatDoorMTabA
import Derived.Test.YtkoflhjnpilchaaGreatDoorTabD
import Derived.Test.YtkoflhjnpilchaaGreatDoorMWord
namespace Go.Proofs.YtkoflhjnpilchaaGreatDoor
set_option linter.unusedSimpArgs false
set_option linter.unusedVariables false
set_option linter.unusedSectionVars false
open Go.RowKit
set_option linter.unusedSimpArgs false
set_option linter.unusedVariables false
attribute [local go_sem ↓] Go.wp_at_zero Go.wp_at_succ

def pairOk (z : Nat → Int) (i : Nat) : Prop := z (2 * i) ≤ 1000 ∧ z (2 * i + 1) ≤ 4294967295
def slotsOk (z : Nat → Int) : Prop := (∀ i, i < 8 → pairOk z i) ∧ z 16 = 0 ∧ rightT z = true
def SlotsOut (z : Nat → Int) (w : World) (e : Ending) (w' : World) : Prop :=
  Below w.heap.size w w' ∧ ∃ D y b, e = .returned (.tuple #[.agg D, .bool b]) ∧ I64s D 16 y ∧ (b = true ↔ slotsOk z) ∧ (b = true → ∀ i, i < 16 → y i = z i)

theorem infoTS : (Tryz.prog.info? 131).map (·.size) = some 16 := by kernel_rfl

/-- The three blocks of object.slots: the words, the result, the slots so far. -/
structure SlS (w W : World) (C R D : Array Value) : Prop where
  words : Blk W w.heap.size 100 C
  res : Blk W (w.heap.size + 1) 131 R
  tab : Blk W (w.heap.size + 2) 131 D
  below : Below w.heap.size w W

theorem SlS.on {w W W' : World} {C R D : Array Value} (h : SlS w W C R D) (hk : Below W.heap.size W W') : SlS w W' C R D :=
  ⟨h.words.below hk h.words.lt, h.res.below hk h.res.lt, h.tab.below hk h.tab.lt, h.below.trans (hk.mono h.below.size)⟩
theorem SlS.put {w W : World} {C R D : Array Value} (h : SlS w W C R D) (i : Nat) (x y : Value) :
    SlS w ((W.setCell ⟨w.heap.size + 1 + 1, i, none⟩ x).setCell ⟨w.heap.size + 1 + 1, i + 1, none⟩ y).drew C R ((D.setIfInBounds i x).setIfInBounds (i + 1) y) :=
  ⟨(h.words.far (by simp; omega) _).far (by simp; omega) _, (h.res.far (by simp) _).far (by simp) _, (h.tab.set_ _ _).set_ _ _, ((h.below.setCell (by show w.heap.size ≤ w.heap.size + 1 + 1; omega) _).setCell (by show w.heap.size ≤ w.heap.size + 1 + 1; omega) _).drew⟩
theorem slotK_put (z : Nat → Int) (k i : Nat) : slotK (k + 1) z i = if i = k * 2 + 1 then z (2 * k + 1) else if i = k * 2 then z (2 * k) else slotK k z i := by
  unfold slotK
  by_cases h1 : i = k * 2 + 1
  · subst h1
    rw [if_pos (by omega), if_pos rfl, show k * 2 + 1 = 2 * k + 1 by omega]
  · rw [if_neg h1]
    by_cases h2 : i = k * 2
    · subst h2
      rw [if_pos (by omega), if_pos rfl, show k * 2 = 2 * k by omega]
    · rw [if_neg h2]
      by_cases h3 : i < 2 * k
      · rw [if_pos h3, if_pos (by omega)]
      · rw [if_neg h3, if_neg (by omega)]
set_option maxRecDepth 100000 in
set_option maxHeartbeats 4000000 in
theorem slots_any (C : Array Value) (z : Nat → Int) (w : World) (h : U64s C 17 z) : Calls Tryz.prog 53 #[.agg C] w (SlotsOut z w) := by
  have HC := Lib.hid h
  have HS0 : Hid (SlS w (((w.alloc (.cells C 100)).alloc (.cells #[.int .i64 0, .int .i64 0, .int .i64 0, .int .i64 0, .int .i64 0, .int .i64 0, .int .i64 0, .int .i64 0, .int .i64 0, .int .i64 0, .int .i64 0, .int .i64 0, .int .i64 0, .int .i64 0, .int .i64 0, .int .i64 0] 131)).alloc (.cells #[.int .i64 0, .int .i64 0, .int .i64 0, .int .i64 0, .int .i64 0, .int .i64 0, .int .i64 0, .int .i64 0, .int .i64 0, .int .i64 0, .int .i64 0, .int .i64 0, .int .i64 0, .int .i64 0, .int .i64 0, .int .i64 0] 131)) C #[.int .i64 0, .int .i64 0, .int .i64 0, .int .i64 0, .int .i64 0, .int .i64 0, .int .i64 0, .int .i64 0, .int .i64 0, .int .i64 0, .int .i64 0, .int .i64 0, .int .i64 0, .int .i64 0, .int .i64 0, .int .i64 0] #[.int .i64 0, .int .i64 0, .int .i64 0, .int .i64 0, .int .i64 0, .int .i64 0, .int .i64 0, .int .i64 0, .int .i64 0, .int .i64 0, .int .i64 0, .int .i64 0, .int .i64 0, .int .i64 0, .int .i64 0, .int .i64 0]) := Lib.hid
    ⟨((Blk.new _ _ _).alloc _).alloc _, (Blk.newAt _ _ _ (by simp)).alloc _, Blk.newAt _ _ _ (by simp), by go_grown⟩
  have HZ : Hid (I64s #[.int .i64 0, .int .i64 0, .int .i64 0, .int .i64 0, .int .i64 0, .int .i64 0, .int .i64 0, .int .i64 0, .int .i64 0, .int .i64 0, .int .i64 0, .int .i64 0, .int .i64 0, .int .i64 0, .int .i64 0, .int .i64 0] 16 (slotK 0 z)) := Lib.hid ((show I64s #[.int .i64 0, .int .i64 0, .int .i64 0, .int .i64 0, .int .i64 0, .int .i64 0, .int .i64 0, .int .i64 0, .int .i64 0, .int .i64 0, .int .i64 0, .int .i64 0, .int .i64 0, .int .i64 0, .int .i64 0, .int .i64 0] 16 (fun _ => 0) from I64s.zero 16).congr (fun i hi => by unfold slotK; rw [if_neg (by omega)]))
  clear h
  go_enter Tryz.func53, Tryz.ntmps53
  go_wp2
  go_loopw [6] (fun i wr => ∃ k : Nat, k ≤ 8 ∧ i = .int .i64 k ∧ Hid (∃ D, SlS w wr C #[.int .i64 0, .int .i64 0, .int .i64 0, .int .i64 0, .int .i64 0, .int .i64 0, .int .i64 0, .int .i64 0, .int .i64 0, .int .i64 0, .int .i64 0, .int .i64 0, .int .i64 0, .int .i64 0, .int .i64 0, .int .i64 0] D ∧ I64s D 16 (slotK k z)) ∧ Hid (∀ j, j < k → pairOk z j)) (fun i _ => 8 - (intOf i).toNat)
  case atStart => exact ⟨0, by omega, rfl, Lib.hid ⟨_, HS0.out, HZ.out⟩, Lib.hid fun j hj => absurd hj (by omega)⟩
  case round =>
    obtain ⟨k, hk, rfl, hD, hall⟩ := hrel
    obtain ⟨D, hL, hI⟩ := hD.out
    have HL := Lib.hid hL
    have HI := Lib.hid hI
    have HIE : Hid ((Tryz.prog.info? 131).map (·.size) = some D.size) := by show _ = _; rw [infoTS, hI.size]
    by_cases hk8 : k < 8
    · have b1 : (k : Int) < 8 := by omega
      have s0 : wr.cell? ⟨w.heap.size, 2 * k, none⟩ = some (.int .u64 (z (2 * k))) := (hL.words.cell (2 * k)).trans (HC.out.get _ (by omega))
      have s1 : wr.cell? ⟨w.heap.size, 2 * k + 1, none⟩ = some (.int .u64 (z (2 * k + 1))) := (hL.words.cell (2 * k + 1)).trans (HC.out.get _ (by omega))
      have bd0 := HC.out.bd (2 * k) (by omega)
      have bd1 := HC.out.bd (2 * k + 1) (by omega)
      clear hL hI hD
      generalize hx : z (2 * k) = x at s0 bd0
      generalize hy : z (2 * k + 1) = y at s1 bd1
      have HX := Lib.hid hx
      have HY := Lib.hid hy
      clear hx hy
      by_cases hx1 : x ≤ 1000
      · have d1 : decide (1000 < x) = false := by simp; omega
        by_cases hy1 : y ≤ 4294967295
        · have d2 : decide (4294967295 < y) = false := by simp; omega
          have t0 : wr.cell? ⟨w.heap.size + 1 + 1, k * 2, none⟩ = some (.int .i64 (slotK k z (k * 2))) := (HL.out.tab.cell (k * 2)).trans (HI.out.get _ (by omega))
          have t1 : wr.cell? ⟨w.heap.size + 1 + 1, k * 2 + 1, none⟩ = some (.int .i64 (slotK k z (k * 2 + 1))) := (HL.out.tab.cell (k * 2 + 1)).trans (HI.out.get _ (by omega))
          have f0 : wr.frozen? ⟨w.heap.size + 1 + 1, k * 2, none⟩ = false := HL.out.tab.frozen (k * 2)
          have f1 : wr.frozen? ⟨w.heap.size + 1 + 1, k * 2 + 1, none⟩ = false := HL.out.tab.frozen (k * 2 + 1)
          go_wp2
          clear HS0 HZ
          go_region
          apply_assumption
          go_wp2
          go_roundw
          case rel => exact ⟨k + 1, by omega, by go_num, Lib.hid ⟨_, HL.out.put (k * 2) _ _, ((HI.out.set_ (k := k * 2) (v := x) (by omega)).set_ (k := k * 2 + 1) (v := y) (by omega)).congr (fun i hi => by rw [slotK_put, HX.out, HY.out])⟩, Lib.hid fun j hj => by
            rcases Nat.lt_or_ge j k with h | h
            · exact hall.out j h
            · obtain rfl : j = k := by omega
              exact ⟨by rw [HX.out]; exact hx1, by rw [HY.out]; exact hy1⟩⟩
          case measure => simp [intOf]; omega
        · have d2 : decide (4294967295 < y) = true := by simp; omega
          go_wp2_with (first
            | (refine wpList_load_row rfl 131 _ rfl (w.heap.size + 1 + 1) rfl 131 D (0, 0) _ HL.out.tab Tryz.underlying131 rfl HIE.out ?_)
            | (refine wpList_store_row rfl 131 _ _ rfl (w.heap.size + 1) D rfl rfl 131 #[.int .i64 0, .int .i64 0, .int .i64 0, .int .i64 0, .int .i64 0, .int .i64 0, .int .i64 0, .int .i64 0, .int .i64 0, .int .i64 0, .int .i64 0, .int .i64 0, .int .i64 0, .int .i64 0, .int .i64 0, .int .i64 0] HL.out.res HIE.out (by rw [HI.out.size]; rfl) HI.out.one ?_))
          refine bodyPost_ret (results_row_tmp Tryz.results53 _ _ (w.heap.size + 1) 131 D _ _ rfl rfl (Blk.setRow HL.out.res D) Tryz.underlying131 rfl HIE.out) rfl ⟨below_setRow HL.out.below (by simp) _, D, _, false, rfl, HI.out, Iff.intro (fun h => Bool.noConfusion h) (fun h => ?_), fun h => Bool.noConfusion h⟩
          have h1 := (h.1 k hk8).2
          rw [HY.out] at h1
          omega
      · have d1 : decide (1000 < x) = true := by simp; omega
        go_wp2_with (first
          | (refine wpList_load_row rfl 131 _ rfl (w.heap.size + 1 + 1) rfl 131 D (0, 0) _ HL.out.tab Tryz.underlying131 rfl HIE.out ?_)
          | (refine wpList_store_row rfl 131 _ _ rfl (w.heap.size + 1) D rfl rfl 131 #[.int .i64 0, .int .i64 0, .int .i64 0, .int .i64 0, .int .i64 0, .int .i64 0, .int .i64 0, .int .i64 0, .int .i64 0, .int .i64 0, .int .i64 0, .int .i64 0, .int .i64 0, .int .i64 0, .int .i64 0, .int .i64 0] HL.out.res HIE.out (by rw [HI.out.size]; rfl) HI.out.one ?_))
        refine bodyPost_ret (results_row_tmp Tryz.results53 _ _ (w.heap.size + 1) 131 D _ _ rfl rfl (Blk.setRow HL.out.res D) Tryz.underlying131 rfl HIE.out) rfl ⟨below_setRow HL.out.below (by simp) _, D, _, false, rfl, HI.out, Iff.intro (fun h => Bool.noConfusion h) (fun h => ?_), fun h => Bool.noConfusion h⟩
        have h1 := (h.1 k hk8).1
        rw [HX.out] at h1
        omega
    · obtain rfl : k = 8 := by omega
      have HI8 : Hid (I64s D 16 z) := Lib.hid (hI.congr (fun i hi => by unfold slotK; rw [if_pos (by omega)]))
      have s16 : wr.cell? ⟨w.heap.size, 16, none⟩ = some (.int .u64 (z 16)) := (hL.words.cell 16).trans (HC.out.get _ (by omega))
      have hlt1 : w.heap.size < wr.heap.size := hL.words.lt
      clear hL hI hD HS0 HZ
      generalize hx : z 16 = x at s16
      have HX := Lib.hid hx
      clear hx
      by_cases hx0 : x = 0
      · subst hx0
        go_wp2
        refine wp_region_rely 9 (fun b => b = w.heap.size + 1) [8] (by kernel_rfl) (by kernel_rfl) ?_
        iterate 8
          refine wpRely_step (fun K hK => ?_)
          first
          | (refine .inl ?_
             apply Exists.intro
             refine ⟨Any, ?_, hK _ _ _ _ ?_⟩
             · simp only [RelyOp, fillE]
               refine ⟨?_, fun w9 hw9 _ => ?_⟩
               · first | rfl | (go_simp; done)
               have q16 := (hw9.cell (p := ⟨w.heap.size, 16, none⟩) hlt1 (by show ¬ w.heap.size = w.heap.size + 1; omega)).trans s16
               first
               | exact relyAt_load_row 131 _ rfl (w.heap.size + 1 + 1) rfl 131 D _ ((hw9.block (w.heap.size + 1 + 1) HL.out.tab.lt (by omega)).trans HL.out.tab) Tryz.underlying131 rfl HIE.out ⟨⟨rfl, trivial⟩, Keeps.refl _ _⟩
               | (go_simp
                  first
                  | exact ⟨⟨rfl, trivial⟩, Keeps.refl _ _⟩
                  | (go_at_call 74; exact rely_det (right_any D z _ HI8.out)))
             clear hK K
             try simp only [Act.put, List.setIfInBounds_toArray, List.set_cons_zero, List.set_cons_succ])
          | (refine .inr (.inl ⟨?_, hK _ _ _ _ ?_⟩)
             · simp only [fillE]
               first | rfl | (go_simp; done)
             clear hK K
             try simp only [Act.put, List.setIfInBounds_toArray, List.set_cons_zero, List.set_cons_succ])
        refine wpRely_step (fun K hK => ?_)
        refine .inl ⟨undef, fun _ w' => Blk w' (w.heap.size + 1) 131 D, ?_, hK _ _ _ _ ?_⟩
        · simp only [RelyOp, fillE]
          refine ⟨?_, fun w9 hw9 hm9 => ?_⟩
          · first | rfl | (go_simp; done)
          have hB9 : Blk w9 (w.heap.size + 1) 131 #[.int .i64 0, .int .i64 0, .int .i64 0, .int .i64 0, .int .i64 0, .int .i64 0, .int .i64 0, .int .i64 0, .int .i64 0, .int .i64 0, .int .i64 0, .int .i64 0, .int .i64 0, .int .i64 0, .int .i64 0, .int .i64 0] := (hm9.1.block _ HL.out.res.lt (fun h => calm_out h (by kernel_rfl))).trans HL.out.res
          exact relyAt_store_row 131 _ _ rfl (w.heap.size + 1) D rfl rfl 131 #[.int .i64 0, .int .i64 0, .int .i64 0, .int .i64 0, .int .i64 0, .int .i64 0, .int .i64 0, .int .i64 0, .int .i64 0, .int .i64 0, .int .i64 0, .int .i64 0, .int .i64 0, .int .i64 0, .int .i64 0, .int .i64 0] hB9 HIE.out (by rw [HI8.out.size]; rfl) HI8.out.one ⟨⟨rfl, hB9.setRow D⟩, keeps_setRow (.inl ⟨by decide, rfl⟩) _⟩
        clear hK K
        refine wpRely_nil ?_
        simp only [fillE]
        intro w9 hw9 hmet
        obtain ⟨w0, k0, k1, hF⟩ := hmet.1 rfl
        have HB9 : Hid (Blk w9 (w.heap.size + 1) 131 D) := Lib.hid ((k1.block _ hF.lt (fun h => calm_out h (by kernel_rfl))).trans hF)
        have HW9 : Hid (Below w.heap.size w w9) := Lib.hid (HL.out.below.trans (hw9.below HL.out.below.size (fun b hb e => by omega)))
        clear hmet hF k0 k1
        go_wp2
        refine bodyPost_ret (results_row_tmp Tryz.results53 _ _ (w.heap.size + 1) 131 D _ _ rfl rfl HB9.out Tryz.underlying131 rfl HIE.out) rfl ⟨HW9.out, D, z, _, rfl, HI8.out, ?_, fun _ i hi => rfl⟩
        unfold slotsOk
        rw [HX.out]
        exact ⟨fun h => ⟨hall.out, rfl, h⟩, fun h => h.2.2⟩
      · have d1 : (x == 0) = false := by simpa using hx0
        go_wp2
        refine wp_region_rely 9 (fun b => b = w.heap.size + 1) [8] (by kernel_rfl) (by kernel_rfl) ?_
        iterate 8
          refine wpRely_step (fun K hK => ?_)
          first
          | (refine .inl ?_
             apply Exists.intro
             refine ⟨Any, ?_, hK _ _ _ _ ?_⟩
             · simp only [RelyOp, fillE]
               refine ⟨?_, fun w9 hw9 _ => ?_⟩
               · first | rfl | (go_simp; done)
               have q16 := (hw9.cell (p := ⟨w.heap.size, 16, none⟩) hlt1 (by show ¬ w.heap.size = w.heap.size + 1; omega)).trans s16
               first
               | exact relyAt_load_row 131 _ rfl (w.heap.size + 1 + 1) rfl 131 D _ ((hw9.block (w.heap.size + 1 + 1) HL.out.tab.lt (by omega)).trans HL.out.tab) Tryz.underlying131 rfl HIE.out ⟨⟨rfl, trivial⟩, Keeps.refl _ _⟩
               | (go_simp
                  first
                  | exact ⟨⟨rfl, trivial⟩, Keeps.refl _ _⟩
                  | (go_at_call 74; exact rely_det (right_any D z _ HI8.out)))
             clear hK K
             try simp only [Act.put, List.setIfInBounds_toArray, List.set_cons_zero, List.set_cons_succ])
          | (refine .inr (.inl ⟨?_, hK _ _ _ _ ?_⟩)
             · simp only [fillE]
               first | rfl | (go_simp; done)
             clear hK K
             try simp only [Act.put, List.setIfInBounds_toArray, List.set_cons_zero, List.set_cons_succ])
        refine wpRely_step (fun K hK => ?_)
        refine .inl ⟨undef, fun _ w' => Blk w' (w.heap.size + 1) 131 D, ?_, hK _ _ _ _ ?_⟩
        · simp only [RelyOp, fillE]
          refine ⟨?_, fun w9 hw9 hm9 => ?_⟩
          · first | rfl | (go_simp; done)
          have hB9 : Blk w9 (w.heap.size + 1) 131 #[.int .i64 0, .int .i64 0, .int .i64 0, .int .i64 0, .int .i64 0, .int .i64 0, .int .i64 0, .int .i64 0, .int .i64 0, .int .i64 0, .int .i64 0, .int .i64 0, .int .i64 0, .int .i64 0, .int .i64 0, .int .i64 0] := (hm9.1.block _ HL.out.res.lt (fun h => calm_out h (by kernel_rfl))).trans HL.out.res
          exact relyAt_store_row 131 _ _ rfl (w.heap.size + 1) D rfl rfl 131 #[.int .i64 0, .int .i64 0, .int .i64 0, .int .i64 0, .int .i64 0, .int .i64 0, .int .i64 0, .int .i64 0, .int .i64 0, .int .i64 0, .int .i64 0, .int .i64 0, .int .i64 0, .int .i64 0, .int .i64 0, .int .i64 0] hB9 HIE.out (by rw [HI8.out.size]; rfl) HI8.out.one ⟨⟨rfl, hB9.setRow D⟩, keeps_setRow (.inl ⟨by decide, rfl⟩) _⟩
        clear hK K
        refine wpRely_nil ?_
        simp only [fillE]
        intro w9 hw9 hmet
        obtain ⟨w0, k0, k1, hF⟩ := hmet.1 rfl
        have HB9 : Hid (Blk w9 (w.heap.size + 1) 131 D) := Lib.hid ((k1.block _ hF.lt (fun h => calm_out h (by kernel_rfl))).trans hF)
        have HW9 : Hid (Below w.heap.size w w9) := Lib.hid (HL.out.below.trans (hw9.below HL.out.below.size (fun b hb e => by omega)))
        clear hmet hF k0 k1
        go_wp2
        refine bodyPost_ret (results_row_tmp Tryz.results53 _ _ (w.heap.size + 1) 131 D _ _ rfl rfl HB9.out Tryz.underlying131 rfl HIE.out) rfl ⟨HW9.out, D, z, _, rfl, HI8.out, ?_, fun _ i hi => rfl⟩
        unfold slotsOk
        rw [HX.out]
        exact ⟨fun h => Bool.noConfusion h, fun h => absurd h.2.1 hx0⟩
end Go.Proofs.YtkoflhjnpilchaaGreatDoor

namespace Go.Proofs.YtkoflhjnpilchaaGreatDoor
set_option linter.unusedSimpArgs false
set_option linter.unusedVariables false
set_option linter.unusedSectionVars false
open Go.RowKit
attribute [local go_sem ↓] Go.wp_at_zero Go.wp_at_succ

def heapT (xs : List Int) (k : Nat) : Bool := decide (k = 0 ∨ xs[(k - 1) / 2]?.getD 0 ≤ xs[k]?.getD 0)
def heapR (xs : List Int) : Bool := (List.range xs.length).all (heapT xs) && decide (xs.length ≤ 6)
theorem heapR_no {xs : List Int} {k : Nat} (hk : k < xs.length) (h : heapT xs k = false) : heapR xs = false := by
  unfold heapR
  rw [Bool.and_eq_false_iff]
  left
  rw [List.all_eq_false]
  exact ⟨k, by simpa using hk, by simp [h]⟩
theorem heapR_end {xs : List Int} (h : ∀ i, i < xs.length → heapT xs i = true) : heapR xs = decide (xs.length ≤ 6) := by
  unfold heapR
  have : (List.range xs.length).all (heapT xs) = true := by rw [List.all_eq_true]; intro x hx; exact h x (by simpa using hx)
  rw [this, Bool.true_and]


theorem heapRight_any (A : Option Addr) (n c : Nat) (xs : List Int) (w : World) (h : SlI w A n c xs) :
    Calls Tryz.prog 52 #[.slice A n c] w fun e w' => e = .returned (.bool (heapR xs)) ∧ Below w.heap.size w w' := by
  obtain ⟨hlen, hcap, h63, hbd, hat⟩ := h
  have HL := Lib.hid hlen
  clear hlen
  have HA := Lib.hid hat
  clear hat
  have HB := Lib.hid hbd
  clear hbd
  go_enter Tryz.func52, Tryz.ntmps52
  go_wp2
  go_loopw [6] (fun i wr => ∃ k : Nat, k ≤ n ∧ i = .int .i64 k ∧ Below w.heap.size w wr ∧ Hid (∀ j, j < k → heapT xs j = true)) (fun i _ => n - (intOf i).toNat)
  case atStart => exact ⟨0, by omega, rfl, Below.refl _ _, fun j hj => absurd hj (by omega)⟩
  case round =>
    obtain ⟨k, hk, rfl, hb, hall⟩ := hrel
    by_cases hkn : k < n
    · obtain ⟨b, off, rfl, hblt, hcell⟩ := HA.out (by omega)
      have HC := Lib.hid hcell
      clear hcell
      by_cases hk0 : 0 < k
      · have hc1 : wr.cell? ⟨b, off + k, none⟩ = some (.int .i64 (xs[k]?.getD 0)) := (hb.cell (p := ⟨b, off + k, none⟩) hblt).trans (HC.out k hkn)
        have hc2 : wr.cell? ⟨b, off + (k - 1) / 2, none⟩ = some (.int .i64 (xs[(k - 1) / 2]?.getD 0)) := (hb.cell (p := ⟨b, off + (k - 1) / 2, none⟩) hblt).trans (HC.out _ (by omega))
        have b1 : (k : Int) < n := by omega
        have b2 : ((k : Int) - 1) / 2 < n := by omega
        have b3 : 0 ≤ ((k : Int) - 1) / 2 := by omega
        have b4 : 0 < (k : Int) := by omega
        go_wp2
        go_quiet (fail)
        go_wp2
        · have hlt : xs[k]?.getD 0 < xs[(k - 1) / 2]?.getD 0 := by assumption
          go_ret
          exact ⟨ret_bool (by rw [heapR_no (by rw [HL.out]; exact hkn) (by simp [heapT]; omega)]), below_drewN hb _⟩
        · have hle : xs[(k - 1) / 2]?.getD 0 ≤ xs[k]?.getD 0 := by assumption
          go_roundw
          case rel => exact ⟨k + 1, by omega, by go_num, below_drewN hb _, fun j hj => by
            rcases Nat.lt_or_ge j k with h | h
            · exact hall.out j h
            · obtain rfl : j = k := by omega
              simp [heapT, hle]⟩
          case measure => simp [intOf]; omega
      · obtain rfl : k = 0 := by omega
        go_wp2
        go_quiet (fail)
        go_wp2
        go_roundw
        case rel => exact ⟨1, by omega, rfl, below_drewN hb _, fun j hj => by
            obtain rfl : j = 0 := by omega
            simp [heapT]⟩
        case measure => simp [intOf]; omega
    · obtain rfl : k = n := by omega
      go_wp2
      go_ret
      exact ⟨ret_bool (by rw [heapR_end (by rw [HL.out]; exact hall.out), HL.out]; simp; omega), hb⟩

theorem heapT_child {xs : List Int} {k j : Nat} (hj : j = 2 * k + 1 ∨ j = 2 * k + 2) : heapT xs j = decide (xs[k]?.getD 0 ≤ xs[j]?.getD 0) := by
  have e : (j - 1) / 2 = k := by omega
  have e0 : j ≠ 0 := by omega
  simp [heapT, e, e0]
theorem heapR_of_children {xs : List Int} (h : ∀ k, k < xs.length → ∀ j, (j = 2 * k + 1 ∨ j = 2 * k + 2) → j < xs.length → heapT xs j = true) : heapR xs = decide (xs.length ≤ 6) :=
  heapR_end fun i hi => by
    by_cases h0 : i = 0
    · simp [heapT, h0]
    · exact h ((i - 1) / 2) (by omega) i (by omega) hi

set_option maxHeartbeats 800000 in
theorem refHeapRight_any (A : Option Addr) (n c : Nat) (xs : List Int) (w : World) (h : SlI w A n c xs) (hn : n ≤ 60) :
    Calls Tryz.prog 41 #[.slice A n c] w fun e w' => e = .returned (.bool (heapR xs)) ∧ Below w.heap.size w w' := by
  obtain ⟨hlen, hcap, h63, hbd, hat⟩ := h
  have HL := Lib.hid hlen
  clear hlen
  have HA := Lib.hid hat
  clear hat
  have HB := Lib.hid hbd
  clear hbd
  go_enter Tryz.func41, Tryz.ntmps41
  go_wp2
  go_loopw [8] (fun i wr => ∃ k : Nat, k ≤ n ∧ i = .int .i64 k ∧ Below w.heap.size w wr ∧ Hid (∀ k', k' < k → ∀ j, (j = 2 * k' + 1 ∨ j = 2 * k' + 2) → j < n → heapT xs j = true)) (fun i _ => n - (intOf i).toNat)
  case atStart => exact ⟨0, by omega, rfl, Below.refl _ _, fun j hj => absurd hj (by omega)⟩
  case round =>
    obtain ⟨k, hk, rfl, hb, hall⟩ := hrel
    by_cases hkn : k < n
    · obtain ⟨b, off, rfl, hblt, hcell⟩ := HA.out (by omega)
      have HC := Lib.hid hcell
      clear hcell
      have hc0 : wr.cell? ⟨b, off + k, none⟩ = some (.int .i64 (xs[k]?.getD 0)) := (hb.cell (p := ⟨b, off + k, none⟩) hblt).trans (HC.out k hkn)
      have hbz : b < wr.heap.size := by have := hb.size; omega
      have hsz := hb.size
      have hk60 : k < 60 := by omega
      have e1 : IntKind.i64.wrap (2 * (k : Int)) = 2 * k := IntWalk.i64_in _ (by omega)
      have e2 : IntKind.i64.wrap (2 * (k : Int) + 1) = 2 * k + 1 := IntWalk.i64_in _ (by omega)
      have e3 : IntKind.i64.wrap (2 * (k : Int) + 2) = 2 * k + 2 := IntWalk.i64_in _ (by omega)
      have hno : ∀ j, (j = 2 * k + 1 ∨ j = 2 * k + 2) → j < n → xs[j]?.getD 0 < xs[k]?.getD 0 → heapR xs = false := fun j hj hjn hlt =>
        heapR_no (k := j) (by rw [HL.out]; exact hjn) (by rw [heapT_child hj]; simp; omega)
      have HN := Lib.hid hno
      clear hno
      by_cases p1 : 2 * k + 1 < n
      · have hc1 : wr.cell? ⟨b, off + (2 * k + 1), none⟩ = some (.int .i64 (xs[2 * k + 1]?.getD 0)) := (hb.cell (p := ⟨b, off + (2 * k + 1), none⟩) hblt).trans (HC.out _ p1)
        have q1 : 2 * (k : Int) + 1 < n := by omega
        by_cases p2 : 2 * k + 2 < n
        · have hc2 : wr.cell? ⟨b, off + (2 * k + 2), none⟩ = some (.int .i64 (xs[2 * k + 2]?.getD 0)) := (hb.cell (p := ⟨b, off + (2 * k + 2), none⟩) hblt).trans (HC.out _ p2)
          have q2 : 2 * (k : Int) + 2 < n := by omega
          go_wp2
          refine wp_loop_rounds 3 ?_
          rw [rounds_succ]
          go_wp2
          go_quiet (fail)
          go_wp2
          · have hlt : xs[2 * k + 1]?.getD 0 < xs[k]?.getD 0 := by assumption
            go_ret
            exact ⟨ret_bool (by rw [HN.out _ (.inl rfl) p1 hlt]), (by repeat' (first | exact hb | exact hsz | refine below_drewN ?_ _ | refine Below.alloc ?_ ?_ _))⟩
          · have hle1 : xs[k]?.getD 0 ≤ xs[2 * k + 1]?.getD 0 := by assumption
            rw [rounds_succ]
            go_wp2
            go_quiet (fail)
            go_wp2
            · have hlt : xs[2 * k + 2]?.getD 0 < xs[k]?.getD 0 := by assumption
              go_ret
              exact ⟨ret_bool (by rw [HN.out _ (.inr rfl) p2 hlt]), (by repeat' (first | exact hb | exact hsz | refine below_drewN ?_ _ | refine Below.alloc ?_ ?_ _))⟩
            · have hle2 : xs[k]?.getD 0 ≤ xs[2 * k + 2]?.getD 0 := by assumption
              rw [rounds_succ]
              go_wp2
              go_roundw
              case rel => exact ⟨k + 1, by omega, by go_num, (by repeat' (first | exact hb | exact hsz | refine below_drewN ?_ _ | refine Below.alloc ?_ ?_ _)), fun k' hk' j hj hjn => by
                rcases Nat.lt_or_ge k' k with h | h
                · exact hall.out k' h j hj hjn
                · obtain rfl : k' = k := by omega
                  rw [heapT_child hj]
                  rcases hj with rfl | rfl <;> simpa⟩
              case measure => simp [intOf]; omega
        · have d2 : decide (2 * (k : Int) + 2 < n) = false := by simp; omega
          go_wp2
          refine wp_loop_rounds 3 ?_
          rw [rounds_succ]
          go_wp2
          go_quiet (fail)
          go_wp2
          · have hlt : xs[2 * k + 1]?.getD 0 < xs[k]?.getD 0 := by assumption
            go_ret
            exact ⟨ret_bool (by rw [HN.out _ (.inl rfl) p1 hlt]), (by repeat' (first | exact hb | exact hsz | refine below_drewN ?_ _ | refine Below.alloc ?_ ?_ _))⟩
          · have hle1 : xs[k]?.getD 0 ≤ xs[2 * k + 1]?.getD 0 := by assumption
            rw [rounds_succ]
            go_wp2
            go_quiet (fail)
            go_wp2
            rw [rounds_succ]
            go_wp2
            go_roundw
            case rel => exact ⟨k + 1, by omega, by go_num, (by repeat' (first | exact hb | exact hsz | refine below_drewN ?_ _ | refine Below.alloc ?_ ?_ _)), fun k' hk' j hj hjn => by
                rcases Nat.lt_or_ge k' k with h | h
                · exact hall.out k' h j hj hjn
                · obtain rfl : k' = k := by omega
                  rw [heapT_child hj]
                  rcases hj with rfl | rfl
                  · simpa
                  · exact absurd hjn p2⟩
            case measure => simp [intOf]; omega
      · have d1 : decide (2 * (k : Int) + 1 < n) = false := by simp; omega
        have d2 : decide (2 * (k : Int) + 2 < n) = false := by simp; omega
        go_wp2
        refine wp_loop_rounds 3 ?_
        rw [rounds_succ]
        go_wp2
        go_quiet (fail)
        go_wp2
        rw [rounds_succ]
        go_wp2
        go_quiet (fail)
        go_wp2
        rw [rounds_succ]
        go_wp2
        go_roundw
        case rel => exact ⟨k + 1, by omega, by go_num, (by repeat' (first | exact hb | exact hsz | refine below_drewN ?_ _ | refine Below.alloc ?_ ?_ _)), fun k' hk' j hj hjn => by
                rcases Nat.lt_or_ge k' k with h | h
                · exact hall.out k' h j hj hjn
                · omega⟩
        case measure => simp [intOf]; omega
    · obtain rfl : k = n := by omega
      go_wp2
      go_ret
      exact ⟨ret_bool (by rw [heapR_of_children (by rw [HL.out]; exact hall.out), HL.out]; simp; omega), hb⟩

end Go.Proofs.YtkoflhjnpilchaaGreatDoor

namespace Go.Proofs.YtkoflhjnpilchaaGreatDoor
set_option linter.unusedSimpArgs false
set_option linter.unusedVariables false
set_option linter.unusedSectionVars false
open Go.RowKit
set_option linter.unusedSimpArgs false
set_option linter.unusedVariables false
attribute [local go_sem ↓] Go.wp_at_zero Go.wp_at_succ

theorem infoOC : (Tryz.prog.info? 100).map (·.size) = some 17 := by kernel_rfl

set_option maxRecDepth 100000 in
set_option maxHeartbeats 2000000 in
theorem right_list (C : Array Value) (z : Nat → Int) (kind : Int) (w : World) (h : U64s C 17 z) (hk : kind = 1 ∨ kind = 2 ∨ kind = 3) :
    Calls Tryz.prog 31 #[.int .i64 kind, .agg C] w fun e w' => ∃ b, e = .returned (.bool b) ∧ (b = true ↔ listOk z) ∧ Below w.heap.size w w' := by
  have HC := Lib.hid h
  have HIE : Hid ((Tryz.prog.info? 100).map (·.size) = some C.size) := by show _ = _; rw [infoOC, h.size]
  have HBK : Hid (Blk (w.alloc (.cells C 100)) w.heap.size 100 C) := Blk.new _ _ _
  have HL : Calls Tryz.prog 51 #[.agg C] (w.alloc (.cells C 100)) (ListOut z (w.alloc (.cells C 100))) := list_any C z _ h
  clear h
  rcases hk with rfl | rfl | rfl
  all_goals
    go_enter Tryz.func31, Tryz.ntmps31
    go_wp2_with (refine wpList_load_row rfl 100 _ rfl w.heap.size rfl 100 C (0, 0) _ HBK.out Tryz.underlying100 rfl HIE.out ?_)
    refine HL.mono ?_
    rintro e w1 ⟨hb, hcase⟩
    have hB : Below w.heap.size w w1 := Below.trans (by go_grown) (hb.mono (by simp))
    rcases hcase with ⟨hok, A, c, rfl, hown⟩ | ⟨hno, rfl⟩
    · have HOK := Lib.hid hok
      clear hok hown
      go_wp2
      go_ret
      exact ⟨_, rfl, Iff.intro (fun _ => HOK.out) (fun _ => rfl), hB⟩
    · have HNO := Lib.hid hno
      clear hno
      go_wp2
      go_ret
      exact ⟨_, rfl, Iff.intro (fun h => Bool.noConfusion h) (fun h => absurd h HNO.out), hB⟩

set_option maxRecDepth 100000 in
set_option maxHeartbeats 2000000 in
theorem right_heap (C : Array Value) (z : Nat → Int) (w : World) (h : U64s C 17 z) :
    Calls Tryz.prog 31 #[.int .i64 4, .agg C] w fun e w' => ∃ b, e = .returned (.bool b) ∧ (b = true ↔ listOk z ∧ heapR (upL z (z 0).toNat) = true) ∧ Below w.heap.size w w' := by
  have HC := Lib.hid h
  have HIE : Hid ((Tryz.prog.info? 100).map (·.size) = some C.size) := by show _ = _; rw [infoOC, h.size]
  have HBK : Hid (Blk (w.alloc (.cells C 100)) w.heap.size 100 C) := Blk.new _ _ _
  have HL : Calls Tryz.prog 51 #[.agg C] (w.alloc (.cells C 100)) (ListOut z (w.alloc (.cells C 100))) := list_any C z _ h
  clear h
  go_enter Tryz.func31, Tryz.ntmps31
  go_wp2_with (refine wpList_load_row rfl 100 _ rfl w.heap.size rfl 100 C (0, 0) _ HBK.out Tryz.underlying100 rfl HIE.out ?_)
  refine HL.mono ?_
  rintro e w1 ⟨hb, hcase⟩
  have hB : Below w.heap.size w w1 := Below.trans (by go_grown) (hb.mono (by simp))
  rcases hcase with ⟨hok, A, c, rfl, hown⟩ | ⟨hno, rfl⟩
  · have HOK := Lib.hid hok
    have hn : (z 0).toNat ≤ 16 := by have := hok.1; omega
    have HS : Hid (SlI w1 A (z 0).toNat c (upL z (z 0).toNat)) := Lib.hid (SlI.of_own hown (fun i => by
      by_cases hi : i < (z 0).toNat
      · rw [upL_get z _ i hi]
        have h1 := (hok.2 i (by omega)).1
        have h0 := (HC.out.bd (i + 1) (by omega)).1
        omega
      · rw [List.getElem?_eq_none (by rw [upL_len]; omega)]
        decide))
    clear hok hown
    go_wp2_with (go_at_call 52; refine (heapRight_any A _ c _ _ HS.out).mono ?_; rintro e w2 ⟨rfl, hb2⟩)
    go_ret
    exact ⟨_, rfl, Iff.intro (fun h => ⟨HOK.out, h⟩) (fun h => h.2), hB.trans (hb2.mono hB.size)⟩
  · have HNO := Lib.hid hno
    clear hno
    go_wp2
    go_ret
    exact ⟨_, rfl, Iff.intro (fun h => Bool.noConfusion h) (fun h => absurd h.1 HNO.out), hB⟩

set_option maxRecDepth 100000 in
set_option maxHeartbeats 2000000 in
theorem right_table (C : Array Value) (z : Nat → Int) (w : World) (h : U64s C 17 z) :
    Calls Tryz.prog 31 #[.int .i64 5, .agg C] w fun e w' => ∃ b, e = .returned (.bool b) ∧ (b = true ↔ slotsOk z) ∧ Below w.heap.size w w' := by
  have HIE : Hid ((Tryz.prog.info? 100).map (·.size) = some C.size) := by show _ = _; rw [infoOC, h.size]
  have HBK : Hid (Blk (w.alloc (.cells C 100)) w.heap.size 100 C) := Blk.new _ _ _
  have HL : Calls Tryz.prog 53 #[.agg C] (w.alloc (.cells C 100)) (SlotsOut z (w.alloc (.cells C 100))) := slots_any C z _ h
  clear h
  go_enter Tryz.func31, Tryz.ntmps31
  go_wp2_with (refine wpList_load_row rfl 100 _ rfl w.heap.size rfl 100 C (0, 0) _ HBK.out Tryz.underlying100 rfl HIE.out ?_)
  refine HL.mono ?_
  rintro e w1 ⟨hb, D, y, b, rfl, hI, hb1, hb2⟩
  have hB : Below w.heap.size w w1 := Below.trans (by go_grown) (hb.mono (by simp))
  have HI := Lib.hid hI
  have HID : Hid ((Tryz.prog.info? 131).map (·.size) = some D.size) := by show _ = _; rw [infoTS, hI.size]
  have HB1 := Lib.hid hb1
  clear hb1 hb2 hI
  go_wp2_with (refine wpList_store_row rfl 131 _ _ rfl w1.heap.size D rfl rfl 131 #[.int .i64 0, .int .i64 0, .int .i64 0, .int .i64 0, .int .i64 0, .int .i64 0, .int .i64 0, .int .i64 0, .int .i64 0, .int .i64 0, .int .i64 0, .int .i64 0, .int .i64 0, .int .i64 0, .int .i64 0, .int .i64 0] (Blk.new _ _ _) HID.out (by rw [HI.out.size]; rfl) HI.out.one ?_)
  go_ret
  exact ⟨_, rfl, HB1.out, below_setRow (hB.alloc hB.size _) (hB.size) _⟩

theorem right_none (C : Array Value) (kind : Int) (w : World) (h : kind < 1 ∨ 6 < kind) :
    Calls Tryz.prog 31 #[.int .i64 kind, .agg C] w fun e w' => e = .returned (.bool false) ∧ Below w.heap.size w w' := by
  have e1 : (kind == 1) = false := by simp; omega
  have e2 : (kind == 2) = false := by simp; omega
  have e3 : (kind == 3) = false := by simp; omega
  have e4 : (kind == 4) = false := by simp; omega
  have e5 : (kind == 5) = false := by simp; omega
  have e6 : (kind == 6) = false := by simp; omega
  clear h
  go_enter Tryz.func31, Tryz.ntmps31
  go_wp2
  go_ret
  exact ⟨rfl, by go_grown⟩

/-- A tally's words. -/
def tallyOk (z : Nat → Int) : Prop := z 0 ≤ 4294967295 ∧ ∀ i, i < 17 → z i = if i = 0 then z 0 else 0
theorem sizeU1 (w : World) : (sizeOf 22).run Tryz.prog w = .ok 1 w := by kernel_rfl

set_option maxRecDepth 100000 in
set_option maxHeartbeats 2000000 in
theorem right_tally (C : Array Value) (z : Nat → Int) (r : Bool) (w : World) (h : U64s C 17 z) (hr : r = true ↔ tallyOk z) :
    Calls Tryz.prog 31 #[.int .i64 6, .agg C] w fun e w' => e = .returned (.bool r) ∧ Below w.heap.size w w' := by
  have HIE : Hid ((Tryz.prog.info? 100).map (·.size) = some C.size) := by show _ = _; rw [infoOC, h.size]
  have HBK : Hid (Blk (w.alloc (.cells C 100)) w.heap.size 100 C) := Blk.new _ _ _
  have c0 := h.get 0 (by omega)
  obtain ⟨n, hn⟩ : ∃ n, z 0 = n := ⟨_, rfl⟩
  have hU := ((U64s.zero 17).set_ (k := 0) (v := n) (by rw [← hn]; exact h.bd 0 (by omega)))
  have e : (Array.replicate 17 (Value.int .u64 0)).setIfInBounds 0 (.int .u64 n) = #[.int .u64 n, .int .u64 0, .int .u64 0, .int .u64 0, .int .u64 0, .int .u64 0, .int .u64 0, .int .u64 0, .int .u64 0, .int .u64 0, .int .u64 0, .int .u64 0, .int .u64 0, .int .u64 0, .int .u64 0, .int .u64 0, .int .u64 0] := rfl
  rw [e] at hU
  obtain ⟨b, hb, heq⟩ : ∃ b : Bool, (b = true ↔ ∀ i, i < 17 → z i = if i = 0 then n else 0) ∧ ∀ w : World, (Op.equalIn 10000 100 (.agg C) (.agg #[.int .u64 n, .int .u64 0, .int .u64 0, .int .u64 0, .int .u64 0, .int .u64 0, .int .u64 0, .int .u64 0, .int .u64 0, .int .u64 0, .int .u64 0, .int .u64 0, .int .u64 0, .int .u64 0, .int .u64 0, .int .u64 0, .int .u64 0])).run Tryz.prog w = .ok b w :=
    ⟨_, decide_eq_true_iff, fun w => run_equalIn_ints w 9998 17 Tryz.underlying100 Tryz.underlying22 sizeU1 h.get hU.get⟩
  rw [hn] at c0
  clear hU e
  by_cases h4 : n ≤ 4294967295
  · have d1 : decide (n ≤ 4294967295) = true := by simpa using h4
    obtain rfl : r = b := by
      rw [Bool.eq_iff_iff, hr, hb]
      unfold tallyOk
      rw [hn]
      exact ⟨fun h => h.2, fun h => ⟨h4, h⟩⟩
    clear h hr hb hn
    go_enter Tryz.func31, Tryz.ntmps31
    go_wp2_with (refine wpList_load_row_g rfl 100 _ rfl w.heap.size rfl 100 C (0, 0) _ HBK.out Tryz.underlying100 rfl HIE.out ?_)
    go_ret
    exact ⟨rfl, by go_grown⟩
  · have d1 : decide (n ≤ 4294967295) = false := by simpa using h4
    obtain rfl : r = false := by
      rw [Bool.eq_false_iff]
      intro h1
      have := (hr.1 h1).1
      rw [hn] at this
      exact h4 this
    clear h hr hb hn
    go_enter Tryz.func31, Tryz.ntmps31
    go_wp2
    go_ret
    exact ⟨rfl, by go_grown⟩
end Go.Proofs.YtkoflhjnpilchaaGreatDoor

namespace Go.Proofs.YtkoflhjnpilchaaGreatDoor
set_option linter.unusedSimpArgs false
set_option linter.unusedVariables false
set_option linter.unusedSectionVars false

/-- Seventeen words that are an object of a kind. -/
def thingOk (kind : Int) (z : Nat → Int) : Prop :=
  if kind = 5 then slotsOk z else if kind = 6 then tallyOk z else if kind = 4 then listOk z ∧ heapR (upL z (z 0).toNat) = true else 1 ≤ kind ∧ kind ≤ 3 ∧ listOk z
def Wds (z : Nat → Int) : Prop := ∀ i, i < 17 → 0 ≤ z i ∧ z i < 18446744073709551616
def zL (z : Nat → Int) : List Int := upL z (z 0).toNat

end Go.Proofs.YtkoflhjnpilchaaGreatDoor
