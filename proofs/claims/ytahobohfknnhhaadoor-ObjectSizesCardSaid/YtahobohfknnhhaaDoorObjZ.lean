/-
  What object.Size returns: for every kind and every seventeen words.
-/
import Derived.Test.YtahobohfknnhhaaDoorLawK
namespace Go.Proofs.YtahobohfknnhhaaDoor
set_option linter.unusedSimpArgs false
set_option linter.unusedVariables false
set_option linter.unusedSectionVars false
open Go.RowKit
set_option linter.unusedSimpArgs false
set_option linter.unusedVariables false
attribute [local go_sem ↓] Go.wp_at_zero Go.wp_at_succ

set_option maxRecDepth 100000 in
set_option maxHeartbeats 4000000 in
theorem size_ok (C : Array Value) (z : Nat → Int) (kind : Int) (w : World) (h : U64s C 17 z) (hz : thingOk kind z) :
    Calls Tryd.prog 36 #[.int .i64 kind, .agg C] w fun e w' => e = .returned (.tuple #[.int .i64 (doV kind z 6 0 0), .nilIface]) ∧ Below w.heap.size w w' := by
  have hw : Wds z := fun i hi => h.bd i hi
  have ho : opOk 6 0 0 := by unfold opOk; decide
  have hm : kind = 5 → tabM z 6 0 0 := fun _ h => absurd h (by decide)
  obtain ⟨_, hw', _⟩ := thing_do hw hz ho hm
  obtain ⟨E, hE⟩ := U64s.ex (doZ kind z 6 0 0 0) 17 hw'
  have HI2 : Hid ((Tryd.prog.info? 76).map (·.size) = some E.size) := by show _ = _; rw [infoOC, hE.size]
  have HES := Lib.hid hE.size
  have HE1 := Lib.hid hE.one
  have HDO : Hid (∀ W : World, Calls Tryd.prog 31 #[.int .i64 kind, .agg C, .agg #[.int .i64 6, .int .i64 0, .int .i64 0]] W fun e w' => e = .returned (.tuple #[.agg E, .agg #[.int .i64 (doC kind z 6 0 0), .int .i64 (doV kind z 6 0 0)], .nilIface]) ∧ Below W.heap.size W w') := Lib.hid fun W =>
    objDo_any C E z kind 6 0 0 0 W h ho hz hm hE
  clear hw ho hm hw' hE
  generalize doC kind z 6 0 0 = co at *
  generalize doV kind z 6 0 0 = va at *
  have HIE : Hid ((Tryd.prog.info? 76).map (·.size) = some C.size) := by show _ = _; rw [infoOC, h.size]
  have HB0 : Hid (Blk (w.alloc (.cells C 76)) w.heap.size 76 C) := Blk.new _ _ _
  clear h hz
  go_enter Tryd.func36, Tryd.ntmps36
  go_wp2_with (with_reducible refine fLoad 76 w.heap.size 76 C (by kernel_rfl) HB0.out Tryd.underlying76 (by kernel_rfl) HIE.out ?_)
  with_reducible refine (HDO.out _).mono ?_
  rintro e w1 ⟨rfl, hb1⟩
  have hW1 : Below w.heap.size w w1 := Below.trans (by go_grown) (hb1.mono (by simp))
  have hW2 := below_setRow (below_setRow ((hW1.alloc hW1.size (.cells #[.int .u64 0, .int .u64 0, .int .u64 0, .int .u64 0, .int .u64 0, .int .u64 0, .int .u64 0, .int .u64 0, .int .u64 0, .int .u64 0, .int .u64 0, .int .u64 0, .int .u64 0, .int .u64 0, .int .u64 0, .int .u64 0, .int .u64 0] 76)).alloc (by have := hW1.size; simp; omega) (.cells #[.int .i64 0, .int .i64 0] 88)) (show w.heap.size ≤ w1.heap.size from hW1.size) E) (show w.heap.size ≤ w1.heap.size + 1 by have := hW1.size; omega) #[.int .i64 co, .int .i64 va]
  have hA : Blk ((((w1.alloc (.cells #[.int .u64 0, .int .u64 0, .int .u64 0, .int .u64 0, .int .u64 0, .int .u64 0, .int .u64 0, .int .u64 0, .int .u64 0, .int .u64 0, .int .u64 0, .int .u64 0, .int .u64 0, .int .u64 0, .int .u64 0, .int .u64 0, .int .u64 0] 76)).alloc (.cells #[.int .i64 0, .int .i64 0] 88)).setRow w1.heap.size E).setRow (w1.heap.size + 1) #[.int .i64 co, .int .i64 va]) (w1.heap.size + 1) 88 #[.int .i64 co, .int .i64 va] := Blk.setRow (Blk.far_row (Blk.newAt _ _ _ (by simp)) (by omega) _) _
  have c1 := hA.cell 1
  simp only [List.getElem?_toArray, List.getElem?_cons_zero, List.getElem?_cons_succ] at c1
  have HW2 := Lib.hid hW2
  clear hW2 hW1 hb1 hA
  go_wp2_with (first
    | (with_reducible refine fStore 76 w1.heap.size E 76 #[.int .u64 0, .int .u64 0, .int .u64 0, .int .u64 0, .int .u64 0, .int .u64 0, .int .u64 0, .int .u64 0, .int .u64 0, .int .u64 0, .int .u64 0, .int .u64 0, .int .u64 0, .int .u64 0, .int .u64 0, .int .u64 0, .int .u64 0] (by kernel_rfl) (by kernel_rfl) ((Blk.new _ _ _).alloc _) HI2.out (by rw [HES.out]; kernel_rfl) HE1.out ?_)
    | (with_reducible refine fStore 88 (w1.heap.size + 1) #[.int .i64 co, .int .i64 va] 88 #[.int .i64 0, .int .i64 0] (by kernel_rfl) (by kernel_rfl) (Blk.far_row (Blk.newAt _ _ _ (by simp)) (by omega) _) (by kernel_rfl) (by kernel_rfl) (two_one _ _) ?_))
  go_ret2
  exact ⟨rfl, HW2.out⟩

set_option maxRecDepth 100000 in
set_option maxHeartbeats 4000000 in
theorem size_bad (C : Array Value) (z : Nat → Int) (kind : Int) (w : World) (h : U64s C 17 z) (hz : ¬ thingOk kind z) :
    Calls Tryd.prog 36 #[.int .i64 kind, .agg C] w fun e w' => e = .returned (.tuple #[.int .i64 (0), .iface 38 (.int .i64 1)]) ∧ Below w.heap.size w w' := by
  obtain ⟨E, hE⟩ : ∃ Z0 : Array Value, Z0 = #[.int .u64 0, .int .u64 0, .int .u64 0, .int .u64 0, .int .u64 0, .int .u64 0, .int .u64 0, .int .u64 0, .int .u64 0, .int .u64 0, .int .u64 0, .int .u64 0, .int .u64 0, .int .u64 0, .int .u64 0, .int .u64 0, .int .u64 0] := ⟨_, rfl⟩
  have HI2 : Hid ((Tryd.prog.info? 76).map (·.size) = some E.size) := by show _ = _; rw [hE]; exact infoOC
  have HES : Hid (E.size = 17) := by show _ = _; rw [hE]; rfl
  have HE1 : Hid (E.all (·.oneCell') = true) := by show _ = _; rw [hE]; kernel_rfl
  have HDO : Hid (∀ W : World, Calls Tryd.prog 31 #[.int .i64 kind, .agg C, .agg #[.int .i64 6, .int .i64 0, .int .i64 0]] W fun e w' => e = .returned (.tuple #[.agg E, .agg #[.int .i64 0, .int .i64 0], .iface 38 (.int .i64 1)]) ∧ Below W.heap.size W w') := Lib.hid fun W => by
    rw [hE]
    exact objDo_bad C z kind 6 0 0 W h (by decide) hz
  clear hE
  have HIE : Hid ((Tryd.prog.info? 76).map (·.size) = some C.size) := by show _ = _; rw [infoOC, h.size]
  have HB0 : Hid (Blk (w.alloc (.cells C 76)) w.heap.size 76 C) := Blk.new _ _ _
  clear h hz
  go_enter Tryd.func36, Tryd.ntmps36
  go_wp2_with (with_reducible refine fLoad 76 w.heap.size 76 C (by kernel_rfl) HB0.out Tryd.underlying76 (by kernel_rfl) HIE.out ?_)
  with_reducible refine (HDO.out _).mono ?_
  rintro e w1 ⟨rfl, hb1⟩
  have hW1 : Below w.heap.size w w1 := Below.trans (by go_grown) (hb1.mono (by simp))
  have hW2 := below_setRow (below_setRow ((hW1.alloc hW1.size (.cells #[.int .u64 0, .int .u64 0, .int .u64 0, .int .u64 0, .int .u64 0, .int .u64 0, .int .u64 0, .int .u64 0, .int .u64 0, .int .u64 0, .int .u64 0, .int .u64 0, .int .u64 0, .int .u64 0, .int .u64 0, .int .u64 0, .int .u64 0] 76)).alloc (by have := hW1.size; simp; omega) (.cells #[.int .i64 0, .int .i64 0] 88)) (show w.heap.size ≤ w1.heap.size from hW1.size) E) (show w.heap.size ≤ w1.heap.size + 1 by have := hW1.size; omega) #[.int .i64 0, .int .i64 0]
  have hA : Blk ((((w1.alloc (.cells #[.int .u64 0, .int .u64 0, .int .u64 0, .int .u64 0, .int .u64 0, .int .u64 0, .int .u64 0, .int .u64 0, .int .u64 0, .int .u64 0, .int .u64 0, .int .u64 0, .int .u64 0, .int .u64 0, .int .u64 0, .int .u64 0, .int .u64 0] 76)).alloc (.cells #[.int .i64 0, .int .i64 0] 88)).setRow w1.heap.size E).setRow (w1.heap.size + 1) #[.int .i64 0, .int .i64 0]) (w1.heap.size + 1) 88 #[.int .i64 0, .int .i64 0] := Blk.setRow (Blk.far_row (Blk.newAt _ _ _ (by simp)) (by omega) _) _
  have c1 := hA.cell 1
  simp only [List.getElem?_toArray, List.getElem?_cons_zero, List.getElem?_cons_succ] at c1
  have HW2 := Lib.hid hW2
  clear hW2 hW1 hb1 hA
  go_wp2_with (first
    | (with_reducible refine fStore 76 w1.heap.size E 76 #[.int .u64 0, .int .u64 0, .int .u64 0, .int .u64 0, .int .u64 0, .int .u64 0, .int .u64 0, .int .u64 0, .int .u64 0, .int .u64 0, .int .u64 0, .int .u64 0, .int .u64 0, .int .u64 0, .int .u64 0, .int .u64 0, .int .u64 0] (by kernel_rfl) (by kernel_rfl) ((Blk.new _ _ _).alloc _) HI2.out (by rw [HES.out]; kernel_rfl) HE1.out ?_)
    | (with_reducible refine fStore 88 (w1.heap.size + 1) #[.int .i64 0, .int .i64 0] 88 #[.int .i64 0, .int .i64 0] (by kernel_rfl) (by kernel_rfl) (Blk.far_row (Blk.newAt _ _ _ (by simp)) (by omega) _) (by kernel_rfl) (by kernel_rfl) (two_one _ _) ?_))
  go_ret2
  exact ⟨rfl, HW2.out⟩
end Go.Proofs.YtahobohfknnhhaaDoor
