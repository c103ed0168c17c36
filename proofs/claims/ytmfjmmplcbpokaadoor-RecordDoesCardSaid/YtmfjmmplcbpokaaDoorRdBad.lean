/-
  RecordDoes: the thread is out of range, or the record or the operation is not right.
-/
import Derived.Test.YtmfjmmplcbpokaaDoorRdP
import Derived.Test.YtmfjmmplcbpokaaDoorRecO
import Derived.Test.YtmfjmmplcbpokaaDoorLawK
namespace Go.Proofs.YtmfjmmplcbpokaaDoor.lawRecordDoes
set_option linter.unusedSimpArgs false
set_option linter.unusedVariables false
set_option linter.unusedSectionVars false
open Go.RowKit Go.ChangeShapes Go.WideShapes Go.ChangeAt Go.Joins
attribute [local go_sem ↓] Go.wp_at_zero Go.wp_at_succ
set_option maxRecDepth 100000 in
set_option maxHeartbeats 4000000 in
theorem rdw_range (C : Array Value) (z : Nat → Int) (t a k v : Int) (r : Bool) (w : World) (h : U64s C 32 z) (hr : r = true ↔ recOk z) (ht : t < 0 ∨ (0 ≤ t ∧ 4 ≤ t)) (hg : ErrT w) :
    Calls Tryd.prog 4 #[.agg C, .int .i64 t, .agg #[.int .i64 a, .int .i64 k, .int .i64 v]] w fun e w' => e = .returned (.bool true) ∧ Below w.heap.size w w' := by
  have HDN : Hid (∀ W : World, Calls Tryd.prog 15 #[.agg C, .int .i64 t, .agg #[.int .i64 a, .int .i64 k, .int .i64 v]] W fun e w' => ∃ F, e = .returned (.tuple #[.agg F, .iface 39 (.int .i64 2)]) ∧ U64s F 32 (fun _ => 0) ∧ Below W.heap.size W w') := Lib.hid fun W => (rdone_range C t a k v W ht).mono fun e w' ⟨he, hb⟩ => ⟨_, he, U64s.zero 32, hb⟩
  have HIE : Hid ((Tryd.prog.info? 46).map (·.size) = some C.size) := by show _ = _; rw [infoRx, h.size]
  have HG := Lib.hid hg
  have hB0 : Blk ((w.alloc (.cells C 46)).alloc (.cells #[.int .i64 a, .int .i64 k, .int .i64 v] 48)) w.heap.size 46 C := (Blk.new _ _ _).alloc _
  have hO0 : Blk ((w.alloc (.cells C 46)).alloc (.cells #[.int .i64 a, .int .i64 k, .int .i64 v] 48)) (w.heap.size + 1) 48 #[.int .i64 a, .int .i64 k, .int .i64 v] := Blk.newAt _ _ _ (by simp)
  have HS := Lib.hid (SlU.of_blk (n := 32) (c := 32) (o := 0) hB0 h (by omega) (by omega) (by omega))
  have HB0 := Lib.hid hB0
  have HO0 := Lib.hid hO0
  have HR := Lib.hid hr
  clear h hr hg hB0 hO0
  rcases ht with ht | ⟨ht0, ht⟩
  all_goals
    go_enter Tryd.func4, Tryd.ntmps4
    go_wp2_with fail
    with_reducible refine (recOf_any _ 32 z r _ (by simpa using HS.out) (HR.out)).mono ?_
    rintro e w1 ⟨hb1, D, hs, h1, rfl, hT⟩
    have hz1 := hb1.size
    simp only [World.size_alloc] at hz1
    have HD1 : Hid ((Tryd.prog.info? 62).map (·.size) = some D.size) := by show _ = _; rw [infoRc, hs]
    have HONE := Lib.hid h1
    have HSZ := Lib.hid hs
    have HB1 := Lib.hid ((HB0.out.below hb1 (by simp; omega)).alloc (.cells #[.int .i64 0, .slice none 0 0, .int .i64 0, .int .i64 0, .int .i64 0, .int .i64 0, .int .i64 0, .int .i64 0, .int .i64 0, .int .i64 0, .int .i64 0, .int .i64 0, .int .i64 0, .int .i64 0, .int .i64 0, .int .i64 0, .int .i64 0, .int .i64 0, .int .i64 0, .int .i64 0, .int .i64 0, .int .i64 0, .int .i64 0, .int .i64 0, .int .i64 0, .int .i64 0, .int .i64 0, .int .u64 0, .int .u64 0, .int .u64 0, .int .u64 0, .int .i64 0, .int .i64 0, .int .i64 0, .int .i64 0, .int .u64 0, .int .u64 0] 62))
    have HO1 := Lib.hid ((HO0.out.below hb1 (by simp)).alloc (.cells #[.int .i64 0, .slice none 0 0, .int .i64 0, .int .i64 0, .int .i64 0, .int .i64 0, .int .i64 0, .int .i64 0, .int .i64 0, .int .i64 0, .int .i64 0, .int .i64 0, .int .i64 0, .int .i64 0, .int .i64 0, .int .i64 0, .int .i64 0, .int .i64 0, .int .i64 0, .int .i64 0, .int .i64 0, .int .i64 0, .int .i64 0, .int .i64 0, .int .i64 0, .int .i64 0, .int .i64 0, .int .u64 0, .int .u64 0, .int .u64 0, .int .u64 0, .int .i64 0, .int .i64 0, .int .i64 0, .int .i64 0, .int .u64 0, .int .u64 0] 62))
    have HW1 : Hid (Below w.heap.size w w1) := Lib.hid (Below.trans (by go_grown) (hb1.mono (by simp; omega)))
    clear hs h1 hb1 hT
    have hne : w.heap.size ≠ w1.heap.size := by omega
    have hne1 : w.heap.size + 1 ≠ w1.heap.size := by omega
    go_wp2_with (first
      | (with_reducible refine fStore 62 w1.heap.size D 62 #[.int .i64 0, .slice none 0 0, .int .i64 0, .int .i64 0, .int .i64 0, .int .i64 0, .int .i64 0, .int .i64 0, .int .i64 0, .int .i64 0, .int .i64 0, .int .i64 0, .int .i64 0, .int .i64 0, .int .i64 0, .int .i64 0, .int .i64 0, .int .i64 0, .int .i64 0, .int .i64 0, .int .i64 0, .int .i64 0, .int .i64 0, .int .i64 0, .int .i64 0, .int .i64 0, .int .i64 0, .int .u64 0, .int .u64 0, .int .u64 0, .int .u64 0, .int .i64 0, .int .i64 0, .int .i64 0, .int .i64 0, .int .u64 0, .int .u64 0] (by kernel_rfl) (by kernel_rfl) (Blk.new _ _ _) HD1.out (by rw [HSZ.out]; kernel_rfl) HONE.out ?_)
      | (with_reducible refine fLoad 46 w.heap.size 46 C (by kernel_rfl) (HB1.out.far_row hne D) Tryd.underlying46 (by kernel_rfl) HIE.out ?_)
      | (with_reducible refine fLoad 48 (w.heap.size + 1) 48 #[.int .i64 a, .int .i64 k, .int .i64 v] (by kernel_rfl) (HO1.out.far_row hne1 D) Tryd.underlying48 (by kernel_rfl) (by kernel_rfl) ?_))
    with_reducible refine (HDN.out _).mono ?_
    rintro e w2 ⟨F, rfl, hF, hb2⟩
    have hB1w : Below w1.heap.size w1 ((w1.alloc (.cells #[.int .i64 0, .slice none 0 0, .int .i64 0, .int .i64 0, .int .i64 0, .int .i64 0, .int .i64 0, .int .i64 0, .int .i64 0, .int .i64 0, .int .i64 0, .int .i64 0, .int .i64 0, .int .i64 0, .int .i64 0, .int .i64 0, .int .i64 0, .int .i64 0, .int .i64 0, .int .i64 0, .int .i64 0, .int .i64 0, .int .i64 0, .int .i64 0, .int .i64 0, .int .i64 0, .int .i64 0, .int .u64 0, .int .u64 0, .int .u64 0, .int .u64 0, .int .i64 0, .int .i64 0, .int .i64 0, .int .i64 0, .int .u64 0, .int .u64 0] 62)).setRow w1.heap.size D) := below_setRow ((Below.refl _ _).alloc (Nat.le_refl _) _) (Nat.le_refl _) D
    have hB2w : Below w1.heap.size w1 w2 := hB1w.trans (hb2.mono hB1w.size)
    have hO2 := (HO1.out.far_row hne1 D).below hb2 (HO1.out.far_row hne1 D).lt
    have hX2 := (Blk.setRow (Blk.new w1 62 #[.int .i64 0, .slice none 0 0, .int .i64 0, .int .i64 0, .int .i64 0, .int .i64 0, .int .i64 0, .int .i64 0, .int .i64 0, .int .i64 0, .int .i64 0, .int .i64 0, .int .i64 0, .int .i64 0, .int .i64 0, .int .i64 0, .int .i64 0, .int .i64 0, .int .i64 0, .int .i64 0, .int .i64 0, .int .i64 0, .int .i64 0, .int .i64 0, .int .i64 0, .int .i64 0, .int .i64 0, .int .u64 0, .int .u64 0, .int .u64 0, .int .u64 0, .int .i64 0, .int .i64 0, .int .i64 0, .int .i64 0, .int .u64 0, .int .u64 0]) D).below hb2 (Blk.setRow (Blk.new w1 62 #[.int .i64 0, .slice none 0 0, .int .i64 0, .int .i64 0, .int .i64 0, .int .i64 0, .int .i64 0, .int .i64 0, .int .i64 0, .int .i64 0, .int .i64 0, .int .i64 0, .int .i64 0, .int .i64 0, .int .i64 0, .int .i64 0, .int .i64 0, .int .i64 0, .int .i64 0, .int .i64 0, .int .i64 0, .int .i64 0, .int .i64 0, .int .i64 0, .int .i64 0, .int .i64 0, .int .i64 0, .int .u64 0, .int .u64 0, .int .u64 0, .int .u64 0, .int .i64 0, .int .i64 0, .int .i64 0, .int .i64 0, .int .u64 0, .int .u64 0]) D).lt
    have hW2 : Below w.heap.size w w2 := HW1.out.trans (hB2w.mono HW1.out.size)
    have HF := Lib.hid hF
    have HIF : Hid ((Tryd.prog.info? 46).map (·.size) = some F.size) := by show _ = _; rw [infoRx, hF.size]
    have hB3 : Below w2.heap.size w2 ((w2.alloc (.cells #[.int .u64 0, .int .u64 0, .int .u64 0, .int .u64 0, .int .u64 0, .int .u64 0, .int .u64 0, .int .u64 0, .int .u64 0, .int .u64 0, .int .u64 0, .int .u64 0, .int .u64 0, .int .u64 0, .int .u64 0, .int .u64 0, .int .u64 0, .int .u64 0, .int .u64 0, .int .u64 0, .int .u64 0, .int .u64 0, .int .u64 0, .int .u64 0, .int .u64 0, .int .u64 0, .int .u64 0, .int .u64 0, .int .u64 0, .int .u64 0, .int .u64 0, .int .u64 0] 46)).setRow w2.heap.size F) := below_setRow ((Below.refl _ _).alloc (Nat.le_refl _) _) (Nat.le_refl _) F
    have HQ3 := Lib.hid (Blk.setRow (Blk.new w2 46 #[.int .u64 0, .int .u64 0, .int .u64 0, .int .u64 0, .int .u64 0, .int .u64 0, .int .u64 0, .int .u64 0, .int .u64 0, .int .u64 0, .int .u64 0, .int .u64 0, .int .u64 0, .int .u64 0, .int .u64 0, .int .u64 0, .int .u64 0, .int .u64 0, .int .u64 0, .int .u64 0, .int .u64 0, .int .u64 0, .int .u64 0, .int .u64 0, .int .u64 0, .int .u64 0, .int .u64 0, .int .u64 0, .int .u64 0, .int .u64 0, .int .u64 0, .int .u64 0]) F)
    have HO3 := Lib.hid (hO2.below hB3 hO2.lt)
    have HX3 := Lib.hid (hX2.below hB3 hX2.lt)
    have HW3 := Lib.hid (hW2.trans (hB3.mono hW2.size))
    clear hb2 hB1w hB2w hO2 hX2 hW2 hF hB3 HB0 HO0 HS HB1 HO1 HW1 HDN
    go_wp2_with (with_reducible refine fStore 46 w2.heap.size F 46 #[.int .u64 0, .int .u64 0, .int .u64 0, .int .u64 0, .int .u64 0, .int .u64 0, .int .u64 0, .int .u64 0, .int .u64 0, .int .u64 0, .int .u64 0, .int .u64 0, .int .u64 0, .int .u64 0, .int .u64 0, .int .u64 0, .int .u64 0, .int .u64 0, .int .u64 0, .int .u64 0, .int .u64 0, .int .u64 0, .int .u64 0, .int .u64 0, .int .u64 0, .int .u64 0, .int .u64 0, .int .u64 0, .int .u64 0, .int .u64 0, .int .u64 0, .int .u64 0] (by kernel_rfl) (by kernel_rfl) (Blk.new _ _ _) HIF.out (by rw [HF.out.size]; kernel_rfl) HF.out.one ?_)
    with_reducible refine (bare2 _ (HG.out.below HW3.out)).mono ?_
    rintro e w5 ⟨rfl, hb5⟩
    have HQ5 := Lib.hid (HQ3.out.below hb5 HQ3.out.lt)
    have HW5 := Lib.hid (HW3.out.trans (hb5.mono HW3.out.size))
    clear hb5
    have heq : ∀ w, (Op.equalIn 10000 46 (.agg F) (.agg #[.int .u64 0, .int .u64 0, .int .u64 0, .int .u64 0, .int .u64 0, .int .u64 0, .int .u64 0, .int .u64 0, .int .u64 0, .int .u64 0, .int .u64 0, .int .u64 0, .int .u64 0, .int .u64 0, .int .u64 0, .int .u64 0, .int .u64 0, .int .u64 0, .int .u64 0, .int .u64 0, .int .u64 0, .int .u64 0, .int .u64 0, .int .u64 0, .int .u64 0, .int .u64 0, .int .u64 0, .int .u64 0, .int .u64 0, .int .u64 0, .int .u64 0, .int .u64 0])).run Tryd.prog w = .ok true w := eqRecD HF.out (U64s.zero 32)
    go_wp2_with ((with_reducible refine fLoadG 46 w2.heap.size 46 F (by kernel_rfl) HQ5.out Tryd.underlying46 (by kernel_rfl) HIF.out ?_ ?_); (first | (go_simp; done) | rfl))
    go_ret
    exact ⟨rfl, HW5.out⟩

set_option maxRecDepth 100000 in
set_option maxHeartbeats 4000000 in
theorem rdw_rec (C : Array Value) (z : Nat → Int) (t a k v : Int) (w : World) (h : U64s C 32 z) (hb : ¬ recOk z) (ht : 0 ≤ t ∧ t < 4) (hg : ErrT w) :
    Calls Tryd.prog 4 #[.agg C, .int .i64 t, .agg #[.int .i64 a, .int .i64 k, .int .i64 v]] w fun e w' => e = .returned (.bool true) ∧ Below w.heap.size w w' := by
  have HNZ : Hid (¬ recOk z) := Lib.hid hb
  have HDN : Hid (∀ W : World, Calls Tryd.prog 15 #[.agg C, .int .i64 t, .agg #[.int .i64 a, .int .i64 k, .int .i64 v]] W fun e w' => ∃ F, e = .returned (.tuple #[.agg F, .iface 39 (.int .i64 1)]) ∧ U64s F 32 (fun _ => 0) ∧ Below W.heap.size W w') := Lib.hid fun W => (rdone_rec C z t a k v W h ht hb).mono fun e w' ⟨he, hb⟩ => ⟨_, he, U64s.zero 32, hb⟩
  have HIE : Hid ((Tryd.prog.info? 46).map (·.size) = some C.size) := by show _ = _; rw [infoRx, h.size]
  have HG := Lib.hid hg
  have hB0 : Blk ((w.alloc (.cells C 46)).alloc (.cells #[.int .i64 a, .int .i64 k, .int .i64 v] 48)) w.heap.size 46 C := (Blk.new _ _ _).alloc _
  have hO0 : Blk ((w.alloc (.cells C 46)).alloc (.cells #[.int .i64 a, .int .i64 k, .int .i64 v] 48)) (w.heap.size + 1) 48 #[.int .i64 a, .int .i64 k, .int .i64 v] := Blk.newAt _ _ _ (by simp)
  have HS := Lib.hid (SlU.of_blk (n := 32) (c := 32) (o := 0) hB0 h (by omega) (by omega) (by omega))
  have HB0 := Lib.hid hB0
  have HO0 := Lib.hid hO0
  obtain ⟨h0, h4⟩ := ht
  have d0 : ¬ t < 0 := by omega
  have d4 : ¬ 4 ≤ t := by omega
  clear h hg hB0 hO0 hb
  go_enter Tryd.func4, Tryd.ntmps4
  go_wp2_with fail
  with_reducible refine (recOf_any _ 32 z false _ (by simpa using HS.out) (⟨fun e => Bool.noConfusion e, fun e => absurd e HNZ.out⟩)).mono ?_
  rintro e w1 ⟨hb1, D, hs, h1, rfl, hT⟩
  have hz1 := hb1.size
  simp only [World.size_alloc] at hz1
  have HD1 : Hid ((Tryd.prog.info? 62).map (·.size) = some D.size) := by show _ = _; rw [infoRc, hs]
  have HONE := Lib.hid h1
  have HSZ := Lib.hid hs
  have HB1 := Lib.hid ((HB0.out.below hb1 (by simp; omega)).alloc (.cells #[.int .i64 0, .slice none 0 0, .int .i64 0, .int .i64 0, .int .i64 0, .int .i64 0, .int .i64 0, .int .i64 0, .int .i64 0, .int .i64 0, .int .i64 0, .int .i64 0, .int .i64 0, .int .i64 0, .int .i64 0, .int .i64 0, .int .i64 0, .int .i64 0, .int .i64 0, .int .i64 0, .int .i64 0, .int .i64 0, .int .i64 0, .int .i64 0, .int .i64 0, .int .i64 0, .int .i64 0, .int .u64 0, .int .u64 0, .int .u64 0, .int .u64 0, .int .i64 0, .int .i64 0, .int .i64 0, .int .i64 0, .int .u64 0, .int .u64 0] 62))
  have HO1 := Lib.hid ((HO0.out.below hb1 (by simp)).alloc (.cells #[.int .i64 0, .slice none 0 0, .int .i64 0, .int .i64 0, .int .i64 0, .int .i64 0, .int .i64 0, .int .i64 0, .int .i64 0, .int .i64 0, .int .i64 0, .int .i64 0, .int .i64 0, .int .i64 0, .int .i64 0, .int .i64 0, .int .i64 0, .int .i64 0, .int .i64 0, .int .i64 0, .int .i64 0, .int .i64 0, .int .i64 0, .int .i64 0, .int .i64 0, .int .i64 0, .int .i64 0, .int .u64 0, .int .u64 0, .int .u64 0, .int .u64 0, .int .i64 0, .int .i64 0, .int .i64 0, .int .i64 0, .int .u64 0, .int .u64 0] 62))
  have HW1 : Hid (Below w.heap.size w w1) := Lib.hid (Below.trans (by go_grown) (hb1.mono (by simp; omega)))
  clear hs h1 hb1 hT
  have hne : w.heap.size ≠ w1.heap.size := by omega
  have hne1 : w.heap.size + 1 ≠ w1.heap.size := by omega
  go_wp2_with (first
    | (with_reducible refine fStore 62 w1.heap.size D 62 #[.int .i64 0, .slice none 0 0, .int .i64 0, .int .i64 0, .int .i64 0, .int .i64 0, .int .i64 0, .int .i64 0, .int .i64 0, .int .i64 0, .int .i64 0, .int .i64 0, .int .i64 0, .int .i64 0, .int .i64 0, .int .i64 0, .int .i64 0, .int .i64 0, .int .i64 0, .int .i64 0, .int .i64 0, .int .i64 0, .int .i64 0, .int .i64 0, .int .i64 0, .int .i64 0, .int .i64 0, .int .u64 0, .int .u64 0, .int .u64 0, .int .u64 0, .int .i64 0, .int .i64 0, .int .i64 0, .int .i64 0, .int .u64 0, .int .u64 0] (by kernel_rfl) (by kernel_rfl) (Blk.new _ _ _) HD1.out (by rw [HSZ.out]; kernel_rfl) HONE.out ?_)
    | (with_reducible refine fLoad 46 w.heap.size 46 C (by kernel_rfl) (HB1.out.far_row hne D) Tryd.underlying46 (by kernel_rfl) HIE.out ?_)
    | (with_reducible refine fLoad 48 (w.heap.size + 1) 48 #[.int .i64 a, .int .i64 k, .int .i64 v] (by kernel_rfl) (HO1.out.far_row hne1 D) Tryd.underlying48 (by kernel_rfl) (by kernel_rfl) ?_))
  with_reducible refine (HDN.out _).mono ?_
  rintro e w2 ⟨F, rfl, hF, hb2⟩
  have hB1w : Below w1.heap.size w1 ((w1.alloc (.cells #[.int .i64 0, .slice none 0 0, .int .i64 0, .int .i64 0, .int .i64 0, .int .i64 0, .int .i64 0, .int .i64 0, .int .i64 0, .int .i64 0, .int .i64 0, .int .i64 0, .int .i64 0, .int .i64 0, .int .i64 0, .int .i64 0, .int .i64 0, .int .i64 0, .int .i64 0, .int .i64 0, .int .i64 0, .int .i64 0, .int .i64 0, .int .i64 0, .int .i64 0, .int .i64 0, .int .i64 0, .int .u64 0, .int .u64 0, .int .u64 0, .int .u64 0, .int .i64 0, .int .i64 0, .int .i64 0, .int .i64 0, .int .u64 0, .int .u64 0] 62)).setRow w1.heap.size D) := below_setRow ((Below.refl _ _).alloc (Nat.le_refl _) _) (Nat.le_refl _) D
  have hB2w : Below w1.heap.size w1 w2 := hB1w.trans (hb2.mono hB1w.size)
  have hO2 := (HO1.out.far_row hne1 D).below hb2 (HO1.out.far_row hne1 D).lt
  have hX2 := (Blk.setRow (Blk.new w1 62 #[.int .i64 0, .slice none 0 0, .int .i64 0, .int .i64 0, .int .i64 0, .int .i64 0, .int .i64 0, .int .i64 0, .int .i64 0, .int .i64 0, .int .i64 0, .int .i64 0, .int .i64 0, .int .i64 0, .int .i64 0, .int .i64 0, .int .i64 0, .int .i64 0, .int .i64 0, .int .i64 0, .int .i64 0, .int .i64 0, .int .i64 0, .int .i64 0, .int .i64 0, .int .i64 0, .int .i64 0, .int .u64 0, .int .u64 0, .int .u64 0, .int .u64 0, .int .i64 0, .int .i64 0, .int .i64 0, .int .i64 0, .int .u64 0, .int .u64 0]) D).below hb2 (Blk.setRow (Blk.new w1 62 #[.int .i64 0, .slice none 0 0, .int .i64 0, .int .i64 0, .int .i64 0, .int .i64 0, .int .i64 0, .int .i64 0, .int .i64 0, .int .i64 0, .int .i64 0, .int .i64 0, .int .i64 0, .int .i64 0, .int .i64 0, .int .i64 0, .int .i64 0, .int .i64 0, .int .i64 0, .int .i64 0, .int .i64 0, .int .i64 0, .int .i64 0, .int .i64 0, .int .i64 0, .int .i64 0, .int .i64 0, .int .u64 0, .int .u64 0, .int .u64 0, .int .u64 0, .int .i64 0, .int .i64 0, .int .i64 0, .int .i64 0, .int .u64 0, .int .u64 0]) D).lt
  have hW2 : Below w.heap.size w w2 := HW1.out.trans (hB2w.mono HW1.out.size)
  have HF := Lib.hid hF
  have HIF : Hid ((Tryd.prog.info? 46).map (·.size) = some F.size) := by show _ = _; rw [infoRx, hF.size]
  have hB3 : Below w2.heap.size w2 ((w2.alloc (.cells #[.int .u64 0, .int .u64 0, .int .u64 0, .int .u64 0, .int .u64 0, .int .u64 0, .int .u64 0, .int .u64 0, .int .u64 0, .int .u64 0, .int .u64 0, .int .u64 0, .int .u64 0, .int .u64 0, .int .u64 0, .int .u64 0, .int .u64 0, .int .u64 0, .int .u64 0, .int .u64 0, .int .u64 0, .int .u64 0, .int .u64 0, .int .u64 0, .int .u64 0, .int .u64 0, .int .u64 0, .int .u64 0, .int .u64 0, .int .u64 0, .int .u64 0, .int .u64 0] 46)).setRow w2.heap.size F) := below_setRow ((Below.refl _ _).alloc (Nat.le_refl _) _) (Nat.le_refl _) F
  have HQ3 := Lib.hid (Blk.setRow (Blk.new w2 46 #[.int .u64 0, .int .u64 0, .int .u64 0, .int .u64 0, .int .u64 0, .int .u64 0, .int .u64 0, .int .u64 0, .int .u64 0, .int .u64 0, .int .u64 0, .int .u64 0, .int .u64 0, .int .u64 0, .int .u64 0, .int .u64 0, .int .u64 0, .int .u64 0, .int .u64 0, .int .u64 0, .int .u64 0, .int .u64 0, .int .u64 0, .int .u64 0, .int .u64 0, .int .u64 0, .int .u64 0, .int .u64 0, .int .u64 0, .int .u64 0, .int .u64 0, .int .u64 0]) F)
  have HO3 := Lib.hid (hO2.below hB3 hO2.lt)
  have HX3 := Lib.hid (hX2.below hB3 hX2.lt)
  have HW3 := Lib.hid (hW2.trans (hB3.mono hW2.size))
  clear hb2 hB1w hB2w hO2 hX2 hW2 hF hB3 HB0 HO0 HS HB1 HO1 HW1 HDN
  go_wp2_with (with_reducible refine fStore 46 w2.heap.size F 46 #[.int .u64 0, .int .u64 0, .int .u64 0, .int .u64 0, .int .u64 0, .int .u64 0, .int .u64 0, .int .u64 0, .int .u64 0, .int .u64 0, .int .u64 0, .int .u64 0, .int .u64 0, .int .u64 0, .int .u64 0, .int .u64 0, .int .u64 0, .int .u64 0, .int .u64 0, .int .u64 0, .int .u64 0, .int .u64 0, .int .u64 0, .int .u64 0, .int .u64 0, .int .u64 0, .int .u64 0, .int .u64 0, .int .u64 0, .int .u64 0, .int .u64 0, .int .u64 0] (by kernel_rfl) (by kernel_rfl) (Blk.new _ _ _) HIF.out (by rw [HF.out.size]; kernel_rfl) HF.out.one ?_)
  with_reducible refine (bare1 _ (HG.out.below HW3.out)).mono ?_
  rintro e w5 ⟨rfl, hb5⟩
  have HQ5 := Lib.hid (HQ3.out.below hb5 HQ3.out.lt)
  have HW5 := Lib.hid (HW3.out.trans (hb5.mono HW3.out.size))
  clear hb5
  have heq : ∀ w, (Op.equalIn 10000 46 (.agg F) (.agg #[.int .u64 0, .int .u64 0, .int .u64 0, .int .u64 0, .int .u64 0, .int .u64 0, .int .u64 0, .int .u64 0, .int .u64 0, .int .u64 0, .int .u64 0, .int .u64 0, .int .u64 0, .int .u64 0, .int .u64 0, .int .u64 0, .int .u64 0, .int .u64 0, .int .u64 0, .int .u64 0, .int .u64 0, .int .u64 0, .int .u64 0, .int .u64 0, .int .u64 0, .int .u64 0, .int .u64 0, .int .u64 0, .int .u64 0, .int .u64 0, .int .u64 0, .int .u64 0])).run Tryd.prog w = .ok true w := eqRecD HF.out (U64s.zero 32)
  go_wp2_with ((with_reducible refine fLoadG 46 w2.heap.size 46 F (by kernel_rfl) HQ5.out Tryd.underlying46 (by kernel_rfl) HIF.out ?_ ?_); (first | (go_simp; done) | rfl))
  go_ret
  exact ⟨rfl, HW5.out⟩

set_option maxRecDepth 100000 in
set_option maxHeartbeats 4000000 in
theorem rdw_op (C : Array Value) (z : Nat → Int) (t a k v : Int) (w : World) (h : U64s C 32 z) (hb : recOk z) (ho : opRightB a k v = false) (ht : 0 ≤ t ∧ t < 4) (hg : ErrT w) :
    Calls Tryd.prog 4 #[.agg C, .int .i64 t, .agg #[.int .i64 a, .int .i64 k, .int .i64 v]] w fun e w' => e = .returned (.bool true) ∧ Below w.heap.size w w' := by
  have HYZ : Hid (recOk z) := Lib.hid hb
  have HDN : Hid (∀ W : World, Calls Tryd.prog 15 #[.agg C, .int .i64 t, .agg #[.int .i64 a, .int .i64 k, .int .i64 v]] W fun e w' => ∃ F, e = .returned (.tuple #[.agg F, .iface 39 (.int .i64 1)]) ∧ U64s F 32 (fun _ => 0) ∧ Below W.heap.size W w') := Lib.hid fun W => (rdone_op C z t a k v W h ht hb ho).mono fun e w' ⟨he, hb⟩ => ⟨_, he, U64s.zero 32, hb⟩
  have HIE : Hid ((Tryd.prog.info? 46).map (·.size) = some C.size) := by show _ = _; rw [infoRx, h.size]
  have HG := Lib.hid hg
  have hB0 : Blk ((w.alloc (.cells C 46)).alloc (.cells #[.int .i64 a, .int .i64 k, .int .i64 v] 48)) w.heap.size 46 C := (Blk.new _ _ _).alloc _
  have hO0 : Blk ((w.alloc (.cells C 46)).alloc (.cells #[.int .i64 a, .int .i64 k, .int .i64 v] 48)) (w.heap.size + 1) 48 #[.int .i64 a, .int .i64 k, .int .i64 v] := Blk.newAt _ _ _ (by simp)
  have HS := Lib.hid (SlU.of_blk (n := 32) (c := 32) (o := 0) hB0 h (by omega) (by omega) (by omega))
  have HB0 := Lib.hid hB0
  have HO0 := Lib.hid hO0
  obtain ⟨h0, h4⟩ := ht
  have d0 : ¬ t < 0 := by omega
  have d4 : ¬ 4 ≤ t := by omega
  have HOP := Lib.hid ho
  clear h hg hB0 hO0 hb ho
  go_enter Tryd.func4, Tryd.ntmps4
  go_wp2_with fail
  with_reducible refine (recOf_any _ 32 z true _ (by simpa using HS.out) (⟨fun _ => HYZ.out, fun _ => rfl⟩)).mono ?_
  rintro e w1 ⟨hb1, D, hs, h1, rfl, hT⟩
  have hz1 := hb1.size
  simp only [World.size_alloc] at hz1
  have HD1 : Hid ((Tryd.prog.info? 62).map (·.size) = some D.size) := by show _ = _; rw [infoRc, hs]
  have HONE := Lib.hid h1
  have HSZ := Lib.hid hs
  have HT1 : Hid (RecT z D w1) := Lib.hid (hT rfl)
  have HB1 := Lib.hid ((HB0.out.below hb1 (by simp; omega)).alloc (.cells #[.int .i64 0, .slice none 0 0, .int .i64 0, .int .i64 0, .int .i64 0, .int .i64 0, .int .i64 0, .int .i64 0, .int .i64 0, .int .i64 0, .int .i64 0, .int .i64 0, .int .i64 0, .int .i64 0, .int .i64 0, .int .i64 0, .int .i64 0, .int .i64 0, .int .i64 0, .int .i64 0, .int .i64 0, .int .i64 0, .int .i64 0, .int .i64 0, .int .i64 0, .int .i64 0, .int .i64 0, .int .u64 0, .int .u64 0, .int .u64 0, .int .u64 0, .int .i64 0, .int .i64 0, .int .i64 0, .int .i64 0, .int .u64 0, .int .u64 0] 62))
  have HO1 := Lib.hid ((HO0.out.below hb1 (by simp)).alloc (.cells #[.int .i64 0, .slice none 0 0, .int .i64 0, .int .i64 0, .int .i64 0, .int .i64 0, .int .i64 0, .int .i64 0, .int .i64 0, .int .i64 0, .int .i64 0, .int .i64 0, .int .i64 0, .int .i64 0, .int .i64 0, .int .i64 0, .int .i64 0, .int .i64 0, .int .i64 0, .int .i64 0, .int .i64 0, .int .i64 0, .int .i64 0, .int .i64 0, .int .i64 0, .int .i64 0, .int .i64 0, .int .u64 0, .int .u64 0, .int .u64 0, .int .u64 0, .int .i64 0, .int .i64 0, .int .i64 0, .int .i64 0, .int .u64 0, .int .u64 0] 62))
  have HW1 : Hid (Below w.heap.size w w1) := Lib.hid (Below.trans (by go_grown) (hb1.mono (by simp; omega)))
  clear hs h1 hb1 hT
  have hne : w.heap.size ≠ w1.heap.size := by omega
  have hne1 : w.heap.size + 1 ≠ w1.heap.size := by omega
  go_wp2_with (first
    | (with_reducible refine fStore 62 w1.heap.size D 62 #[.int .i64 0, .slice none 0 0, .int .i64 0, .int .i64 0, .int .i64 0, .int .i64 0, .int .i64 0, .int .i64 0, .int .i64 0, .int .i64 0, .int .i64 0, .int .i64 0, .int .i64 0, .int .i64 0, .int .i64 0, .int .i64 0, .int .i64 0, .int .i64 0, .int .i64 0, .int .i64 0, .int .i64 0, .int .i64 0, .int .i64 0, .int .i64 0, .int .i64 0, .int .i64 0, .int .i64 0, .int .u64 0, .int .u64 0, .int .u64 0, .int .u64 0, .int .i64 0, .int .i64 0, .int .i64 0, .int .i64 0, .int .u64 0, .int .u64 0] (by kernel_rfl) (by kernel_rfl) (Blk.new _ _ _) HD1.out (by rw [HSZ.out]; kernel_rfl) HONE.out ?_)
    | (with_reducible refine fLoad 46 w.heap.size 46 C (by kernel_rfl) (HB1.out.far_row hne D) Tryd.underlying46 (by kernel_rfl) HIE.out ?_)
    | (with_reducible refine fLoad 48 (w.heap.size + 1) 48 #[.int .i64 a, .int .i64 k, .int .i64 v] (by kernel_rfl) (HO1.out.far_row hne1 D) Tryd.underlying48 (by kernel_rfl) (by kernel_rfl) ?_))
  with_reducible refine (HDN.out _).mono ?_
  rintro e w2 ⟨F, rfl, hF, hb2⟩
  have hB1w : Below w1.heap.size w1 ((w1.alloc (.cells #[.int .i64 0, .slice none 0 0, .int .i64 0, .int .i64 0, .int .i64 0, .int .i64 0, .int .i64 0, .int .i64 0, .int .i64 0, .int .i64 0, .int .i64 0, .int .i64 0, .int .i64 0, .int .i64 0, .int .i64 0, .int .i64 0, .int .i64 0, .int .i64 0, .int .i64 0, .int .i64 0, .int .i64 0, .int .i64 0, .int .i64 0, .int .i64 0, .int .i64 0, .int .i64 0, .int .i64 0, .int .u64 0, .int .u64 0, .int .u64 0, .int .u64 0, .int .i64 0, .int .i64 0, .int .i64 0, .int .i64 0, .int .u64 0, .int .u64 0] 62)).setRow w1.heap.size D) := below_setRow ((Below.refl _ _).alloc (Nat.le_refl _) _) (Nat.le_refl _) D
  have hB2w : Below w1.heap.size w1 w2 := hB1w.trans (hb2.mono hB1w.size)
  have hO2 := (HO1.out.far_row hne1 D).below hb2 (HO1.out.far_row hne1 D).lt
  have hX2 := (Blk.setRow (Blk.new w1 62 #[.int .i64 0, .slice none 0 0, .int .i64 0, .int .i64 0, .int .i64 0, .int .i64 0, .int .i64 0, .int .i64 0, .int .i64 0, .int .i64 0, .int .i64 0, .int .i64 0, .int .i64 0, .int .i64 0, .int .i64 0, .int .i64 0, .int .i64 0, .int .i64 0, .int .i64 0, .int .i64 0, .int .i64 0, .int .i64 0, .int .i64 0, .int .i64 0, .int .i64 0, .int .i64 0, .int .i64 0, .int .u64 0, .int .u64 0, .int .u64 0, .int .u64 0, .int .i64 0, .int .i64 0, .int .i64 0, .int .i64 0, .int .u64 0, .int .u64 0]) D).below hb2 (Blk.setRow (Blk.new w1 62 #[.int .i64 0, .slice none 0 0, .int .i64 0, .int .i64 0, .int .i64 0, .int .i64 0, .int .i64 0, .int .i64 0, .int .i64 0, .int .i64 0, .int .i64 0, .int .i64 0, .int .i64 0, .int .i64 0, .int .i64 0, .int .i64 0, .int .i64 0, .int .i64 0, .int .i64 0, .int .i64 0, .int .i64 0, .int .i64 0, .int .i64 0, .int .i64 0, .int .i64 0, .int .i64 0, .int .i64 0, .int .u64 0, .int .u64 0, .int .u64 0, .int .u64 0, .int .i64 0, .int .i64 0, .int .i64 0, .int .i64 0, .int .u64 0, .int .u64 0]) D).lt
  have hT2 : RecT z D w2 := ⟨HT1.out.1, HT1.out.2.below hB2w⟩
  have hW2 : Below w.heap.size w w2 := HW1.out.trans (hB2w.mono HW1.out.size)
  have HF := Lib.hid hF
  have HIF : Hid ((Tryd.prog.info? 46).map (·.size) = some F.size) := by show _ = _; rw [infoRx, hF.size]
  have hB3 : Below w2.heap.size w2 ((w2.alloc (.cells #[.int .u64 0, .int .u64 0, .int .u64 0, .int .u64 0, .int .u64 0, .int .u64 0, .int .u64 0, .int .u64 0, .int .u64 0, .int .u64 0, .int .u64 0, .int .u64 0, .int .u64 0, .int .u64 0, .int .u64 0, .int .u64 0, .int .u64 0, .int .u64 0, .int .u64 0, .int .u64 0, .int .u64 0, .int .u64 0, .int .u64 0, .int .u64 0, .int .u64 0, .int .u64 0, .int .u64 0, .int .u64 0, .int .u64 0, .int .u64 0, .int .u64 0, .int .u64 0] 46)).setRow w2.heap.size F) := below_setRow ((Below.refl _ _).alloc (Nat.le_refl _) _) (Nat.le_refl _) F
  have HQ3 := Lib.hid (Blk.setRow (Blk.new w2 46 #[.int .u64 0, .int .u64 0, .int .u64 0, .int .u64 0, .int .u64 0, .int .u64 0, .int .u64 0, .int .u64 0, .int .u64 0, .int .u64 0, .int .u64 0, .int .u64 0, .int .u64 0, .int .u64 0, .int .u64 0, .int .u64 0, .int .u64 0, .int .u64 0, .int .u64 0, .int .u64 0, .int .u64 0, .int .u64 0, .int .u64 0, .int .u64 0, .int .u64 0, .int .u64 0, .int .u64 0, .int .u64 0, .int .u64 0, .int .u64 0, .int .u64 0, .int .u64 0]) F)
  have HO3 := Lib.hid (hO2.below hB3 hO2.lt)
  have HX3 := Lib.hid (hX2.below hB3 hX2.lt)
  have HT3 : Hid (RecT z D ((w2.alloc (.cells #[.int .u64 0, .int .u64 0, .int .u64 0, .int .u64 0, .int .u64 0, .int .u64 0, .int .u64 0, .int .u64 0, .int .u64 0, .int .u64 0, .int .u64 0, .int .u64 0, .int .u64 0, .int .u64 0, .int .u64 0, .int .u64 0, .int .u64 0, .int .u64 0, .int .u64 0, .int .u64 0, .int .u64 0, .int .u64 0, .int .u64 0, .int .u64 0, .int .u64 0, .int .u64 0, .int .u64 0, .int .u64 0, .int .u64 0, .int .u64 0, .int .u64 0, .int .u64 0] 46)).setRow w2.heap.size F)) := Lib.hid ⟨hT2.1, hT2.2.below hB3⟩
  clear hT2 HT1
  have HW3 := Lib.hid (hW2.trans (hB3.mono hW2.size))
  clear hb2 hB1w hB2w hO2 hX2 hW2 hF hB3 HB0 HO0 HS HB1 HO1 HW1 HDN
  go_wp2_with (first
    | (with_reducible refine fStore 46 w2.heap.size F 46 #[.int .u64 0, .int .u64 0, .int .u64 0, .int .u64 0, .int .u64 0, .int .u64 0, .int .u64 0, .int .u64 0, .int .u64 0, .int .u64 0, .int .u64 0, .int .u64 0, .int .u64 0, .int .u64 0, .int .u64 0, .int .u64 0, .int .u64 0, .int .u64 0, .int .u64 0, .int .u64 0, .int .u64 0, .int .u64 0, .int .u64 0, .int .u64 0, .int .u64 0, .int .u64 0, .int .u64 0, .int .u64 0, .int .u64 0, .int .u64 0, .int .u64 0, .int .u64 0] (by kernel_rfl) (by kernel_rfl) (Blk.new _ _ _) HIF.out (by rw [HF.out.size]; kernel_rfl) HF.out.one ?_)
    | ((with_reducible refine fLoadG 48 (w.heap.size + 1) 48 #[.int .i64 a, .int .i64 k, .int .i64 v] (by kernel_rfl) HO3.out Tryd.underlying48 (by kernel_rfl) (by kernel_rfl) ?_ ?_); (first | (go_simp; done) | rfl)))
  all_goals (try (exfalso; omega))
  with_reducible refine (refOpRight_any a k v _).mono ?_
  rintro e w4 ⟨rfl, hb4⟩
  rw [HOP.out]
  have HQ4 := Lib.hid (HQ3.out.below hb4 HQ3.out.lt)
  have HW4 := Lib.hid (HW3.out.trans (hb4.mono HW3.out.size))
  clear hb4
  go_wp2_with fail
  with_reducible refine (bare1 _ (HG.out.below HW4.out)).mono ?_
  rintro e w5 ⟨rfl, hb5⟩
  have HQ5 := Lib.hid (HQ4.out.below hb5 HQ4.out.lt)
  have HW5 := Lib.hid (HW4.out.trans (hb5.mono HW4.out.size))
  clear hb5
  have heq : ∀ w, (Op.equalIn 10000 46 (.agg F) (.agg #[.int .u64 0, .int .u64 0, .int .u64 0, .int .u64 0, .int .u64 0, .int .u64 0, .int .u64 0, .int .u64 0, .int .u64 0, .int .u64 0, .int .u64 0, .int .u64 0, .int .u64 0, .int .u64 0, .int .u64 0, .int .u64 0, .int .u64 0, .int .u64 0, .int .u64 0, .int .u64 0, .int .u64 0, .int .u64 0, .int .u64 0, .int .u64 0, .int .u64 0, .int .u64 0, .int .u64 0, .int .u64 0, .int .u64 0, .int .u64 0, .int .u64 0, .int .u64 0])).run Tryd.prog w = .ok true w := eqRecD HF.out (U64s.zero 32)
  go_wp2_with ((with_reducible refine fLoadG 46 w2.heap.size 46 F (by kernel_rfl) HQ5.out Tryd.underlying46 (by kernel_rfl) HIF.out ?_ ?_); (first | (go_simp; done) | rfl))
  go_ret
  exact ⟨rfl, HW5.out⟩

end Go.Proofs.YtmfjmmplcbpokaaDoor.lawRecordDoes
