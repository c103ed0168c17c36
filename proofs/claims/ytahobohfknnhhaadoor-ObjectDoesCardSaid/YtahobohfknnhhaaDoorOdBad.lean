/-
  ObjectDoes: the operation or the words are not right.
-/
import Derived.Test.YtahobohfknnhhaaDoorLawK
import Derived.Test.YtahobohfknnhhaaDoorMWord
import Derived.Test.YtahobohfknnhhaaDoorMBase
namespace Go.Proofs.YtahobohfknnhhaaDoor.lawObjectDoes
set_option linter.unusedSimpArgs false
set_option linter.unusedVariables false
set_option linter.unusedSectionVars false
open Go.RowKit Go.ChangeShapes Go.WideShapes Go.ChangeAt Go.Joins
attribute [local go_sem ↓] Go.wp_at_zero Go.wp_at_succ
set_option maxRecDepth 100000 in
set_option maxHeartbeats 4000000 in
theorem walk_bad (C : Array Value) (z : Nat → Int) (kind a k v : Int) (b : Bool) (w : World) (h : U64s C 17 z) (hb : b = true ↔ thingOk kind z) (hbad : b = false ∨ opRightB a k v = false) (hg : ErrT w) :
    Calls Tryd.prog 9 #[.int .i64 kind, .agg C, .agg #[.int .i64 a, .int .i64 k, .int .i64 v]] w fun e w' => e = .returned (.bool true) ∧ Below w.heap.size w w' := by
  obtain ⟨Z0, hZ0⟩ : ∃ Z0 : Array Value, Z0 = #[.int .u64 0, .int .u64 0, .int .u64 0, .int .u64 0, .int .u64 0, .int .u64 0, .int .u64 0, .int .u64 0, .int .u64 0, .int .u64 0, .int .u64 0, .int .u64 0, .int .u64 0, .int .u64 0, .int .u64 0, .int .u64 0, .int .u64 0] := ⟨_, rfl⟩
  have HZI : Hid ((Tryd.prog.info? 76).map (·.size) = some Z0.size) := by show _ = _; rw [hZ0]; exact infoOC
  have HZS : Hid (Z0.size = 17) := by show _ = _; rw [hZ0]; rfl
  have HZ1 : Hid (Z0.all (·.oneCell') = true) := by show _ = _; rw [hZ0]; kernel_rfl
  have HIE : Hid ((Tryd.prog.info? 76).map (·.size) = some C.size) := by show _ = _; rw [infoOC, h.size]
  have HDO : Hid (∀ W : World, Calls Tryd.prog 31 #[.int .i64 kind, .agg C, .agg #[.int .i64 a, .int .i64 k, .int .i64 v]] W fun e w' => e = .returned (.tuple #[.agg Z0, .agg #[.int .i64 0, .int .i64 0], .iface 38 (.int .i64 1)]) ∧ Below W.heap.size W w') := Lib.hid fun W => by
    rw [hZ0]
    cases hop : opRightB a k v
    · exact objDo_op C z kind a k v W h hop
    · rcases hbad with hbad | hbad
      · exact objDo_bad C z kind a k v W h hop (fun ht => by rw [hb.2 ht] at hbad; cases hbad)
      · rw [hop] at hbad; cases hbad
  have HB := Lib.hid hb
  have HG := Lib.hid hg
  have hB0 : Blk ((w.alloc (.cells C 76)).alloc (.cells #[.int .i64 a, .int .i64 k, .int .i64 v] 26)) w.heap.size 76 C := (Blk.new _ _ _).alloc _
  have hO0 : Blk ((w.alloc (.cells C 76)).alloc (.cells #[.int .i64 a, .int .i64 k, .int .i64 v] 26)) (w.heap.size + 1) 26 #[.int .i64 a, .int .i64 k, .int .i64 v] := Blk.newAt _ _ _ (by simp)
  have HS := Lib.hid (SlU.of_blk (n := 17) (c := 17) (o := 0) hB0 h (by omega) (by omega) (by omega))
  have HB0 := Lib.hid hB0
  have HO0 := Lib.hid hO0
  have HBAD := Lib.hid hbad
  have heq : ∀ w : World, (Op.equalIn 10000 76 (.agg Z0) (.agg #[.int .u64 0, .int .u64 0, .int .u64 0, .int .u64 0, .int .u64 0, .int .u64 0, .int .u64 0, .int .u64 0, .int .u64 0, .int .u64 0, .int .u64 0, .int .u64 0, .int .u64 0, .int .u64 0, .int .u64 0, .int .u64 0, .int .u64 0])).run Tryd.prog w = .ok true w := fun w => by
    rw [hZ0]
    exact eq_cells (D := #[.int .u64 0, .int .u64 0, .int .u64 0, .int .u64 0, .int .u64 0, .int .u64 0, .int .u64 0, .int .u64 0, .int .u64 0, .int .u64 0, .int .u64 0, .int .u64 0, .int .u64 0, .int .u64 0, .int .u64 0, .int .u64 0, .int .u64 0]) (z := fun _ => 0) (U64s.zero 17) w
  clear hZ0 h hb hB0 hO0 hg hbad
  go_enter Tryd.func9, Tryd.ntmps9
  go_wp2_with fail
  with_reducible refine (thing_any _ 17 z kind b _ (by simpa using HS.out) HB.out).mono ?_
  rintro e w1 ⟨hb1, D, hs, h1, rfl, _⟩
  have hz1 := hb1.size
  simp only [World.size_alloc] at hz1
  have HD1 : Hid ((Tryd.prog.info? 83).map (·.size) = some D.size) := by show _ = _; rw [infoTh, hs]
  have HONE := Lib.hid h1
  have HSZ := Lib.hid hs
  have HB1 := Lib.hid ((HB0.out.below hb1 (by simp; omega)).alloc (.cells #[.int .i64 0, .slice none 0 0, .int .i64 0, .int .i64 0, .int .i64 0, .int .i64 0, .int .i64 0, .int .i64 0, .int .i64 0, .int .i64 0, .int .i64 0, .int .i64 0, .int .i64 0, .int .i64 0, .int .i64 0, .int .i64 0, .int .i64 0, .int .i64 0, .int .i64 0] 83))
  have HO1 := Lib.hid ((HO0.out.below hb1 (by simp)).alloc (.cells #[.int .i64 0, .slice none 0 0, .int .i64 0, .int .i64 0, .int .i64 0, .int .i64 0, .int .i64 0, .int .i64 0, .int .i64 0, .int .i64 0, .int .i64 0, .int .i64 0, .int .i64 0, .int .i64 0, .int .i64 0, .int .i64 0, .int .i64 0, .int .i64 0, .int .i64 0] 83))
  have HW1 : Hid (Below w.heap.size w w1) := Lib.hid (Below.trans (by go_grown) (hb1.mono (by simp; omega)))
  clear hs h1 hb1
  have hne : w.heap.size ≠ w1.heap.size := by omega
  have hne1 : w.heap.size + 1 ≠ w1.heap.size := by omega
  go_wp2_with (first
    | (with_reducible refine fStore 83 w1.heap.size D 83 #[.int .i64 0, .slice none 0 0, .int .i64 0, .int .i64 0, .int .i64 0, .int .i64 0, .int .i64 0, .int .i64 0, .int .i64 0, .int .i64 0, .int .i64 0, .int .i64 0, .int .i64 0, .int .i64 0, .int .i64 0, .int .i64 0, .int .i64 0, .int .i64 0, .int .i64 0] (by kernel_rfl) (by kernel_rfl) (Blk.new _ _ _) HD1.out (by rw [HSZ.out]; kernel_rfl) HONE.out ?_)
    | (with_reducible refine fLoad 76 w.heap.size 76 C (by kernel_rfl) (HB1.out.far_row hne D) Tryd.underlying76 (by kernel_rfl) HIE.out ?_)
    | (with_reducible refine fLoad 26 (w.heap.size + 1) 26 #[.int .i64 a, .int .i64 k, .int .i64 v] (by kernel_rfl) (HO1.out.far_row hne1 D) Tryd.underlying26 (by kernel_rfl) (by kernel_rfl) ?_))
  with_reducible refine (HDO.out _).mono ?_
  rintro e w2 ⟨rfl, hb2⟩
  have hW2 : Below w.heap.size w w2 := (below_setRow (HW1.out.alloc HW1.out.size (.cells #[.int .i64 0, .slice none 0 0, .int .i64 0, .int .i64 0, .int .i64 0, .int .i64 0, .int .i64 0, .int .i64 0, .int .i64 0, .int .i64 0, .int .i64 0, .int .i64 0, .int .i64 0, .int .i64 0, .int .i64 0, .int .i64 0, .int .i64 0, .int .i64 0, .int .i64 0] 83)) (show w.heap.size ≤ w1.heap.size by omega) D).trans (hb2.mono (below_setRow (HW1.out.alloc HW1.out.size (.cells #[.int .i64 0, .slice none 0 0, .int .i64 0, .int .i64 0, .int .i64 0, .int .i64 0, .int .i64 0, .int .i64 0, .int .i64 0, .int .i64 0, .int .i64 0, .int .i64 0, .int .i64 0, .int .i64 0, .int .i64 0, .int .i64 0, .int .i64 0, .int .i64 0, .int .i64 0] 83)) (show w.heap.size ≤ w1.heap.size by omega) D).size)
  have HO2 := Lib.hid ((HO1.out.far_row hne1 D).below hb2 (HO1.out.far_row hne1 D).lt)
  have hlt2 := HO2.out.lt
  have HW2 := Lib.hid hW2
  clear hb2 hW2 HO1 HB1 HW1 HO0 HB0 HS HDO
  have HW3 := Lib.hid (below_setRow (below_setRow ((HW2.out.alloc HW2.out.size (.cells #[.int .u64 0, .int .u64 0, .int .u64 0, .int .u64 0, .int .u64 0, .int .u64 0, .int .u64 0, .int .u64 0, .int .u64 0, .int .u64 0, .int .u64 0, .int .u64 0, .int .u64 0, .int .u64 0, .int .u64 0, .int .u64 0, .int .u64 0] 76)).alloc (by have := HW2.out.size; simp; omega) (.cells #[.int .i64 0, .int .i64 0] 88)) (show w.heap.size ≤ w2.heap.size from HW2.out.size) Z0) (show w.heap.size ≤ w2.heap.size + 1 by have := HW2.out.size; omega) #[.int .i64 0, .int .i64 0])
  have HE3 := Lib.hid (Blk.far_row (Blk.setRow ((Blk.new w2 76 #[.int .u64 0, .int .u64 0, .int .u64 0, .int .u64 0, .int .u64 0, .int .u64 0, .int .u64 0, .int .u64 0, .int .u64 0, .int .u64 0, .int .u64 0, .int .u64 0, .int .u64 0, .int .u64 0, .int .u64 0, .int .u64 0, .int .u64 0]).alloc (.cells #[.int .i64 0, .int .i64 0] 88)) Z0) (show w2.heap.size ≠ w2.heap.size + 1 by omega) #[.int .i64 0, .int .i64 0])
  have HA3 : Hid (Blk ((((w2.alloc (.cells #[.int .u64 0, .int .u64 0, .int .u64 0, .int .u64 0, .int .u64 0, .int .u64 0, .int .u64 0, .int .u64 0, .int .u64 0, .int .u64 0, .int .u64 0, .int .u64 0, .int .u64 0, .int .u64 0, .int .u64 0, .int .u64 0, .int .u64 0] 76)).alloc (.cells #[.int .i64 0, .int .i64 0] 88)).setRow w2.heap.size Z0).setRow (w2.heap.size + 1) #[.int .i64 0, .int .i64 0]) (w2.heap.size + 1) 88 #[.int .i64 0, .int .i64 0]) := Lib.hid (Blk.setRow (Blk.far_row (Blk.newAt _ _ _ (by simp)) (by omega) _) _)
  have HO3 := Lib.hid (Blk.far_row (Blk.far_row ((HO2.out.alloc (.cells #[.int .u64 0, .int .u64 0, .int .u64 0, .int .u64 0, .int .u64 0, .int .u64 0, .int .u64 0, .int .u64 0, .int .u64 0, .int .u64 0, .int .u64 0, .int .u64 0, .int .u64 0, .int .u64 0, .int .u64 0, .int .u64 0, .int .u64 0] 76)).alloc (.cells #[.int .i64 0, .int .i64 0] 88)) (show w.heap.size + 1 ≠ w2.heap.size by omega) Z0) (show w.heap.size + 1 ≠ w2.heap.size + 1 by omega) #[.int .i64 0, .int .i64 0])
  cases b
  · go_wp2_with (first
      | (with_reducible refine fStore 76 w2.heap.size Z0 76 #[.int .u64 0, .int .u64 0, .int .u64 0, .int .u64 0, .int .u64 0, .int .u64 0, .int .u64 0, .int .u64 0, .int .u64 0, .int .u64 0, .int .u64 0, .int .u64 0, .int .u64 0, .int .u64 0, .int .u64 0, .int .u64 0, .int .u64 0] (by kernel_rfl) (by kernel_rfl) ((Blk.new _ _ _).alloc _) HZI.out (by rw [HZS.out]; kernel_rfl) HZ1.out ?_)
      | (with_reducible refine fStore 88 (w2.heap.size + 1) #[.int .i64 0, .int .i64 0] 88 #[.int .i64 0, .int .i64 0] (by kernel_rfl) (by kernel_rfl) (Blk.far_row (Blk.newAt _ _ _ (by simp)) (by omega) _) (by kernel_rfl) (by kernel_rfl) (two_one 0 0) ?_))
    with_reducible refine (bare1 _ (HG.out.below HW3.out)).mono ?_
    rintro e w5 ⟨rfl, hb5⟩
    have HE5 := Lib.hid (HE3.out.below hb5 HE3.out.lt)
    have HA5 := Lib.hid (HA3.out.below hb5 HA3.out.lt)
    have HW5 := Lib.hid (HW3.out.trans (hb5.mono HW3.out.size))
    clear hb5
    go_wp2_with (first
      | ((with_reducible refine fLoadG 76 w2.heap.size 76 Z0 (by kernel_rfl) HE5.out Tryd.underlying76 (by kernel_rfl) HZI.out ?_ ?_); (first | (go_simp; done) | rfl))
      | ((with_reducible refine fLoadG 88 (w2.heap.size + 1) 88 #[.int .i64 0, .int .i64 0] (by kernel_rfl) HA5.out Tryd.underlying88 (by kernel_rfl) (by kernel_rfl) ?_ ?_); (first | (go_simp; done) | rfl)))
    go_ret
    exact ⟨rfl, HW5.out⟩
  · have hr0 : opRightB a k v = false := by
      rcases HBAD.out with h9 | h9
      · cases h9
      · exact h9
    have HR0 := Lib.hid hr0
    clear hr0
    go_wp2_with (first
      | (with_reducible refine fStore 76 w2.heap.size Z0 76 #[.int .u64 0, .int .u64 0, .int .u64 0, .int .u64 0, .int .u64 0, .int .u64 0, .int .u64 0, .int .u64 0, .int .u64 0, .int .u64 0, .int .u64 0, .int .u64 0, .int .u64 0, .int .u64 0, .int .u64 0, .int .u64 0, .int .u64 0] (by kernel_rfl) (by kernel_rfl) ((Blk.new _ _ _).alloc _) HZI.out (by rw [HZS.out]; kernel_rfl) HZ1.out ?_)
      | (with_reducible refine fStore 88 (w2.heap.size + 1) #[.int .i64 0, .int .i64 0] 88 #[.int .i64 0, .int .i64 0] (by kernel_rfl) (by kernel_rfl) (Blk.far_row (Blk.newAt _ _ _ (by simp)) (by omega) _) (by kernel_rfl) (by kernel_rfl) (two_one 0 0) ?_)
      | ((with_reducible refine fLoadG 26 (w.heap.size + 1) 26 #[.int .i64 a, .int .i64 k, .int .i64 v] (by kernel_rfl) HO3.out Tryd.underlying26 (by kernel_rfl) (by kernel_rfl) ?_ ?_); (first | (go_simp; done) | rfl)))
    with_reducible refine (refOpRight_any a k v _).mono ?_
    rintro e w4 ⟨rfl, hb4⟩
    rw [HR0.out]
    have HE4 := Lib.hid (HE3.out.below hb4 HE3.out.lt)
    have HA4 := Lib.hid (HA3.out.below hb4 HA3.out.lt)
    have HW4 := Lib.hid (HW3.out.trans (hb4.mono HW3.out.size))
    clear hb4
    go_wp2_with fail
    with_reducible refine (bare1 _ (HG.out.below HW4.out)).mono ?_
    rintro e w5 ⟨rfl, hb5⟩
    have HE5 := Lib.hid (HE4.out.below hb5 HE4.out.lt)
    have HA5 := Lib.hid (HA4.out.below hb5 HA4.out.lt)
    have HW5 := Lib.hid (HW4.out.trans (hb5.mono HW4.out.size))
    clear hb5
    go_wp2_with (first
      | ((with_reducible refine fLoadG 76 w2.heap.size 76 Z0 (by kernel_rfl) HE5.out Tryd.underlying76 (by kernel_rfl) HZI.out ?_ ?_); (first | (go_simp; done) | rfl))
      | ((with_reducible refine fLoadG 88 (w2.heap.size + 1) 88 #[.int .i64 0, .int .i64 0] (by kernel_rfl) HA5.out Tryd.underlying88 (by kernel_rfl) (by kernel_rfl) ?_ ?_); (first | (go_simp; done) | rfl)))
    go_ret
    exact ⟨rfl, HW5.out⟩


end Go.Proofs.YtahobohfknnhhaaDoor.lawObjectDoes
