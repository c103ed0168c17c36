/-
  Right returns what the reference returns, for every kind and every seventeen words. No condition.
-/
import Derived.Test.YtahobohfknnhhaaRows
import Derived.Test.YtahobohfknnhhaaFrame
import Derived.Test.YtahobohfknnhhaaOpen
import Derived.Test.YtahobohfknnhhaaThingA
namespace Go.Proofs.Ytahobohfknnhhaa.lawObjectRights
set_option linter.unusedSimpArgs false
set_option linter.unusedVariables false
set_option linter.unusedSectionVars false
open Go.RowKit Go.ChangeShapes Go.WideShapes Go.ChangeAt Go.Joins

attribute [local go_sem ↓] Go.wp_at_zero Go.wp_at_succ
set_option linter.unusedSimpArgs false
set_option linter.unusedVariables false

set_option maxRecDepth 100000 in
set_option maxHeartbeats 2000000 in
theorem walk (C : Array Value) (z : Nat → Int) (kind : Int) (w : World) (h : U64s C 17 z) :
    Calls Try.prog 3 #[.int .i64 kind, .agg C] w fun e w' => e = .returned (.bool true) ∧ Below w.heap.size w w' := by
  obtain ⟨r, hr⟩ : ∃ r : Bool, r = true ↔ thingOk kind z := by
    by_cases hh : thingOk kind z
    · exact ⟨true, fun _ => hh, fun _ => rfl⟩
    · exact ⟨false, fun h => Bool.noConfusion h, fun h => absurd h hh⟩
  have HIE : Hid ((Try.prog.info? 24).map (·.size) = some C.size) := by show _ = _; rw [infoOC, h.size]
  have HC := Lib.hid h
  have HR := Lib.hid hr
  have hB0 : Blk (w.alloc (.cells C 24)) w.heap.size 24 C := Blk.new _ _ _
  have HS := Lib.hid (SlU.of_blk (n := 17) (c := 17) (o := 0) hB0 h (by omega) (by omega) (by omega))
  have HB0 := Lib.hid hB0
  clear h hr hB0
  go_enter Try.func3, Try.ntmps3
  go_wp2_with fail
  refine (thing_any _ 17 z kind r _ (by simpa using HS.out) HR.out).mono ?_
  rintro e w1 ⟨hb1, D, hs, h1, rfl, _⟩
  have hz1 := hb1.size
  simp only [World.size_alloc] at hz1
  have HB1 := Lib.hid (HB0.out.below hb1 (by simp))
  have HD1 : Hid ((Try.prog.info? 31).map (·.size) = some D.size) := by show _ = _; rw [infoTh, hs]
  have HO := Lib.hid h1
  have HSZ := Lib.hid hs
  have hB : Below w.heap.size w w1 := Below.trans (by go_grown) (hb1.mono (by simp))
  clear hs h1 hb1
  have hne : w.heap.size ≠ w1.heap.size := by omega
  go_wp2_with (first
    | (refine wpList_store_row rfl 31 _ _ rfl w1.heap.size D rfl rfl 31 (tz 0) (Blk.new _ _ _) HD1.out (by rw [HSZ.out]; rfl) HO.out ?_)
    | (refine wpList_load_row rfl 24 _ rfl w.heap.size rfl 24 C (0, 0) _ ((setRow_other _ _ _ _ hne).trans (HB1.out.alloc _)) Try.underlying24 rfl HIE.out ?_))
  refine (objRight_any C z kind r _ HC.out HR.out).mono ?_
  rintro e w2 ⟨rfl, hb2⟩
  have hB2 := (below_setRow (hB.alloc hB.size (.cells (tz 0) 31)) (show w.heap.size ≤ w1.heap.size by omega) D)
  have hB3 := hB2.trans (hb2.mono hB2.size)
  go_wp2
  go_ret
  exact ⟨rfl, hB3⟩

theorem own : ownKnob Try.prog.godebug = none := by kernel_rfl

set_option maxRecDepth 100000 in
theorem lifted (os : Os) (started : os.Started) (H : Type) (enc : TypeId × Value → H) :
    ReturnsInHanded {} Try.checked os 3 .any (Rows.objectRightsSpec.pre6 enc Try.prog Try.f3 Rows.objectRightsRow.domain false) (Rows.objectRightsSpec.post enc Try.prog Try.f3 false true false false) := by
  refine law_lifted (C := Try.checked) own started (by kernel_rfl) Try.func3
    (ChangeSpec.witness6 (enc := enc) (C := Try.checked) false ⟨#[], #[.int .i64 0, .agg #[.int .u64 0, .int .u64 0, .int .u64 0, .int .u64 0, .int .u64 0, .int .u64 0, .int .u64 0, .int .u64 0, .int .u64 0, .int .u64 0, .int .u64 0, .int .u64 0, .int .u64 0, .int .u64 0, .int .u64 0, .int .u64 0, .int .u64 0]], []⟩ 8 (by kernel_rfl) (by kernel_rfl) (by kernel_rfl) (by kernel_rfl))
    (by kernel_rfl) (by kernel_rfl) rfl rfl Try.underlying4 ?_
  intro W base args ds ps hval0 hA0 hsz0
  have hval : ∀ (j : Nat) t v, Try.f3.params[j]? = some t → args[j]? = some v → Value.okWide Try.prog W .any base t v := hval0
  have hA : DataW.TrodAll enc Try.prog W 0 (fun _ => true) true Try.f3.params.toList args.toList ds ps := hA0
  rw [Try.params3] at hA hval
  obtain ⟨v0, v1, d0, d1, p0, p1, rfl, rfl, rfl, h0, h1⟩ := trodAll_two hA
  obtain ⟨kind, rfl, rfl, rfl, wkind⟩ := open_int Try.underlying3 (hval 0 3 v0 rfl rfl) h0
  obtain ⟨c, rfl, wc⟩ := open_flat 4 (K := List.replicate 17 .u64) (by kernel_rfl) (by kernel_rfl) (by kernel_rfl) (hval 1 24 v1 rfl rfl) h1
  have hU := flatU 17 wc
  exact ⟨rfl, walk _ c kind W hU⟩

theorem holds : Rows.ObjectRightsSaid :=
  OpenClaim.holds_of_wide 3 Try.f3 rfl rfl rfl rfl rfl rfl rfl ⟨rfl, rfl, rfl, rfl, rfl⟩ rfl rfl rfl rfl rfl (by kernel_rfl) Try.func3 (by kernel_rfl)
    (of_decide_eq_true (by kernel_rfl)) (by unfold Func.isWrapper; first | (rw [if_pos (by decide +kernel)]; kernel_rfl) | (rw [if_neg (by decide +kernel)]; exact ⟨rfl, rfl⟩))
    (fun os started H enc _ => lifted os started H enc)
#print axioms holds
end Go.Proofs.Ytahobohfknnhhaa.lawObjectRights
