/-
  Right returns what the reference returns, for every thirty-two words. No condition.
-/
import Derived.Test.YtahobohfknnhhaaRows
import Derived.Test.YtahobohfknnhhaaMBase
import Derived.Test.YtahobohfknnhhaaRecO
import Derived.Test.YtahobohfknnhhaaRecR
namespace Go.Proofs.Ytahobohfknnhhaa.lawRecordRights
set_option linter.unusedSimpArgs false
set_option linter.unusedVariables false
set_option linter.unusedSectionVars false
open Go.RowKit Go.ChangeShapes Go.WideShapes Go.ChangeAt Go.Joins

attribute [local go_sem ↓] Go.wp_at_zero Go.wp_at_succ
set_option linter.unusedSimpArgs false
set_option linter.unusedVariables false

set_option maxRecDepth 100000 in
set_option maxHeartbeats 2000000 in
theorem walk (C : Array Value) (z : Nat → Int) (w : World) (h : U64s C 32 z) :
    Calls Try.prog 4 #[.agg C] w fun e w' => e = .returned (.bool true) ∧ Below w.heap.size w w' := by
  obtain ⟨r, hr⟩ : ∃ r : Bool, r = true ↔ recOk z := by
    by_cases hh : recOk z
    · exact ⟨true, fun _ => hh, fun _ => rfl⟩
    · exact ⟨false, fun h => Bool.noConfusion h, fun h => absurd h hh⟩
  have HIE : Hid ((Try.prog.info? 37).map (·.size) = some C.size) := by show _ = _; rw [infoRR, h.size]
  have HC := Lib.hid h
  have HR := Lib.hid hr
  have hB0 : Blk (w.alloc (.cells C 37)) w.heap.size 37 C := Blk.new _ _ _
  have HS := Lib.hid (SlU.of_blk (n := 32) (c := 32) (o := 0) hB0 h (by omega) (by omega) (by omega))
  have HB0 := Lib.hid hB0
  clear h hr hB0
  go_enter Try.func4, Try.ntmps4
  go_wp2_with fail
  refine (recOf_any _ 32 z r _ (by simpa using HS.out) HR.out).mono ?_
  rintro e w1 ⟨hb1, D, hs, h1, rfl, _⟩
  have hz1 := hb1.size
  simp only [World.size_alloc] at hz1
  have HB1 := Lib.hid (HB0.out.below hb1 (by simp))
  have HD1 : Hid ((Try.prog.info? 44).map (·.size) = some D.size) := by show _ = _; rw [infoRc, hs]
  have HO := Lib.hid h1
  have HSZ := Lib.hid hs
  have hB : Below w.heap.size w w1 := Below.trans (by go_grown) (hb1.mono (by simp))
  clear hs h1 hb1
  have hne : w.heap.size ≠ w1.heap.size := by omega
  go_wp2_with (first
    | (refine wpList_store_row rfl 44 _ _ rfl w1.heap.size D rfl rfl 44 rz (Blk.new _ _ _) HD1.out (by rw [HSZ.out]; rfl) HO.out ?_)
    | (refine wpList_load_row rfl 37 _ rfl w.heap.size rfl 37 C (0, 0) _ ((setRow_other _ _ _ _ hne).trans (HB1.out.alloc _)) Try.underlying37 rfl HIE.out ?_))
  refine (recRight_any C z r _ HC.out HR.out).mono ?_
  rintro e w2 ⟨rfl, hb2⟩
  have hB2 := (below_setRow (hB.alloc hB.size (.cells rz 44)) (show w.heap.size ≤ w1.heap.size by omega) D)
  have hB3 := hB2.trans (hb2.mono hB2.size)
  go_wp2
  go_ret
  exact ⟨rfl, hB3⟩

theorem own : ownKnob Try.prog.godebug = none := by kernel_rfl

set_option maxRecDepth 100000 in
theorem lifted (os : Os) (started : os.Started) (H : Type) (enc : TypeId × Value → H) :
    ReturnsInHanded {} Try.checked os 4 .any (Rows.recordRightsSpec.pre6 enc Try.prog Try.f4 Rows.recordRightsRow.domain false) (Rows.recordRightsSpec.post enc Try.prog Try.f4 false true false false) := by
  refine law_lifted (C := Try.checked) own started (by kernel_rfl) Try.func4
    (ChangeSpec.witness6 (enc := enc) (C := Try.checked) false ⟨#[], #[.agg #[.int .u64 0, .int .u64 0, .int .u64 0, .int .u64 0, .int .u64 0, .int .u64 0, .int .u64 0, .int .u64 0, .int .u64 0, .int .u64 0, .int .u64 0, .int .u64 0, .int .u64 0, .int .u64 0, .int .u64 0, .int .u64 0, .int .u64 0, .int .u64 0, .int .u64 0, .int .u64 0, .int .u64 0, .int .u64 0, .int .u64 0, .int .u64 0, .int .u64 0, .int .u64 0, .int .u64 0, .int .u64 0, .int .u64 0, .int .u64 0, .int .u64 0, .int .u64 0]], []⟩ 8 (by kernel_rfl) (by kernel_rfl) (by kernel_rfl) (by kernel_rfl))
    (by kernel_rfl) (by kernel_rfl) rfl rfl Try.underlying4 ?_
  intro W base args ds ps hval0 hA0 hsz0
  have hval : ∀ (j : Nat) t v, Try.f4.params[j]? = some t → args[j]? = some v → Value.okWide Try.prog W .any base t v := hval0
  have hA : DataW.TrodAll enc Try.prog W 0 (fun _ => true) true Try.f4.params.toList args.toList ds ps := hA0
  rw [Try.params4] at hA hval
  obtain ⟨v0, d0, rfl, rfl, h0⟩ := trodAll_one hA
  obtain ⟨r, rfl, wr⟩ := open_flat 4 (K := List.replicate 32 .u64) (by kernel_rfl) (by kernel_rfl) (by kernel_rfl) (hval 0 37 v0 rfl rfl) h0
  have hU := flatU 32 wr
  exact ⟨rfl, walk _ r W hU⟩

theorem holds : Rows.RecordRightsSaid :=
  OpenClaim.holds_of_wide 4 Try.f4 rfl rfl rfl rfl rfl rfl rfl ⟨rfl, rfl, rfl, rfl, rfl⟩ rfl rfl rfl rfl rfl (by kernel_rfl) Try.func4 (by kernel_rfl)
    (of_decide_eq_true (by kernel_rfl)) (by unfold Func.isWrapper; first | (rw [if_pos (by decide +kernel)]; kernel_rfl) | (rw [if_neg (by decide +kernel)]; exact ⟨rfl, rfl⟩))
    (fun os started H enc _ => lifted os started H enc)
#print axioms holds
end Go.Proofs.Ytahobohfknnhhaa.lawRecordRights
