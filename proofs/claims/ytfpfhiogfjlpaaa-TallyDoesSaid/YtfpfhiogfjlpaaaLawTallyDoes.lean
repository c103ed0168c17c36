/-
  For any tally and operation the result of Do is that of the reference. No condition.
-/
import Derived.Test.YtfpfhiogfjlpaaaRows
import Derived.Test.YtfpfhiogfjlpaaaFrame
import Derived.Test.YtfpfhiogfjlpaaaOpen
import Derived.Test.YtfpfhiogfjlpaaaTally
namespace Go.Proofs.Ytfpfhiogfjlpaaa.lawTallyDoes
open Go.RowKit Go.ChangeShapes Go.WideShapes Go.ChangeAt Go.Joins

attribute [local go_sem ↓] Go.wp_at_zero Go.wp_at_succ

theorem walk (n a k v : Int) (w : World) :
    Calls Try.prog 7 #[.int .i64 n, .agg #[.int .i64 a, .int .i64 k, .int .i64 v]] w fun e w' => e = .returned (.bool true) ∧ Below w.heap.size w w' := by
  by_cases hq : 0 ≤ n ∧ n ≤ 4294967295 ∧ 0 ≤ v ∧ v ≤ 4294967295
  · obtain ⟨h0, h1, h2, h3⟩ := hq
    go_enter Try.func7, Try.ntmps7
    go_wp2_with fail
    refine (refTally_any n a k v _ h0 h1 h2 h3).mono ?_
    rintro e w1 ⟨rfl, hb⟩; obtain ⟨hc, hf⟩ := bcell hb
    unfold tallyR
    have hz : w.heap.size < w1.heap.size := by have := hb.size; simp at this; omega
    have hB : Below w.heap.size w w1 := Below.trans (by go_grown) (hb.mono (by simp))
    go_wp2_with fail
    refine (tally_any n a k v _ h0 h1 h2 h3).mono ?_
    rintro e w2 ⟨rfl, hb2⟩; obtain ⟨hc2, hf2⟩ := bcell hb2
    unfold tallyR
    have hz2 : w1.heap.size < w2.heap.size := by have := hb2.size; simp at this; omega
    have hB2 : Below w.heap.size w w2 := Below.trans (by go_grown) (hb2.mono (by simp; omega))
    go_wp2
    go_ret
    exact ⟨rfl, by go_grown⟩
  · go_enter Try.func7, Try.ntmps7
    go_wp2
    all_goals first | (go_ret; exact ⟨rfl, by go_grown⟩) | (exfalso; omega)

theorem own : ownKnob Try.prog.godebug = none := by kernel_rfl

set_option maxRecDepth 100000 in
theorem lifted (os : Os) (started : os.Started) (H : Type) (enc : TypeId × Value → H) :
    ReturnsInHanded {} Try.checked os 7 .any (Rows.tallyDoesSpec.pre6 enc Try.prog Try.f7 Rows.tallyDoesRow.domain false) (Rows.tallyDoesSpec.post enc Try.prog Try.f7 false true false false) := by
  refine law_lifted (C := Try.checked) own started (by kernel_rfl) Try.func7
    (ChangeSpec.witness6 (enc := enc) (C := Try.checked) false ⟨#[], #[.int .i64 0, .agg #[.int .i64 0, .int .i64 0, .int .i64 0]], []⟩ 8 (by kernel_rfl) (by kernel_rfl) (by kernel_rfl) (by kernel_rfl))
    (by kernel_rfl) (by kernel_rfl) rfl rfl Try.underlying4 ?_
  intro W base args ds ps hval0 hA0 hsz0
  have hval : ∀ (j : Nat) t v, Try.f7.params[j]? = some t → args[j]? = some v → Value.okWide Try.prog W .any base t v := hval0
  have hA : DataW.TrodAll enc Try.prog W 0 (fun _ => true) true Try.f7.params.toList args.toList ds ps := hA0
  rw [Try.params7] at hA hval
  obtain ⟨v0, v1, d0, d1, p0, p1, rfl, rfl, rfl, h0, h1⟩ := trodAll_two hA
  obtain ⟨n, rfl, rfl, rfl, wn⟩ := open_int Try.underlying3 (hval 0 3 v0 rfl rfl) h0
  obtain ⟨o, rfl, wo⟩ := open_flat 4 (K := [.i64, .i64, .i64]) (by kernel_rfl) (by kernel_rfl) (by kernel_rfl) (hval 1 23 v1 rfl rfl) h1
  exact ⟨rfl, walk n (o 0) (o 1) (o 2) W⟩

theorem holds : Rows.TallyDoesSaid :=
  OpenClaim.holds_of_wide 7 Try.f7 rfl rfl rfl rfl rfl rfl rfl ⟨rfl, rfl, rfl, rfl, rfl⟩ rfl rfl rfl rfl rfl (by kernel_rfl) Try.func7 (by kernel_rfl)
    (of_decide_eq_true (by kernel_rfl)) (by unfold Func.isWrapper; first | (rw [if_pos (by decide +kernel)]; kernel_rfl) | (rw [if_neg (by decide +kernel)]; exact ⟨rfl, rfl⟩))
    (fun os started H enc _ => lifted os started H enc)
#print axioms holds
end Go.Proofs.Ytfpfhiogfjlpaaa.lawTallyDoes
