/-
  Open returns what the reference returns for any Record and request. No condition beyond the tied variable.
-/
import Derived.Test.YtahobohfknnhhaaDoorRows
import Derived.Test.YtahobohfknnhhaaDoorCards
import Derived.Test.YtahobohfknnhhaaDoorTie
import Derived.Test.YtahobohfknnhhaaDoorCardB
import Derived.SevenTiedAt
import Derived.Test.YtahobohfknnhhaaDoorMBase
import Derived.Test.YtahobohfknnhhaaDoorBoOut
import Derived.Test.YtahobohfknnhhaaDoorBoArg
import Derived.Test.YtahobohfknnhhaaDoorBoIn
namespace Go.Proofs.YtahobohfknnhhaaDoor.lawBatchOpens
set_option linter.unusedSimpArgs false
set_option linter.unusedVariables false
set_option linter.unusedSectionVars false
open Go.RowKit Go.ChangeShapes Go.WideShapes Go.ChangeAt Go.Joins

attribute [local go_sem ↓] Go.wp_at_zero Go.wp_at_succ
set_option linter.unusedSimpArgs false
set_option linter.unusedVariables false

theorem walk (C : Array Value) (z : Nat → Int) (x0 x1 x2 x3 x4 : Int) (w : World) (h : U64s C 32 z) (hg : ErrT w) (hwf : ∀ y, y = x0 ∨ y = x1 ∨ y = x2 ∨ y = x3 ∨ y = x4 → (Lit.int .i64 y).wf = true) :
    Calls Tryd.prog 3 #[.agg C, .agg #[.int .i64 x0, .int .i64 x1, .int .i64 x2, .int .i64 x3, .int .i64 x4]] w fun e w' => e = .returned (.bool true) ∧ Below w.heap.size w w' := by
  by_cases ht : 0 ≤ x0 ∧ x0 < 4
  · by_cases hx : x1 = 0 ∨ x1 = 1
    · obtain ⟨X, hX⟩ := Int.eq_ofNat_of_zero_le (h.bd 26 (by decide)).1
      exact case_in C z x0 x1 x2 x3 x4 w h hg hwf ht.1 ht.2 hx X hX
    · exact case_arg C z x0 x1 x2 x3 x4 w h hg hwf ht.1 ht.2 (by omega)
  · exact case_out C z x0 x1 x2 x3 x4 w h hg hwf (by omega)

theorem own : ownKnob Tryd.prog.godebug = none := by kernel_rfl

set_option maxRecDepth 100000 in
theorem lifted (os : Os) (started : os.Started) (H : Type) (enc : TypeId × Value → H) :
    ReturnsInHanded {} Tryd.checked os 3 .any (fun w args => (Rows.batchOpensSpec.pre enc Tryd.prog Tryd.f3 [] false w args ∧ laidMetH Tryd.prog laidE w) ∧ sizedMet enc Tryd.prog Tryd.f3 (OpenSpec.ofChange Rows.batchOpensSpec) false w args) (Rows.batchOpensSpec.post enc Tryd.prog Tryd.f3 false true false false) := by
  refine law_lifted_and (C := Tryd.checked) (X := fun w _ => laidMetH Tryd.prog laidE w) (fun _ _ _ hh h => h.of_heap hh) own started (by kernel_rfl) Tryd.func3
    (ChangeSpec.witness_at (enc := enc) (C := Tryd.checked) (os := os) (X := fun w _ => laidMetH Tryd.prog laidE w) false (laidWorld os) #[.agg #[.int .u64 0, .int .u64 0, .int .u64 0, .int .u64 0, .int .u64 0, .int .u64 0, .int .u64 0, .int .u64 0, .int .u64 0, .int .u64 0, .int .u64 0, .int .u64 0, .int .u64 0, .int .u64 0, .int .u64 0, .int .u64 0, .int .u64 0, .int .u64 0, .int .u64 0, .int .u64 0, .int .u64 0, .int .u64 0, .int .u64 0, .int .u64 0, .int .u64 0, .int .u64 0, .int .u64 0, .int .u64 0, .int .u64 0, .int .u64 0, .int .u64 0, .int .u64 0], .agg #[.int .i64 0, .int .i64 0, .int .i64 0, .int .i64 0, .int .i64 0]] 8 rfl (by kernel_rfl) (by kernel_rfl) (by kernel_rfl) (by kernel_rfl) (by kernel_rfl) (laidWorld_met os _))
    (by kernel_rfl) (by kernel_rfl) rfl rfl Tryd.underlying4 ?_
  intro W base args ds ps hval0 hA0 hsz0 hL
  have hg := errT_of_laid hL
  have hval : ∀ (j : Nat) t v, Tryd.f3.params[j]? = some t → args[j]? = some v → Value.okWide Tryd.prog W .any base t v := hval0
  have hA : DataW.TrodAll enc Tryd.prog W 0 (fun _ => true) true Tryd.f3.params.toList args.toList ds ps := hA0
  rw [Tryd.params3] at hA hval
  obtain ⟨v0, v1, d0, d1, p0, p1, rfl, rfl, rfl, h0, h1⟩ := trodAll_two hA
  obtain ⟨r, rfl, wr⟩ := open_flat 4 (K := List.replicate 32 .u64) (by kernel_rfl) (by kernel_rfl) (by kernel_rfl) (hval 0 24 v0 rfl rfl) h0
  obtain ⟨a, rfl, wa⟩ := open_flat 4 (K := [.i64, .i64, .i64, .i64, .i64]) (by kernel_rfl) (by kernel_rfl) (by kernel_rfl) (hval 1 28 v1 rfl rfl) h1
  have hU := flatU 32 wr
  exact ⟨rfl, walk _ r (a 0) (a 1) (a 2) (a 3) (a 4) W hU hg (fun y hy => by rcases hy with rfl | rfl | rfl | rfl | rfl; exact wa 0 (by decide); exact wa 1 (by decide); exact wa 2 (by decide); exact wa 3 (by decide); exact wa 4 (by decide))⟩

theorem kinPlace : (Rows.batchOpensRow.inPlace == Tryd.pinned.checked.prog.inPlace 3) = true := by kernel_rfl
theorem kunfollowed : (Rows.batchOpensRow.unfollowed == Tryd.pinned.checked.prog.unfollowed 3) = true := by kernel_rfl
theorem krecurses : (Rows.batchOpensRow.recurses == Tryd.pinned.checked.prog.recurses 3) = true := by kernel_rfl
theorem knamed : (Rows.batchOpensRow.named == Tryd.pinned.checked.prog.varsNamed 3) = true := by kernel_rfl
theorem closed : joinedFacts Tryd.pinned.checked.prog 3 Tryd.f3 Rows.batchOpensSpec Rows.batchOpensRow = true := by
  unfold joinedFacts
  simp only [Bool.and_eq_true]
  repeat' apply And.intro
  all_goals first | (with_reducible exact kinPlace) | (with_reducible exact kunfollowed) | (with_reducible exact krecurses) | (with_reducible exact knamed) | (with_reducible exact laidOutP) | (with_reducible exact mapsRowedP) | kernel_rfl
theorem goes : false = Rows.batchOpensRow.goesBy Tryd.pinned.checked.prog := by kernel_rfl
theorem wfText : Rows.batchOpensRow.wfByText (OpenSpec.ofChange Rows.batchOpensSpec) = true := by kernel_rfl

theorem row : Rows.BatchOpensSaid :=
  OpenClaim.holds_of_wide 3 Tryd.f3 rfl rfl rfl rfl rfl rfl rfl ⟨rfl, rfl, rfl, rfl, rfl⟩ rfl rfl rfl rfl rfl (by kernel_rfl) Tryd.func3 closed
    (of_decide_eq_true (by kernel_rfl)) (by unfold Func.isWrapper; first | (rw [if_pos (by decide +kernel)]; kernel_rfl) | (rw [if_neg (by decide +kernel)]; exact ⟨rfl, rfl⟩))
    (fun os started H enc _ => lifted os started H enc)
theorem holds : Rows.BatchOpensCardSaid :=
  Claim7.holds_tied_plain_at .later [] [.handle] true Rows.batchOpensCard.stood.harness true
    row (fun _ h => by cases h) wfText (fun _ h => by cases h) batchOpens_row_tie rfl ⟨rfl, rfl⟩ (by kernel_rfl) rfl
    (fun f fn hf hfn => by
      obtain rfl : f = 3 := Option.some.inj ((show Tryd.prog.funcNamed Rows.batchOpensRow.func = some 3 by kernel_rfl).symm.trans hf) |>.symm
      obtain rfl : fn = Tryd.f3 := (Option.some.inj (Tryd.func3.symm.trans hfn)).symm
      refine ⟨looksP, fun j t ht => ?_⟩
      have hall : (Tryd.f3.params.toList.all fun t => !(Tryd.prog.wantsStandIn t)) = true := by kernel_rfl
      have hm : t ∈ Tryd.f3.params.toList := List.mem_of_getElem? (by simpa using ht)
      have h := List.all_eq_true.1 hall t hm
      show Tryd.prog.wantsStandIn t = false
      simpa using h)
    goes
#print axioms holds
end Go.Proofs.YtahobohfknnhhaaDoor.lawBatchOpens
