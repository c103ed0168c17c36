/-
  Do returns what the reference returns, for every kind, every seventeen words and every operation. No condition beyond the tied variable.
-/
import Derived.Test.YtahobohfknnhhaaDoorRows
import Derived.Test.YtahobohfknnhhaaDoorCards
import Derived.Test.YtahobohfknnhhaaDoorTie
import Derived.Test.YtahobohfknnhhaaDoorCardB
import Derived.SevenTiedAt
import Derived.Test.YtahobohfknnhhaaDoorMBase
import Derived.Test.YtahobohfknnhhaaDoorOdBad
import Derived.Test.YtahobohfknnhhaaDoorOdOk
namespace Go.Proofs.YtahobohfknnhhaaDoor.lawObjectDoes
set_option linter.unusedSimpArgs false
set_option linter.unusedVariables false
set_option linter.unusedSectionVars false
open Go.RowKit Go.ChangeShapes Go.WideShapes Go.ChangeAt Go.Joins

attribute [local go_sem ↓] Go.wp_at_zero Go.wp_at_succ
set_option linter.unusedSimpArgs false
set_option linter.unusedVariables false

theorem walk (C : Array Value) (z : Nat → Int) (kind a k v : Int) (w : World) (h : U64s C 17 z) (hg : ErrT w) :
    Calls Tryd.prog 9 #[.int .i64 kind, .agg C, .agg #[.int .i64 a, .int .i64 k, .int .i64 v]] w fun e w' => e = .returned (.bool true) ∧ Below w.heap.size w w' := by
  by_cases hz : thingOk kind z
  · cases ho : opRightB a k v
    · exact walk_bad C z kind a k v true w h ⟨fun _ => hz, fun _ => rfl⟩ (.inr ho) hg
    · by_cases h5 : kind = 5
      · have hr : rightT z = true := by
          unfold thingOk at hz
          rw [if_pos h5] at hz
          exact hz.2.2
        obtain ⟨m, hm⟩ := tabM_exists hr a k
        exact walk_ok C z kind a k v m w h hz (opRightB_iff.1 ho) (fun _ => hm)
      · exact walk_ok C z kind a k v 0 w h hz (opRightB_iff.1 ho) (fun h => absurd h h5)
  · exact walk_bad C z kind a k v false w h ⟨fun h => Bool.noConfusion h, fun h => absurd h hz⟩ (.inl rfl) hg

theorem own : ownKnob Tryd.prog.godebug = none := by kernel_rfl

set_option maxHeartbeats 2000000 in
set_option maxRecDepth 100000 in
theorem lifted (os : Os) (started : os.Started) (H : Type) (enc : TypeId × Value → H) :
    ReturnsInHanded {} Tryd.checked os 9 .any (fun w args => (Rows.objectDoesSpec.pre enc Tryd.prog Tryd.f9 [] false w args ∧ laidMetH Tryd.prog laidE w) ∧ sizedMet enc Tryd.prog Tryd.f9 (OpenSpec.ofChange Rows.objectDoesSpec) false w args) (Rows.objectDoesSpec.post enc Tryd.prog Tryd.f9 false true false false) := by
  refine law_lifted_and (C := Tryd.checked) (X := fun w _ => laidMetH Tryd.prog laidE w) (fun _ _ _ hh h => h.of_heap hh) own started (by kernel_rfl) Tryd.func9
    (ChangeSpec.witness_at (enc := enc) (C := Tryd.checked) (os := os) (X := fun w _ => laidMetH Tryd.prog laidE w) false (laidWorld os) #[.int .i64 0, .agg #[.int .u64 0, .int .u64 0, .int .u64 0, .int .u64 0, .int .u64 0, .int .u64 0, .int .u64 0, .int .u64 0, .int .u64 0, .int .u64 0, .int .u64 0, .int .u64 0, .int .u64 0, .int .u64 0, .int .u64 0, .int .u64 0, .int .u64 0], .agg #[.int .i64 0, .int .i64 0, .int .i64 0]] 8 rfl (by kernel_rfl) (by kernel_rfl) (by kernel_rfl) (by kernel_rfl) (by kernel_rfl) (laidWorld_met os _))
    (by kernel_rfl) (by kernel_rfl) rfl rfl Tryd.underlying4 ?_
  intro W base args ds ps hval0 hA0 hsz0 hL
  have hg := errT_of_laid hL
  have hval : ∀ (j : Nat) t v, Tryd.f9.params[j]? = some t → args[j]? = some v → Value.okWide Tryd.prog W .any base t v := hval0
  have hA : DataW.TrodAll enc Tryd.prog W 0 (fun _ => true) true Tryd.f9.params.toList args.toList ds ps := hA0
  rw [Tryd.params9] at hA hval
  obtain ⟨v0, v1, v2, d0, d1, d2, p0, p1, p2, rfl, rfl, rfl, h0, h1, h2⟩ := trodAll_three hA
  obtain ⟨kind, rfl, rfl, rfl, wkind⟩ := open_int Tryd.underlying3 (hval 0 3 v0 rfl rfl) h0
  obtain ⟨c, rfl, wc⟩ := open_flat 4 (K := List.replicate 17 .u64) (by kernel_rfl) (by kernel_rfl) (by kernel_rfl) (hval 1 76 v1 rfl rfl) h1
  obtain ⟨o, rfl, wo⟩ := open_flat 4 (K := [.i64, .i64, .i64]) (by kernel_rfl) (by kernel_rfl) (by kernel_rfl) (hval 2 26 v2 rfl rfl) h2
  have hU := flatU 17 wc
  exact ⟨rfl, walk _ c kind (o 0) (o 1) (o 2) W hU hg⟩

theorem kinPlace : (Rows.objectDoesRow.inPlace == Tryd.pinned.checked.prog.inPlace 9) = true := by kernel_rfl
theorem kunfollowed : (Rows.objectDoesRow.unfollowed == Tryd.pinned.checked.prog.unfollowed 9) = true := by kernel_rfl
theorem krecurses : (Rows.objectDoesRow.recurses == Tryd.pinned.checked.prog.recurses 9) = true := by kernel_rfl
theorem knamed : (Rows.objectDoesRow.named == Tryd.pinned.checked.prog.varsNamed 9) = true := by kernel_rfl
theorem closed : joinedFacts Tryd.pinned.checked.prog 9 Tryd.f9 Rows.objectDoesSpec Rows.objectDoesRow = true := by
  unfold joinedFacts
  simp only [Bool.and_eq_true]
  repeat' apply And.intro
  all_goals first | (with_reducible exact kinPlace) | (with_reducible exact kunfollowed) | (with_reducible exact krecurses) | (with_reducible exact knamed) | (with_reducible exact laidOutP) | (with_reducible exact mapsRowedP) | kernel_rfl
theorem goes : false = Rows.objectDoesRow.goesBy Tryd.pinned.checked.prog := by kernel_rfl
theorem wfText : Rows.objectDoesRow.wfByText (OpenSpec.ofChange Rows.objectDoesSpec) = true := by kernel_rfl

theorem row : Rows.ObjectDoesSaid :=
  OpenClaim.holds_of_wide 9 Tryd.f9 rfl rfl rfl rfl rfl rfl rfl ⟨rfl, rfl, rfl, rfl, rfl⟩ rfl rfl rfl rfl rfl (by kernel_rfl) Tryd.func9 closed
    (of_decide_eq_true (by kernel_rfl)) (by unfold Func.isWrapper; first | (rw [if_pos (by decide +kernel)]; kernel_rfl) | (rw [if_neg (by decide +kernel)]; exact ⟨rfl, rfl⟩))
    (fun os started H enc _ => lifted os started H enc)
theorem holds : Rows.ObjectDoesCardSaid :=
  Claim7.holds_tied_plain_at .later [] [.handle] true Rows.objectDoesCard.stood.harness true
    row (fun _ h => by cases h) wfText (fun _ h => by cases h) objectDoes_row_tie rfl ⟨rfl, rfl⟩ (by kernel_rfl) rfl
    (fun f fn hf hfn => by
      obtain rfl : f = 9 := Option.some.inj ((show Tryd.prog.funcNamed Rows.objectDoesRow.func = some 9 by kernel_rfl).symm.trans hf) |>.symm
      obtain rfl : fn = Tryd.f9 := (Option.some.inj (Tryd.func9.symm.trans hfn)).symm
      refine ⟨looksP, fun j t ht => ?_⟩
      have hall : (Tryd.f9.params.toList.all fun t => !(Tryd.prog.wantsStandIn t)) = true := by kernel_rfl
      have hm : t ∈ Tryd.f9.params.toList := List.mem_of_getElem? (by simpa using ht)
      have h := List.all_eq_true.1 hall t hm
      show Tryd.prog.wantsStandIn t = false
      simpa using h)
    goes
#print axioms holds
end Go.Proofs.YtahobohfknnhhaaDoor.lawObjectDoes
