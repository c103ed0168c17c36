/-
  Done returns what the reference returns, for every thirty-two words, every thread and every operation. No condition beyond the tied variable.
-/
import Derived.Test.YtmfjmmplcbpokaaDoorRows
import Derived.Test.YtmfjmmplcbpokaaDoorCards
import Derived.Test.YtmfjmmplcbpokaaDoorTie
import Derived.Test.YtmfjmmplcbpokaaDoorCardB
import Derived.SevenTiedAt
import Derived.Test.YtmfjmmplcbpokaaDoorMBase
import Derived.Test.YtmfjmmplcbpokaaDoorRdBad
import Derived.Test.YtmfjmmplcbpokaaDoorRdOk
namespace Go.Proofs.YtmfjmmplcbpokaaDoor.lawRecordDoes
set_option linter.unusedSimpArgs false
set_option linter.unusedVariables false
set_option linter.unusedSectionVars false
open Go.RowKit Go.ChangeShapes Go.WideShapes Go.ChangeAt Go.Joins

attribute [local go_sem ↓] Go.wp_at_zero Go.wp_at_succ
set_option linter.unusedSimpArgs false
set_option linter.unusedVariables false

theorem walk (C : Array Value) (z : Nat → Int) (t a k v : Int) (w : World) (h : U64s C 32 z) (hg : ErrT w) :
    Calls Tryd.prog 4 #[.agg C, .int .i64 t, .agg #[.int .i64 a, .int .i64 k, .int .i64 v]] w fun e w' => e = .returned (.bool true) ∧ Below w.heap.size w w' := by
  by_cases h0 : t < 0
  · obtain ⟨r, hr⟩ : ∃ r : Bool, r = true ↔ recOk z := by
      by_cases hh : recOk z
      · exact ⟨true, fun _ => hh, fun _ => rfl⟩
      · exact ⟨false, fun h => Bool.noConfusion h, fun h => absurd h hh⟩
    exact rdw_range C z t a k v r w h hr (.inl h0) hg
  · by_cases h4 : 4 ≤ t
    · obtain ⟨r, hr⟩ : ∃ r : Bool, r = true ↔ recOk z := by
        by_cases hh : recOk z
        · exact ⟨true, fun _ => hh, fun _ => rfl⟩
        · exact ⟨false, fun h => Bool.noConfusion h, fun h => absurd h hh⟩
      exact rdw_range C z t a k v r w h hr (.inr ⟨by omega, h4⟩) hg
    · by_cases hz : recOk z
      · cases ho : opRightB a k v
        · exact rdw_op C z t a k v w h hz ho ⟨by omega, by omega⟩ hg
        · have ht : ((t.toNat : Nat) : Int) = t := by omega
          rw [← ht]
          by_cases h5 : kindR z = 5
          · have hr : rightT (oz z) = true := by
              have := hz.1.1
              unfold thingOk at this
              rw [if_pos h5] at this
              exact this.2.2
            obtain ⟨m, hm⟩ := tabM_exists hr a k
            exact rdw_ok C z t.toNat a k v m w h hz (opRightB_iff.1 ho) (fun _ => hm) (by omega) hg
          · exact rdw_ok C z t.toNat a k v 0 w h hz (opRightB_iff.1 ho) (fun h => absurd h h5) (by omega) hg
      · exact rdw_rec C z t a k v w h hz ⟨by omega, by omega⟩ hg

theorem own : ownKnob Tryd.prog.godebug = none := by kernel_rfl

set_option maxHeartbeats 2000000 in
set_option maxRecDepth 100000 in
theorem lifted (os : Os) (started : os.Started) (H : Type) (enc : TypeId × Value → H) :
    ReturnsInHanded {} Tryd.checked os 4 .any (fun w args => (Rows.recordDoesSpec.pre enc Tryd.prog Tryd.f4 [] false w args ∧ laidMetH Tryd.prog laidE w) ∧ sizedMet enc Tryd.prog Tryd.f4 (OpenSpec.ofChange Rows.recordDoesSpec) false w args) (Rows.recordDoesSpec.post enc Tryd.prog Tryd.f4 false true false false) := by
  refine law_lifted_and (C := Tryd.checked) (X := fun w _ => laidMetH Tryd.prog laidE w) (fun _ _ _ hh h => h.of_heap hh) own started (by kernel_rfl) Tryd.func4
    (ChangeSpec.witness_at (enc := enc) (C := Tryd.checked) (os := os) (X := fun w _ => laidMetH Tryd.prog laidE w) false (laidWorld os) #[.agg #[.int .u64 0, .int .u64 0, .int .u64 0, .int .u64 0, .int .u64 0, .int .u64 0, .int .u64 0, .int .u64 0, .int .u64 0, .int .u64 0, .int .u64 0, .int .u64 0, .int .u64 0, .int .u64 0, .int .u64 0, .int .u64 0, .int .u64 0, .int .u64 0, .int .u64 0, .int .u64 0, .int .u64 0, .int .u64 0, .int .u64 0, .int .u64 0, .int .u64 0, .int .u64 0, .int .u64 0, .int .u64 0, .int .u64 0, .int .u64 0, .int .u64 0, .int .u64 0], .int .i64 0, .agg #[.int .i64 0, .int .i64 0, .int .i64 0]] 8 rfl (by kernel_rfl) (by kernel_rfl) (by kernel_rfl) (by kernel_rfl) (by kernel_rfl) (laidWorld_met os _))
    (by kernel_rfl) (by kernel_rfl) rfl rfl Tryd.underlying4 ?_
  intro W base args ds ps hval0 hA0 hsz0 hL
  have hg := errT_of_laid hL
  have hval : ∀ (j : Nat) t v, Tryd.f4.params[j]? = some t → args[j]? = some v → Value.okWide Tryd.prog W .any base t v := hval0
  have hA : DataW.TrodAll enc Tryd.prog W 0 (fun _ => true) true Tryd.f4.params.toList args.toList ds ps := hA0
  rw [Tryd.params4] at hA hval
  obtain ⟨v0, v1, v2, d0, d1, d2, p0, p1, p2, rfl, rfl, rfl, h0, h1, h2⟩ := trodAll_three hA
  obtain ⟨r, rfl, wr⟩ := open_flat 4 (K := List.replicate 32 .u64) (by kernel_rfl) (by kernel_rfl) (by kernel_rfl) (hval 0 46 v0 rfl rfl) h0
  obtain ⟨thread, rfl, rfl, rfl, wthread⟩ := open_int Tryd.underlying3 (hval 1 3 v1 rfl rfl) h1
  obtain ⟨o, rfl, wo⟩ := open_flat 4 (K := [.i64, .i64, .i64]) (by kernel_rfl) (by kernel_rfl) (by kernel_rfl) (hval 2 48 v2 rfl rfl) h2
  have hU := flatU 32 wr
  exact ⟨rfl, walk _ r thread (o 0) (o 1) (o 2) W hU hg⟩

theorem kinPlace : (Rows.recordDoesRow.inPlace == Tryd.pinned.checked.prog.inPlace 4) = true := by kernel_rfl
theorem kunfollowed : (Rows.recordDoesRow.unfollowed == Tryd.pinned.checked.prog.unfollowed 4) = true := by kernel_rfl
theorem krecurses : (Rows.recordDoesRow.recurses == Tryd.pinned.checked.prog.recurses 4) = true := by kernel_rfl
theorem knamed : (Rows.recordDoesRow.named == Tryd.pinned.checked.prog.varsNamed 4) = true := by kernel_rfl
theorem closed : joinedFacts Tryd.pinned.checked.prog 4 Tryd.f4 Rows.recordDoesSpec Rows.recordDoesRow = true := by
  unfold joinedFacts
  simp only [Bool.and_eq_true]
  repeat' apply And.intro
  all_goals first | (with_reducible exact kinPlace) | (with_reducible exact kunfollowed) | (with_reducible exact krecurses) | (with_reducible exact knamed) | (with_reducible exact laidOutP) | (with_reducible exact mapsRowedP) | kernel_rfl
theorem goes : false = Rows.recordDoesRow.goesBy Tryd.pinned.checked.prog := by kernel_rfl
theorem wfText : Rows.recordDoesRow.wfByText (OpenSpec.ofChange Rows.recordDoesSpec) = true := by kernel_rfl

theorem row : Rows.RecordDoesSaid :=
  OpenClaim.holds_of_wide 4 Tryd.f4 rfl rfl rfl rfl rfl rfl rfl ⟨rfl, rfl, rfl, rfl, rfl⟩ rfl rfl rfl rfl rfl (by kernel_rfl) Tryd.func4 closed
    (of_decide_eq_true (by kernel_rfl)) (by unfold Func.isWrapper; first | (rw [if_pos (by decide +kernel)]; kernel_rfl) | (rw [if_neg (by decide +kernel)]; exact ⟨rfl, rfl⟩))
    (fun os started H enc _ => lifted os started H enc)
theorem holds : Rows.RecordDoesCardSaid :=
  Claim7.holds_tied_plain_at .later [] [.handle] true Rows.recordDoesCard.stood.harness true
    row (fun _ h => by cases h) wfText (fun _ h => by cases h) recordDoes_row_tie rfl ⟨rfl, rfl⟩ (by kernel_rfl) rfl
    (fun f fn hf hfn => by
      obtain rfl : f = 4 := Option.some.inj ((show Tryd.prog.funcNamed Rows.recordDoesRow.func = some 4 by kernel_rfl).symm.trans hf) |>.symm
      obtain rfl : fn = Tryd.f4 := (Option.some.inj (Tryd.func4.symm.trans hfn)).symm
      refine ⟨looksP, fun j t ht => ?_⟩
      have hall : (Tryd.f4.params.toList.all fun t => !(Tryd.prog.wantsStandIn t)) = true := by kernel_rfl
      have hm : t ∈ Tryd.f4.params.toList := List.mem_of_getElem? (by simpa using ht)
      have h := List.all_eq_true.1 hall t hm
      show Tryd.prog.wantsStandIn t = false
      simpa using h)
    goes
#print axioms holds
end Go.Proofs.YtmfjmmplcbpokaaDoor.lawRecordDoes
