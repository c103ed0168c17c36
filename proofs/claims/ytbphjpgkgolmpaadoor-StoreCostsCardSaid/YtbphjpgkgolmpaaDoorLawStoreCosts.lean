/-
  how often there was a wish and a fence, behind any acts, is what the reference holds. No condition beyond the tied variable.
-/
import Derived.Test.YtbphjpgkgolmpaaDoorRows
import Derived.Test.YtbphjpgkgolmpaaDoorCards
import Derived.Test.YtbphjpgkgolmpaaDoorTie
import Derived.Test.YtbphjpgkgolmpaaDoorCardB
import Derived.SevenTiedAt
import Derived.Test.YtbphjpgkgolmpaaDoorMBase
import Derived.Test.YtbphjpgkgolmpaaDoorStL
import Derived.Test.YtbphjpgkgolmpaaDoorMBase
namespace Go.Proofs.YtbphjpgkgolmpaaDoor.lawStoreCosts
set_option linter.unusedSimpArgs false
set_option linter.unusedVariables false
set_option linter.unusedSectionVars false
open Go.RowKit Go.ChangeShapes Go.WideShapes Go.ChangeAt Go.Joins

attribute [local go_sem ↓] Go.wp_at_zero Go.wp_at_succ
set_option linter.unusedSimpArgs false
set_option linter.unusedVariables false

set_option maxRecDepth 100000 in
set_option maxHeartbeats 4000000 in
theorem walk (A : Option Addr) (n c : Nat) (l : Nat → Nat → Int) (w : World) (hl : SlF [.i64, .i64, .u64, .i64, .i64] w A n c l) (hg : ErrT w) :
    Calls Tryd.prog 3 #[.slice A n c] w fun e w' => e = .returned (.bool true) ∧ Below w.heap.size w w' := by
  by_cases h60 : n ≤ 60
  · have h60' : (n : Int) ≤ 60 := by omega
    go_enter Tryd.func3, Tryd.ntmps3
    go_wp2_with fail
    with_reducible refine (stored_any A n c l _ hl hg h60).mono ?_
    rintro e w1 ⟨g, h, m, k, s, rfl, hk, hs⟩
    have HS := Lib.hid hs
    clear hs hl hg
    go_wp2_with fail
    with_reducible refine (stCosts g s _ HS.out.prog).mono ?_
    rintro e w2 ⟨rfl, hb2⟩
    have HS2 := Lib.hid (HS.out.grow hb2)
    clear hb2 HS
    have c1 : w2.cell? ⟨h, 145, none⟩ = some (.int .i64 (s.fl : Int)) := by rw [HS2.out.ref.cell, rsA_fl]
    have c2 : w2.cell? ⟨h, 146, none⟩ = some (.int .i64 (s.fe : Int)) := by rw [HS2.out.ref.cell, rsA_fe]
    go_wp2
    go_ret
    exact ⟨rfl, HS2.out.below⟩
  · have h60' : ¬ (n : Int) ≤ 60 := by omega
    go_enter Tryd.func3, Tryd.ntmps3
    go_wp2
    go_ret
    exact ⟨rfl, Below.refl _ _⟩

theorem own : ownKnob Tryd.prog.godebug = none := by kernel_rfl

set_option maxRecDepth 100000 in
theorem lifted (os : Os) (started : os.Started) (H : Type) (enc : TypeId × Value → H) :
    ReturnsInHanded {} Tryd.checked os 3 .any (fun w args => (Rows.storeCostsSpec.pre enc Tryd.prog Tryd.f3 [] false w args ∧ laidMetH Tryd.prog laidE w) ∧ sizedMet enc Tryd.prog Tryd.f3 (OpenSpec.ofChange Rows.storeCostsSpec) false w args) (Rows.storeCostsSpec.post enc Tryd.prog Tryd.f3 false true false false) := by
  refine law_lifted_and (C := Tryd.checked) (X := fun w _ => laidMetH Tryd.prog laidE w) (fun _ _ _ hh h => h.of_heap hh) own started (by kernel_rfl) Tryd.func3
    (ChangeSpec.witness_at (enc := enc) (C := Tryd.checked) (os := os) (X := fun w _ => laidMetH Tryd.prog laidE w) false (laidWorld os) #[.slice none 0 0] 8 rfl (by kernel_rfl) (by kernel_rfl) (by kernel_rfl) (by kernel_rfl) (by kernel_rfl) (laidWorld_met os _))
    (by kernel_rfl) (by kernel_rfl) rfl rfl Tryd.underlying4 ?_
  intro W base args ds ps hval0 hA0 hsz0 hL
  have hg := errT_of_laid hL
  have hval : ∀ (j : Nat) t v, Tryd.f3.params[j]? = some t → args[j]? = some v → Value.okWide Tryd.prog W .any base t v := hval0
  have hA : DataW.TrodAll enc Tryd.prog W 0 (fun _ => true) true Tryd.f3.params.toList args.toList ds ps := hA0
  rw [Tryd.params3] at hA hval
  obtain ⟨v0, d0, rfl, rfl, h0⟩ := trodAll_one hA
  obtain ⟨lA, ln, lc, l, rfl, lh⟩ := open_slF (K := [.i64, .i64, .u64, .i64, .i64]) 4 Tryd.underlying22 (by kernel_rfl) (by kernel_rfl) (by decide) (hval 0 22 v0 rfl rfl) h0
  exact ⟨rfl, walk lA ln lc l W lh hg⟩

theorem kinPlace : (Rows.storeCostsRow.inPlace == Tryd.pinned.checked.prog.inPlace 3) = true := by kernel_rfl
theorem kunfollowed : (Rows.storeCostsRow.unfollowed == Tryd.pinned.checked.prog.unfollowed 3) = true := by kernel_rfl
theorem krecurses : (Rows.storeCostsRow.recurses == Tryd.pinned.checked.prog.recurses 3) = true := by kernel_rfl
theorem knamed : (Rows.storeCostsRow.named == Tryd.pinned.checked.prog.varsNamed 3) = true := by kernel_rfl
theorem closed : joinedFacts Tryd.pinned.checked.prog 3 Tryd.f3 Rows.storeCostsSpec Rows.storeCostsRow = true := by
  unfold joinedFacts
  simp only [Bool.and_eq_true]
  repeat' apply And.intro
  all_goals first | (with_reducible exact kinPlace) | (with_reducible exact kunfollowed) | (with_reducible exact krecurses) | (with_reducible exact knamed) | (with_reducible exact laidOutP) | (with_reducible exact mapsRowedP) | kernel_rfl
theorem goes : false = Rows.storeCostsRow.goesBy Tryd.pinned.checked.prog := by kernel_rfl
theorem wfText : Rows.storeCostsRow.wfByText (OpenSpec.ofChange Rows.storeCostsSpec) = true := by kernel_rfl

theorem row : Rows.StoreCostsSaid :=
  OpenClaim.holds_of_wide 3 Tryd.f3 rfl rfl rfl rfl rfl rfl rfl ⟨rfl, rfl, rfl, rfl, rfl⟩ rfl rfl rfl rfl rfl (by kernel_rfl) Tryd.func3 closed
    (of_decide_eq_true (by kernel_rfl)) (by unfold Func.isWrapper; first | (rw [if_pos (by decide +kernel)]; kernel_rfl) | (rw [if_neg (by decide +kernel)]; exact ⟨rfl, rfl⟩))
    (fun os started H enc _ => lifted os started H enc)
theorem holds : Rows.StoreCostsCardSaid :=
  Claim7.holds_tied_plain_at .later [] [.handle] true Rows.storeCostsCard.stood.harness true
    row (fun _ h => by cases h) wfText (fun _ h => by cases h) storeCosts_row_tie rfl ⟨rfl, rfl⟩ (by kernel_rfl) rfl
    (fun f fn hf hfn => by
      obtain rfl : f = 3 := Option.some.inj ((show Tryd.prog.funcNamed Rows.storeCostsRow.func = some 3 by kernel_rfl).symm.trans hf) |>.symm
      obtain rfl : fn = Tryd.f3 := (Option.some.inj (Tryd.func3.symm.trans hfn)).symm
      refine ⟨looksP, fun j t ht => ?_⟩
      have hall : (Tryd.f3.params.toList.all fun t => !(Tryd.prog.wantsStandIn t)) = true := by kernel_rfl
      have hm : t ∈ Tryd.f3.params.toList := List.mem_of_getElem? (by simpa using ht)
      have h := List.all_eq_true.1 hall t hm
      show Tryd.prog.wantsStandIn t = false
      simpa using h)
    goes
#print axioms holds
end Go.Proofs.YtbphjpgkgolmpaaDoor.lawStoreCosts
