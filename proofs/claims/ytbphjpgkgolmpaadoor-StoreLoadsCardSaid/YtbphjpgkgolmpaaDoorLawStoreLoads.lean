/-
  any word of a store, behind any acts, is what the reference holds. No condition beyond the tied variable.
-/
import Derived.Test.YtbphjpgkgolmpaaDoorRows
import Derived.Test.YtbphjpgkgolmpaaDoorCards
import Derived.Test.YtbphjpgkgolmpaaDoorTie
import Derived.Test.YtbphjpgkgolmpaaDoorCardB
import Derived.SevenTiedAt
import Derived.Test.YtbphjpgkgolmpaaDoorMBase
import Derived.Test.YtbphjpgkgolmpaaDoorStL
import Derived.Test.YtbphjpgkgolmpaaDoorMBase
namespace Go.Proofs.YtbphjpgkgolmpaaDoor.lawStoreLoads
set_option linter.unusedSimpArgs false
set_option linter.unusedVariables false
set_option linter.unusedSectionVars false
open Go.RowKit Go.ChangeShapes Go.WideShapes Go.ChangeAt Go.Joins

attribute [local go_sem ↓] Go.wp_at_zero Go.wp_at_succ
set_option linter.unusedSimpArgs false
set_option linter.unusedVariables false

set_option maxRecDepth 100000 in
set_option maxHeartbeats 4000000 in
theorem walk (A : Option Addr) (n c : Nat) (l : Nat → Nat → Int) (ad : Int) (w : World) (hl : SlF [.i64, .i64, .u64, .i64, .i64] w A n c l) (hg : ErrT w) :
    Calls Tryd.prog 4 #[.slice A n c, .int .i64 ad] w fun e w' => e = .returned (.bool true) ∧ Below w.heap.size w w' := by
  by_cases h60 : n ≤ 60
  · have h60' : (n : Int) ≤ 60 := by omega
    have HG := Lib.hid hg
    go_enter Tryd.func4, Tryd.ntmps4
    go_wp2_with fail
    with_reducible refine (stored_any A n c l _ hl hg h60).mono ?_
    rintro e w1 ⟨g, h, m, k, s, rfl, hk, hs⟩
    have HS := Lib.hid hs
    clear hs hl hg
    have hth := rsThere h ad
    by_cases hin : 0 ≤ ad ∧ ad < 72
    · rw [decide_eq_true hin] at hth
      obtain ⟨i0, i72⟩ := hin
      obtain ⟨i, rfl⟩ := Int.eq_ofNat_of_zero_le i0
      have hi : i < 72 := by omega
      have c1 : w1.cell? ⟨h, i, none⟩ = some (.int .u64 (s.now i)) := by rw [HS.out.ref.cell, rsA_now _ _ hi]
      have HL := Lib.hid (stLoad_in g i s _ HS.out.prog hi)
      generalize s.now i = v at *
      go_wp2_with (go_at_call 11; with_reducible refine (hth _).mono ?_; rintro e w2 ⟨rfl, rfl⟩)
      with_reducible refine HL.out.mono ?_
      rintro e w2 ⟨rfl, rfl⟩
      go_wp2_with fail
      with_reducible refine (bareS0 _ (HG.out.below HS.out.below)).mono ?_
      rintro e w3 ⟨rfl, hb3⟩
      have HS3 := Lib.hid (HS.out.grow hb3)
      clear hb3
      go_wp2
      go_ret
      exact ⟨ret_bool (by simp), HS3.out.below⟩
    · rw [decide_eq_false hin] at hth
      go_wp2_with (go_at_call 11; with_reducible refine (hth _).mono ?_; rintro e w2 ⟨rfl, rfl⟩)
      with_reducible refine (stLoad_out g ad _ hin).mono ?_
      rintro e w2 ⟨rfl, rfl⟩
      go_wp2_with fail
      with_reducible refine (bareS2 _ (HG.out.below HS.out.below)).mono ?_
      rintro e w3 ⟨rfl, hb3⟩
      have HS3 := Lib.hid (HS.out.grow hb3)
      clear hb3
      go_wp2
      go_ret
      exact ⟨ret_bool (by simp), HS3.out.below⟩
  · have h60' : ¬ (n : Int) ≤ 60 := by omega
    go_enter Tryd.func4, Tryd.ntmps4
    go_wp2
    go_ret
    exact ⟨rfl, Below.refl _ _⟩

theorem own : ownKnob Tryd.prog.godebug = none := by kernel_rfl

set_option maxRecDepth 100000 in
theorem lifted (os : Os) (started : os.Started) (H : Type) (enc : TypeId × Value → H) :
    ReturnsInHanded {} Tryd.checked os 4 .any (fun w args => (Rows.storeLoadsSpec.pre enc Tryd.prog Tryd.f4 [] false w args ∧ laidMetH Tryd.prog laidE w) ∧ sizedMet enc Tryd.prog Tryd.f4 (OpenSpec.ofChange Rows.storeLoadsSpec) false w args) (Rows.storeLoadsSpec.post enc Tryd.prog Tryd.f4 false true false false) := by
  refine law_lifted_and (C := Tryd.checked) (X := fun w _ => laidMetH Tryd.prog laidE w) (fun _ _ _ hh h => h.of_heap hh) own started (by kernel_rfl) Tryd.func4
    (ChangeSpec.witness_at (enc := enc) (C := Tryd.checked) (os := os) (X := fun w _ => laidMetH Tryd.prog laidE w) false (laidWorld os) #[.slice none 0 0, .int .i64 0] 8 rfl (by kernel_rfl) (by kernel_rfl) (by kernel_rfl) (by kernel_rfl) (by kernel_rfl) (laidWorld_met os _))
    (by kernel_rfl) (by kernel_rfl) rfl rfl Tryd.underlying4 ?_
  intro W base args ds ps hval0 hA0 hsz0 hL
  have hg := errT_of_laid hL
  have hval : ∀ (j : Nat) t v, Tryd.f4.params[j]? = some t → args[j]? = some v → Value.okWide Tryd.prog W .any base t v := hval0
  have hA : DataW.TrodAll enc Tryd.prog W 0 (fun _ => true) true Tryd.f4.params.toList args.toList ds ps := hA0
  rw [Tryd.params4] at hA hval
  obtain ⟨v0, v1, d0, d1, p0, p1, rfl, rfl, rfl, h0, h1⟩ := trodAll_two hA
  obtain ⟨lA, ln, lc, l, rfl, lh⟩ := open_slF (K := [.i64, .i64, .u64, .i64, .i64]) 4 Tryd.underlying22 (by kernel_rfl) (by kernel_rfl) (by decide) (hval 0 22 v0 rfl rfl) h0
  obtain ⟨a, rfl, rfl, rfl, wa⟩ := open_int Tryd.underlying3 (hval 1 3 v1 rfl rfl) h1
  exact ⟨rfl, walk lA ln lc l a W lh hg⟩

theorem kinPlace : (Rows.storeLoadsRow.inPlace == Tryd.pinned.checked.prog.inPlace 4) = true := by kernel_rfl
theorem kunfollowed : (Rows.storeLoadsRow.unfollowed == Tryd.pinned.checked.prog.unfollowed 4) = true := by kernel_rfl
theorem krecurses : (Rows.storeLoadsRow.recurses == Tryd.pinned.checked.prog.recurses 4) = true := by kernel_rfl
theorem knamed : (Rows.storeLoadsRow.named == Tryd.pinned.checked.prog.varsNamed 4) = true := by kernel_rfl
theorem closed : joinedFacts Tryd.pinned.checked.prog 4 Tryd.f4 Rows.storeLoadsSpec Rows.storeLoadsRow = true := by
  unfold joinedFacts
  simp only [Bool.and_eq_true]
  repeat' apply And.intro
  all_goals first | (with_reducible exact kinPlace) | (with_reducible exact kunfollowed) | (with_reducible exact krecurses) | (with_reducible exact knamed) | (with_reducible exact laidOutP) | (with_reducible exact mapsRowedP) | kernel_rfl
theorem goes : false = Rows.storeLoadsRow.goesBy Tryd.pinned.checked.prog := by kernel_rfl
theorem wfText : Rows.storeLoadsRow.wfByText (OpenSpec.ofChange Rows.storeLoadsSpec) = true := by kernel_rfl

theorem row : Rows.StoreLoadsSaid :=
  OpenClaim.holds_of_wide 4 Tryd.f4 rfl rfl rfl rfl rfl rfl rfl ⟨rfl, rfl, rfl, rfl, rfl⟩ rfl rfl rfl rfl rfl (by kernel_rfl) Tryd.func4 closed
    (of_decide_eq_true (by kernel_rfl)) (by unfold Func.isWrapper; first | (rw [if_pos (by decide +kernel)]; kernel_rfl) | (rw [if_neg (by decide +kernel)]; exact ⟨rfl, rfl⟩))
    (fun os started H enc _ => lifted os started H enc)
theorem holds : Rows.StoreLoadsCardSaid :=
  Claim7.holds_tied_plain_at .later [] [.handle] true Rows.storeLoadsCard.stood.harness true
    row (fun _ h => by cases h) wfText (fun _ h => by cases h) storeLoads_row_tie rfl ⟨rfl, rfl⟩ (by kernel_rfl) rfl
    (fun f fn hf hfn => by
      obtain rfl : f = 4 := Option.some.inj ((show Tryd.prog.funcNamed Rows.storeLoadsRow.func = some 4 by kernel_rfl).symm.trans hf) |>.symm
      obtain rfl : fn = Tryd.f4 := (Option.some.inj (Tryd.func4.symm.trans hfn)).symm
      refine ⟨looksP, fun j t ht => ?_⟩
      have hall : (Tryd.f4.params.toList.all fun t => !(Tryd.prog.wantsStandIn t)) = true := by kernel_rfl
      have hm : t ∈ Tryd.f4.params.toList := List.mem_of_getElem? (by simpa using ht)
      have h := List.all_eq_true.1 hall t hm
      show Tryd.prog.wantsStandIn t = false
      simpa using h)
    goes
#print axioms holds
end Go.Proofs.YtbphjpgkgolmpaaDoor.lawStoreLoads
