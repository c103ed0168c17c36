/-
  Fits returns what the reference returns, for any history and deeds. No condition beyond the tied variable.
-/
import Derived.Test.YtdogjdgfidbfhaaDoorRows
import Derived.Test.YtdogjdgfidbfhaaDoorCards
import Derived.Test.YtdogjdgfidbfhaaDoorTie
import Derived.Test.YtdogjdgfidbfhaaDoorCardB
import Derived.SevenTiedAt
import Derived.Test.YtdogjdgfidbfhaaDoorMBase
import Derived.Test.YtdogjdgfidbfhaaDoorJuG
import Derived.Test.YtdogjdgfidbfhaaDoorJuD
namespace Go.Proofs.YtdogjdgfidbfhaaDoor.lawJudgeFits
set_option linter.unusedSimpArgs false
set_option linter.unusedVariables false
set_option linter.unusedSectionVars false
open Go.RowKit Go.ChangeShapes Go.WideShapes Go.ChangeAt Go.Joins

attribute [local go_sem ↓] Go.wp_at_zero Go.wp_at_succ
set_option linter.unusedSimpArgs false
set_option linter.unusedVariables false

theorem slF_below {K : List IntKind} {w W : World} {A : Option Addr} {n c : Nat} {f : Nat → Nat → Int} (hs : SlF K w A n c f) (hW : Below w.heap.size w W) : SlF K W A n c f := hs.below hW
set_option maxRecDepth 100000 in
set_option maxHeartbeats 4000000 in
theorem walk (A : Option Addr) (n c : Nat) (f : Nat → Nat → Int) (A2 : Option Addr) (nl c2 : Nat) (g : Nat → Nat → Int) (w : World) (h : SlF K9 w A n c f) (h2 : SlF KD6 w A2 nl c2 g) (hg : ErrT w) :
    Calls Tryd.prog 3 #[.slice A n c, .slice A2 nl c2] w fun e w' => e = .returned (.bool true) ∧ Below w.heap.size w w' := by
  by_cases hn : n ≤ 60
  · have d60 : decide (60 < (n : Int)) = false := by simp; omega
    have q60 : ¬ 60 < n := by omega
    by_cases hl : nl ≤ 40
    · have d40 : decide (40 < (nl : Int)) = false := by simp; omega
      have q40 : ¬ 40 < nl := by omega
      obtain ⟨K, IA, KB, b, e, p, hj⟩ := jres_exists f g n nl
      have HF := Lib.hid (fits_any f g A n c A2 nl c2 K IA KB b e p w h h2 hn hl hj)
      have HJ := Lib.hid (fun W (hW : Below w.heap.size w W) => judge_any f g A n c A2 nl c2 K IA KB b e p W (h.below hW) (h2.below hW) hn hl hj)
      have HG := Lib.hid hg
      clear h h2 hg hj
      go_enter Tryd.func3, Tryd.ntmps3
      go_wp2_with fail
      with_reducible refine HF.out.mono ?_
      rintro e1 w1 ⟨hb1, err, rfl, hPE⟩
      have HB1 := Lib.hid hb1
      have HP1 := Lib.hid hPE
      clear hb1 hPE
      go_wp2_with fail
      with_reducible refine (HJ.out _ HB1.out).mono ?_
      rintro e2 w2 ⟨rfl, hb2⟩
      have HB2 := Lib.hid (HB1.out.trans (hb2.mono HB1.out.size))
      have HP2 := Lib.hid (HP1.out.below hb2)
      clear hb2
      go_wp2_with fail
      with_reducible refine (placed_any err e p _ HP2.out (HG.out.below HB2.out)).mono ?_
      rintro e3 w3 ⟨rfl, hb3⟩
      have HB3 := Lib.hid (HB2.out.trans (hb3.mono HB2.out.size))
      clear hb3
      go_wp2
      go_ret
      exact ⟨rfl, HB3.out⟩
    · have d40 : decide (40 < (nl : Int)) = true := by simp; omega
      have q40 : (40 : Int) < nl := by omega
      go_enter Tryd.func3, Tryd.ntmps3
      go_wp2
      go_ret
      exact ⟨rfl, by go_grown⟩
  · have d60 : decide (60 < (n : Int)) = true := by simp; omega
    have q60 : (60 : Int) < n := by omega
    go_enter Tryd.func3, Tryd.ntmps3
    go_wp2
    go_ret
    exact ⟨rfl, by go_grown⟩

theorem own : ownKnob Tryd.prog.godebug = none := by kernel_rfl

set_option maxHeartbeats 2000000 in
set_option maxRecDepth 100000 in
theorem lifted (os : Os) (started : os.Started) (H : Type) (enc : TypeId × Value → H) :
    ReturnsInHanded {} Tryd.checked os 3 .any (fun w args => (Rows.judgeFitsSpec.pre enc Tryd.prog Tryd.f3 [] false w args ∧ laidMetH Tryd.prog laidE w) ∧ sizedMet enc Tryd.prog Tryd.f3 (OpenSpec.ofChange Rows.judgeFitsSpec) false w args) (Rows.judgeFitsSpec.post enc Tryd.prog Tryd.f3 false true false false) := by
  refine law_lifted_and (C := Tryd.checked) (X := fun w _ => laidMetH Tryd.prog laidE w) (fun _ _ _ hh h => h.of_heap hh) own started (by kernel_rfl) Tryd.func3
    (ChangeSpec.witness_at (enc := enc) (C := Tryd.checked) (os := os) (X := fun w _ => laidMetH Tryd.prog laidE w) false (laidWorld os) #[.slice none 0 0, .slice none 0 0] 8 rfl (by kernel_rfl) (by kernel_rfl) (by kernel_rfl) (by kernel_rfl) (by kernel_rfl) (laidWorld_met os _))
    (by kernel_rfl) (by kernel_rfl) rfl rfl Tryd.underlying4 ?_
  intro W base args ds ps hval0 hA0 hsz0 hL
  have hg := errT_of_laid hL
  have hval : ∀ (j : Nat) t v, Tryd.f3.params[j]? = some t → args[j]? = some v → Value.okWide Tryd.prog W .any base t v := hval0
  have hA : DataW.TrodAll enc Tryd.prog W 0 (fun _ => true) true Tryd.f3.params.toList args.toList ds ps := hA0
  rw [Tryd.params3] at hA hval
  obtain ⟨v0, v1, d0, d1, p0, p1, rfl, rfl, rfl, h0, h1⟩ := trodAll_two hA
  obtain ⟨fA, fn, fc, f, rfl, fh⟩ := open_slF (K := [.i64, .i64, .i64, .i64, .i64, .i64, .i64, .i64, .i64]) 4 Tryd.underlying22 (by kernel_rfl) (by kernel_rfl) (by decide) (hval 0 22 v0 rfl rfl) h0
  obtain ⟨lA, ln, lc, l, rfl, lh⟩ := open_slF (K := [.i64, .i64, .i64, .i64, .i64, .i64]) 4 Tryd.underlying23 (by kernel_rfl) (by kernel_rfl) (by decide) (hval 1 23 v1 rfl rfl) h1
  exact ⟨rfl, walk fA fn fc f lA ln lc l W fh lh hg⟩

theorem kinPlace : (Rows.judgeFitsRow.inPlace == Tryd.pinned.checked.prog.inPlace 3) = true := by kernel_rfl
theorem kunfollowed : (Rows.judgeFitsRow.unfollowed == Tryd.pinned.checked.prog.unfollowed 3) = true := by kernel_rfl
theorem krecurses : (Rows.judgeFitsRow.recurses == Tryd.pinned.checked.prog.recurses 3) = true := by kernel_rfl
theorem knamed : (Rows.judgeFitsRow.named == Tryd.pinned.checked.prog.varsNamed 3) = true := by kernel_rfl
theorem closed : joinedFacts Tryd.pinned.checked.prog 3 Tryd.f3 Rows.judgeFitsSpec Rows.judgeFitsRow = true := by
  unfold joinedFacts
  simp only [Bool.and_eq_true]
  repeat' apply And.intro
  all_goals first | (with_reducible exact kinPlace) | (with_reducible exact kunfollowed) | (with_reducible exact krecurses) | (with_reducible exact knamed) | (with_reducible exact laidOutP) | (with_reducible exact mapsRowedP) | kernel_rfl
theorem goes : false = Rows.judgeFitsRow.goesBy Tryd.pinned.checked.prog := by kernel_rfl
theorem wfText : Rows.judgeFitsRow.wfByText (OpenSpec.ofChange Rows.judgeFitsSpec) = true := by kernel_rfl

theorem row : Rows.JudgeFitsSaid :=
  OpenClaim.holds_of_wide 3 Tryd.f3 rfl rfl rfl rfl rfl rfl rfl ⟨rfl, rfl, rfl, rfl, rfl⟩ rfl rfl rfl rfl rfl (by kernel_rfl) Tryd.func3 closed
    (of_decide_eq_true (by kernel_rfl)) (by unfold Func.isWrapper; first | (rw [if_pos (by decide +kernel)]; kernel_rfl) | (rw [if_neg (by decide +kernel)]; exact ⟨rfl, rfl⟩))
    (fun os started H enc _ => lifted os started H enc)
theorem holds : Rows.JudgeFitsCardSaid :=
  Claim7.holds_tied_plain_at .later [] [.handle] true Rows.judgeFitsCard.stood.harness true
    row (fun _ h => by cases h) wfText (fun _ h => by cases h) judgeFits_row_tie rfl ⟨rfl, rfl⟩ (by kernel_rfl) rfl
    (fun f fn hf hfn => by
      obtain rfl : f = 3 := Option.some.inj ((show Tryd.prog.funcNamed Rows.judgeFitsRow.func = some 3 by kernel_rfl).symm.trans hf) |>.symm
      obtain rfl : fn = Tryd.f3 := (Option.some.inj (Tryd.func3.symm.trans hfn)).symm
      refine ⟨looksP, fun j t ht => ?_⟩
      have hall : (Tryd.f3.params.toList.all fun t => !(Tryd.prog.wantsStandIn t)) = true := by kernel_rfl
      have hm : t ∈ Tryd.f3.params.toList := List.mem_of_getElem? (by simpa using ht)
      have h := List.all_eq_true.1 hall t hm
      show Tryd.prog.wantsStandIn t = false
      simpa using h)
    goes
#print axioms holds
end Go.Proofs.YtdogjdgfidbfhaaDoor.lawJudgeFits
