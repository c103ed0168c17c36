/-
  Word returns what the reference returns for any operation. No condition beyond the tied variable.
-/
import Derived.Test.YtiajglefmlfkfaaDoorRows
import Derived.Test.YtiajglefmlfkfaaDoorCards
import Derived.Test.YtiajglefmlfkfaaDoorTie
import Derived.Test.YtiajglefmlfkfaaDoorCardB
import Derived.SevenTiedAt
import Derived.Test.YtiajglefmlfkfaaDoorFrame
import Derived.Test.YtiajglefmlfkfaaDoorOpen
import Derived.Test.YtiajglefmlfkfaaDoorOpW
namespace Go.Proofs.YtiajglefmlfkfaaDoor.lawOpWords
open Go.RowKit Go.ChangeShapes Go.WideShapes Go.ChangeAt Go.Joins

attribute [local go_sem ↓] Go.wp_at_zero Go.wp_at_succ

theorem walk (a k v : Int) (w : World) (hg : ErrT w) :
    Calls Tryd.prog 3 #[.agg #[.int .i64 a, .int .i64 k, .int .i64 v]] w fun e w' => e = .returned (.bool true) ∧ Below w.heap.size w w' := by
  have HG := Lib.hid hg
  clear hg
  have hg2 : ErrT (w.alloc (.cells #[.int .i64 a, .int .i64 k, .int .i64 v] 23)) := HG.out.below ((Below.refl _ _).alloc (Nat.le_refl _) _)
  have HG2 := Lib.hid hg2
  clear hg2
  go_enter Tryd.func3, Tryd.ntmps3
  go_wp2_with fail
  refine (refWord_any a k v _).mono ?_
  rintro e w1 ⟨rfl, hb1⟩
  obtain ⟨hc, hf⟩ := bcell hb1
  have hz := hb1.size
  simp only [World.size_alloc] at hz
  go_wp2_with fail
  refine (opWord_any a k v _).mono ?_
  rintro e w2 ⟨rfl, hb2⟩
  have HG3 := Lib.hid ((HG2.out.below hb1).below hb2)
  go_wp2_with fail
  refine (bare_any _ _ _ HG3.out).mono ?_
  rintro e w3 ⟨rfl, hb3⟩
  go_wp2
  go_ret
  exact ⟨ret_bool (by simp), (Below.trans (by go_grown) (hb1.mono (by simp))).trans ((hb2.mono (by omega)).trans (hb3.mono (by have := hb2.size; omega)))⟩

theorem own : ownKnob Tryd.prog.godebug = none := by kernel_rfl

set_option maxRecDepth 100000 in
theorem lifted (os : Os) (started : os.Started) (H : Type) (enc : TypeId × Value → H) :
    ReturnsInHanded {} Tryd.checked os 3 .any (fun w args => (Rows.opWordsSpec.pre enc Tryd.prog Tryd.f3 [] false w args ∧ laidMetH Tryd.prog laidE w) ∧ sizedMet enc Tryd.prog Tryd.f3 (OpenSpec.ofChange Rows.opWordsSpec) false w args) (Rows.opWordsSpec.post enc Tryd.prog Tryd.f3 false true false false) := by
  refine law_lifted_and (C := Tryd.checked) (X := fun w _ => laidMetH Tryd.prog laidE w) (fun _ _ _ hh h => h.of_heap hh) own started (by kernel_rfl) Tryd.func3
    (ChangeSpec.witness_at (enc := enc) (C := Tryd.checked) (os := os) (X := fun w _ => laidMetH Tryd.prog laidE w) false (laidWorld os) #[.agg #[.int .i64 0, .int .i64 0, .int .i64 0]] 8 rfl (by kernel_rfl) (by kernel_rfl) (by kernel_rfl) (by kernel_rfl) (by kernel_rfl) (laidWorld_met os _))
    (by kernel_rfl) (by kernel_rfl) rfl rfl Tryd.underlying4 ?_
  intro W base args ds ps hval0 hA0 hsz0 hL
  have hg := errT_of_laid hL
  have hval : ∀ (j : Nat) t v, Tryd.f3.params[j]? = some t → args[j]? = some v → Value.okWide Tryd.prog W .any base t v := hval0
  have hA : DataW.TrodAll enc Tryd.prog W 0 (fun _ => true) true Tryd.f3.params.toList args.toList ds ps := hA0
  rw [Tryd.params3] at hA hval
  obtain ⟨v0, d0, rfl, rfl, h0⟩ := trodAll_one hA
  obtain ⟨o, rfl, wo⟩ := open_flat 4 (K := [.i64, .i64, .i64]) (by kernel_rfl) (by kernel_rfl) (by kernel_rfl) (hval 0 23 v0 rfl rfl) h0
  exact ⟨rfl, walk (o 0) (o 1) (o 2) W hg⟩

theorem kinPlace : (Rows.opWordsRow.inPlace == Tryd.pinned.checked.prog.inPlace 3) = true := by kernel_rfl
theorem kunfollowed : (Rows.opWordsRow.unfollowed == Tryd.pinned.checked.prog.unfollowed 3) = true := by kernel_rfl
theorem krecurses : (Rows.opWordsRow.recurses == Tryd.pinned.checked.prog.recurses 3) = true := by kernel_rfl
theorem knamed : (Rows.opWordsRow.named == Tryd.pinned.checked.prog.varsNamed 3) = true := by kernel_rfl
theorem closed : joinedFacts Tryd.pinned.checked.prog 3 Tryd.f3 Rows.opWordsSpec Rows.opWordsRow = true := by
  unfold joinedFacts
  simp only [Bool.and_eq_true]
  repeat' apply And.intro
  all_goals first | (with_reducible exact kinPlace) | (with_reducible exact kunfollowed) | (with_reducible exact krecurses) | (with_reducible exact knamed) | (with_reducible exact laidOutP) | (with_reducible exact mapsRowedP) | kernel_rfl
theorem goes : false = Rows.opWordsRow.goesBy Tryd.pinned.checked.prog := by kernel_rfl
theorem wfText : Rows.opWordsRow.wfByText (OpenSpec.ofChange Rows.opWordsSpec) = true := by kernel_rfl

theorem row : Rows.OpWordsSaid :=
  OpenClaim.holds_of_wide 3 Tryd.f3 rfl rfl rfl rfl rfl rfl rfl ⟨rfl, rfl, rfl, rfl, rfl⟩ rfl rfl rfl rfl rfl (by kernel_rfl) Tryd.func3 closed
    (of_decide_eq_true (by kernel_rfl)) (by unfold Func.isWrapper; first | (rw [if_pos (by decide +kernel)]; kernel_rfl) | (rw [if_neg (by decide +kernel)]; exact ⟨rfl, rfl⟩))
    (fun os started H enc _ => lifted os started H enc)
theorem holds : Rows.OpWordsCardSaid :=
  Claim7.holds_tied_plain_at .later [] [.handle] true Rows.opWordsCard.stood.harness true
    row (fun _ h => by cases h) wfText (fun _ h => by cases h) opWords_row_tie rfl ⟨rfl, rfl⟩ (by kernel_rfl) rfl
    (fun f fn hf hfn => by
      obtain rfl : f = 3 := Option.some.inj ((show Tryd.prog.funcNamed Rows.opWordsRow.func = some 3 by kernel_rfl).symm.trans hf) |>.symm
      obtain rfl : fn = Tryd.f3 := (Option.some.inj (Tryd.func3.symm.trans hfn)).symm
      refine ⟨looksP, fun j t ht => ?_⟩
      have hall : (Tryd.f3.params.toList.all fun t => !(Tryd.prog.wantsStandIn t)) = true := by kernel_rfl
      have hm : t ∈ Tryd.f3.params.toList := List.mem_of_getElem? (by simpa using ht)
      have h := List.all_eq_true.1 hall t hm
      show Tryd.prog.wantsStandIn t = false
      simpa using h)
    goes
#print axioms holds
end Go.Proofs.YtiajglefmlfkfaaDoor.lawOpWords
