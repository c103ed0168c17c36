/-
  Set returns what the reference returns, for any word, bit range and number. No condition beyond the tied variable.
-/
import Derived.Test.YtiajglefmlfkfaaDoorRows
import Derived.Test.YtiajglefmlfkfaaDoorCards
import Derived.Test.YtiajglefmlfkfaaDoorTie
import Derived.Test.YtiajglefmlfkfaaDoorCardB
import Derived.SevenTiedAt
import Derived.Test.YtiajglefmlfkfaaDoorFrame
import Derived.Test.YtiajglefmlfkfaaDoorOpen
import Derived.Test.YtiajglefmlfkfaaDoorSet
namespace Go.Proofs.YtiajglefmlfkfaaDoor.lawWordSets
open Go.RowKit Go.ChangeShapes Go.WideShapes Go.ChangeAt Go.Joins

attribute [local go_sem ↓] Go.wp_at_zero Go.wp_at_succ
set_option linter.unusedSimpArgs false
set_option linter.unusedVariables false

theorem walk (x y : Nat) (a n : Int) (w : World) (hx : x < 18446744073709551616) (hy : y < 18446744073709551616) (hg : ErrT w) :
    Calls Tryd.prog 6 #[.int .u64 (x : Int), .int .i64 a, .int .i64 n, .int .u64 (y : Int)] w fun e w' => e = .returned (.bool true) ∧ Below w.heap.size w w' := by
  have HG := Lib.hid hg
  clear hg
  have HX := Lib.hid hx
  have HY := Lib.hid hy
  clear hx hy
  go_enter Tryd.func6, Tryd.ntmps6
  go_wp2_with fail
  refine (refSet_any x y a n _ HX.out HY.out).mono ?_
  rintro e w1 ⟨rfl, hb1⟩
  go_wp2_with fail
  refine (set_any x y a n _ HX.out HY.out).mono ?_
  rintro e w2 ⟨rfl, hb2⟩
  have hB : Below w.heap.size w w2 := hb1.trans (hb2.mono hb1.size)
  have HG3 := Lib.hid (HG.out.below hB)
  go_wp2_with fail
  refine (bare_any _ _ _ HG3.out).mono ?_
  rintro e w3 ⟨rfl, hb3⟩
  go_wp2
  go_ret
  exact ⟨ret_bool (by simp), hB.trans (hb3.mono hB.size)⟩

theorem own : ownKnob Tryd.prog.godebug = none := by kernel_rfl

set_option maxRecDepth 100000 in
theorem lifted (os : Os) (started : os.Started) (H : Type) (enc : TypeId × Value → H) :
    ReturnsInHanded {} Tryd.checked os 6 .any (fun w args => (Rows.wordSetsSpec.pre enc Tryd.prog Tryd.f6 [] false w args ∧ laidMetH Tryd.prog laidE w) ∧ sizedMet enc Tryd.prog Tryd.f6 (OpenSpec.ofChange Rows.wordSetsSpec) false w args) (Rows.wordSetsSpec.post enc Tryd.prog Tryd.f6 false true false false) := by
  refine law_lifted_and (C := Tryd.checked) (X := fun w _ => laidMetH Tryd.prog laidE w) (fun _ _ _ hh h => h.of_heap hh) own started (by kernel_rfl) Tryd.func6
    (ChangeSpec.witness_at (enc := enc) (C := Tryd.checked) (os := os) (X := fun w _ => laidMetH Tryd.prog laidE w) false (laidWorld os) #[.int .u64 0, .int .i64 0, .int .i64 0, .int .u64 0] 8 rfl (by kernel_rfl) (by kernel_rfl) (by kernel_rfl) (by kernel_rfl) (by kernel_rfl) (laidWorld_met os _))
    (by kernel_rfl) (by kernel_rfl) rfl rfl Tryd.underlying4 ?_
  intro W base args ds ps hval0 hA0 hsz0 hL
  have hg := errT_of_laid hL
  have hval : ∀ (j : Nat) t v, Tryd.f6.params[j]? = some t → args[j]? = some v → Value.okWide Tryd.prog W .any base t v := hval0
  have hA : DataW.TrodAll enc Tryd.prog W 0 (fun _ => true) true Tryd.f6.params.toList args.toList ds ps := hA0
  rw [Tryd.params6] at hA hval
  obtain ⟨v0, v1, v2, v3, d0, d1, d2, d3, p0, p1, p2, p3, rfl, rfl, rfl, h0, h1, h2, h3⟩ := trodAll_four hA
  obtain ⟨x, rfl, rfl, rfl, wx⟩ := open_int Tryd.underlying24 (hval 0 24 v0 rfl rfl) h0
  obtain ⟨a, rfl, rfl, rfl, wa⟩ := open_int Tryd.underlying3 (hval 1 3 v1 rfl rfl) h1
  obtain ⟨n, rfl, rfl, rfl, wn⟩ := open_int Tryd.underlying3 (hval 2 3 v2 rfl rfl) h2
  obtain ⟨z, rfl, rfl, rfl, wz⟩ := open_int Tryd.underlying24 (hval 3 24 v3 rfl rfl) h3
  obtain ⟨y, rfl⟩ := Int.eq_ofNat_of_zero_le (bounds_u64 wx).1; obtain ⟨q, rfl⟩ := Int.eq_ofNat_of_zero_le (bounds_u64 wz).1
  exact ⟨rfl, walk y q a n W (by have := (bounds_u64 wx).2; omega) (by have := (bounds_u64 wz).2; omega) hg⟩

theorem kinPlace : (Rows.wordSetsRow.inPlace == Tryd.pinned.checked.prog.inPlace 6) = true := by kernel_rfl
theorem kunfollowed : (Rows.wordSetsRow.unfollowed == Tryd.pinned.checked.prog.unfollowed 6) = true := by kernel_rfl
theorem krecurses : (Rows.wordSetsRow.recurses == Tryd.pinned.checked.prog.recurses 6) = true := by kernel_rfl
theorem knamed : (Rows.wordSetsRow.named == Tryd.pinned.checked.prog.varsNamed 6) = true := by kernel_rfl
theorem closed : joinedFacts Tryd.pinned.checked.prog 6 Tryd.f6 Rows.wordSetsSpec Rows.wordSetsRow = true := by
  unfold joinedFacts
  simp only [Bool.and_eq_true]
  repeat' apply And.intro
  all_goals first | (with_reducible exact kinPlace) | (with_reducible exact kunfollowed) | (with_reducible exact krecurses) | (with_reducible exact knamed) | (with_reducible exact laidOutP) | (with_reducible exact mapsRowedP) | kernel_rfl
theorem goes : false = Rows.wordSetsRow.goesBy Tryd.pinned.checked.prog := by kernel_rfl
theorem wfText : Rows.wordSetsRow.wfByText (OpenSpec.ofChange Rows.wordSetsSpec) = true := by kernel_rfl

theorem row : Rows.WordSetsSaid :=
  OpenClaim.holds_of_wide 6 Tryd.f6 rfl rfl rfl rfl rfl rfl rfl ⟨rfl, rfl, rfl, rfl, rfl⟩ rfl rfl rfl rfl rfl (by kernel_rfl) Tryd.func6 closed
    (of_decide_eq_true (by kernel_rfl)) (by unfold Func.isWrapper; first | (rw [if_pos (by decide +kernel)]; kernel_rfl) | (rw [if_neg (by decide +kernel)]; exact ⟨rfl, rfl⟩))
    (fun os started H enc _ => lifted os started H enc)
theorem holds : Rows.WordSetsCardSaid :=
  Claim7.holds_tied_plain_at .later [] [.handle] true Rows.wordSetsCard.stood.harness true
    row (fun _ h => by cases h) wfText (fun _ h => by cases h) wordSets_row_tie rfl ⟨rfl, rfl⟩ (by kernel_rfl) rfl
    (fun f fn hf hfn => by
      obtain rfl : f = 6 := Option.some.inj ((show Tryd.prog.funcNamed Rows.wordSetsRow.func = some 6 by kernel_rfl).symm.trans hf) |>.symm
      obtain rfl : fn = Tryd.f6 := (Option.some.inj (Tryd.func6.symm.trans hfn)).symm
      refine ⟨looksP, fun j t ht => ?_⟩
      have hall : (Tryd.f6.params.toList.all fun t => !(Tryd.prog.wantsStandIn t)) = true := by kernel_rfl
      have hm : t ∈ Tryd.f6.params.toList := List.mem_of_getElem? (by simpa using ht)
      have h := List.all_eq_true.1 hall t hm
      show Tryd.prog.wantsStandIn t = false
      simpa using h)
    goes
#print axioms holds
end Go.Proofs.YtiajglefmlfkfaaDoor.lawWordSets
