/-
  Is and Name return what the reference returns for any kind. No condition beyond the tied variables.
-/
import Derived.Test.YtncgpaajbflaeaaDoorRows
import Derived.Test.YtncgpaajbflaeaaDoorCards
import Derived.Test.YtncgpaajbflaeaaDoorTie
import Derived.Test.YtncgpaajbflaeaaDoorCardC
import Derived.SevenTiedAt
import Derived.Test.YtncgpaajbflaeaaDoorMBase
import Derived.Test.YtncgpaajbflaeaaDoorStrC
import Derived.Test.YtncgpaajbflaeaaDoorCardC
import Derived.Test.YtncgpaajbflaeaaDoorMBase
namespace Go.Proofs.YtncgpaajbflaeaaDoor.lawObjectNames
set_option linter.unusedSimpArgs false
set_option linter.unusedVariables false
set_option linter.unusedSectionVars false
open Go.RowKit Go.ChangeShapes Go.WideShapes Go.ChangeAt Go.Joins

attribute [local go_sem ↓] Go.wp_at_zero Go.wp_at_succ
set_option linter.unusedSimpArgs false
set_option linter.unusedVariables false

def laidE : List (String × DataW Unit) := [("unicode.White_Space", Rows.laid_unicode_White_Space), ("strings.asciiSpace", Rows.laid_strings_asciiSpace)]
noncomputable def laidWorld (os : Os) : World := World.laidAll Tryd.prog os laidE
theorem laidWorld_os (os : Os) : (laidWorld os).os = os := World.laidAll_os _ _ _
theorem laidWorld_met (os : Os) (args : Array Value) : laidMetH Tryd.prog laidE ((laidWorld os).forCall (fun _ _ => 0) ⟨#[], args, []⟩).memory := by
  rw [MakeChecks.laidMetH_plain _ _ _ (by kernel_rfl)]
  exact laidMet_laidAll _ (by kernel_rfl) (by kernel_rfl)

theorem factsOf {W : World} (h : laidMetH Tryd.prog laidE W) : SpT W.heap.size W := sp_of (reads_laid h (by simp [laidE]) rfl)
theorem kq0 : (false == !((⟨#[63]⟩ : ByteArray).toList == [63])) = true := by kernel_rfl
theorem kindQ (k : Int) : (kindB k == !((kindZ k).toList == [63])) = true := by
  by_cases h : 1 ≤ k ∧ k ≤ 6
  · obtain ⟨h1, h2⟩ := h
    rcases (by omega : k = 1 ∨ k = 2 ∨ k = 3 ∨ k = 4 ∨ k = 5 ∨ k = 6) with rfl | rfl | rfl | rfl | rfl | rfl
    all_goals kernel_rfl
  · have hb : kindB k = false := by simp [kindB]; omega
    have hz : kindZ k = ⟨#[63]⟩ := by simp [kindZ, hb]
    rw [hb, hz]
    exact kq0
theorem walk (k : Int) (w : World) (hT : SpT w.heap.size w) : Calls Tryd.prog 3 #[.int .i64 k] w fun e w' => e = .returned (.bool true) ∧ Below w.heap.size w w' := by
  have HT := Lib.hid hT
  clear hT
  go_enter Tryd.func3, Tryd.ntmps3
  go_wp2_with fail
  refine (name_any k _).mono ?_
  rintro e w1 ⟨rfl, rfl⟩
  go_wp2_with fail
  refine (kindName_any k HT.out).mono ?_
  rintro e w1 ⟨rfl, hb1⟩
  have HT1 := Lib.hid (HT.out.on hb1)
  go_wp2_with fail
  refine (is_any k _).mono ?_
  rintro e w2 ⟨rfl, rfl⟩
  go_wp2_with fail
  refine (kindName_any k HT1.out).mono ?_
  rintro e w2 ⟨rfl, hb2⟩
  go_wp2_with fail
  go_ret
  exact ⟨ret_bool (by rw [kindQ k]), hb1.trans (hb2.mono hb1.size)⟩

theorem own : ownKnob Tryd.prog.godebug = none := by kernel_rfl

set_option maxRecDepth 100000 in
theorem lifted (os : Os) (started : os.Started) (H : Type) (enc : TypeId × Value → H) :
    ReturnsInHanded {} Tryd.checked os 3 .any (fun w args => (Rows.objectNamesSpec.pre enc Tryd.prog Tryd.f3 [] false w args ∧ laidMetH Tryd.prog laidE w) ∧ sizedMet enc Tryd.prog Tryd.f3 (OpenSpec.ofChange Rows.objectNamesSpec) false w args) (Rows.objectNamesSpec.post enc Tryd.prog Tryd.f3 false true false false) := by
  refine law_lifted_and (C := Tryd.checked) (X := fun w _ => laidMetH Tryd.prog laidE w) (fun _ _ _ hh h => h.of_heap hh) own started (by kernel_rfl) Tryd.func3
    (ChangeSpec.witness_shaped (enc := enc) (C := Tryd.checked) (os := os) (X := fun w _ => laidMetH Tryd.prog laidE w) false (laidWorld os) #[.int .i64 0] 8 (laidWorld_os os) (World.shaped_of_ZipB (by kernel_rfl) (by kernel_rfl)) (by kernel_rfl) (by kernel_rfl) (by kernel_rfl) (laidWorld_met os _))
    (by kernel_rfl) (by kernel_rfl) rfl rfl Tryd.underlying4 ?_
  intro W base args ds ps hval0 hA0 hsz0 hL
  have hg := factsOf hL
  have hval : ∀ (j : Nat) t v, Tryd.f3.params[j]? = some t → args[j]? = some v → Value.okWide Tryd.prog W .any base t v := hval0
  have hA : DataW.TrodAll enc Tryd.prog W 0 (fun _ => true) true Tryd.f3.params.toList args.toList ds ps := hA0
  rw [Tryd.params3] at hA hval
  obtain ⟨v0, d0, rfl, rfl, h0⟩ := trodAll_one hA
  obtain ⟨k, rfl, rfl, rfl, wk⟩ := open_int Tryd.underlying3 (hval 0 3 v0 rfl rfl) h0
  exact ⟨rfl, walk k W hg⟩

theorem kinPlace : (Rows.objectNamesRow.inPlace == Tryd.pinned.checked.prog.inPlace 3) = true := by kernel_rfl
theorem kunfollowed : (Rows.objectNamesRow.unfollowed == Tryd.pinned.checked.prog.unfollowed 3) = true := by kernel_rfl
theorem krecurses : (Rows.objectNamesRow.recurses == Tryd.pinned.checked.prog.recurses 3) = true := by kernel_rfl
theorem knamed : (Rows.objectNamesRow.named == Tryd.pinned.checked.prog.varsNamed 3) = true := by kernel_rfl
theorem closed : joinedFacts Tryd.pinned.checked.prog 3 Tryd.f3 Rows.objectNamesSpec Rows.objectNamesRow = true := by
  unfold joinedFacts
  simp only [Bool.and_eq_true]
  repeat' apply And.intro
  all_goals first | (with_reducible exact kinPlace) | (with_reducible exact kunfollowed) | (with_reducible exact krecurses) | (with_reducible exact knamed) | (with_reducible exact laidOutP) | (with_reducible exact mapsRowedP) | kernel_rfl
theorem goes : false = Rows.objectNamesRow.goesBy Tryd.pinned.checked.prog := by kernel_rfl
theorem wfText : Rows.objectNamesRow.wfByText (OpenSpec.ofChange Rows.objectNamesSpec) = true := by kernel_rfl

theorem row : Rows.ObjectNamesSaid :=
  OpenClaim.holds_of_wide 3 Tryd.f3 rfl rfl rfl rfl rfl rfl rfl ⟨rfl, rfl, rfl, rfl, rfl⟩ rfl rfl rfl rfl rfl (by kernel_rfl) Tryd.func3 closed
    (of_decide_eq_true (by kernel_rfl)) (by unfold Func.isWrapper; first | (rw [if_pos (by decide +kernel)]; kernel_rfl) | (rw [if_neg (by decide +kernel)]; exact ⟨rfl, rfl⟩))
    (fun os started H enc _ => lifted os started H enc)
theorem holds : Rows.ObjectNamesCardSaid :=
  Claim7.holds_tied_plain_at .later [] [.listed, .data] true Rows.objectNamesCard.stood.harness true
    row (fun _ h => by cases h) wfText (fun _ h => by cases h) objectNames_row_tie rfl ⟨rfl, rfl⟩ (by kernel_rfl) rfl
    (fun f fn hf hfn => by
      obtain rfl : f = 3 := Option.some.inj ((show Tryd.prog.funcNamed Rows.objectNamesRow.func = some 3 by kernel_rfl).symm.trans hf) |>.symm
      obtain rfl : fn = Tryd.f3 := (Option.some.inj (Tryd.func3.symm.trans hfn)).symm
      refine ⟨looksP, fun j t ht => ?_⟩
      have hall : (Tryd.f3.params.toList.all fun t => !(Tryd.prog.wantsStandIn t)) = true := by kernel_rfl
      have hm : t ∈ Tryd.f3.params.toList := List.mem_of_getElem? (by simpa using ht)
      have h := List.all_eq_true.1 hall t hm
      show Tryd.prog.wantsStandIn t = false
      simpa using h)
    goes
#print axioms holds
end Go.Proofs.YtncgpaajbflaeaaDoor.lawObjectNames
