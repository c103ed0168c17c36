/-
  Deeds returns what the reference returns for any deeds. No condition beyond the tied variables.
-/
import Derived.Test.YtncgpaajbflaeaaDoorRows
import Derived.Test.YtncgpaajbflaeaaDoorCards
import Derived.Test.YtncgpaajbflaeaaDoorTie
import Derived.Test.YtncgpaajbflaeaaDoorCardC
import Derived.SevenTiedAt
import Derived.Test.YtncgpaajbflaeaaDoorMBase
import Derived.Test.YtncgpaajbflaeaaDoorDeedC
import Derived.Test.YtncgpaajbflaeaaDoorCardC
import Derived.Test.YtncgpaajbflaeaaDoorMBase
namespace Go.Proofs.YtncgpaajbflaeaaDoor.lawStoryDeeds
set_option linter.unusedSimpArgs false
set_option linter.unusedVariables false
set_option linter.unusedSectionVars false
open Go.RowKit Go.ChangeShapes Go.WideShapes Go.ChangeAt Go.Joins

attribute [local go_sem ↓] Go.wp_at_zero Go.wp_at_succ
set_option linter.unusedSimpArgs false
set_option linter.unusedVariables false

def laidE : List (String × DataW Unit) := [("math/bits.deBruijn32tab", Rows.laid_math_bits_deBruijn32tab), ("math/bits.deBruijn64tab", Rows.laid_math_bits_deBruijn64tab), ("internal/strconv.uint64pow10", Rows.laid_internal_strconv_uint64pow10), ("unicode.White_Space", Rows.laid_unicode_White_Space), ("strings.asciiSpace", Rows.laid_strings_asciiSpace), ("gristmill/op.names", Rows.laid_gristmill_op_names), ("gristmill/op.codes", Rows.laid_gristmill_op_codes)]
noncomputable def laidWorld (os : Os) : World := World.laidAll Tryd.prog os laidE
theorem laidWorld_os (os : Os) : (laidWorld os).os = os := World.laidAll_os _ _ _
theorem laidWorld_met (os : Os) (args : Array Value) : laidMetH Tryd.prog laidE ((laidWorld os).forCall (fun _ _ => 0) ⟨#[], args, []⟩).memory := by
  rw [MakeChecks.laidMetH_plain _ _ _ (by kernel_rfl)]
  exact laidMet_laidAll _ (by kernel_rfl) (by kernel_rfl)

theorem factsOf {W : World} (h : laidMetH Tryd.prog laidE W) : DeedT W :=
  have s := sp_of (reads_laid h (by simp [laidE]) rfl)
  have t := ten_of (reads_laid h (by simp [laidE]) rfl)
  ⟨⟨s, t, codes_of (reads_laid h (by simp [laidE]) rfl)⟩, ⟨s, t, names_of (reads_laid h (by simp [laidE]) rfl)⟩⟩
set_option maxRecDepth 100000 in
theorem walk (A : Option Addr) (n c : Nat) (f : Nat → Nat → Int) (w : World) (h : SlF sixK w A n c f) (hg : DeedT w) : Calls Tryd.prog 7 #[.slice A n c] w fun e w' => e = .returned (.bool true) ∧ Below w.heap.size w w' := by
  have H := Lib.hid h
  have HG := Lib.hid hg
  clear h hg
  rcases Nat.lt_or_ge 40 n with hn | hn
  · have d : decide ((40 : Int) < (n : Int)) = true := by simp; omega
    go_enter Tryd.func7, Tryd.ntmps7
    go_wp2
    go_ret
    exact ⟨ret_bool (by simp), Below.refl _ _⟩
  · have d : decide ((40 : Int) < (n : Int)) = false := by simp; omega
    have h1 := fun w1 (h : SlF sixK w1 A n c f) (hg : DeedT w1) => deeds_any A n c f w1 h hn hg
    have h2 := fun w1 (h : SlF sixK w1 A n c f) (hg : DeedT w1) => deedsText_any A n c f w1 h hn hg
    rw [acc_joinB] at h1
    generalize accZ f n = z at h1 h2
    have H1 := Lib.hid h1
    have H2 := Lib.hid h2
    clear h1 h2
    go_enter Tryd.func7, Tryd.ntmps7
    go_wp2_with fail
    refine (H1.out _ H.out HG.out).mono ?_
    rintro e w1 ⟨rfl, hb1⟩
    go_wp2_with fail
    refine (H2.out _ (H.out.below hb1) (HG.out.below hb1)).mono ?_
    rintro e w2 ⟨rfl, hb2⟩
    go_wp2
    go_ret
    exact ⟨ret_bool (by simp), hb1.trans (hb2.mono hb1.size)⟩

theorem own : ownKnob Tryd.prog.godebug = none := by kernel_rfl

set_option maxRecDepth 100000 in
theorem lifted (os : Os) (started : os.Started) (H : Type) (enc : TypeId × Value → H) :
    ReturnsInHanded {} Tryd.checked os 7 .any (fun w args => (Rows.storyDeedsSpec.pre enc Tryd.prog Tryd.f7 [] false w args ∧ laidMetH Tryd.prog laidE w) ∧ sizedMet enc Tryd.prog Tryd.f7 (OpenSpec.ofChange Rows.storyDeedsSpec) false w args) (Rows.storyDeedsSpec.post enc Tryd.prog Tryd.f7 false true false false) := by
  refine law_lifted_and (C := Tryd.checked) (X := fun w _ => laidMetH Tryd.prog laidE w) (fun _ _ _ hh h => h.of_heap hh) own started (by kernel_rfl) Tryd.func7
    (ChangeSpec.witness_shaped (enc := enc) (C := Tryd.checked) (os := os) (X := fun w _ => laidMetH Tryd.prog laidE w) false (laidWorld os) #[.slice none 0 0] 8 (laidWorld_os os) (World.shaped_of_ZipB (by kernel_rfl) (by kernel_rfl)) (by kernel_rfl) (by kernel_rfl) (by kernel_rfl) (laidWorld_met os _))
    (by kernel_rfl) (by kernel_rfl) rfl rfl Tryd.underlying4 ?_
  intro W base args ds ps hval0 hA0 hsz0 hL
  have hg := factsOf hL
  have hval : ∀ (j : Nat) t v, Tryd.f7.params[j]? = some t → args[j]? = some v → Value.okWide Tryd.prog W .any base t v := hval0
  have hA : DataW.TrodAll enc Tryd.prog W 0 (fun _ => true) true Tryd.f7.params.toList args.toList ds ps := hA0
  rw [Tryd.params7] at hA hval
  obtain ⟨v0, d0, rfl, rfl, h0⟩ := trodAll_one hA
  obtain ⟨lA, ln, lc, l, rfl, lh⟩ := open_slF (K := [.i64, .i64, .i64, .i64, .i64, .i64]) 4 Tryd.underlying61 (by kernel_rfl) (by kernel_rfl) (by decide) (hval 0 61 v0 rfl rfl) h0
  exact ⟨rfl, walk lA ln lc l W lh hg⟩

theorem kinPlace : (Rows.storyDeedsRow.inPlace == Tryd.pinned.checked.prog.inPlace 7) = true := by kernel_rfl
theorem kunfollowed : (Rows.storyDeedsRow.unfollowed == Tryd.pinned.checked.prog.unfollowed 7) = true := by kernel_rfl
theorem krecurses : (Rows.storyDeedsRow.recurses == Tryd.pinned.checked.prog.recurses 7) = true := by kernel_rfl
theorem knamed : (Rows.storyDeedsRow.named == Tryd.pinned.checked.prog.varsNamed 7) = true := by kernel_rfl
theorem closed : joinedFacts Tryd.pinned.checked.prog 7 Tryd.f7 Rows.storyDeedsSpec Rows.storyDeedsRow = true := by
  unfold joinedFacts
  simp only [Bool.and_eq_true]
  repeat' apply And.intro
  all_goals first | (with_reducible exact kinPlace) | (with_reducible exact kunfollowed) | (with_reducible exact krecurses) | (with_reducible exact knamed) | (with_reducible exact laidOutP) | (with_reducible exact mapsRowedP) | kernel_rfl
theorem goes : false = Rows.storyDeedsRow.goesBy Tryd.pinned.checked.prog := by kernel_rfl
theorem wfText : Rows.storyDeedsRow.wfByText (OpenSpec.ofChange Rows.storyDeedsSpec) = true := by kernel_rfl

theorem row : Rows.StoryDeedsSaid :=
  OpenClaim.holds_of_wide 7 Tryd.f7 rfl rfl rfl rfl rfl rfl rfl ⟨rfl, rfl, rfl, rfl, rfl⟩ rfl rfl rfl rfl rfl (by kernel_rfl) Tryd.func7 closed
    (of_decide_eq_true (by kernel_rfl)) (by unfold Func.isWrapper; first | (rw [if_pos (by decide +kernel)]; kernel_rfl) | (rw [if_neg (by decide +kernel)]; exact ⟨rfl, rfl⟩))
    (fun os started H enc _ => lifted os started H enc)
theorem holds : Rows.StoryDeedsCardSaid :=
  Claim7.holds_tied_plain_at .later [] [.data, .data, .data, .listed, .data, .data, .data] true Rows.storyDeedsCard.stood.harness true
    row (fun _ h => by cases h) wfText (fun _ h => by cases h) storyDeeds_row_tie rfl ⟨rfl, rfl⟩ (by kernel_rfl) rfl
    (fun f fn hf hfn => by
      obtain rfl : f = 7 := Option.some.inj ((show Tryd.prog.funcNamed Rows.storyDeedsRow.func = some 7 by kernel_rfl).symm.trans hf) |>.symm
      obtain rfl : fn = Tryd.f7 := (Option.some.inj (Tryd.func7.symm.trans hfn)).symm
      refine ⟨looksP, fun j t ht => ?_⟩
      have hall : (Tryd.f7.params.toList.all fun t => !(Tryd.prog.wantsStandIn t)) = true := by kernel_rfl
      have hm : t ∈ Tryd.f7.params.toList := List.mem_of_getElem? (by simpa using ht)
      have h := List.all_eq_true.1 hall t hm
      show Tryd.prog.wantsStandIn t = false
      simpa using h)
    goes
#print axioms holds
end Go.Proofs.YtncgpaajbflaeaaDoor.lawStoryDeeds
