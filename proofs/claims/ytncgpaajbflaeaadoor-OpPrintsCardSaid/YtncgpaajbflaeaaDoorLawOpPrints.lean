/-
  Print returns what the reference returns for any operation. No condition beyond the tied variables.
-/
import Derived.Test.YtncgpaajbflaeaaDoorRows
import Derived.Test.YtncgpaajbflaeaaDoorCards
import Derived.Test.YtncgpaajbflaeaaDoorTie
import Derived.Test.YtncgpaajbflaeaaDoorCardC
import Derived.SevenTiedAt
import Derived.Test.YtncgpaajbflaeaaDoorMBase
import Derived.Test.YtncgpaajbflaeaaDoorPrintC
import Derived.Test.YtncgpaajbflaeaaDoorCardC
import Derived.Test.YtncgpaajbflaeaaDoorMBase
namespace Go.Proofs.YtncgpaajbflaeaaDoor.lawOpPrints
set_option linter.unusedSimpArgs false
set_option linter.unusedVariables false
set_option linter.unusedSectionVars false
open Go.RowKit Go.ChangeShapes Go.WideShapes Go.ChangeAt Go.Joins

attribute [local go_sem ↓] Go.wp_at_zero Go.wp_at_succ
set_option linter.unusedSimpArgs false
set_option linter.unusedVariables false

def laidE : List (String × DataW Unit) := [("math/bits.deBruijn32tab", Rows.laid_math_bits_deBruijn32tab), ("math/bits.deBruijn64tab", Rows.laid_math_bits_deBruijn64tab), ("internal/strconv.uint64pow10", Rows.laid_internal_strconv_uint64pow10), ("errors.errorType", Rows.laid_errors_errorType), ("unicode.White_Space", Rows.laid_unicode_White_Space), ("strings.asciiSpace", Rows.laid_strings_asciiSpace), ("gristmill/op.names", Rows.laid_gristmill_op_names)]
def laidP : List (String × DataW Unit) := [("math/bits.deBruijn32tab", Rows.laid_math_bits_deBruijn32tab), ("math/bits.deBruijn64tab", Rows.laid_math_bits_deBruijn64tab), ("internal/strconv.uint64pow10", Rows.laid_internal_strconv_uint64pow10), ("unicode.White_Space", Rows.laid_unicode_White_Space), ("strings.asciiSpace", Rows.laid_strings_asciiSpace), ("gristmill/op.names", Rows.laid_gristmill_op_names)]
noncomputable def base (os : Os) : World :=
  let w0 := World.holding Tryd.prog os ⟨#[], #[], []⟩
  { w0 with heap := w0.heap.modify 4 fun
      | .cells _ t frozen => .cells #[.iface 149 (.agg #[.pointer (some ⟨10, 28, none⟩)])] t frozen
      | o => o }
noncomputable def laidWorld (os : Os) : World := (base os).layVars Tryd.prog laidP
theorem laidWorld_os (os : Os) : (laidWorld os).os = os := World.layVars_os _ _ _
theorem laidWorld_met (os : Os) (args : Array Value) : laidMetH Tryd.prog laidE ((laidWorld os).forCall (fun _ _ => 0) ⟨#[], args, []⟩).memory := by
  have h : laidMetH Tryd.prog laidE (laidWorld os) := laidMetH_of_parts (show laidMet Tryd.prog laidP (laidWorld os) from met_layVars (by kernel_rfl) (by kernel_rfl)) (by kernel_rfl)
  exact h.of_heap (by simp [World.memory, World.forCall, Input.heap])

theorem factsOf {W : World} (h : laidMetH Tryd.prog laidE W) : PrintT W ∧ ErrT W :=
  ⟨⟨sp_of (reads_laid h (by simp [laidE]) rfl), ten_of (reads_laid h (by simp [laidE]) rfl), names_of (reads_laid h (by simp [laidE]) rfl)⟩, errT_of h (by simp [laidE])⟩
set_option maxRecDepth 100000 in
theorem walk (a k v : Int) (w : World) (hg : PrintT w) (he : ErrT w) : Calls Tryd.prog 8 #[.agg #[.int .i64 a, .int .i64 k, .int .i64 v]] w fun e w' => e = .returned (.bool true) ∧ Below w.heap.size w w' := by
  have hA : Below w.heap.size w (w.alloc (.cells #[.int .i64 a, .int .i64 k, .int .i64 v] 54)) := (Below.refl _ _).alloc (Nat.le_refl _) _
  have HG : Hid (PrintT (w.alloc (.cells #[.int .i64 a, .int .i64 k, .int .i64 v] 54))) := Lib.hid (hg.below hA)
  have HE : Hid (ErrT (w.alloc (.cells #[.int .i64 a, .int .i64 k, .int .i64 v] 54))) := Lib.hid (he.below hA)
  have HA := Lib.hid hA
  clear hg he hA
  have h1 := fun w h => optext_any a k v (w := w) (PrintT.sp h) (PrintT.ten h)
  have h2 := fun w h => print_any a k v (w := w) h
  generalize printZ a k v = z at h1 h2
  generalize okE (opRightB a k v) 1 = x at h1 h2
  have H1 := Lib.hid h1
  have H2 := Lib.hid h2
  clear h1 h2
  go_enter Tryd.func8, Tryd.ntmps8
  go_wp2_with fail
  refine (H1.out _ HG.out).mono ?_
  rintro e w1 ⟨rfl, hb1⟩
  have hc1 : ∀ i, w1.cell? ⟨w.heap.size, i, none⟩ = _ := fun i => hb1.cell (p := ⟨w.heap.size, i, none⟩) (by simp)
  have r0 := hc1 0
  have r1 := hc1 1
  have r2 := hc1 2
  simp [go_sem] at r0 r1 r2
  clear hc1
  have HG1 := Lib.hid (HG.out.below hb1)
  have HE1 := Lib.hid (HE.out.below hb1)
  have HB1 := Lib.hid (HA.out.trans (hb1.mono HA.out.size))
  clear hb1
  go_wp2_with fail
  refine (H2.out _ HG1.out).mono ?_
  rintro e w2 ⟨rfl, hb2⟩
  have HE2 := Lib.hid (HE1.out.below hb2)
  have HB2 := Lib.hid (HB1.out.trans (hb2.mono HB1.out.size))
  clear hb2
  go_wp2_with fail
  refine (bare_any x x _ HE2.out).mono ?_
  rintro e w3 ⟨rfl, hb3⟩
  go_wp2
  go_ret
  exact ⟨ret_bool (by simp), HB2.out.trans (hb3.mono HB2.out.size)⟩

theorem own : ownKnob Tryd.prog.godebug = none := by kernel_rfl

set_option maxRecDepth 100000 in
theorem lifted (os : Os) (started : os.Started) (H : Type) (enc : TypeId × Value → H) :
    ReturnsInHanded {} Tryd.checked os 8 .any (fun w args => (Rows.opPrintsSpec.pre enc Tryd.prog Tryd.f8 [] false w args ∧ laidMetH Tryd.prog laidE w) ∧ sizedMet enc Tryd.prog Tryd.f8 (OpenSpec.ofChange Rows.opPrintsSpec) false w args) (Rows.opPrintsSpec.post enc Tryd.prog Tryd.f8 false true false false) := by
  refine law_lifted_and (C := Tryd.checked) (X := fun w _ => laidMetH Tryd.prog laidE w) (fun _ _ _ hh h => h.of_heap hh) own started (by kernel_rfl) Tryd.func8
    (ChangeSpec.witness_shaped (enc := enc) (C := Tryd.checked) (os := os) (X := fun w _ => laidMetH Tryd.prog laidE w) false (laidWorld os) #[.agg #[.int .i64 0, .int .i64 0, .int .i64 0]] 8 (laidWorld_os os) (World.shaped_of_ZipB (by kernel_rfl) (by kernel_rfl)) (by kernel_rfl) (by kernel_rfl) (by kernel_rfl) (laidWorld_met os _))
    (by kernel_rfl) (by kernel_rfl) rfl rfl Tryd.underlying4 ?_
  intro W base args ds ps hval0 hA0 hsz0 hL
  have hg := factsOf hL
  have hval : ∀ (j : Nat) t v, Tryd.f8.params[j]? = some t → args[j]? = some v → Value.okWide Tryd.prog W .any base t v := hval0
  have hA : DataW.TrodAll enc Tryd.prog W 0 (fun _ => true) true Tryd.f8.params.toList args.toList ds ps := hA0
  rw [Tryd.params8] at hA hval
  obtain ⟨v0, d0, rfl, rfl, h0⟩ := trodAll_one hA
  obtain ⟨o, rfl, wo⟩ := open_flat 4 (K := [.i64, .i64, .i64]) (by kernel_rfl) (by kernel_rfl) (by kernel_rfl) (hval 0 54 v0 rfl rfl) h0
  exact ⟨rfl, walk _ _ _ W hg.1 hg.2⟩

theorem kinPlace : (Rows.opPrintsRow.inPlace == Tryd.pinned.checked.prog.inPlace 8) = true := by kernel_rfl
theorem kunfollowed : (Rows.opPrintsRow.unfollowed == Tryd.pinned.checked.prog.unfollowed 8) = true := by kernel_rfl
theorem krecurses : (Rows.opPrintsRow.recurses == Tryd.pinned.checked.prog.recurses 8) = true := by kernel_rfl
theorem knamed : (Rows.opPrintsRow.named == Tryd.pinned.checked.prog.varsNamed 8) = true := by kernel_rfl
theorem closed : joinedFacts Tryd.pinned.checked.prog 8 Tryd.f8 Rows.opPrintsSpec Rows.opPrintsRow = true := by
  unfold joinedFacts
  simp only [Bool.and_eq_true]
  repeat' apply And.intro
  all_goals first | (with_reducible exact kinPlace) | (with_reducible exact kunfollowed) | (with_reducible exact krecurses) | (with_reducible exact knamed) | (with_reducible exact laidOutP) | (with_reducible exact mapsRowedP) | kernel_rfl
theorem goes : false = Rows.opPrintsRow.goesBy Tryd.pinned.checked.prog := by kernel_rfl
theorem wfText : Rows.opPrintsRow.wfByText (OpenSpec.ofChange Rows.opPrintsSpec) = true := by kernel_rfl

theorem row : Rows.OpPrintsSaid :=
  OpenClaim.holds_of_wide 8 Tryd.f8 rfl rfl rfl rfl rfl rfl rfl ⟨rfl, rfl, rfl, rfl, rfl⟩ rfl rfl rfl rfl rfl (by kernel_rfl) Tryd.func8 closed
    (of_decide_eq_true (by kernel_rfl)) (by unfold Func.isWrapper; first | (rw [if_pos (by decide +kernel)]; kernel_rfl) | (rw [if_neg (by decide +kernel)]; exact ⟨rfl, rfl⟩))
    (fun os started H enc _ => lifted os started H enc)
theorem holds : Rows.OpPrintsCardSaid :=
  Claim7.holds_tied_plain_at .later [] [.data, .data, .data, .handle, .listed, .data, .data] true Rows.opPrintsCard.stood.harness true
    row (fun _ h => by cases h) wfText (fun _ h => by cases h) opPrints_row_tie rfl ⟨rfl, rfl⟩ (by kernel_rfl) rfl
    (fun f fn hf hfn => by
      obtain rfl : f = 8 := Option.some.inj ((show Tryd.prog.funcNamed Rows.opPrintsRow.func = some 8 by kernel_rfl).symm.trans hf) |>.symm
      obtain rfl : fn = Tryd.f8 := (Option.some.inj (Tryd.func8.symm.trans hfn)).symm
      refine ⟨looksP, fun j t ht => ?_⟩
      have hall : (Tryd.f8.params.toList.all fun t => !(Tryd.prog.wantsStandIn t)) = true := by kernel_rfl
      have hm : t ∈ Tryd.f8.params.toList := List.mem_of_getElem? (by simpa using ht)
      have h := List.all_eq_true.1 hall t hm
      show Tryd.prog.wantsStandIn t = false
      simpa using h)
    goes
#print axioms holds
end Go.Proofs.YtncgpaajbflaeaaDoor.lawOpPrints
