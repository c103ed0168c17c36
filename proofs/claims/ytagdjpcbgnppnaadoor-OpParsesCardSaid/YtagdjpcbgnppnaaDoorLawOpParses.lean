/-
  Parse returns what the reference returns for any text. No condition beyond the tied variables.
-/
import Derived.Test.YtagdjpcbgnppnaaDoorRows
import Derived.Test.YtagdjpcbgnppnaaDoorCards
import Derived.Test.YtagdjpcbgnppnaaDoorTie
import Derived.Test.YtagdjpcbgnppnaaDoorCardC
import Derived.SevenTiedAt
import Derived.Test.YtagdjpcbgnppnaaDoorMBase
import Derived.Test.YtagdjpcbgnppnaaDoorParseO
import Derived.Test.YtagdjpcbgnppnaaDoorCardC
import Derived.Test.YtagdjpcbgnppnaaDoorLift
import Derived.Test.YtagdjpcbgnppnaaDoorMBase
namespace Go.Proofs.YtagdjpcbgnppnaaDoor.lawOpParses
set_option linter.unusedSimpArgs false
set_option linter.unusedVariables false
set_option linter.unusedSectionVars false
open Go.RowKit Go.ChangeShapes Go.WideShapes Go.ChangeAt Go.Joins
open Go.ChangeMaps (open_string)
attribute [local go_sem ↓] Go.wp_at_zero Go.wp_at_succ
set_option linter.unusedSimpArgs false
set_option linter.unusedVariables false

def laidE : List (String × DataW Unit) := [("math/bits.deBruijn32tab", Rows.laid_math_bits_deBruijn32tab), ("math/bits.deBruijn64tab", Rows.laid_math_bits_deBruijn64tab), ("internal/strconv.uint64pow10", Rows.laid_internal_strconv_uint64pow10), ("errors.errorType", Rows.laid_errors_errorType), ("strconv.ErrRange", Rows.laid_strconv_ErrRange), ("strconv.ErrSyntax", Rows.laid_strconv_ErrSyntax), ("unicode.White_Space", Rows.laid_unicode_White_Space), ("strings.asciiSpace", Rows.laid_strings_asciiSpace), ("gristmill/op.names", Rows.laid_gristmill_op_names)]
def laidP : List (String × DataW Unit) := [("math/bits.deBruijn32tab", Rows.laid_math_bits_deBruijn32tab), ("math/bits.deBruijn64tab", Rows.laid_math_bits_deBruijn64tab), ("internal/strconv.uint64pow10", Rows.laid_internal_strconv_uint64pow10), ("strconv.ErrRange", Rows.laid_strconv_ErrRange), ("strconv.ErrSyntax", Rows.laid_strconv_ErrSyntax), ("unicode.White_Space", Rows.laid_unicode_White_Space), ("strings.asciiSpace", Rows.laid_strings_asciiSpace), ("gristmill/op.names", Rows.laid_gristmill_op_names)]
noncomputable def base (os : Os) : World :=
  let w0 := World.holding Tryd.prog os ⟨#[], #[], []⟩
  { w0 with heap := w0.heap.modify 4 fun
      | .cells _ t frozen => .cells #[.iface 125 (.agg #[.pointer (some ⟨11, 28, none⟩)])] t frozen
      | o => o }
noncomputable def laidWorld (os : Os) : World := (base os).layVars Tryd.prog laidP
theorem laidWorld_os (os : Os) : (laidWorld os).os = os := World.layVars_os _ _ _
theorem laidWorld_met (os : Os) (args : Array Value) : laidMetH Tryd.prog laidE ((laidWorld os).forCall (fun _ _ => 0) ⟨#[], args, []⟩).memory := by
  have h : laidMetH Tryd.prog laidE (laidWorld os) := laidMetH_of_parts (show laidMet Tryd.prog laidP (laidWorld os) from met_layVars (by kernel_rfl) (by kernel_rfl)) (by kernel_rfl)
  exact h.of_heap (by simp [World.memory, World.forCall, Input.heap])

theorem factsOf {W : World} (h : laidMetH Tryd.prog laidE W) (hs : W.ShapedOpen Tryd.prog) : ParT W ∧ ErrT W :=
  ⟨⟨⟨sp_of (reads_laid h (by simp [laidE]) rfl), ten_of (reads_laid h (by simp [laidE]) rfl), names_of (reads_laid h (by simp [laidE]) rfl)⟩,
    syn_of (reads_laid h (by simp [laidE]) rfl), rng_of (reads_laid h (by simp [laidE]) rfl), Tryd.laysM145.s1_3 W hs⟩, errT_of h (by simp [laidE])⟩
set_option maxRecDepth 100000 in
theorem walk (s : ByteArray) (w : World) (hg : ParT w) (he : ErrT w) : Calls Tryd.prog 3 #[.string s] w fun e w' => e = .returned (.bool true) ∧ Below w.heap.size w w' := by
  have HG := Lib.hid hg
  have HE := Lib.hid he
  clear hg he
  rcases Nat.lt_or_ge 200 s.size with hs | hs
  · have d : (200 : Int) < (s.size : Int) := by omega
    go_enter Tryd.func3, Tryd.ntmps3
    go_wp2
    go_ret
    exact ⟨ret_bool (by simp), Below.refl _ _⟩
  · have d : ¬ (200 : Int) < (s.size : Int) := by omega
    have h1 := fun w1 (h : ParT w1) => opParse_any s hs h.prn
    have h2 := fun w1 (h : ParT w1) => parse_any s hs h
    generalize (parseZ s.data.toList).1 = a at h1 h2
    generalize (parseZ s.data.toList).2.1 = k at h1 h2
    generalize (parseZ s.data.toList).2.2.1 = v at h1 h2
    generalize okE (parseZ s.data.toList).2.2.2 3 = x at h1 h2
    have H1 := Lib.hid h1
    have H2 := Lib.hid h2
    clear h1 h2
    go_enter Tryd.func3, Tryd.ntmps3
    go_wp2_with fail
    with_reducible refine (H1.out _ HG.out).mono ?_
    rintro e w1 ⟨rfl, hb1⟩
    have hA1 : Below w.heap.size w (w1.alloc (.cells #[.int .i64 a, .int .i64 k, .int .i64 v] 23)) := hb1.alloc hb1.size _
    have HB1 : Hid (Blk (w1.alloc (.cells #[.int .i64 a, .int .i64 k, .int .i64 v] 23)) w1.heap.size 23 #[.int .i64 a, .int .i64 k, .int .i64 v]) := Lib.hid (Blk.new _ _ _)
    have HA1 := Lib.hid hA1
    clear hb1 hA1
    go_wp2_with fail
    with_reducible refine (H2.out _ (HG.out.below HA1.out)).mono ?_
    rintro e w2 ⟨rfl, hb2⟩
    have hb2' := HB1.out.below hb2 HB1.out.lt
    have hA2 := HA1.out.trans (hb2.mono HA1.out.size)
    have HB2 : Hid (Blk (w2.alloc (.cells #[.int .i64 a, .int .i64 k, .int .i64 v] 23)) w1.heap.size 23 #[.int .i64 a, .int .i64 k, .int .i64 v]) := Lib.hid (hb2'.alloc _)
    have HC2 : Hid (Blk (w2.alloc (.cells #[.int .i64 a, .int .i64 k, .int .i64 v] 23)) w2.heap.size 23 #[.int .i64 a, .int .i64 k, .int .i64 v]) := Lib.hid (Blk.new _ _ _)
    have HA2 : Hid (Below w.heap.size w (w2.alloc (.cells #[.int .i64 a, .int .i64 k, .int .i64 v] 23))) := Lib.hid (hA2.alloc hA2.size _)
    clear hb2 hb2' hA2
    go_wp2_with fail
    with_reducible refine (bare_any x x _ (HE.out.below HA2.out)).mono ?_
    rintro e w3 ⟨rfl, hb3⟩
    have hB3 := HB2.out.below hb3 HB2.out.lt
    have hC3 := HC2.out.below hb3 HC2.out.lt
    have x0 := hB3.cell 0
    have x1 := hB3.cell 1
    have x2 := hB3.cell 2
    have y0 := hC3.cell 0
    have y1 := hC3.cell 1
    have y2 := hC3.cell 2
    simp at x0 x1 x2 y0 y1 y2
    go_wp2
    go_ret
    exact ⟨ret_bool (by simp), HA2.out.trans (hb3.mono HA2.out.size)⟩

theorem own : ownKnob Tryd.prog.godebug = none := by kernel_rfl

set_option maxRecDepth 100000 in
theorem lifted (os : Os) (started : os.Started) (H : Type) (enc : TypeId × Value → H) :
    ReturnsInHanded {} Tryd.checked os 3 .any (fun w args => (Rows.opParsesSpec.pre enc Tryd.prog Tryd.f3 [] false w args ∧ laidMetH Tryd.prog laidE w) ∧ sizedMet enc Tryd.prog Tryd.f3 (OpenSpec.ofChange Rows.opParsesSpec) false w args) (Rows.opParsesSpec.post enc Tryd.prog Tryd.f3 false true false false) := by
  refine law_lifted_shape (C := Tryd.checked) (X := fun w _ => laidMetH Tryd.prog laidE w) (fun _ _ _ hh h => h.of_heap hh) own started (by kernel_rfl) Tryd.func3
    (ChangeSpec.witness_shaped (enc := enc) (C := Tryd.checked) (os := os) (X := fun w _ => laidMetH Tryd.prog laidE w) false (laidWorld os) #[.string ByteArray.empty] 8 (laidWorld_os os) (World.shaped_of_ZipB (by kernel_rfl) (by kernel_rfl)) (by kernel_rfl) (by kernel_rfl) (by kernel_rfl) (laidWorld_met os _))
    (by kernel_rfl) (by kernel_rfl) rfl rfl Tryd.underlying4 ?_
  intro W base args ds ps hval0 hA0 hsz0 hL hSh
  have hg := factsOf hL hSh
  have hval : ∀ (j : Nat) t v, Tryd.f3.params[j]? = some t → args[j]? = some v → Value.okWide Tryd.prog W .any base t v := hval0
  have hA : DataW.TrodAll enc Tryd.prog W 0 (fun _ => true) true Tryd.f3.params.toList args.toList ds ps := hA0
  rw [Tryd.params3] at hA hval
  obtain ⟨v0, d0, rfl, rfl, h0⟩ := trodAll_one hA
  obtain ⟨s, rfl, rfl, rfl, ws⟩ := open_string Tryd.underlying9 (hval 0 9 v0 rfl rfl) h0
  exact ⟨rfl, walk s W hg.1 hg.2⟩

theorem kinPlace : (Rows.opParsesRow.inPlace == Tryd.pinned.checked.prog.inPlace 3) = true := by kernel_rfl
theorem kunfollowed : (Rows.opParsesRow.unfollowed == Tryd.pinned.checked.prog.unfollowed 3) = true := by kernel_rfl
theorem krecurses : (Rows.opParsesRow.recurses == Tryd.pinned.checked.prog.recurses 3) = true := by kernel_rfl
theorem knamed : (Rows.opParsesRow.named == Tryd.pinned.checked.prog.varsNamed 3) = true := by kernel_rfl
theorem closed : joinedFacts Tryd.pinned.checked.prog 3 Tryd.f3 Rows.opParsesSpec Rows.opParsesRow = true := by
  unfold joinedFacts
  simp only [Bool.and_eq_true]
  repeat' apply And.intro
  all_goals first | (with_reducible exact kinPlace) | (with_reducible exact kunfollowed) | (with_reducible exact krecurses) | (with_reducible exact knamed) | (with_reducible exact laidOutP) | (with_reducible exact mapsRowedP) | kernel_rfl
theorem goes : false = Rows.opParsesRow.goesBy Tryd.pinned.checked.prog := by kernel_rfl
theorem wfText : Rows.opParsesRow.wfByText (OpenSpec.ofChange Rows.opParsesSpec) = true := by kernel_rfl

theorem row : Rows.OpParsesSaid :=
  OpenClaim.holds_of_wide 3 Tryd.f3 rfl rfl rfl rfl rfl rfl rfl ⟨rfl, rfl, rfl, rfl, rfl⟩ rfl rfl rfl rfl rfl (by kernel_rfl) Tryd.func3 closed
    (of_decide_eq_true (by kernel_rfl)) (by unfold Func.isWrapper; first | (rw [if_pos (by decide +kernel)]; kernel_rfl) | (rw [if_neg (by decide +kernel)]; exact ⟨rfl, rfl⟩))
    (fun os started H enc _ => lifted os started H enc)
theorem holds : Rows.OpParsesCardSaid :=
  Claim7.holds_tied_plain_at .later [] [.data, .data, .data, .handle, .sentinel, .sentinel, .listed, .data, .data] true Rows.opParsesCard.stood.harness true
    row (fun _ h => by cases h) wfText (fun _ h => by cases h) opParses_row_tie rfl ⟨rfl, rfl⟩ (by kernel_rfl) rfl
    (fun f fn hf hfn => by
      obtain rfl : f = 3 := Option.some.inj ((show Tryd.prog.funcNamed Rows.opParsesRow.func = some 3 by kernel_rfl).symm.trans hf) |>.symm
      obtain rfl : fn = Tryd.f3 := (Option.some.inj (Tryd.func3.symm.trans hfn)).symm
      refine ⟨looksP, fun j t ht => ?_⟩
      have hall : (Tryd.f3.params.toList.all fun t => !(Tryd.prog.wantsStandIn t)) = true := by kernel_rfl
      have hm : t ∈ Tryd.f3.params.toList := List.mem_of_getElem? (by simpa using ht)
      have h := List.all_eq_true.1 hall t hm
      show Tryd.prog.wantsStandIn t = false
      simpa using h)
    goes
#print axioms holds
end Go.Proofs.YtagdjpcbgnppnaaDoor.lawOpParses
