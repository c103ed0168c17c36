/-
  Line returns what the reference returns for any event, and Print writes a line for each. No condition beyond the tied variables.
-/
import Derived.Test.YtncgpaajbflaeaaDoorRows
import Derived.Test.YtncgpaajbflaeaaDoorCards
import Derived.Test.YtncgpaajbflaeaaDoorTie
import Derived.Test.YtncgpaajbflaeaaDoorCardC
import Derived.SevenTiedAt
import Derived.Test.YtncgpaajbflaeaaDoorMBase
import Derived.Test.YtncgpaajbflaeaaDoorLinesC
import Derived.Test.YtncgpaajbflaeaaDoorCardC
import Derived.Test.YtncgpaajbflaeaaDoorMBase
namespace Go.Proofs.YtncgpaajbflaeaaDoor.lawStoryLines
set_option linter.unusedSimpArgs false
set_option linter.unusedVariables false
set_option linter.unusedSectionVars false
open Go.RowKit Go.ChangeShapes Go.WideShapes Go.ChangeAt Go.Joins

attribute [local go_sem ↓] Go.wp_at_zero Go.wp_at_succ
set_option linter.unusedSimpArgs false
set_option linter.unusedVariables false

def laidE : List (String × DataW Unit) := [("math/bits.deBruijn32tab", Rows.laid_math_bits_deBruijn32tab), ("math/bits.deBruijn64tab", Rows.laid_math_bits_deBruijn64tab), ("internal/strconv.uint64pow10", Rows.laid_internal_strconv_uint64pow10), ("unicode.White_Space", Rows.laid_unicode_White_Space), ("strings.asciiSpace", Rows.laid_strings_asciiSpace), ("gristmill/op.names", Rows.laid_gristmill_op_names), ("gristmill/op.codes", Rows.laid_gristmill_op_codes)]
noncomputable def laidWorld (os : Os) : World := World.laidAll Tryd.prog os laidE
theorem laidWorld_os (os : Os) : (laidWorld os).os = os := World.laidAll_os _ _ _
theorem laidWorld_met (os : Os) (args : Array Value) : laidMetH Tryd.prog laidE ((laidWorld os).forCall (fun _ _ => 0) ⟨#[], args, []⟩).memory := by
  rw [MakeChecks.laidMetH_plain _ _ _ (by kernel_rfl)]
  exact laidMet_laidAll _ (by kernel_rfl) (by kernel_rfl)

theorem factsOf {W : World} (h : laidMetH Tryd.prog laidE W) : DeedT W :=
  have s := sp_of (reads_laid h (by simp [laidE]) rfl)
  have t := ten_of (reads_laid h (by simp [laidE]) rfl)
  ⟨⟨s, t, codes_of (reads_laid h (by simp [laidE]) rfl)⟩, ⟨s, t, names_of (reads_laid h (by simp [laidE]) rfl)⟩⟩

abbrev row2 (q t a k v c x n s : Int) : Array Value := #[.int .i64 q, .int .i64 t, .int .i64 a, .int .i64 k, .int .i64 v, .int .i64 c, .int .i64 x, .int .i64 n, .int .i64 s, .int .i64 q, .int .i64 t, .int .i64 a, .int .i64 k, .int .i64 v, .int .i64 c, .int .i64 x, .int .i64 n, .int .i64 s]
def fE (q t a k v c x n s : Int) (_ j : Nat) : Int := [q, t, a, k, v, c, x, n, s].getD j 0
theorem wfE {z : Nat → Int} (h : ∀ i, i < 9 → (Lit.int (([.i64, .i64, .i64, .i64, .i64, .i64, .i64, .i64, .i64] : List IntKind).getD i .i64) (z i)).wf = true) (j : Nat) (hj : j < 9) : (Lit.int .i64 (fE (z 0) (z 1) (z 2) (z 3) (z 4) (z 5) (z 6) (z 7) (z 8) 0 j)).wf = true := by
  have := h j hj
  rcases (by omega : j = 0 ∨ j = 1 ∨ j = 2 ∨ j = 3 ∨ j = 4 ∨ j = 5 ∨ j = 6 ∨ j = 7 ∨ j = 8) with rfl | rfl | rfl | rfl | rfl | rfl | rfl | rfl | rfl <;> exact this
def IsE (v : Value) : Prop := ∃ g, v = .slice (some ⟨g, 0, none⟩) 2 2
def EAt (C : Array Value) (v : Value) (w' : World) : Prop := ∃ g, v = .slice (some ⟨g, 0, none⟩) 2 2 ∧ Blk w' g 56 C
def two (y : ByteArray) : ByteArray := y ++ (⟨#[10]⟩ : ByteArray) ++ y ++ (⟨#[10]⟩ : ByteArray)
theorem two_eq (y : ByteArray) : (⟨(([] ++ (y ++ (⟨#[10]⟩ : ByteArray)).data.toList) ++ (y ++ (⟨#[10]⟩ : ByteArray)).data.toList).toArray⟩ : ByteArray) = two y := by
  unfold two
  rw [ByteArray.append_assoc (a := y ++ (⟨#[10]⟩ : ByteArray))]
  apply ByteArray.ext
  simp

theorem print_two (q t a k v c x n s : Int) (g : Nat) {w : World} (ht : -9223372036854775808 ≤ t ∧ t ≤ 9223372036854775807) (hwf : ∀ j, j < 9 → (Lit.int .i64 (fE q t a k v c x n s 0 j)).wf = true) (hg : DeedT w) (hb : Blk w g 56 (row2 q t a k v c x n s)) :
    Calls Tryd.prog 21 #[.slice (some ⟨g, 0, none⟩) 2 2] w fun e w' => e = .returned (.string (two (lineZ q t a k v c x n s))) ∧ Below w.heap.size w w' := by
  have hS : SlF nineK w (some ⟨g, 0, none⟩) 2 2 (fE q t a k v c x n s) := by
    refine ⟨Nat.le_refl _, by decide, fun i j _ hj => ?_, fun _ => ⟨g, 0, rfl, hb.lt, fun i j hi hj => ?_⟩⟩
    · have := hwf j hj
      rcases (by simp at hj; omega : j = 0 ∨ j = 1 ∨ j = 2 ∨ j = 3 ∨ j = 4 ∨ j = 5 ∨ j = 6 ∨ j = 7 ∨ j = 8) with rfl | rfl | rfl | rfl | rfl | rfl | rfl | rfl | rfl <;> exact this
    · rw [hb.cell]
      rcases (by omega : i = 0 ∨ i = 1) with rfl | rfl <;> rcases (by simp at hj; omega : j = 0 ∨ j = 1 ∨ j = 2 ∨ j = 3 ∨ j = 4 ∨ j = 5 ∨ j = 6 ∨ j = 7 ∨ j = 8) with rfl | rfl | rfl | rfl | rfl | rfl | rfl | rfl | rfl <;> rfl
  have h := print_lines _ 2 2 _ w hS (by omega) hg
  rw [show linesZ (fE q t a k v c x n s) 2 = ([] ++ (lineZ q t a k v c x n s ++ (⟨#[10]⟩ : ByteArray)).data.toList) ++ (lineZ q t a k v c x n s ++ (⟨#[10]⟩ : ByteArray)).data.toList from rfl, two_eq] at h
  exact h

set_option maxRecDepth 100000 in
theorem walk (q t a k v c x n s : Int) (w : World) (hwf : ∀ j, j < 9 → (Lit.int .i64 (fE q t a k v c x n s 0 j)).wf = true) (hg : DeedT w) :
    Calls Tryd.prog 6 #[.agg #[.int .i64 q, .int .i64 t, .int .i64 a, .int .i64 k, .int .i64 v, .int .i64 c, .int .i64 x, .int .i64 n, .int .i64 s]] w fun e w' => e = .returned (.bool true) ∧ Below w.heap.size w w' := by
  have ht := bounds_i64 (hwf 1 (by decide))
  have hn := bounds_i64 (hwf 7 (by decide))
  have hs := bounds_i64 (hwf 8 (by decide))
  have hA : Below w.heap.size w (w.alloc (.cells #[.int .i64 q, .int .i64 t, .int .i64 a, .int .i64 k, .int .i64 v, .int .i64 c, .int .i64 x, .int .i64 n, .int .i64 s] 56)) := (Below.refl _ _).alloc (Nat.le_refl _) _
  have HA := Lib.hid hA
  have HG := Lib.hid (hg.below hA)
  clear hA hg
  have zl := lineZ_size q t a k v c x n s ht hn hs
  have h1 := fun w' (h : DeedT w') => line_any q t a k v c x n s h ht hn hs
  have h2 := fun w' (h : DeedT w') => eventLine_any q t a k v c x n s h ht hn hs
  have h3 := fun g w' (h : DeedT w') hb => print_two q t a k v c x n s g (w := w') ht hwf h hb
  generalize lineZ q t a k v c x n s = y at *
  have H1 := Lib.hid h1
  have H2 := Lib.hid h2
  have H3 := Lib.hid h3
  clear h1 h2 h3 ht hn hs hwf
  have m0 : ¬ 9223372036854775807 < y.size + 1 := by omega
  have m1 : ¬ 9223372036854775807 < y.size + 1 + y.size := by omega
  have m2 : ¬ 9223372036854775807 < y.size + 1 + y.size + 1 := by omega
  go_enter Tryd.func6, Tryd.ntmps6
  go_wp2_with fail
  refine wp_region_rely 19 nowhere [] (by kernel_rfl) (by kernel_rfl) ?_
  iterate 8
    refine wpRely_step (fun K hK => ?_)
    refine .inl ?_
    apply Exists.intro
    refine ⟨Any, ?_, hK _ _ _ _ ?_⟩
    · simp only [RelyOp, fillE]
      refine ⟨?_, fun w9 hw9 _ => ?_⟩
      · first | rfl | (go_simp; done)
      obtain ⟨hc9, hf9⟩ := hw9.all
      go_simp
      first
      | exact ⟨⟨rfl, trivial⟩, Keeps.refl _ _⟩
      | (go_at_call 19; exact rely_det (H1.out _ (HG.out.below hw9.same)))
      | (go_at_call 20; exact rely_det (H2.out _ (HG.out.below hw9.same)))
    clear hK K
    try simp only [Act.put, List.setIfInBounds_toArray, List.set_cons_zero, List.set_cons_succ]
  refine wpRely_step (fun K hK => ?_)
  refine .inr (.inr ⟨IsE, EAt (row2 q t a k v c x n s), ⟨_, 0, rfl⟩, ?_, hK _ _ _ _ ?_⟩)
  · simp only [RelyOp, fillE]
    refine ⟨?_, fun w9 hw9 _ => ?_⟩
    · first | rfl | (go_simp; done)
    go_simp
    exact ⟨⟨⟨_, rfl⟩, ⟨_, rfl, Blk.new _ _ _⟩⟩, Keeps.of_same ((Below.refl _ _).alloc (Nat.le_refl _) _)⟩
  clear hK K
  try simp only [Act.put, List.setIfInBounds_toArray, List.set_cons_zero, List.set_cons_succ]
  refine wpRely_step (fun K hK => ?_)
  refine .inl ⟨.string (two y), Any, ?_, hK _ _ _ _ ?_⟩
  · simp only [RelyOp, fillE]
    rintro _ ⟨g2, rfl⟩
    refine ⟨?_, fun w9 hw9 hmet0 => ?_⟩
    · first | rfl | (go_simp; done)
    obtain ⟨w0, k0, k1, g', hv9, hl⟩ := (hmet0.2.1 (by kernel_rfl)).out
    cases hv9
    have hl9 := hl.below k1 hl.lt
    clear hmet0 hl
    go_simp
    go_at_call 21
    exact rely_det (H3.out _ _ (HG.out.below hw9.same) hl9)
  clear hK K
  try simp only [Act.put, List.setIfInBounds_toArray, List.set_cons_zero, List.set_cons_succ]
  iterate 9
    refine wpRely_step (fun K hK => ?_)
    refine .inl ?_
    apply Exists.intro
    refine ⟨Any, ?_, hK _ _ _ _ ?_⟩
    · simp only [RelyOp, fillE]
      rintro _ ⟨g2, rfl⟩
      refine ⟨?_, fun w9 hw9 _ => ?_⟩
      · first | rfl | (go_simp; done)
      obtain ⟨hc9, hf9⟩ := hw9.all
      go_simp
      first
      | exact ⟨⟨rfl, trivial⟩, Keeps.refl _ _⟩
      | (go_at_call 20; exact rely_det (H2.out _ (HG.out.below hw9.same)))
    clear hK K
    try simp only [Act.put, List.setIfInBounds_toArray, List.set_cons_zero, List.set_cons_succ]
  refine wpRely_nil ?_
  simp only [fillE]
  rintro _ ⟨g9, rfl⟩ w9 hw9 _
  simp only [List.drop_succ_cons, List.drop_zero, List.drop, Act.put, List.setIfInBounds_toArray, List.set_cons_zero, List.set_cons_succ]
  go_wp2
  go_ret
  exact ⟨ret_bool (by simp [two]), HA.out.trans (hw9.same.mono HA.out.size)⟩

theorem own : ownKnob Tryd.prog.godebug = none := by kernel_rfl

set_option maxRecDepth 100000 in
theorem lifted (os : Os) (started : os.Started) (H : Type) (enc : TypeId × Value → H) :
    ReturnsInHanded {} Tryd.checked os 6 .any (fun w args => (Rows.storyLinesSpec.pre enc Tryd.prog Tryd.f6 [] false w args ∧ laidMetH Tryd.prog laidE w) ∧ sizedMet enc Tryd.prog Tryd.f6 (OpenSpec.ofChange Rows.storyLinesSpec) false w args) (Rows.storyLinesSpec.post enc Tryd.prog Tryd.f6 false true false false) := by
  refine law_lifted_and (C := Tryd.checked) (X := fun w _ => laidMetH Tryd.prog laidE w) (fun _ _ _ hh h => h.of_heap hh) own started (by kernel_rfl) Tryd.func6
    (ChangeSpec.witness_shaped (enc := enc) (C := Tryd.checked) (os := os) (X := fun w _ => laidMetH Tryd.prog laidE w) false (laidWorld os) #[.agg #[.int .i64 0, .int .i64 0, .int .i64 0, .int .i64 0, .int .i64 0, .int .i64 0, .int .i64 0, .int .i64 0, .int .i64 0]] 8 (laidWorld_os os) (World.shaped_of_ZipB (by kernel_rfl) (by kernel_rfl)) (by kernel_rfl) (by kernel_rfl) (by kernel_rfl) (laidWorld_met os _))
    (by kernel_rfl) (by kernel_rfl) rfl rfl Tryd.underlying4 ?_
  intro W base args ds ps hval0 hA0 hsz0 hL
  have hg := factsOf hL
  have hval : ∀ (j : Nat) t v, Tryd.f6.params[j]? = some t → args[j]? = some v → Value.okWide Tryd.prog W .any base t v := hval0
  have hA : DataW.TrodAll enc Tryd.prog W 0 (fun _ => true) true Tryd.f6.params.toList args.toList ds ps := hA0
  rw [Tryd.params6] at hA hval
  obtain ⟨v0, d0, rfl, rfl, h0⟩ := trodAll_one hA
  obtain ⟨e, rfl, we⟩ := open_flat 4 (K := [.i64, .i64, .i64, .i64, .i64, .i64, .i64, .i64, .i64]) (by kernel_rfl) (by kernel_rfl) (by kernel_rfl) (hval 0 56 v0 rfl rfl) h0
  exact ⟨rfl, walk _ _ _ _ _ _ _ _ _ W (wfE we) hg⟩

theorem kinPlace : (Rows.storyLinesRow.inPlace == Tryd.pinned.checked.prog.inPlace 6) = true := by kernel_rfl
theorem kunfollowed : (Rows.storyLinesRow.unfollowed == Tryd.pinned.checked.prog.unfollowed 6) = true := by kernel_rfl
theorem krecurses : (Rows.storyLinesRow.recurses == Tryd.pinned.checked.prog.recurses 6) = true := by kernel_rfl
theorem knamed : (Rows.storyLinesRow.named == Tryd.pinned.checked.prog.varsNamed 6) = true := by kernel_rfl
theorem closed : joinedFacts Tryd.pinned.checked.prog 6 Tryd.f6 Rows.storyLinesSpec Rows.storyLinesRow = true := by
  unfold joinedFacts
  simp only [Bool.and_eq_true]
  repeat' apply And.intro
  all_goals first | (with_reducible exact kinPlace) | (with_reducible exact kunfollowed) | (with_reducible exact krecurses) | (with_reducible exact knamed) | (with_reducible exact laidOutP) | (with_reducible exact mapsRowedP) | kernel_rfl
theorem goes : false = Rows.storyLinesRow.goesBy Tryd.pinned.checked.prog := by kernel_rfl
theorem wfText : Rows.storyLinesRow.wfByText (OpenSpec.ofChange Rows.storyLinesSpec) = true := by kernel_rfl

theorem row : Rows.StoryLinesSaid :=
  OpenClaim.holds_of_wide 6 Tryd.f6 rfl rfl rfl rfl rfl rfl rfl ⟨rfl, rfl, rfl, rfl, rfl⟩ rfl rfl rfl rfl rfl (by kernel_rfl) Tryd.func6 closed
    (of_decide_eq_true (by kernel_rfl)) (by unfold Func.isWrapper; first | (rw [if_pos (by decide +kernel)]; kernel_rfl) | (rw [if_neg (by decide +kernel)]; exact ⟨rfl, rfl⟩))
    (fun os started H enc _ => lifted os started H enc)
theorem holds : Rows.StoryLinesCardSaid :=
  Claim7.holds_tied_plain_at .later [] [.data, .data, .data, .listed, .data, .data, .data] true Rows.storyLinesCard.stood.harness true
    row (fun _ h => by cases h) wfText (fun _ h => by cases h) storyLines_row_tie rfl ⟨rfl, rfl⟩ (by kernel_rfl) rfl
    (fun f fn hf hfn => by
      obtain rfl : f = 6 := Option.some.inj ((show Tryd.prog.funcNamed Rows.storyLinesRow.func = some 6 by kernel_rfl).symm.trans hf) |>.symm
      obtain rfl : fn = Tryd.f6 := (Option.some.inj (Tryd.func6.symm.trans hfn)).symm
      refine ⟨looksP, fun j t ht => ?_⟩
      have hall : (Tryd.f6.params.toList.all fun t => !(Tryd.prog.wantsStandIn t)) = true := by kernel_rfl
      have hm : t ∈ Tryd.f6.params.toList := List.mem_of_getElem? (by simpa using ht)
      have h := List.all_eq_true.1 hall t hm
      show Tryd.prog.wantsStandIn t = false
      simpa using h)
    goes
#print axioms holds
end Go.Proofs.YtncgpaajbflaeaaDoor.lawStoryLines
