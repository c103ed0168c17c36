/-
  how many bits of any word are 1, and which is the least, is what the reference returns. For every word. No condition beyond the tied variable.
-/
import Derived.Test.YtfdbomflfhmecaaDoorRows
import Derived.Test.YtfdbomflfhmecaaDoorCards
import Derived.Test.YtfdbomflfhmecaaDoorTie
import Derived.Test.YtfdbomflfhmecaaDoorCardD
import Derived.SevenTiedAt
import Derived.Test.YtfdbomflfhmecaaDoorMBase
import Derived.Test.YtfdbomflfhmecaaDoorCount
import Derived.Test.YtfdbomflfhmecaaDoorCardD
import Derived.Test.YtfdbomflfhmecaaDoorMBase
namespace Go.Proofs.YtfdbomflfhmecaaDoor.lawWordCounts
set_option linter.unusedSimpArgs false
set_option linter.unusedVariables false
set_option linter.unusedSectionVars false
open Go.RowKit Go.ChangeShapes Go.WideShapes Go.ChangeAt Go.Joins

attribute [local go_sem ↓] Go.wp_at_zero Go.wp_at_succ
set_option linter.unusedSimpArgs false
set_option linter.unusedVariables false

theorem walk (x : Int) (w : World) (hx : (Lit.int .u64 x).wf = true) (hT : TabT w) :
    Calls Tryd.prog 3 #[.int .u64 x] w fun e w' => e = .returned (.bool true) ∧ Below w.heap.size w w' := by
  have hb := bounds_u64 hx
  obtain ⟨n, rfl⟩ := Int.eq_ofNat_of_zero_le hb.1
  have hn : n < 18446744073709551616 := by omega
  have h0 : 0 < w.heap.size := World.block_lt_of_cell? w _ (hT 0 (by decide))
  go_enter Tryd.func3, Tryd.ntmps3
  go_wp2_with fail
  refine (count_any n _ hn).mono ?_
  rintro e w1 ⟨rfl, rfl⟩
  go_wp2_with fail
  refine (refCount_any n _ hn).mono ?_
  rintro e w1 ⟨rfl, hb1⟩
  go_wp2_with fail
  refine (first_any n _ hn (hT.below h0 hb1)).mono ?_
  rintro e w2 ⟨rfl, rfl⟩
  go_wp2_with fail
  refine (refFirst_any n _ hn).mono ?_
  rintro e w3 ⟨rfl, hb3⟩
  go_wp2
  go_ret
  exact ⟨ret_bool (by simp), hb1.trans (hb3.mono hb1.size)⟩

theorem own : ownKnob Tryd.prog.godebug = none := by kernel_rfl

set_option maxRecDepth 100000 in
theorem lifted (os : Os) (started : os.Started) (H : Type) (enc : TypeId × Value → H) :
    ReturnsInHanded {} Tryd.checked os 3 .any (fun w args => (Rows.wordCountsSpec.pre enc Tryd.prog Tryd.f3 [] false w args ∧ laidMetH Tryd.prog laidE w) ∧ sizedMet enc Tryd.prog Tryd.f3 (OpenSpec.ofChange Rows.wordCountsSpec) false w args) (Rows.wordCountsSpec.post enc Tryd.prog Tryd.f3 false true false false) := by
  refine law_lifted_and (C := Tryd.checked) (X := fun w _ => laidMetH Tryd.prog laidE w) (fun _ _ _ hh h => h.of_heap hh) own started (by kernel_rfl) Tryd.func3
    (ChangeSpec.witness_shaped (enc := enc) (C := Tryd.checked) (os := os) (X := fun w _ => laidMetH Tryd.prog laidE w) false (laidWorld os) #[.int .u64 0] 8 (World.laidAll_os _ _ _) (World.shaped_of_ZipB (by kernel_rfl) (by kernel_rfl)) (by kernel_rfl) (by kernel_rfl) (by kernel_rfl) (laidWorld_met os _))
    (by kernel_rfl) (by kernel_rfl) rfl rfl Tryd.underlying4 ?_
  intro W base args ds ps hval0 hA0 hsz0 hL
  have hg := tabT_of_laid hL
  have hval : ∀ (j : Nat) t v, Tryd.f3.params[j]? = some t → args[j]? = some v → Value.okWide Tryd.prog W .any base t v := hval0
  have hA : DataW.TrodAll enc Tryd.prog W 0 (fun _ => true) true Tryd.f3.params.toList args.toList ds ps := hA0
  rw [Tryd.params3] at hA hval
  obtain ⟨v0, d0, rfl, rfl, h0⟩ := trodAll_one hA
  obtain ⟨x, rfl, rfl, rfl, wx⟩ := open_int Tryd.underlying22 (hval 0 22 v0 rfl rfl) h0
  exact ⟨rfl, walk x W wx hg⟩

theorem kinPlace : (Rows.wordCountsRow.inPlace == Tryd.pinned.checked.prog.inPlace 3) = true := by kernel_rfl
theorem kunfollowed : (Rows.wordCountsRow.unfollowed == Tryd.pinned.checked.prog.unfollowed 3) = true := by kernel_rfl
theorem krecurses : (Rows.wordCountsRow.recurses == Tryd.pinned.checked.prog.recurses 3) = true := by kernel_rfl
theorem knamed : (Rows.wordCountsRow.named == Tryd.pinned.checked.prog.varsNamed 3) = true := by kernel_rfl
theorem closed : joinedFacts Tryd.pinned.checked.prog 3 Tryd.f3 Rows.wordCountsSpec Rows.wordCountsRow = true := by
  unfold joinedFacts
  simp only [Bool.and_eq_true]
  repeat' apply And.intro
  all_goals first | (with_reducible exact kinPlace) | (with_reducible exact kunfollowed) | (with_reducible exact krecurses) | (with_reducible exact knamed) | (with_reducible exact laidOutP) | (with_reducible exact mapsRowedP) | kernel_rfl
theorem goes : false = Rows.wordCountsRow.goesBy Tryd.pinned.checked.prog := by kernel_rfl
theorem wfText : Rows.wordCountsRow.wfByText (OpenSpec.ofChange Rows.wordCountsSpec) = true := by kernel_rfl

theorem row : Rows.WordCountsSaid :=
  OpenClaim.holds_of_wide 3 Tryd.f3 rfl rfl rfl rfl rfl rfl rfl ⟨rfl, rfl, rfl, rfl, rfl⟩ rfl rfl rfl rfl rfl (by kernel_rfl) Tryd.func3 closed
    (of_decide_eq_true (by kernel_rfl)) (by unfold Func.isWrapper; first | (rw [if_pos (by decide +kernel)]; kernel_rfl) | (rw [if_neg (by decide +kernel)]; exact ⟨rfl, rfl⟩))
    (fun os started H enc _ => lifted os started H enc)
theorem holds : Rows.WordCountsCardSaid :=
  Claim7.holds_tied_plain_at .later [] [.data] true Rows.wordCountsCard.stood.harness false
    row (fun _ h => by cases h) wfText (fun _ h => by cases h) wordCounts_row_tie rfl ⟨rfl, rfl⟩ (by kernel_rfl) rfl
    (fun f fn hf hfn => by
      obtain rfl : f = 3 := Option.some.inj ((show Tryd.prog.funcNamed Rows.wordCountsRow.func = some 3 by kernel_rfl).symm.trans hf) |>.symm
      obtain rfl : fn = Tryd.f3 := (Option.some.inj (Tryd.func3.symm.trans hfn)).symm
      refine ⟨looksP, fun j t ht => ?_⟩
      have hall : (Tryd.f3.params.toList.all fun t => !(Tryd.prog.wantsStandIn t)) = true := by kernel_rfl
      have hm : t ∈ Tryd.f3.params.toList := List.mem_of_getElem? (by simpa using ht)
      have h := List.all_eq_true.1 hall t hm
      show Tryd.prog.wantsStandIn t = false
      simpa using h)
    goes
#print axioms holds
end Go.Proofs.YtfdbomflfhmecaaDoor.lawWordCounts
