/-
  Fits and Answer return what the reference returns for any answer. No condition beyond the tied variable.
-/
import Derived.Test.YtiajglefmlfkfaaDoorRows
import Derived.Test.YtiajglefmlfkfaaDoorCards
import Derived.Test.YtiajglefmlfkfaaDoorTie
import Derived.Test.YtiajglefmlfkfaaDoorCardB
import Derived.SevenTiedAt
import Derived.Test.YtiajglefmlfkfaaDoorFrame
import Derived.Test.YtiajglefmlfkfaaDoorOpen
import Derived.Test.YtiajglefmlfkfaaDoorOpW
import Derived.Test.YtiajglefmlfkfaaDoorRely
namespace Go.Proofs.YtiajglefmlfkfaaDoor.lawOpFits
open Go.RowKit Go.ChangeShapes Go.WideShapes Go.ChangeAt Go.Joins

attribute [local go_sem ↓] Go.wp_at_zero Go.wp_at_succ

theorem bare_same (e : Int) (w : World) (hg : ErrT w) : Calls Tryd.prog 23 #[errV e, .int .i64 e] w fun e' w' => e' = .returned (.bool true) ∧ Below w.heap.size w w' :=
  (bare_any e e w hg).mono fun _ _ ⟨h, hb⟩ => ⟨by rw [h]; simp, hb⟩
set_option maxRecDepth 100000 in
theorem walk (a v : Int) (w : World) (hg : ErrT w) :
    Calls Tryd.prog 4 #[.agg #[.int .i64 a, .int .i64 v]] w fun e w' => e = .returned (.bool true) ∧ Below w.heap.size w w' := by
  have HG2 : Hid (ErrT (w.alloc (.cells #[.int .i64 a, .int .i64 v] 35))) := hg.below ((Below.refl _ _).alloc (Nat.le_refl _) _)
  clear hg
  go_enter Tryd.func4, Tryd.ntmps4
  go_wp2_with fail
  refine (refAnswer_any a v _).mono ?_
  rintro e w1 ⟨rfl, hb1⟩
  obtain ⟨hc, hf⟩ := bcell hb1
  have hz := hb1.size
  simp only [World.size_alloc] at hz
  go_wp2_with fail
  refine (answer_any a v _).mono ?_
  rintro e w2 ⟨rfl, hb2⟩
  obtain ⟨hc2, hf2⟩ := bcell hb2
  have hz2 := hb2.size
  have HG3 := Lib.hid ((HG2.out.below hb1).below hb2)
  have hB : Below w.heap.size w w2 := (Below.trans (by go_grown) (hb1.mono (by simp))).trans (hb2.mono (show w.heap.size ≤ w1.heap.size by omega))
  have q0 : w.heap.size < w2.heap.size := by omega
  have r0 := (hc2 w.heap.size 0 (by omega)).trans (hc w.heap.size 0 (by simp))
  have r1 := (hc2 w.heap.size 1 (by omega)).trans (hc w.heap.size 1 (by simp))
  simp [go_sem] at r0 r1
  clear hc hf hc2 hf2
  go_wp2_with fail
  refine wp_region_rely 15 nowhere [] (by kernel_rfl) (by kernel_rfl) ?_
  iterate 15
    refine wpRely_step (fun K hK => ?_)
    first
    | (refine .inl ?_
       apply Exists.intro
       refine ⟨Any, ?_, hK _ _ _ ?_⟩
       · simp only [RelyOp, fillE]
         refine ⟨by first | rfl | (go_simp; done), fun w9 hw9 _ => ?_⟩
         obtain ⟨hc9, hf9⟩ := hw9.all
         go_simp
         first
         | exact ⟨⟨rfl, trivial⟩, Keeps.refl _ _⟩
         | (go_at_call 23; exact rely_det (bare_same _ _ (HG3.out.below hw9.same))) | (go_at_call 26; exact rely_det (fits_any _ _ _)) | (go_at_call 27; exact rely_det (refFits_any _ _ _))
       clear hK K
       try simp only [Act.put, List.setIfInBounds_toArray, List.set_cons_zero, List.set_cons_succ])
    | (refine .inr (.inl ⟨?_, hK _ _ _ ?_⟩)
       · simp only [fillE]
         first | rfl | (go_simp; done)
       clear hK K
       try simp only [Act.put, List.setIfInBounds_toArray, List.set_cons_zero, List.set_cons_succ])
  refine wpRely_nil ?_
  simp only [fillE]
  intro w9 hw9 _
  obtain ⟨hc9, hf9⟩ := hw9.all
  go_wp2
  go_ret
  exact ⟨ret_bool (by simp), hB.trans (hw9.same.mono (by omega))⟩

theorem own : ownKnob Tryd.prog.godebug = none := by kernel_rfl

set_option maxRecDepth 100000 in
theorem lifted (os : Os) (started : os.Started) (H : Type) (enc : TypeId × Value → H) :
    ReturnsInHanded {} Tryd.checked os 4 .any (fun w args => (Rows.opFitsSpec.pre enc Tryd.prog Tryd.f4 [] false w args ∧ laidMetH Tryd.prog laidE w) ∧ sizedMet enc Tryd.prog Tryd.f4 (OpenSpec.ofChange Rows.opFitsSpec) false w args) (Rows.opFitsSpec.post enc Tryd.prog Tryd.f4 false true false false) := by
  refine law_lifted_and (C := Tryd.checked) (X := fun w _ => laidMetH Tryd.prog laidE w) (fun _ _ _ hh h => h.of_heap hh) own started (by kernel_rfl) Tryd.func4
    (ChangeSpec.witness_at (enc := enc) (C := Tryd.checked) (os := os) (X := fun w _ => laidMetH Tryd.prog laidE w) false (laidWorld os) #[.agg #[.int .i64 0, .int .i64 0]] 8 rfl (by kernel_rfl) (by kernel_rfl) (by kernel_rfl) (by kernel_rfl) (by kernel_rfl) (laidWorld_met os _))
    (by kernel_rfl) (by kernel_rfl) rfl rfl Tryd.underlying4 ?_
  intro W base args ds ps hval0 hA0 hsz0 hL
  have hg := errT_of_laid hL
  have hval : ∀ (j : Nat) t v, Tryd.f4.params[j]? = some t → args[j]? = some v → Value.okWide Tryd.prog W .any base t v := hval0
  have hA : DataW.TrodAll enc Tryd.prog W 0 (fun _ => true) true Tryd.f4.params.toList args.toList ds ps := hA0
  rw [Tryd.params4] at hA hval
  obtain ⟨v0, d0, rfl, rfl, h0⟩ := trodAll_one hA
  obtain ⟨o, rfl, wo⟩ := open_flat 4 (K := [.i64, .i64]) (by kernel_rfl) (by kernel_rfl) (by kernel_rfl) (hval 0 35 v0 rfl rfl) h0
  exact ⟨rfl, walk (o 0) (o 1) W hg⟩

theorem kinPlace : (Rows.opFitsRow.inPlace == Tryd.pinned.checked.prog.inPlace 4) = true := by kernel_rfl
theorem kunfollowed : (Rows.opFitsRow.unfollowed == Tryd.pinned.checked.prog.unfollowed 4) = true := by kernel_rfl
theorem krecurses : (Rows.opFitsRow.recurses == Tryd.pinned.checked.prog.recurses 4) = true := by kernel_rfl
theorem knamed : (Rows.opFitsRow.named == Tryd.pinned.checked.prog.varsNamed 4) = true := by kernel_rfl
theorem closed : joinedFacts Tryd.pinned.checked.prog 4 Tryd.f4 Rows.opFitsSpec Rows.opFitsRow = true := by
  unfold joinedFacts
  simp only [Bool.and_eq_true]
  repeat' apply And.intro
  all_goals first | (with_reducible exact kinPlace) | (with_reducible exact kunfollowed) | (with_reducible exact krecurses) | (with_reducible exact knamed) | (with_reducible exact laidOutP) | (with_reducible exact mapsRowedP) | kernel_rfl
theorem goes : false = Rows.opFitsRow.goesBy Tryd.pinned.checked.prog := by kernel_rfl
theorem wfText : Rows.opFitsRow.wfByText (OpenSpec.ofChange Rows.opFitsSpec) = true := by kernel_rfl

theorem row : Rows.OpFitsSaid :=
  OpenClaim.holds_of_wide 4 Tryd.f4 rfl rfl rfl rfl rfl rfl rfl ⟨rfl, rfl, rfl, rfl, rfl⟩ rfl rfl rfl rfl rfl (by kernel_rfl) Tryd.func4 closed
    (of_decide_eq_true (by kernel_rfl)) (by unfold Func.isWrapper; first | (rw [if_pos (by decide +kernel)]; kernel_rfl) | (rw [if_neg (by decide +kernel)]; exact ⟨rfl, rfl⟩))
    (fun os started H enc _ => lifted os started H enc)
theorem holds : Rows.OpFitsCardSaid :=
  Claim7.holds_tied_plain_at .later [] [.handle] true Rows.opFitsCard.stood.harness true
    row (fun _ h => by cases h) wfText (fun _ h => by cases h) opFits_row_tie rfl ⟨rfl, rfl⟩ (by kernel_rfl) rfl
    (fun f fn hf hfn => by
      obtain rfl : f = 4 := Option.some.inj ((show Tryd.prog.funcNamed Rows.opFitsRow.func = some 4 by kernel_rfl).symm.trans hf) |>.symm
      obtain rfl : fn = Tryd.f4 := (Option.some.inj (Tryd.func4.symm.trans hfn)).symm
      refine ⟨looksP, fun j t ht => ?_⟩
      have hall : (Tryd.f4.params.toList.all fun t => !(Tryd.prog.wantsStandIn t)) = true := by kernel_rfl
      have hm : t ∈ Tryd.f4.params.toList := List.mem_of_getElem? (by simpa using ht)
      have h := List.all_eq_true.1 hall t hm
      show Tryd.prog.wantsStandIn t = false
      simpa using h)
    goes
#print axioms holds
end Go.Proofs.YtiajglefmlfkfaaDoor.lawOpFits
