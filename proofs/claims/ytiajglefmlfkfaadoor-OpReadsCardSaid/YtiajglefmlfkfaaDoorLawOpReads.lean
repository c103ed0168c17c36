/-
  Of returns what the reference returns for any word. No condition beyond the tied variable.
-/
import Derived.Test.YtiajglefmlfkfaaDoorRows
import Derived.Test.YtiajglefmlfkfaaDoorCards
import Derived.Test.YtiajglefmlfkfaaDoorTie
import Derived.Test.YtiajglefmlfkfaaDoorCardB
import Derived.SevenTiedAt
import Derived.Test.YtiajglefmlfkfaaDoorFrame
import Derived.Test.YtiajglefmlfkfaaDoorOpen
import Derived.Test.YtiajglefmlfkfaaDoorOf
namespace Go.Proofs.YtiajglefmlfkfaaDoor.lawOpReads
open Go.RowKit Go.ChangeShapes Go.WideShapes Go.ChangeAt Go.Joins

attribute [local go_sem ↓] Go.wp_at_zero Go.wp_at_succ

theorem walk (x p k q : Nat) (w : World) (hx : x < 18446744073709551616) (hp : x / 65536 / 4294967296 = p) (hk : x / 4294967296 % 65536 = k) (hq : x % 4294967296 = q) (hg : ErrT w) :
    Calls Tryd.prog 10 #[.int .u64 (x : Int)] w fun e w' => e = .returned (.bool true) ∧ Below w.heap.size w w' := by
  have HG := Lib.hid hg
  clear hg
  have h1 : ∀ w, _ := fun w => refOpOf_any x p k q w hx hp hk hq
  have h2 : ∀ w, _ := fun w => of_any x p k q w hx hp hk hq
  have H1 := Lib.hid h1
  have H2 := Lib.hid h2
  clear h1 h2 hx hp hk hq
  go_enter Tryd.func10, Tryd.ntmps10
  go_wp2_with fail
  refine (H1.out _).mono ?_
  rintro e w1 ⟨rfl, hb1⟩
  go_wp2_with fail
  refine (H2.out _).mono ?_
  rintro e w2 ⟨rfl, hb2⟩
  obtain ⟨hc2, hf2⟩ := bcell hb2
  have hz1 := hb1.size
  have hz2 := hb2.size
  simp only [World.size_alloc] at hz2
  have hB1 : Below w.heap.size w w2 := hb1.trans ((Below.trans (by go_grown) (hb2.mono (by simp))).mono hz1)
  have HG3 := Lib.hid (HG.out.below hB1)
  have HG4 := Lib.hid (HG3.out.below ((Below.refl _ _).alloc (Nat.le_refl _) (.cells #[.int .i64 (ofC p k q p), .int .i64 (ofC p k q k), .int .i64 (ofC p k q q)] 23)))
  go_wp2_with fail
  refine (bare_any _ _ _ HG4.out).mono ?_
  rintro e w3 ⟨rfl, hb3⟩
  obtain ⟨hc3, hf3⟩ := bcell hb3
  have hz3 := hb3.size
  simp only [World.size_alloc] at hz3
  have q1 : w1.heap.size < w3.heap.size := by omega
  have q2 : w1.heap.size < w2.heap.size := by omega
  have q3 : w2.heap.size < w3.heap.size := by omega
  have q4 : ¬ w1.heap.size = w2.heap.size := by omega
  go_wp2
  go_ret
  exact ⟨ret_bool (by simp), hB1.trans ((Below.trans (by go_grown) (hb3.mono (by simp))).mono hB1.size)⟩

theorem own : ownKnob Tryd.prog.godebug = none := by kernel_rfl

set_option maxRecDepth 100000 in
theorem lifted (os : Os) (started : os.Started) (H : Type) (enc : TypeId × Value → H) :
    ReturnsInHanded {} Tryd.checked os 10 .any (fun w args => (Rows.opReadsSpec.pre enc Tryd.prog Tryd.f10 [] false w args ∧ laidMetH Tryd.prog laidE w) ∧ sizedMet enc Tryd.prog Tryd.f10 (OpenSpec.ofChange Rows.opReadsSpec) false w args) (Rows.opReadsSpec.post enc Tryd.prog Tryd.f10 false true false false) := by
  refine law_lifted_and (C := Tryd.checked) (X := fun w _ => laidMetH Tryd.prog laidE w) (fun _ _ _ hh h => h.of_heap hh) own started (by kernel_rfl) Tryd.func10
    (ChangeSpec.witness_at (enc := enc) (C := Tryd.checked) (os := os) (X := fun w _ => laidMetH Tryd.prog laidE w) false (laidWorld os) #[.int .u64 0] 8 rfl (by kernel_rfl) (by kernel_rfl) (by kernel_rfl) (by kernel_rfl) (by kernel_rfl) (laidWorld_met os _))
    (by kernel_rfl) (by kernel_rfl) rfl rfl Tryd.underlying4 ?_
  intro W base args ds ps hval0 hA0 hsz0 hL
  have hg := errT_of_laid hL
  have hval : ∀ (j : Nat) t v, Tryd.f10.params[j]? = some t → args[j]? = some v → Value.okWide Tryd.prog W .any base t v := hval0
  have hA : DataW.TrodAll enc Tryd.prog W 0 (fun _ => true) true Tryd.f10.params.toList args.toList ds ps := hA0
  rw [Tryd.params10] at hA hval
  obtain ⟨v0, d0, rfl, rfl, h0⟩ := trodAll_one hA
  obtain ⟨x, rfl, rfl, rfl, wx⟩ := open_int Tryd.underlying24 (hval 0 24 v0 rfl rfl) h0
  obtain ⟨y, rfl⟩ := Int.eq_ofNat_of_zero_le (bounds_u64 wx).1
  exact ⟨rfl, walk y _ _ _ W (by have := (bounds_u64 wx).2; omega) rfl rfl rfl hg⟩

theorem kinPlace : (Rows.opReadsRow.inPlace == Tryd.pinned.checked.prog.inPlace 10) = true := by kernel_rfl
theorem kunfollowed : (Rows.opReadsRow.unfollowed == Tryd.pinned.checked.prog.unfollowed 10) = true := by kernel_rfl
theorem krecurses : (Rows.opReadsRow.recurses == Tryd.pinned.checked.prog.recurses 10) = true := by kernel_rfl
theorem knamed : (Rows.opReadsRow.named == Tryd.pinned.checked.prog.varsNamed 10) = true := by kernel_rfl
theorem closed : joinedFacts Tryd.pinned.checked.prog 10 Tryd.f10 Rows.opReadsSpec Rows.opReadsRow = true := by
  unfold joinedFacts
  simp only [Bool.and_eq_true]
  repeat' apply And.intro
  all_goals first | (with_reducible exact kinPlace) | (with_reducible exact kunfollowed) | (with_reducible exact krecurses) | (with_reducible exact knamed) | (with_reducible exact laidOutP) | (with_reducible exact mapsRowedP) | kernel_rfl
theorem goes : false = Rows.opReadsRow.goesBy Tryd.pinned.checked.prog := by kernel_rfl
theorem wfText : Rows.opReadsRow.wfByText (OpenSpec.ofChange Rows.opReadsSpec) = true := by kernel_rfl

theorem row : Rows.OpReadsSaid :=
  OpenClaim.holds_of_wide 10 Tryd.f10 rfl rfl rfl rfl rfl rfl rfl ⟨rfl, rfl, rfl, rfl, rfl⟩ rfl rfl rfl rfl rfl (by kernel_rfl) Tryd.func10 closed
    (of_decide_eq_true (by kernel_rfl)) (by unfold Func.isWrapper; first | (rw [if_pos (by decide +kernel)]; kernel_rfl) | (rw [if_neg (by decide +kernel)]; exact ⟨rfl, rfl⟩))
    (fun os started H enc _ => lifted os started H enc)
theorem holds : Rows.OpReadsCardSaid :=
  Claim7.holds_tied_plain_at .later [] [.handle] true Rows.opReadsCard.stood.harness true
    row (fun _ h => by cases h) wfText (fun _ h => by cases h) opReads_row_tie rfl ⟨rfl, rfl⟩ (by kernel_rfl) rfl
    (fun f fn hf hfn => by
      obtain rfl : f = 10 := Option.some.inj ((show Tryd.prog.funcNamed Rows.opReadsRow.func = some 10 by kernel_rfl).symm.trans hf) |>.symm
      obtain rfl : fn = Tryd.f10 := (Option.some.inj (Tryd.func10.symm.trans hfn)).symm
      refine ⟨looksP, fun j t ht => ?_⟩
      have hall : (Tryd.f10.params.toList.all fun t => !(Tryd.prog.wantsStandIn t)) = true := by kernel_rfl
      have hm : t ∈ Tryd.f10.params.toList := List.mem_of_getElem? (by simpa using ht)
      have h := List.all_eq_true.1 hall t hm
      show Tryd.prog.wantsStandIn t = false
      simpa using h)
    goes
#print axioms holds
end Go.Proofs.YtiajglefmlfkfaaDoor.lawOpReads
