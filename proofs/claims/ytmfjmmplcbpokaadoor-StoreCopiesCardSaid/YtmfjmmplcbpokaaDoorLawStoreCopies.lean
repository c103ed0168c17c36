/-
  a copy of a store is it, for good, whatever is done to the one. No condition beyond the tied variable.
-/
import Derived.Test.YtmfjmmplcbpokaaDoorRows
import Derived.Test.YtmfjmmplcbpokaaDoorCards
import Derived.Test.YtmfjmmplcbpokaaDoorTie
import Derived.Test.YtmfjmmplcbpokaaDoorCardB
import Derived.SevenTiedAt
import Derived.Test.YtmfjmmplcbpokaaDoorMBase
import Derived.Test.YtmfjmmplcbpokaaDoorStL
import Derived.Test.YtmfjmmplcbpokaaDoorMBase
namespace Go.Proofs.YtmfjmmplcbpokaaDoor.lawStoreCopies
set_option linter.unusedSimpArgs false
set_option linter.unusedVariables false
set_option linter.unusedSectionVars false
open Go.RowKit Go.ChangeShapes Go.WideShapes Go.ChangeAt Go.Joins

attribute [local go_sem ↓] Go.wp_at_zero Go.wp_at_succ
set_option linter.unusedSimpArgs false
set_option linter.unusedVariables false

set_option maxRecDepth 100000 in
set_option maxHeartbeats 4000000 in
theorem walk (A : Option Addr) (n c : Nat) (l : Nat → Nat → Int) (A' : Option Addr) (n' c' : Nat) (l' : Nat → Nat → Int) (ad : Int) (w : World) (hl : SlF [.i64, .i64, .u64, .i64, .i64] w A n c l) (hl' : SlF [.i64, .i64, .u64, .i64, .i64] w A' n' c' l') (hg : ErrT w) :
    Calls Tryd.prog 3 #[.slice A n c, .slice A' n' c', .int .i64 ad] w fun e w' => e = .returned (.bool true) ∧ Below w.heap.size w w' := by
  by_cases h60 : n ≤ 40 ∧ n' ≤ 20
  · obtain ⟨h40, h20⟩ := h60
    have h40' : (n : Int) ≤ 40 := by omega
    have h20' : (n' : Int) ≤ 20 := by omega
    have HG := Lib.hid hg
    have HL' := Lib.hid hl'
    go_enter Tryd.func3, Tryd.ntmps3
    go_wp2_with fail
    with_reducible refine (stored_any A n c l _ hl hg (by omega)).mono ?_
    rintro e w1 ⟨g, h, m, k, s, rfl, hk, hs⟩
    have HS := Lib.hid hs
    clear hs hl hg hl'
    go_wp2_with fail
    with_reducible refine (stCopy g s _ HS.out.prog).mono ?_
    rintro e w2 ⟨rfl, hc2, hb2⟩
    have HS2 := Lib.hid (HS.out.grow hb2)
    have HC2 := Lib.hid hc2
    have HNE : Hid (g < w1.heap.size ∧ h < w1.heap.size) := Lib.hid ⟨HS.out.prog.lt, HS.out.ref.lt⟩
    clear hb2 hc2 HS
    generalize w1.heap.size = gc at *
    go_wp2_with fail
    go_loopw [11] (fun iv wr => ∃ (k : Nat) (s2 : Sst), k ≤ n' ∧ iv = .int .i64 k ∧ Hid (Blk wr g 85 (stA s2)) ∧ Hid (Keeps (Only g) w2 wr)) (fun iv _ => n' - (intOf iv).toNat)
    case atStart => exact ⟨0, s, by omega, rfl, Lib.hid HS2.out.prog, Lib.hid (Keeps.refl _ _)⟩
    case round =>
      obtain ⟨k, s2, hk, rfl, HP, HK⟩ := hrel
      by_cases hkn : k < n'
      · have b1 : (k : Int) < n' := by omega
        obtain ⟨b, off, rfl, hblt, hcell⟩ := HL'.out.at_ (by omega)
        have hbw : b < w2.heap.size := Nat.lt_of_lt_of_le hblt HS2.out.below.size
        have hbg : ¬ Only g b := fun e => by
          have e' : b = g := e
          have := HS2.out.gN
          omega
        have hcc : ∀ j, j < 5 → wr.cell? ⟨b, off + k * 5 + j, none⟩ = w.cell? ⟨b, off + k * 5 + j, none⟩ := fun j _ => (HK.out.cell (p := ⟨b, off + k * 5 + j, none⟩) hbw hbg).trans (HS2.out.below.cell (p := ⟨b, off + k * 5 + j, none⟩) hblt)
        have c1 : wr.cell? ⟨b, off + k * 5 + 1, none⟩ = some (.int .i64 (l' k 1)) := (hcc 1 (by decide)).trans (hcell k 1 hkn (by decide))
        have c2 : wr.cell? ⟨b, off + k * 5 + 2, none⟩ = some (.int .u64 (l' k 2)) := (hcc 2 (by decide)).trans (hcell k 2 hkn (by decide))
        have v2 := bounds_u64 (HL'.out.wf k 2 hkn (by decide))
        clear hcell hcc
        generalize l' k 1 = addr at *
        generalize l' k 2 = word at *
        obtain ⟨x, rfl⟩ := Int.eq_ofNat_of_zero_le (show 0 ≤ word by omega)
        have hx : x < 18446744073709551616 := by omega
        have hbr : b < wr.heap.size := Nat.lt_of_lt_of_le hbw HK.out.size
        go_wp2
        refine wp_region_rely 11 nowhere [] (by kernel_rfl) (by kernel_rfl) ?_
        iterate 11
          refine wpRely_step (fun K hK => ?_)
          first
          | (refine .inl ?_
             apply Exists.intro
             refine ⟨Any, ?_, hK _ _ _ _ ?_⟩
             · simp only [RelyOp, fillE]
               refine ⟨?_, fun w9 hw9 _ => ?_⟩
               · first | rfl | (go_simp; done)
               obtain ⟨hc9, hf9⟩ := hw9.all
               go_simp
               first
               | exact ⟨⟨rfl, trivial⟩, Keeps.refl _ _⟩
             clear hK K
             try simp only [Act.put, List.setIfInBounds_toArray, List.set_cons_zero, List.set_cons_succ])
          | (refine .inr (.inl ⟨?_, hK _ _ _ _ ?_⟩)
             · simp only [fillE]
               first | rfl | (go_simp; done)
             clear hK K
             try simp only [Act.put, List.setIfInBounds_toArray, List.set_cons_zero, List.set_cons_succ])
        refine wpRely_nil ?_
        simp only [fillE]
        intro w9 hw9 _
        obtain ⟨hc9, hf9⟩ := hw9.all
        simp only [List.drop_succ_cons, List.drop_zero]
        have HP9 := Lib.hid (HP.out.below hw9.same HP.out.lt)
        have HK9 : Hid (Keeps (Only g) w2 w9) := Lib.hid (HK.out.trans (Keeps.of_same hw9.same))
        have c2' : w9.cell? ⟨b, off + k * 5 + 2, none⟩ = some (.int .u64 (x : Int)) := (hw9.same.cell (p := ⟨b, off + k * 5 + 2, none⟩) hbr).trans c2
        have hb9 : b < w9.heap.size := Nat.lt_of_lt_of_le hbr hw9.same.size
        clear hw9 hc9 hf9 c1 c2 HP HK
        by_cases hin : 0 ≤ addr ∧ addr < 72
        · obtain ⟨i0, i72⟩ := hin
          obtain ⟨i, rfl⟩ := Int.eq_ofNat_of_zero_le i0
          have hi : i < 72 := by omega
          go_wp2_with fail
          with_reducible refine (stSave_in g i (x : Int) s2 _ HP9.out hi).mono ?_
          rintro e w10 ⟨rfl, rfl⟩
          have HP10 : Hid (Blk (w9.setCell ⟨g, i, none⟩ (.int .u64 (x : Int))) g 85 (stA (s2.save i (x : Int)))) := Lib.hid (by rw [← stA_save s2 _ hi]; exact HP9.out.set_ i _)
          have HK10 := Lib.hid (only_set HK9.out (i := i) (.int .u64 (x : Int)))
          have c2'' : (w9.setCell ⟨g, i, none⟩ (.int .u64 (x : Int))).cell? ⟨b, off + k * 5 + 2, none⟩ = some (.int .u64 (x : Int)) := (((only_set (Keeps.refl (Only g) w9) (.int .u64 (x : Int)))).cell (p := ⟨b, off + k * 5 + 2, none⟩) hb9 hbg).trans c2'
          clear HP9 HK9 c2'
          generalize w9.setCell ⟨g, i, none⟩ (.int .u64 (x : Int)) = w10 at *
          go_wp2_with fail
          with_reducible refine (stCrash g x _ _ HP10.out hx).mono ?_
          rintro e w11 ⟨rfl, hb11, hk11⟩
          have HP11 := Lib.hid hb11
          have HK11 := Lib.hid (HK10.out.trans hk11)
          clear hb11 hk11 c2''
          go_wp2
          exact ⟨⟨k + 1, _, by omega, by go_num, HP11, HK11⟩, by simp [intOf]; omega⟩
        · go_wp2_with fail
          with_reducible refine (stSave_out g addr (x : Int) _ hin).mono ?_
          rintro e w10 ⟨rfl, rfl⟩
          go_wp2_with fail
          with_reducible refine (stCrash g x _ _ HP9.out hx).mono ?_
          rintro e w11 ⟨rfl, hb11, hk11⟩
          have HP11 := Lib.hid hb11
          have HK11 := Lib.hid (HK9.out.trans hk11)
          clear hb11 hk11 c2'
          go_wp2
          exact ⟨⟨k + 1, _, by omega, by go_num, HP11, HK11⟩, by simp [intOf]; omega⟩
      · obtain rfl : k = n' := by omega
        have HC3 : Hid (Blk wr gc 85 (stA s)) := Lib.hid (HC2.out.kept HK.out (by have := HNE.out; omega))
        have HR3 : Hid (Blk wr h 43 (rsA s m)) := Lib.hid (HS2.out.ref.kept HK.out HS2.out.gh.symm)
        have HB3 : Hid (Below w.heap.size w wr) := Lib.hid (HS2.out.below.trans (HK.out.below HS2.out.below.size (fun b hb e => by have e' : b = g := e; have := HS2.out.gN; omega)))
        clear HC2 HP HK HS2
        have HG3 : Hid (ErrT wr) := Lib.hid (HG.out.below HB3.out)
        go_wp2_with fail
        go_loopw [12] (fun iv w4 => ∃ i : Nat, i ≤ 9 ∧ iv = .int .i64 i ∧ Hid (Below wr.heap.size wr w4)) (fun iv _ => 9 - (intOf iv).toNat)
        case atStart => exact ⟨0, by omega, rfl, Lib.hid (Below.refl _ _)⟩
        case round =>
          obtain ⟨i, hi, rfl, HB⟩ := hrel
          rename World => w4
          by_cases hi9 : i < 9
          · have b1 : (i : Int) < 9 := by omega
            go_wp2_with fail
            with_reducible refine (stDirty_in gc i s _ (HC3.out.below HB.out HC3.out.lt) hi9).mono ?_
            rintro e w5 ⟨rfl, hb5⟩
            have HB5 := Lib.hid (HB.out.trans (hb5.mono HB.out.size))
            clear hb5 HB
            go_wp2_with fail
            with_reducible refine (rsDirty h m i s _ (HR3.out.below HB5.out HR3.out.lt) hi9).mono ?_
            rintro e w6 ⟨rfl, hb6⟩
            have HB6 := Lib.hid (HB5.out.trans (hb6.mono HB5.out.size))
            clear hb6 HB5
            generalize s.dirty i = q
            cases q
            all_goals
              go_wp2
              exact ⟨⟨i + 1, by omega, by go_num, HB6⟩, by simp [intOf]; omega⟩
          · obtain rfl : i = 9 := by omega
            have HC4 := Lib.hid (HC3.out.below HB.out HC3.out.lt)
            have HR4 := Lib.hid (HR3.out.below HB.out HR3.out.lt)
            have HG4 := Lib.hid (HG.out.below (HB3.out.trans (HB.out.mono HB3.out.size)))
            have HB4 := Lib.hid (HB3.out.trans (HB.out.mono HB3.out.size))
            clear HC3 HR3 HG3 HB3 HB
            have hth := rsThere h ad
            by_cases hin : 0 ≤ ad ∧ ad < 72
            · rw [decide_eq_true hin] at hth
              obtain ⟨i0, i72⟩ := hin
              obtain ⟨j, rfl⟩ := Int.eq_ofNat_of_zero_le i0
              have hj : j < 72 := by omega
              have c1 : w4.cell? ⟨h, j, none⟩ = some (.int .u64 (s.now j)) := by rw [HR4.out.cell, rsA_now _ _ hj]
              have HLD := Lib.hid (stLoad_in gc j s _ HC4.out hj)
              have hhl := HR4.out.lt
              generalize s.now j = v at *
              go_wp2_with fail
              with_reducible refine HLD.out.mono ?_
              rintro e w5 ⟨rfl, rfl⟩
              go_wp2_with (go_at_call 12; with_reducible refine (hth _).mono ?_; rintro e w2 ⟨rfl, rfl⟩)
              go_ret
              exact ⟨rfl, HB4.out⟩
            · rw [decide_eq_false hin] at hth
              go_wp2_with fail
              with_reducible refine (stLoad_out gc ad _ hin).mono ?_
              rintro e w5 ⟨rfl, rfl⟩
              go_wp2_with (go_at_call 12; with_reducible refine (hth _).mono ?_; rintro e w2 ⟨rfl, rfl⟩)
              with_reducible refine (bareS2 _ HG4.out).mono ?_
              rintro e w6 ⟨rfl, hb6⟩
              have HB6 := Lib.hid (HB4.out.trans (hb6.mono HB4.out.size))
              clear hb6
              go_wp2_with (go_at_call 12; with_reducible refine (hth _).mono ?_; rintro e w2 ⟨rfl, rfl⟩)
              go_ret
              exact ⟨ret_bool (by simp), HB6.out⟩
  · by_cases h1 : n ≤ 40
    · have h1' : (n : Int) ≤ 40 := by omega
      have h2' : ¬ (n' : Int) ≤ 20 := by omega
      go_enter Tryd.func3, Tryd.ntmps3
      go_wp2
      go_ret
      exact ⟨rfl, Below.refl _ _⟩
    · have h1' : ¬ (n : Int) ≤ 40 := by omega
      go_enter Tryd.func3, Tryd.ntmps3
      go_wp2
      go_ret
      exact ⟨rfl, Below.refl _ _⟩

theorem own : ownKnob Tryd.prog.godebug = none := by kernel_rfl

set_option maxRecDepth 100000 in
theorem lifted (os : Os) (started : os.Started) (H : Type) (enc : TypeId × Value → H) :
    ReturnsInHanded {} Tryd.checked os 3 .any (fun w args => (Rows.storeCopiesSpec.pre enc Tryd.prog Tryd.f3 [] false w args ∧ laidMetH Tryd.prog laidE w) ∧ sizedMet enc Tryd.prog Tryd.f3 (OpenSpec.ofChange Rows.storeCopiesSpec) false w args) (Rows.storeCopiesSpec.post enc Tryd.prog Tryd.f3 false true false false) := by
  refine law_lifted_and (C := Tryd.checked) (X := fun w _ => laidMetH Tryd.prog laidE w) (fun _ _ _ hh h => h.of_heap hh) own started (by kernel_rfl) Tryd.func3
    (ChangeSpec.witness_at (enc := enc) (C := Tryd.checked) (os := os) (X := fun w _ => laidMetH Tryd.prog laidE w) false (laidWorld os) #[.slice none 0 0, .slice none 0 0, .int .i64 0] 8 rfl (by kernel_rfl) (by kernel_rfl) (by kernel_rfl) (by kernel_rfl) (by kernel_rfl) (laidWorld_met os _))
    (by kernel_rfl) (by kernel_rfl) rfl rfl Tryd.underlying4 ?_
  intro W base args ds ps hval0 hA0 hsz0 hL
  have hg := errT_of_laid hL
  have hval : ∀ (j : Nat) t v, Tryd.f3.params[j]? = some t → args[j]? = some v → Value.okWide Tryd.prog W .any base t v := hval0
  have hA : DataW.TrodAll enc Tryd.prog W 0 (fun _ => true) true Tryd.f3.params.toList args.toList ds ps := hA0
  rw [Tryd.params3] at hA hval
  obtain ⟨v0, v1, v2, d0, d1, d2, p0, p1, p2, rfl, rfl, rfl, h0, h1, h2⟩ := trodAll_three hA
  obtain ⟨lA, ln, lc, l, rfl, lh⟩ := open_slF (K := [.i64, .i64, .u64, .i64, .i64]) 4 Tryd.underlying22 (by kernel_rfl) (by kernel_rfl) (by decide) (hval 0 22 v0 rfl rfl) h0
  obtain ⟨kA, kn, kc, k, rfl, kh⟩ := open_slF (K := [.i64, .i64, .u64, .i64, .i64]) 4 Tryd.underlying22 (by kernel_rfl) (by kernel_rfl) (by decide) (hval 1 22 v1 rfl rfl) h1
  obtain ⟨a, rfl, rfl, rfl, wa⟩ := open_int Tryd.underlying3 (hval 2 3 v2 rfl rfl) h2
  exact ⟨rfl, walk lA ln lc l kA kn kc k a W lh kh hg⟩

theorem kinPlace : (Rows.storeCopiesRow.inPlace == Tryd.pinned.checked.prog.inPlace 3) = true := by kernel_rfl
theorem kunfollowed : (Rows.storeCopiesRow.unfollowed == Tryd.pinned.checked.prog.unfollowed 3) = true := by kernel_rfl
theorem krecurses : (Rows.storeCopiesRow.recurses == Tryd.pinned.checked.prog.recurses 3) = true := by kernel_rfl
theorem knamed : (Rows.storeCopiesRow.named == Tryd.pinned.checked.prog.varsNamed 3) = true := by kernel_rfl
theorem closed : joinedFacts Tryd.pinned.checked.prog 3 Tryd.f3 Rows.storeCopiesSpec Rows.storeCopiesRow = true := by
  unfold joinedFacts
  simp only [Bool.and_eq_true]
  repeat' apply And.intro
  all_goals first | (with_reducible exact kinPlace) | (with_reducible exact kunfollowed) | (with_reducible exact krecurses) | (with_reducible exact knamed) | (with_reducible exact laidOutP) | (with_reducible exact mapsRowedP) | kernel_rfl
theorem goes : false = Rows.storeCopiesRow.goesBy Tryd.pinned.checked.prog := by kernel_rfl
theorem wfText : Rows.storeCopiesRow.wfByText (OpenSpec.ofChange Rows.storeCopiesSpec) = true := by kernel_rfl

theorem row : Rows.StoreCopiesSaid :=
  OpenClaim.holds_of_wide 3 Tryd.f3 rfl rfl rfl rfl rfl rfl rfl ⟨rfl, rfl, rfl, rfl, rfl⟩ rfl rfl rfl rfl rfl (by kernel_rfl) Tryd.func3 closed
    (of_decide_eq_true (by kernel_rfl)) (by unfold Func.isWrapper; first | (rw [if_pos (by decide +kernel)]; kernel_rfl) | (rw [if_neg (by decide +kernel)]; exact ⟨rfl, rfl⟩))
    (fun os started H enc _ => lifted os started H enc)
theorem holds : Rows.StoreCopiesCardSaid :=
  Claim7.holds_tied_plain_at .later [] [.handle] true Rows.storeCopiesCard.stood.harness true
    row (fun _ h => by cases h) wfText (fun _ h => by cases h) storeCopies_row_tie rfl ⟨rfl, rfl⟩ (by kernel_rfl) rfl
    (fun f fn hf hfn => by
      obtain rfl : f = 3 := Option.some.inj ((show Tryd.prog.funcNamed Rows.storeCopiesRow.func = some 3 by kernel_rfl).symm.trans hf) |>.symm
      obtain rfl : fn = Tryd.f3 := (Option.some.inj (Tryd.func3.symm.trans hfn)).symm
      refine ⟨looksP, fun j t ht => ?_⟩
      have hall : (Tryd.f3.params.toList.all fun t => !(Tryd.prog.wantsStandIn t)) = true := by kernel_rfl
      have hm : t ∈ Tryd.f3.params.toList := List.mem_of_getElem? (by simpa using ht)
      have h := List.all_eq_true.1 hall t hm
      show Tryd.prog.wantsStandIn t = false
      simpa using h)
    goes
#print axioms holds
end Go.Proofs.YtmfjmmplcbpokaaDoor.lawStoreCopies
