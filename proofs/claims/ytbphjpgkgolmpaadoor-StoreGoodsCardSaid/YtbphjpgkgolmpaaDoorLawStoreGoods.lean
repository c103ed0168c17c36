/-
  any line of a store as it stays, and whether it is another one than now, behind any acts, is what the reference holds. No condition beyond the tied variable.
-/
import Derived.Test.YtbphjpgkgolmpaaDoorRows
import Derived.Test.YtbphjpgkgolmpaaDoorCards
import Derived.Test.YtbphjpgkgolmpaaDoorTie
import Derived.Test.YtbphjpgkgolmpaaDoorCardB
import Derived.SevenTiedAt
import Derived.Test.YtbphjpgkgolmpaaDoorMBase
import Derived.Test.YtbphjpgkgolmpaaDoorStL
import Derived.Test.YtbphjpgkgolmpaaDoorMBase
namespace Go.Proofs.YtbphjpgkgolmpaaDoor.lawStoreGoods
set_option linter.unusedSimpArgs false
set_option linter.unusedVariables false
set_option linter.unusedSectionVars false
open Go.RowKit Go.ChangeShapes Go.WideShapes Go.ChangeAt Go.Joins

attribute [local go_sem ↓] Go.wp_at_zero Go.wp_at_succ
set_option linter.unusedSimpArgs false
set_option linter.unusedVariables false

theorem zeroLine : lineA (fun _ => 0) 0 = #[.int .u64 0, .int .u64 0, .int .u64 0, .int .u64 0, .int .u64 0, .int .u64 0, .int .u64 0, .int .u64 0] := by rfl
theorem line_zero (w : World) : (Op.equalIn 10000 44 (.agg #[.int .u64 0, .int .u64 0, .int .u64 0, .int .u64 0, .int .u64 0, .int .u64 0, .int .u64 0, .int .u64 0]) (.agg #[.int .u64 0, .int .u64 0, .int .u64 0, .int .u64 0, .int .u64 0, .int .u64 0, .int .u64 0, .int .u64 0])).run Tryd.prog w = .ok true w := by
  have h := line_eq (fun _ => 0) (fun _ => 0) 0 w
  rw [zeroLine] at h
  rw [h]
  rfl
set_option maxRecDepth 100000 in
set_option maxHeartbeats 4000000 in
theorem walk (A : Option Addr) (n c : Nat) (l : Nat → Nat → Int) (ad : Int) (w : World) (hl : SlF [.i64, .i64, .u64, .i64, .i64] w A n c l) (hg : ErrT w) :
    Calls Tryd.prog 5 #[.slice A n c, .int .i64 ad] w fun e w' => e = .returned (.bool true) ∧ Below w.heap.size w w' := by
  by_cases h60 : n ≤ 60
  · have h60' : (n : Int) ≤ 60 := by omega
    have HG := Lib.hid hg
    go_enter Tryd.func5, Tryd.ntmps5
    go_wp2_with fail
    with_reducible refine (stored_any A n c l _ hl hg h60).mono ?_
    rintro e w1 ⟨g, h, m, k, s, rfl, hk, hs⟩
    have HS := Lib.hid hs
    clear hs hl hg
    by_cases hin : 0 ≤ ad ∧ ad < 9
    · obtain ⟨i0, i9⟩ := hin
      obtain ⟨ln, rfl⟩ := Int.eq_ofNat_of_zero_le i0
      have hln : ln < 9 := by omega
      go_wp2_with fail
      with_reducible refine (stGood_in g ln s _ HS.out.prog hln).mono ?_
      rintro e w2 ⟨rfl, hb2⟩
      have HS2 := Lib.hid (HS.out.grow hb2)
      clear hb2 HS
      have HR : Hid (Blk (w2.alloc (.cells #[.int .u64 0, .int .u64 0, .int .u64 0, .int .u64 0, .int .u64 0, .int .u64 0, .int .u64 0, .int .u64 0] 44)) w2.heap.size 44 #[.int .u64 0, .int .u64 0, .int .u64 0, .int .u64 0, .int .u64 0, .int .u64 0, .int .u64 0, .int .u64 0]) := Lib.hid (Blk.new _ _ _)
      have HSA := Lib.hid (HS2.out.alloc (.cells #[.int .u64 0, .int .u64 0, .int .u64 0, .int .u64 0, .int .u64 0, .int .u64 0, .int .u64 0, .int .u64 0] 44))
      have d3 : decide ((ln : Int) < 0) = false := by simp
      have d4 : decide ((9 : Int) ≤ ln) = false := by simp; omega
      have HSZ : Hid ((#[.int .u64 0, .int .u64 0, .int .u64 0, .int .u64 0, .int .u64 0, .int .u64 0, .int .u64 0, .int .u64 0] : Array Value).size = (lineA s.good (ln * 8)).size) := Lib.hid (by rw [lineA_size]; rfl)
      go_wp2_with (with_reducible refine fStore 44 w2.heap.size (lineA s.good (ln * 8)) 44 #[.int .u64 0, .int .u64 0, .int .u64 0, .int .u64 0, .int .u64 0, .int .u64 0, .int .u64 0, .int .u64 0] (by kernel_rfl) (by kernel_rfl) HR.out (infoLineS _ _) HSZ.out (lineA_one _ _) ?_)
      have HS3 : Hid (Sto w ((w2.alloc (.cells #[.int .u64 0, .int .u64 0, .int .u64 0, .int .u64 0, .int .u64 0, .int .u64 0, .int .u64 0, .int .u64 0] 44)).setRow w2.heap.size (lineA s.good (ln * 8))) g h m k s) := Lib.hid (HS2.out.grow (below_setRow (by go_grown) (Nat.le_refl _) _))
      have HR3 : Hid (Blk ((w2.alloc (.cells #[.int .u64 0, .int .u64 0, .int .u64 0, .int .u64 0, .int .u64 0, .int .u64 0, .int .u64 0, .int .u64 0] 44)).setRow w2.heap.size (lineA s.good (ln * 8))) w2.heap.size 44 (lineA s.good (ln * 8))) := Lib.hid (HR.out.setRow _)
      clear HR HSA HS2
      generalize (w2.alloc (.cells #[.int .u64 0, .int .u64 0, .int .u64 0, .int .u64 0, .int .u64 0, .int .u64 0, .int .u64 0, .int .u64 0] 44)).setRow w2.heap.size (lineA s.good (ln * 8)) = w3 at *
      generalize w2.heap.size = gl at *
      with_reducible refine (stDirty_in g ln s _ HS3.out.prog hln).mono ?_
      rintro e w4 ⟨rfl, hb4⟩
      have HS4 := Lib.hid (HS3.out.grow hb4)
      have HR4 := Lib.hid (HR3.out.below hb4 HR3.out.lt)
      clear hb4 HS3 HR3
      go_wp2_with fail
      with_reducible refine (rsDirty h m ln s _ HS4.out.ref hln).mono ?_
      rintro e w5 ⟨rfl, hb5⟩
      have HS5 := Lib.hid (HS4.out.grow hb5)
      have HR5 := Lib.hid (HR4.out.below hb5 HR4.out.lt)
      clear hb5 HS4 HR4
      go_wp2_with fail
      go_loopw [10] (fun iv wr => ∃ i : Nat, i ≤ 8 ∧ iv = .int .i64 i ∧ Hid (Below w5.heap.size w5 wr)) (fun iv _ => 8 - (intOf iv).toNat)
      case atStart => exact ⟨0, by omega, rfl, Lib.hid (Below.refl _ _)⟩
      case round =>
        obtain ⟨i, hi, rfl, HB⟩ := hrel
        by_cases hi8 : i < 8
        · have b1 : (i : Int) < 8 := by omega
          have hin : ln * 8 + i < 72 := by omega
          have hgl := HR5.out.lt
          have hhl := HS5.out.ref.lt
          have c1 : wr.cell? ⟨gl, i, none⟩ = some (.int .u64 (s.good (ln * 8 + i))) := (HB.out.cell (p := ⟨gl, i, none⟩) hgl).trans ((HR5.out.cell i).trans (rowF_get hi8))
          have c2 : wr.cell? ⟨h, 72 + (ln * 8 + i), none⟩ = some (.int .u64 (s.good (ln * 8 + i))) := (HB.out.cell (p := ⟨h, 72 + (ln * 8 + i), none⟩) hhl).trans ((HS5.out.ref.cell _).trans (rsA_good _ _ hin))
          have hgl' : gl < wr.heap.size := Nat.lt_of_lt_of_le hgl HB.out.size
          have hhl' : h < wr.heap.size := Nat.lt_of_lt_of_le hhl HB.out.size
          have q1 : IntKind.i64.wrap ((ln : Int) * 8) = (ln : Int) * 8 := IntWalk.i64_in _ (by omega)
          have q2 : IntKind.i64.wrap ((ln : Int) * 8 + (i : Int)) = ((ln * 8 + i : Nat) : Int) := by rw [IntWalk.i64_in _ (by omega)]; omega
          have b2 : (ln : Int) * 8 + (i : Int) < 72 := by omega
          have b3 : 0 ≤ (ln : Int) * 8 + (i : Int) := by omega
          have b4 : ((ln : Int) * 8 + (i : Int)).toNat = ln * 8 + i := by omega
          have b5 : ((ln * 8 + i : Nat) : Int) < 72 := by omega
          generalize s.good (ln * 8 + i) = v at c1 c2
          clear hgl hhl
          go_wp2
          refine wp_region_rely 13 nowhere [] (by kernel_rfl) (by kernel_rfl) ?_
          iterate 13
            refine wpRely_step (fun K hK => ?_)
            first
            | (refine .inl ?_
               apply Exists.intro
               refine ⟨Any, ?_, hK _ _ _ _ ?_⟩
               · simp only [RelyOp, fillE]
                 refine ⟨?_, fun w9 hw9 _ => ?_⟩
                 · first | rfl | (go_simp; done)
                 obtain ⟨hc9, hf9⟩ := hw9.all
                 go_simp
                 first
                 | exact ⟨⟨rfl, trivial⟩, Keeps.refl _ _⟩
               clear hK K
               try simp only [Act.put, List.setIfInBounds_toArray, List.set_cons_zero, List.set_cons_succ])
            | (refine .inr (.inl ⟨?_, hK _ _ _ _ ?_⟩)
               · simp only [fillE]
                 first | rfl | (go_simp; done)
               clear hK K
               try simp only [Act.put, List.setIfInBounds_toArray, List.set_cons_zero, List.set_cons_succ])
          refine wpRely_nil ?_
          simp only [fillE]
          intro w9 hw9 _
          obtain ⟨hc9, hf9⟩ := hw9.all
          simp only [List.drop_succ_cons, List.drop_zero]
          have HB9 := Lib.hid (HB.out.trans (hw9.same.mono HB.out.size))
          clear hw9 hc9 hf9 c1 c2 q1 q2 HB
          go_wp2
          go_roundw
          case rel => exact ⟨i + 1, by omega, by go_num, HB9⟩
          case measure => simp [intOf]; omega
        · obtain rfl : i = 8 := by omega
          go_wp2
          go_ret
          exact ⟨rfl, (HS5.out.grow HB.out).below⟩
    · go_wp2_with fail
      with_reducible refine (stGood_out g ad _ hin).mono ?_
      rintro e w2 ⟨rfl, hb2⟩
      have HS2 := Lib.hid (HS.out.grow hb2)
      clear hb2 HS
      have hh : ad < 0 ∨ (0 ≤ ad ∧ 9 ≤ ad) := by omega
      rcases hh with hh | ⟨hh, hh2⟩
      all_goals
        go_wp2_with fail
        have HSA := Lib.hid (HS2.out.alloc (.cells #[.int .u64 0, .int .u64 0, .int .u64 0, .int .u64 0, .int .u64 0, .int .u64 0, .int .u64 0, .int .u64 0] 44))
        with_reducible refine (bareS2 _ (HG.out.below HSA.out.below)).mono ?_
        rintro e w3 ⟨rfl, hb3⟩
        have HS3 := Lib.hid (HSA.out.grow hb3)
        have HR3 := Lib.hid ((Blk.new w2 44 #[.int .u64 0, .int .u64 0, .int .u64 0, .int .u64 0, .int .u64 0, .int .u64 0, .int .u64 0, .int .u64 0]).below hb3 (by simp))
        clear hb3 HSA
        have r0 : w3.cell? ⟨w2.heap.size, 0, none⟩ = some (.int .u64 0) := HR3.out.cell 0
        have r1 : w3.cell? ⟨w2.heap.size, 1, none⟩ = some (.int .u64 0) := HR3.out.cell 1
        have r2 : w3.cell? ⟨w2.heap.size, 2, none⟩ = some (.int .u64 0) := HR3.out.cell 2
        have r3 : w3.cell? ⟨w2.heap.size, 3, none⟩ = some (.int .u64 0) := HR3.out.cell 3
        have r4 : w3.cell? ⟨w2.heap.size, 4, none⟩ = some (.int .u64 0) := HR3.out.cell 4
        have r5 : w3.cell? ⟨w2.heap.size, 5, none⟩ = some (.int .u64 0) := HR3.out.cell 5
        have r6 : w3.cell? ⟨w2.heap.size, 6, none⟩ = some (.int .u64 0) := HR3.out.cell 6
        have r7 : w3.cell? ⟨w2.heap.size, 7, none⟩ = some (.int .u64 0) := HR3.out.cell 7
        have hz := line_zero
        go_wp2_with (first
          | (go_at_call 15; with_reducible refine (stDirty_out g ad _ hin).mono ?_; rintro e w4 ⟨rfl, hb4⟩))
        go_ret
        exact ⟨rfl, (HS3.out.grow hb4).below⟩
  · have h60' : ¬ (n : Int) ≤ 60 := by omega
    go_enter Tryd.func5, Tryd.ntmps5
    go_wp2
    go_ret
    exact ⟨rfl, Below.refl _ _⟩

theorem own : ownKnob Tryd.prog.godebug = none := by kernel_rfl

set_option maxRecDepth 100000 in
theorem lifted (os : Os) (started : os.Started) (H : Type) (enc : TypeId × Value → H) :
    ReturnsInHanded {} Tryd.checked os 5 .any (fun w args => (Rows.storeGoodsSpec.pre enc Tryd.prog Tryd.f5 [] false w args ∧ laidMetH Tryd.prog laidE w) ∧ sizedMet enc Tryd.prog Tryd.f5 (OpenSpec.ofChange Rows.storeGoodsSpec) false w args) (Rows.storeGoodsSpec.post enc Tryd.prog Tryd.f5 false true false false) := by
  refine law_lifted_and (C := Tryd.checked) (X := fun w _ => laidMetH Tryd.prog laidE w) (fun _ _ _ hh h => h.of_heap hh) own started (by kernel_rfl) Tryd.func5
    (ChangeSpec.witness_at (enc := enc) (C := Tryd.checked) (os := os) (X := fun w _ => laidMetH Tryd.prog laidE w) false (laidWorld os) #[.slice none 0 0, .int .i64 0] 8 rfl (by kernel_rfl) (by kernel_rfl) (by kernel_rfl) (by kernel_rfl) (by kernel_rfl) (laidWorld_met os _))
    (by kernel_rfl) (by kernel_rfl) rfl rfl Tryd.underlying4 ?_
  intro W base args ds ps hval0 hA0 hsz0 hL
  have hg := errT_of_laid hL
  have hval : ∀ (j : Nat) t v, Tryd.f5.params[j]? = some t → args[j]? = some v → Value.okWide Tryd.prog W .any base t v := hval0
  have hA : DataW.TrodAll enc Tryd.prog W 0 (fun _ => true) true Tryd.f5.params.toList args.toList ds ps := hA0
  rw [Tryd.params5] at hA hval
  obtain ⟨v0, v1, d0, d1, p0, p1, rfl, rfl, rfl, h0, h1⟩ := trodAll_two hA
  obtain ⟨lA, ln, lc, l, rfl, lh⟩ := open_slF (K := [.i64, .i64, .u64, .i64, .i64]) 4 Tryd.underlying22 (by kernel_rfl) (by kernel_rfl) (by decide) (hval 0 22 v0 rfl rfl) h0
  obtain ⟨a, rfl, rfl, rfl, wa⟩ := open_int Tryd.underlying3 (hval 1 3 v1 rfl rfl) h1
  exact ⟨rfl, walk lA ln lc l a W lh hg⟩

theorem kinPlace : (Rows.storeGoodsRow.inPlace == Tryd.pinned.checked.prog.inPlace 5) = true := by kernel_rfl
theorem kunfollowed : (Rows.storeGoodsRow.unfollowed == Tryd.pinned.checked.prog.unfollowed 5) = true := by kernel_rfl
theorem krecurses : (Rows.storeGoodsRow.recurses == Tryd.pinned.checked.prog.recurses 5) = true := by kernel_rfl
theorem knamed : (Rows.storeGoodsRow.named == Tryd.pinned.checked.prog.varsNamed 5) = true := by kernel_rfl
theorem closed : joinedFacts Tryd.pinned.checked.prog 5 Tryd.f5 Rows.storeGoodsSpec Rows.storeGoodsRow = true := by
  unfold joinedFacts
  simp only [Bool.and_eq_true]
  repeat' apply And.intro
  all_goals first | (with_reducible exact kinPlace) | (with_reducible exact kunfollowed) | (with_reducible exact krecurses) | (with_reducible exact knamed) | (with_reducible exact laidOutP) | (with_reducible exact mapsRowedP) | kernel_rfl
theorem goes : false = Rows.storeGoodsRow.goesBy Tryd.pinned.checked.prog := by kernel_rfl
theorem wfText : Rows.storeGoodsRow.wfByText (OpenSpec.ofChange Rows.storeGoodsSpec) = true := by kernel_rfl

theorem row : Rows.StoreGoodsSaid :=
  OpenClaim.holds_of_wide 5 Tryd.f5 rfl rfl rfl rfl rfl rfl rfl ⟨rfl, rfl, rfl, rfl, rfl⟩ rfl rfl rfl rfl rfl (by kernel_rfl) Tryd.func5 closed
    (of_decide_eq_true (by kernel_rfl)) (by unfold Func.isWrapper; first | (rw [if_pos (by decide +kernel)]; kernel_rfl) | (rw [if_neg (by decide +kernel)]; exact ⟨rfl, rfl⟩))
    (fun os started H enc _ => lifted os started H enc)
theorem holds : Rows.StoreGoodsCardSaid :=
  Claim7.holds_tied_plain_at .later [] [.handle] true Rows.storeGoodsCard.stood.harness true
    row (fun _ h => by cases h) wfText (fun _ h => by cases h) storeGoods_row_tie rfl ⟨rfl, rfl⟩ (by kernel_rfl) rfl
    (fun f fn hf hfn => by
      obtain rfl : f = 5 := Option.some.inj ((show Tryd.prog.funcNamed Rows.storeGoodsRow.func = some 5 by kernel_rfl).symm.trans hf) |>.symm
      obtain rfl : fn = Tryd.f5 := (Option.some.inj (Tryd.func5.symm.trans hfn)).symm
      refine ⟨looksP, fun j t ht => ?_⟩
      have hall : (Tryd.f5.params.toList.all fun t => !(Tryd.prog.wantsStandIn t)) = true := by kernel_rfl
      have hm : t ∈ Tryd.f5.params.toList := List.mem_of_getElem? (by simpa using ht)
      have h := List.all_eq_true.1 hall t hm
      show Tryd.prog.wantsStandIn t = false
      simpa using h)
    goes
#print axioms holds
end Go.Proofs.YtbphjpgkgolmpaaDoor.lawStoreGoods
