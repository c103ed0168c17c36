/-
  The reference's OpParse, for any text of up to 200 bytes. The tables hold what they hold (premises on variables).
-/
import Derived.Test.YtagdjpcbgnppnaaDoorParseR
namespace Go.Proofs.YtagdjpcbgnppnaaDoor
set_option linter.unusedSimpArgs false
set_option linter.unusedVariables false
set_option linter.unusedSectionVars false
open Go.RowKit
attribute [local go_sem ↓] Go.wp_at_zero Go.wp_at_succ

theorem listL (r : List UInt8) : (⟨r.toArray⟩ : ByteArray).data.toList = r := by simp
theorem sizeL (r : List UInt8) : (⟨r.toArray⟩ : ByteArray).size = r.length := by simp [ByteArray.size]
theorem pre1 (r : List UInt8) (c : UInt8) (w : World) : Calls Tryd.prog 8 #[.string ⟨r.toArray⟩, .string ⟨#[c]⟩] w fun e w' => e = .returned (.bool (Lib.hasPrefix r [c])) ∧ w' = w := by
  have := prefixE ⟨r.toArray⟩ [c] w
  rw [listL] at this
  exact this
theorem pre_len {r : List UInt8} {c : UInt8} (h : Lib.hasPrefix r [c] = true) : 1 ≤ r.length := by
  cases r with
  | nil => simp [Lib.hasPrefix, List.isPrefixOf] at h
  | cons b l => simp
theorem pre_len2 {s p : List UInt8} (h : Lib.hasPrefix s p = true) : p.length ≤ s.length := by
  have : p <+: s := by simpa [Lib.hasPrefix, List.isPrefixOf_iff_prefix] using h
  exact this.length_le
theorem extract_list (r : List UInt8) (k : Nat) : (⟨r.toArray⟩ : ByteArray).extract k r.length = ⟨(r.drop k).toArray⟩ := by
  have := extract_drop ⟨r.toArray⟩ k
  rwa [sizeL, listL] at this
theorem extract_tail (r : List UInt8) : (⟨r.toArray⟩ : ByteArray).extract 1 r.length = ⟨r.tail.toArray⟩ := by rw [extract_list, List.drop_one]
theorem digGo_len : ∀ (f n : Nat) (l : List UInt8), (digGo f n l).2.length ≤ l.length
  | 0, _, _ => Nat.le_refl _
  | _ + 1, _, [] => Nat.le_refl _
  | f + 1, n, b :: l => by
    unfold digGo
    split
    · exact Nat.le_trans (digGo_len f _ l) (by simp)
    · exact Nat.le_refl _
theorem digO_len (l : List UInt8) : (digO l).2.length ≤ l.length := by
  unfold digO
  split
  · exact Nat.le_refl _
  · split
    · exact digGo_len 12 0 _
    · exact Nat.le_refl _

set_option maxRecDepth 100000 in
set_option maxHeartbeats 4000000 in
theorem opParse_any (s : ByteArray) (hs : s.size ≤ 200) {w : World} (hg : PrintT w) : Calls Tryd.prog 4 #[.string s] w fun e w' =>
    e = .returned (.tuple #[.agg #[.int .i64 (parseZ s.data.toList).1, .int .i64 (parseZ s.data.toList).2.1, .int .i64 (parseZ s.data.toList).2.2.1], .int .i64 (okE (parseZ s.data.toList).2.2.2 3)]) ∧ Below w.heap.size w w' := by
  have HG := Lib.hid hg
  have hlen : s.data.toList.length = s.size := by rw [Array.length_toList]; rfl
  have hA : Below w.heap.size w (w.alloc (.cells #[.int .i64 0, .int .i64 0, .int .i64 0] 23)) := (Below.refl _ _).alloc (Nat.le_refl _) _
  have hgA := hg.below hA
  have HR0 : Hid (Blk (w.alloc (.cells #[.int .i64 0, .int .i64 0, .int .i64 0] 23)) w.heap.size 23 #[.int .i64 0, .int .i64 0, .int .i64 0]) := Lib.hid (Blk.new _ _ _)
  have HA := Lib.hid hA
  generalize hQ : bodyPost Tryd.prog Tryd.f4 (fun e w' => e = .returned (.tuple #[.agg #[.int .i64 (parseZ s.data.toList).1, .int .i64 (parseZ s.data.toList).2.1, .int .i64 (parseZ s.data.toList).2.2.1], .int .i64 (okE (parseZ s.data.toList).2.2.2 3)]) ∧ Below w.heap.size w w') = Q
  have HQ := Lib.hid hQ
  go_enter Tryd.func4, Tryd.ntmps4
  rw [hQ]
  clear hQ hg hA
  go_wp2_with fail
  have hF := opFields hgA.sp
  with_reducible refine hF.mono ?_
  clear hF hgA
  rintro e w1 ⟨rfl, rfl⟩
  obtain ⟨g, hgd0⟩ : ∃ g, g = (w.alloc (.cells #[.int .i64 0, .int .i64 0, .int .i64 0] 23)).heap.size := ⟨_, rfl⟩
  have HL1 : Hid (Blk ((w.alloc (.cells #[.int .i64 0, .int .i64 0, .int .i64 0] 23)).alloc (.cells #[.string ⟨#[112, 117, 116]⟩, .string ⟨#[116, 97, 107, 101]⟩, .string ⟨#[102, 114, 111, 110, 116]⟩, .string ⟨#[98, 97, 99, 107]⟩, .string ⟨#[112, 101, 101, 107]⟩, .string ⟨#[99, 111, 117, 110, 116]⟩] 9)) g 9 #[.string ⟨#[112, 117, 116]⟩, .string ⟨#[116, 97, 107, 101]⟩, .string ⟨#[102, 114, 111, 110, 116]⟩, .string ⟨#[98, 97, 99, 107]⟩, .string ⟨#[112, 101, 101, 107]⟩, .string ⟨#[99, 111, 117, 110, 116]⟩]) := Lib.hid (by rw [hgd0]; exact Blk.new _ _ _)
  have HR1 : Hid (Blk ((w.alloc (.cells #[.int .i64 0, .int .i64 0, .int .i64 0] 23)).alloc (.cells #[.string ⟨#[112, 117, 116]⟩, .string ⟨#[116, 97, 107, 101]⟩, .string ⟨#[102, 114, 111, 110, 116]⟩, .string ⟨#[98, 97, 99, 107]⟩, .string ⟨#[112, 101, 101, 107]⟩, .string ⟨#[99, 111, 117, 110, 116]⟩] 9)) w.heap.size 23 #[.int .i64 0, .int .i64 0, .int .i64 0]) := Lib.hid (HR0.out.alloc _)
  have HW1 : Hid (Below w.heap.size w ((w.alloc (.cells #[.int .i64 0, .int .i64 0, .int .i64 0] 23)).alloc (.cells #[.string ⟨#[112, 117, 116]⟩, .string ⟨#[116, 97, 107, 101]⟩, .string ⟨#[102, 114, 111, 110, 116]⟩, .string ⟨#[98, 97, 99, 107]⟩, .string ⟨#[112, 101, 101, 107]⟩, .string ⟨#[99, 111, 117, 110, 116]⟩] 9))) := Lib.hid (HA.out.alloc HA.out.size _)
  rw [← hgd0]
  generalize ((w.alloc (.cells #[.int .i64 0, .int .i64 0, .int .i64 0] 23)).alloc (.cells #[.string ⟨#[112, 117, 116]⟩, .string ⟨#[116, 97, 107, 101]⟩, .string ⟨#[102, 114, 111, 110, 116]⟩, .string ⟨#[98, 97, 99, 107]⟩, .string ⟨#[112, 101, 101, 107]⟩, .string ⟨#[99, 111, 117, 110, 116]⟩] 9)) = w2 at HL1 HR1 HW1 ⊢
  clear HR0 HA hgd0
  go_wp2_with fail
  go_loopw [12] (fun i wr => ∃ k : Nat, k ≤ 6 ∧ i = .int .i64 k ∧ Hid (∀ a kk v, good s.data.toList a kk v → (k : Int) < a) ∧ Hid (Blk wr w.heap.size 23 #[.int .i64 0, .int .i64 0, .int .i64 0]) ∧ Hid (Blk wr g 9 #[.string ⟨#[112, 117, 116]⟩, .string ⟨#[116, 97, 107, 101]⟩, .string ⟨#[102, 114, 111, 110, 116]⟩, .string ⟨#[98, 97, 99, 107]⟩, .string ⟨#[112, 101, 101, 107]⟩, .string ⟨#[99, 111, 117, 110, 116]⟩]) ∧ Below w.heap.size w wr) (fun i _ => 6 - (intOf i).toNat)
  case atStart => exact ⟨0, by omega, rfl, Lib.hid (fun a kk v h => by have := h.1; simp [opRightB] at this; omega), HR1, HL1, HW1.out⟩
  case round =>
    obtain ⟨k, hk, rfl, HN, HR, HL, hW⟩ := hrel
    have HW := Lib.hid hW
    clear hW
    by_cases hk6 : k < 6
    · skip
      have hnk := HL.out.cell k
      have hk5 : (#[.string ⟨#[112, 117, 116]⟩, .string ⟨#[116, 97, 107, 101]⟩, .string ⟨#[102, 114, 111, 110, 116]⟩, .string ⟨#[98, 97, 99, 107]⟩, .string ⟨#[112, 101, 101, 107]⟩, .string ⟨#[99, 111, 117, 110, 116]⟩] : Array Value)[k]? = some (.string ⟨(opL.getD k []).toArray⟩) := by
        rcases (by omega : k = 0 ∨ k = 1 ∨ k = 2 ∨ k = 3 ∨ k = 4 ∨ k = 5) with rfl | rfl | rfl | rfl | rfl | rfl <;> rfl
      rw [hk5] at hnk
      have hnm : opL.getD k [] = opName ((k : Int) + 1) := by unfold opName; congr 1; omega
      rw [hnm] at hnk
      clear hk5 hnm
      have q1 : (k : Int) < 6 := by omega
      have q1n : (k : Int).toNat = k := by omega
      have hP := prefixE s (opName ((k : Int) + 1))
      go_wp2_with fail
      with_reducible refine (hP _).mono ?_
      clear hP hnk
      rintro e w4 ⟨rfl, hw4⟩
      obtain rfl := hw4.symm
      cases hp : Lib.hasPrefix s.data.toList (opName ((k : Int) + 1)) with
      | false =>
        go_wp2
        refine ⟨⟨k + 1, by omega, by go_num, Lib.hid (fun a kk v hgd => ?_), HR, HL, HW.out⟩, by simp [intOf]; omega⟩
        have h1 := HN.out a kk v hgd
        rcases (by omega : a = (k : Int) + 1 ∨ ((k + 1 : Nat) : Int) < a) with ha | ha
        · exfalso
          subst ha
          have ht := refTry_good _ kk v hgd.1
          rw [hgd.2, hp] at ht
          cases ht.1
        · exact ha
      | true =>
        have hnl := pre_len2 hp
        have hx := extract_drop s (opName ((k : Int) + 1)).length
        have hns : ((opName ((k : Int) + 1)).length : Int) ≤ (s.size : Int) := by omega
        have HRK0 : Hid (refTry s.data.toList ((k : Int) + 1) = refTry s.data.toList ((k : Int) + 1)) := Lib.hid rfl
        obtain ⟨bo, hbo⟩ : ∃ bo, bo = wr.heap.size := ⟨_, rfl⟩
        have HOa : Hid (Blk (wr.alloc (.cells #[.int .i64 ((k : Int) + 1), .int .i64 0, .int .i64 0] 23)) bo 23 #[.int .i64 ((k : Int) + 1), .int .i64 0, .int .i64 0]) := Lib.hid (by rw [hbo]; exact Blk.new _ _ _)
        have HRa : Hid (Blk (wr.alloc (.cells #[.int .i64 ((k : Int) + 1), .int .i64 0, .int .i64 0] 23)) w.heap.size 23 #[.int .i64 0, .int .i64 0, .int .i64 0]) := Lib.hid (HR.out.alloc _)
        have HLa : Hid (Blk (wr.alloc (.cells #[.int .i64 ((k : Int) + 1), .int .i64 0, .int .i64 0] 23)) g 9 #[.string ⟨#[112, 117, 116]⟩, .string ⟨#[116, 97, 107, 101]⟩, .string ⟨#[102, 114, 111, 110, 116]⟩, .string ⟨#[98, 97, 99, 107]⟩, .string ⟨#[112, 101, 101, 107]⟩, .string ⟨#[99, 111, 117, 110, 116]⟩]) := Lib.hid (HL.out.alloc _)
        have HWa : Hid (Below w.heap.size w (wr.alloc (.cells #[.int .i64 ((k : Int) + 1), .int .i64 0, .int .i64 0] 23))) := Lib.hid (HW.out.alloc HW.out.size _)
        have hbr : w.heap.size < bo := by rw [hbo]; exact HR.out.lt
        have hbl : g < bo := by rw [hbo]; exact HL.out.lt
        have HBO := Lib.hid hbo
        clear hbo
        clear hp
        obtain ⟨r0, hr0⟩ : ∃ r0, r0 = s.data.toList.drop (opName ((k : Int) + 1)).length := ⟨_, rfl⟩
        rw [← hr0] at hx
        have hr0l : r0.length ≤ 200 := by rw [hr0, List.length_drop]; omega
        have HR0 := Lib.hid hr0
        clear hr0
        generalize hnke : opName ((k : Int) + 1) = nk at *
        have HNK := Lib.hid hnke
        clear hnke
        have hE := pre1 r0 58
        go_wp2_with fail
        with_reducible refine (hE _).mono ?_
        clear hE hx
        rintro e w5 ⟨rfl, hw5⟩
        obtain rfl := hw5.symm
        generalize (wr.alloc (.cells #[.int .i64 ((k : Int) + 1), .int .i64 0, .int .i64 0] 23)) = wa at HOa HRa HLa HWa ⊢
        rw [← HBO.out]
        clear HBO
        cases hK : Lib.hasPrefix r0 [58] with
        | true =>
          have hr1l := pre_len hK
          have hx2 := extract_tail r0
          have h11 : (1 : Int) ≤ (r0.length : Int) := by omega
          have h11' : (1 : Int) ≤ ((⟨r0.toArray⟩ : ByteArray).size : Int) := by rw [sizeL]; omega
          have x1 := HOa.out.cell 1
          have f1 := HOa.out.frozen 1
          simp at x1
          go_wp2_with fail
          have hC := digTxt_any ⟨r0.tail.toArray⟩ (by rw [sizeL, List.length_tail]; omega)
          rw [listL] at hC
          with_reducible refine (hC _).mono ?_
          clear hC hx2 x1 f1
          rintro e w6 ⟨rfl, hb6⟩
          have HOp := Lib.hid (HOa.out.below hb6 HOa.out.lt)
          have HRp := Lib.hid (HRa.out.below hb6 HRa.out.lt)
          have HLp := Lib.hid (HLa.out.below hb6 HLa.out.lt)
          have HWp := Lib.hid (HWa.out.trans (hb6.mono HWa.out.size))
          clear hb6
          have x1 := HOp.out.cell 1
          have f1 := HOp.out.frozen 1
          simp at x1
          obtain ⟨dk, r1, hdk⟩ : ∃ dk r1, digO r0.tail = (dk, r1) := ⟨_, _, rfl⟩
          have hr1s : r1.length ≤ 200 := by
            have := digO_len r0.tail
            simp only [hdk, List.length_tail] at this
            omega
          rw [hdk]
          have HRK : Hid (refK (s.data.toList.drop (opName ((k : Int) + 1)).length) = (dk, r1)) := Lib.hid (by rw [HNK.out, ← HR0.out]; unfold refK; rw [hK]; simp only [if_true, List.drop_one, hdk])
          clear hdk hK
          have HOb := Lib.hid (HOp.out.set_ 1 (.int .i64 dk))
          have HRb := Lib.hid (HRp.out.far (p := ⟨bo, 1, none⟩) (by show w.heap.size ≠ bo; omega) (.int .i64 dk))
          have HLb := Lib.hid (HLp.out.far (p := ⟨bo, 1, none⟩) (by show g ≠ bo; omega) (.int .i64 dk))
          have HWb := Lib.hid (HWp.out.setCell (p := ⟨bo, 1, none⟩) (by show w.heap.size ≤ bo; omega) (.int .i64 dk))
          have hE := pre1 r1 61
          go_wp2_with fail
          with_reducible refine (hE _).mono ?_
          clear hE
          rintro e w5 ⟨rfl, hw5⟩
          obtain rfl := hw5.symm
          cases hV : Lib.hasPrefix r1 [61] with
          | true =>
            have hr1l := pre_len hV
            have hx2 := extract_tail r1
            have h11 : (1 : Int) ≤ (r1.length : Int) := by omega
            have h11' : (1 : Int) ≤ ((⟨r1.toArray⟩ : ByteArray).size : Int) := by rw [sizeL]; omega
            have x2 := HOb.out.cell 2
            have f2 := HOb.out.frozen 2
            simp at x2
            go_wp2_with fail
            have hC := digTxt_any ⟨r1.tail.toArray⟩ (by rw [sizeL, List.length_tail]; omega)
            rw [listL] at hC
            with_reducible refine (hC _).mono ?_
            clear hC hx2 x2 f2
            rintro e w6 ⟨rfl, hb6⟩
            have HOc := Lib.hid (HOb.out.below hb6 HOb.out.lt)
            have HRc := Lib.hid (HRb.out.below hb6 HRb.out.lt)
            have HLc := Lib.hid (HLb.out.below hb6 HLb.out.lt)
            have HWc := Lib.hid (HWb.out.trans (hb6.mono HWb.out.size))
            clear hb6
            have x2 := HOc.out.cell 2
            have f2 := HOc.out.frozen 2
            simp at x2
            obtain ⟨dv, r2, hdv⟩ : ∃ dv r2, digO r1.tail = (dv, r2) := ⟨_, _, rfl⟩
            rw [hdv]
            have HT : Hid (refTry s.data.toList ((k : Int) + 1) = (dk, dv, r2)) := Lib.hid (by unfold refTry; simp only [HRK.out]; unfold refV; rw [hV]; simp only [if_true, List.drop_one, hdv])
            clear hdv hV
            have HOd := Lib.hid (HOc.out.set_ 2 (.int .i64 dv))
            have HRd := Lib.hid (HRc.out.far (p := ⟨bo, 2, none⟩) (by show w.heap.size ≠ bo; omega) (.int .i64 dv))
            have HLd := Lib.hid (HLc.out.far (p := ⟨bo, 2, none⟩) (by show g ≠ bo; omega) (.int .i64 dv))
            have HWd := Lib.hid (HWc.out.setCell (p := ⟨bo, 2, none⟩) (by show w.heap.size ≤ bo; omega) (.int .i64 dv))
            have x0 := HOd.out.cell 0
            have x1 := HOd.out.cell 1
            have x2 := HOd.out.cell 2
            simp at x0 x1 x2
            go_wp2_with fail
            have hC := optext_any ((k : Int) + 1) dk dv (HG.out.below HWd.out).sp (HG.out.below HWd.out).ten
            with_reducible refine hC.mono ?_
            clear hC x0 x1 x2
            rintro e wf ⟨rfl, hbf⟩
            have HOf := Lib.hid (HOd.out.below hbf HOd.out.lt)
            have HRf := Lib.hid (HRd.out.below hbf HRd.out.lt)
            have HLf := Lib.hid (HLd.out.below hbf HLd.out.lt)
            have HWf := Lib.hid (HWd.out.trans (hbf.mono HWd.out.size))
            clear hbf
            cases hr : opRightB ((k : Int) + 1) dk dv with
            | false =>
              have e1 : okE false 1 = 1 := by simp [okE]
              have HRT := Lib.hid hr
              clear hr
              simp only [e1]
              go_wp2
              refine ⟨⟨k + 1, by omega, by go_num, Lib.hid (fun a kk v hgd => ?_), HRf, HLf, HWf.out⟩, by simp [intOf]; omega⟩
              have h1 := HN.out a kk v hgd
              rcases (by omega : a = (k : Int) + 1 ∨ ((k + 1 : Nat) : Int) < a) with ha | ha
              · exfalso
                subst ha
                have ht := refTry_good _ kk v hgd.1
                rw [hgd.2, HT.out] at ht
                have h2 := ht.2
                simp only [Prod.mk.injEq] at h2
                obtain ⟨h3, h4, h5⟩ := h2
                rw [← h3, ← h4] at hgd
                exact absurd hgd.1 (by rw [HRT.out]; decide)
              · exact ha
            | true =>
              have e1 : okE true 1 = 0 := by simp [okE]
              have hpz : printZ ((k : Int) + 1) dk dv = optD ((k : Int) + 1) dk dv := by simp [printZ, hr]
              have HRT := Lib.hid hr
              clear hr
              simp only [e1, hpz]
              have hq := eqS (optD ((k : Int) + 1) dk dv) s
              rw [optD_list] at hq
              have HOD : Hid (optL ((k : Int) + 1) dk dv = optL ((k : Int) + 1) dk dv) := Lib.hid rfl
              clear hpz e1
              generalize optD ((k : Int) + 1) dk dv = od at hq ⊢
              by_cases hol : optL ((k : Int) + 1) dk dv = s.data.toList
              · rw [decide_eq_true hol] at hq
                have HOL := Lib.hid hol
                clear hol
                by_cases hr2 : r2 = []
                · have HR2E := Lib.hid hr2
                  have hgd : good s.data.toList ((k : Int) + 1) dk dv := ⟨HRT.out, HOL.out⟩
                  have hpz := parseZ_good hgd
                  have HPZ := Lib.hid hpz
                  have x0 := HOf.out.cell 0
                  have x1 := HOf.out.cell 1
                  have x2 := HOf.out.cell 2
                  have y0 := HRf.out.cell 0
                  have y1 := HRf.out.cell 1
                  have y2 := HRf.out.cell 2
                  have g0 := HRf.out.frozen 0
                  have g1 := HRf.out.frozen 1
                  have g2 := HRf.out.frozen 2
                  simp at x0 x1 x2 y0 y1 y2
                  have hre : ((⟨r2.toArray⟩ : ByteArray).toList == []) = true := by rw [HR2E.out, ByteArray.toList_eq]; rfl
                  have hre2 : (r2 == []) = true := by rw [HR2E.out]; rfl
                  clear hr2 hgd hpz
                  go_wp2
                  rw [← HQ.out]
                  refine bodyPost_ret (by simp [results, Tryd.results4, go_sem, y0, y1, y2]; try rfl) rfl ?_
                  refine ⟨?_, ((HWf.out.setCell (by show w.heap.size ≤ w.heap.size; omega) _).setCell (by show w.heap.size ≤ w.heap.size; omega) _).setCell (by show w.heap.size ≤ w.heap.size; omega) _⟩
                  rw [HPZ.out]
                  rfl
                · have HR2E := Lib.hid hr2
                  have hre : ((⟨r2.toArray⟩ : ByteArray).toList == []) = false := by rw [ByteArray.toList_eq, beq_eq_false_iff_ne]; simpa using hr2
                  have hre2 : (r2 == []) = false := by rw [beq_eq_false_iff_ne]; exact hr2
                  clear hr2
                  go_wp2
                  refine ⟨⟨k + 1, by omega, by go_num, Lib.hid (fun a kk v hgd => ?_), HRf, HLf, HWf.out⟩, by simp [intOf]; omega⟩
                  have h1 := HN.out a kk v hgd
                  rcases (by omega : a = (k : Int) + 1 ∨ ((k + 1 : Nat) : Int) < a) with ha | ha
                  · exfalso
                    subst ha
                    have ht := refTry_good _ kk v hgd.1
                    rw [hgd.2, HT.out] at ht
                    have h2 := ht.2
                    simp only [Prod.mk.injEq] at h2
                    obtain ⟨h3, h4, h5⟩ := h2
                    exact HR2E.out h5
                  · exact ha
              · rw [decide_eq_false hol] at hq
                have HOL := Lib.hid hol
                clear hol
                go_wp2
                refine ⟨⟨k + 1, by omega, by go_num, Lib.hid (fun a kk v hgd => ?_), HRf, HLf, HWf.out⟩, by simp [intOf]; omega⟩
                have h1 := HN.out a kk v hgd
                rcases (by omega : a = (k : Int) + 1 ∨ ((k + 1 : Nat) : Int) < a) with ha | ha
                · exfalso
                  subst ha
                  have ht := refTry_good _ kk v hgd.1
                  rw [hgd.2, HT.out] at ht
                  have h2 := ht.2
                  simp only [Prod.mk.injEq] at h2
                  obtain ⟨h3, h4, h5⟩ := h2
                  rw [← h3, ← h4] at hgd
                  exact HOL.out hgd.2
                · exact ha
          | false =>
            have HT : Hid (refTry s.data.toList ((k : Int) + 1) = (dk, 0, r1)) := Lib.hid (by unfold refTry; simp only [HRK.out]; unfold refV; rw [hV]; simp only [Bool.false_eq_true, if_false])
            clear hV
            have x0 := HOb.out.cell 0
            have x1 := HOb.out.cell 1
            have x2 := HOb.out.cell 2
            simp at x0 x1 x2
            go_wp2_with fail
            have hC := optext_any ((k : Int) + 1) dk 0 (HG.out.below HWb.out).sp (HG.out.below HWb.out).ten
            with_reducible refine hC.mono ?_
            clear hC x0 x1 x2
            rintro e wf ⟨rfl, hbf⟩
            have HOf := Lib.hid (HOb.out.below hbf HOb.out.lt)
            have HRf := Lib.hid (HRb.out.below hbf HRb.out.lt)
            have HLf := Lib.hid (HLb.out.below hbf HLb.out.lt)
            have HWf := Lib.hid (HWb.out.trans (hbf.mono HWb.out.size))
            clear hbf
            cases hr : opRightB ((k : Int) + 1) dk 0 with
            | false =>
              have e1 : okE false 1 = 1 := by simp [okE]
              have HRT := Lib.hid hr
              clear hr
              simp only [e1]
              go_wp2
              refine ⟨⟨k + 1, by omega, by go_num, Lib.hid (fun a kk v hgd => ?_), HRf, HLf, HWf.out⟩, by simp [intOf]; omega⟩
              have h1 := HN.out a kk v hgd
              rcases (by omega : a = (k : Int) + 1 ∨ ((k + 1 : Nat) : Int) < a) with ha | ha
              · exfalso
                subst ha
                have ht := refTry_good _ kk v hgd.1
                rw [hgd.2, HT.out] at ht
                have h2 := ht.2
                simp only [Prod.mk.injEq] at h2
                obtain ⟨h3, h4, h5⟩ := h2
                rw [← h3, ← h4] at hgd
                exact absurd hgd.1 (by rw [HRT.out]; decide)
              · exact ha
            | true =>
              have e1 : okE true 1 = 0 := by simp [okE]
              have hpz : printZ ((k : Int) + 1) dk 0 = optD ((k : Int) + 1) dk 0 := by simp [printZ, hr]
              have HRT := Lib.hid hr
              clear hr
              simp only [e1, hpz]
              have hq := eqS (optD ((k : Int) + 1) dk 0) s
              rw [optD_list] at hq
              have HOD : Hid (optL ((k : Int) + 1) dk 0 = optL ((k : Int) + 1) dk 0) := Lib.hid rfl
              clear hpz e1
              generalize optD ((k : Int) + 1) dk 0 = od at hq ⊢
              by_cases hol : optL ((k : Int) + 1) dk 0 = s.data.toList
              · rw [decide_eq_true hol] at hq
                have HOL := Lib.hid hol
                clear hol
                by_cases hr2 : r1 = []
                · have HR2E := Lib.hid hr2
                  have hgd : good s.data.toList ((k : Int) + 1) dk 0 := ⟨HRT.out, HOL.out⟩
                  have hpz := parseZ_good hgd
                  have HPZ := Lib.hid hpz
                  have x0 := HOf.out.cell 0
                  have x1 := HOf.out.cell 1
                  have x2 := HOf.out.cell 2
                  have y0 := HRf.out.cell 0
                  have y1 := HRf.out.cell 1
                  have y2 := HRf.out.cell 2
                  have g0 := HRf.out.frozen 0
                  have g1 := HRf.out.frozen 1
                  have g2 := HRf.out.frozen 2
                  simp at x0 x1 x2 y0 y1 y2
                  have hre : ((⟨r1.toArray⟩ : ByteArray).toList == []) = true := by rw [HR2E.out, ByteArray.toList_eq]; rfl
                  have hre2 : (r1 == []) = true := by rw [HR2E.out]; rfl
                  clear hr2 hgd hpz
                  go_wp2
                  rw [← HQ.out]
                  refine bodyPost_ret (by simp [results, Tryd.results4, go_sem, y0, y1, y2]; try rfl) rfl ?_
                  refine ⟨?_, ((HWf.out.setCell (by show w.heap.size ≤ w.heap.size; omega) _).setCell (by show w.heap.size ≤ w.heap.size; omega) _).setCell (by show w.heap.size ≤ w.heap.size; omega) _⟩
                  rw [HPZ.out]
                  rfl
                · have HR2E := Lib.hid hr2
                  have hre : ((⟨r1.toArray⟩ : ByteArray).toList == []) = false := by rw [ByteArray.toList_eq, beq_eq_false_iff_ne]; simpa using hr2
                  have hre2 : (r1 == []) = false := by rw [beq_eq_false_iff_ne]; exact hr2
                  clear hr2
                  go_wp2
                  refine ⟨⟨k + 1, by omega, by go_num, Lib.hid (fun a kk v hgd => ?_), HRf, HLf, HWf.out⟩, by simp [intOf]; omega⟩
                  have h1 := HN.out a kk v hgd
                  rcases (by omega : a = (k : Int) + 1 ∨ ((k + 1 : Nat) : Int) < a) with ha | ha
                  · exfalso
                    subst ha
                    have ht := refTry_good _ kk v hgd.1
                    rw [hgd.2, HT.out] at ht
                    have h2 := ht.2
                    simp only [Prod.mk.injEq] at h2
                    obtain ⟨h3, h4, h5⟩ := h2
                    exact HR2E.out h5
                  · exact ha
              · rw [decide_eq_false hol] at hq
                have HOL := Lib.hid hol
                clear hol
                go_wp2
                refine ⟨⟨k + 1, by omega, by go_num, Lib.hid (fun a kk v hgd => ?_), HRf, HLf, HWf.out⟩, by simp [intOf]; omega⟩
                have h1 := HN.out a kk v hgd
                rcases (by omega : a = (k : Int) + 1 ∨ ((k + 1 : Nat) : Int) < a) with ha | ha
                · exfalso
                  subst ha
                  have ht := refTry_good _ kk v hgd.1
                  rw [hgd.2, HT.out] at ht
                  have h2 := ht.2
                  simp only [Prod.mk.injEq] at h2
                  obtain ⟨h3, h4, h5⟩ := h2
                  rw [← h3, ← h4] at hgd
                  exact HOL.out hgd.2
                · exact ha
        | false =>
          have HRK : Hid (refK (s.data.toList.drop (opName ((k : Int) + 1)).length) = (0, r0)) := Lib.hid (by rw [HNK.out, ← HR0.out]; unfold refK; rw [hK]; simp only [Bool.false_eq_true, if_false])
          clear hK
          have hE := pre1 r0 61
          go_wp2_with fail
          with_reducible refine (hE _).mono ?_
          clear hE
          rintro e w5 ⟨rfl, hw5⟩
          obtain rfl := hw5.symm
          cases hV : Lib.hasPrefix r0 [61] with
          | true =>
            have hr1l := pre_len hV
            have hx2 := extract_tail r0
            have h11 : (1 : Int) ≤ (r0.length : Int) := by omega
            have h11' : (1 : Int) ≤ ((⟨r0.toArray⟩ : ByteArray).size : Int) := by rw [sizeL]; omega
            have x2 := HOa.out.cell 2
            have f2 := HOa.out.frozen 2
            simp at x2
            go_wp2_with fail
            have hC := digTxt_any ⟨r0.tail.toArray⟩ (by rw [sizeL, List.length_tail]; omega)
            rw [listL] at hC
            with_reducible refine (hC _).mono ?_
            clear hC hx2 x2 f2
            rintro e w6 ⟨rfl, hb6⟩
            have HOc := Lib.hid (HOa.out.below hb6 HOa.out.lt)
            have HRc := Lib.hid (HRa.out.below hb6 HRa.out.lt)
            have HLc := Lib.hid (HLa.out.below hb6 HLa.out.lt)
            have HWc := Lib.hid (HWa.out.trans (hb6.mono HWa.out.size))
            clear hb6
            have x2 := HOc.out.cell 2
            have f2 := HOc.out.frozen 2
            simp at x2
            obtain ⟨dv, r2, hdv⟩ : ∃ dv r2, digO r0.tail = (dv, r2) := ⟨_, _, rfl⟩
            rw [hdv]
            have HT : Hid (refTry s.data.toList ((k : Int) + 1) = (0, dv, r2)) := Lib.hid (by unfold refTry; simp only [HRK.out]; unfold refV; rw [hV]; simp only [if_true, List.drop_one, hdv])
            clear hdv hV
            have HOd := Lib.hid (HOc.out.set_ 2 (.int .i64 dv))
            have HRd := Lib.hid (HRc.out.far (p := ⟨bo, 2, none⟩) (by show w.heap.size ≠ bo; omega) (.int .i64 dv))
            have HLd := Lib.hid (HLc.out.far (p := ⟨bo, 2, none⟩) (by show g ≠ bo; omega) (.int .i64 dv))
            have HWd := Lib.hid (HWc.out.setCell (p := ⟨bo, 2, none⟩) (by show w.heap.size ≤ bo; omega) (.int .i64 dv))
            have x0 := HOd.out.cell 0
            have x1 := HOd.out.cell 1
            have x2 := HOd.out.cell 2
            simp at x0 x1 x2
            go_wp2_with fail
            have hC := optext_any ((k : Int) + 1) 0 dv (HG.out.below HWd.out).sp (HG.out.below HWd.out).ten
            with_reducible refine hC.mono ?_
            clear hC x0 x1 x2
            rintro e wf ⟨rfl, hbf⟩
            have HOf := Lib.hid (HOd.out.below hbf HOd.out.lt)
            have HRf := Lib.hid (HRd.out.below hbf HRd.out.lt)
            have HLf := Lib.hid (HLd.out.below hbf HLd.out.lt)
            have HWf := Lib.hid (HWd.out.trans (hbf.mono HWd.out.size))
            clear hbf
            cases hr : opRightB ((k : Int) + 1) 0 dv with
            | false =>
              have e1 : okE false 1 = 1 := by simp [okE]
              have HRT := Lib.hid hr
              clear hr
              simp only [e1]
              go_wp2
              refine ⟨⟨k + 1, by omega, by go_num, Lib.hid (fun a kk v hgd => ?_), HRf, HLf, HWf.out⟩, by simp [intOf]; omega⟩
              have h1 := HN.out a kk v hgd
              rcases (by omega : a = (k : Int) + 1 ∨ ((k + 1 : Nat) : Int) < a) with ha | ha
              · exfalso
                subst ha
                have ht := refTry_good _ kk v hgd.1
                rw [hgd.2, HT.out] at ht
                have h2 := ht.2
                simp only [Prod.mk.injEq] at h2
                obtain ⟨h3, h4, h5⟩ := h2
                rw [← h3, ← h4] at hgd
                exact absurd hgd.1 (by rw [HRT.out]; decide)
              · exact ha
            | true =>
              have e1 : okE true 1 = 0 := by simp [okE]
              have hpz : printZ ((k : Int) + 1) 0 dv = optD ((k : Int) + 1) 0 dv := by simp [printZ, hr]
              have HRT := Lib.hid hr
              clear hr
              simp only [e1, hpz]
              have hq := eqS (optD ((k : Int) + 1) 0 dv) s
              rw [optD_list] at hq
              have HOD : Hid (optL ((k : Int) + 1) 0 dv = optL ((k : Int) + 1) 0 dv) := Lib.hid rfl
              clear hpz e1
              generalize optD ((k : Int) + 1) 0 dv = od at hq ⊢
              by_cases hol : optL ((k : Int) + 1) 0 dv = s.data.toList
              · rw [decide_eq_true hol] at hq
                have HOL := Lib.hid hol
                clear hol
                by_cases hr2 : r2 = []
                · have HR2E := Lib.hid hr2
                  have hgd : good s.data.toList ((k : Int) + 1) 0 dv := ⟨HRT.out, HOL.out⟩
                  have hpz := parseZ_good hgd
                  have HPZ := Lib.hid hpz
                  have x0 := HOf.out.cell 0
                  have x1 := HOf.out.cell 1
                  have x2 := HOf.out.cell 2
                  have y0 := HRf.out.cell 0
                  have y1 := HRf.out.cell 1
                  have y2 := HRf.out.cell 2
                  have g0 := HRf.out.frozen 0
                  have g1 := HRf.out.frozen 1
                  have g2 := HRf.out.frozen 2
                  simp at x0 x1 x2 y0 y1 y2
                  have hre : ((⟨r2.toArray⟩ : ByteArray).toList == []) = true := by rw [HR2E.out, ByteArray.toList_eq]; rfl
                  have hre2 : (r2 == []) = true := by rw [HR2E.out]; rfl
                  clear hr2 hgd hpz
                  go_wp2
                  rw [← HQ.out]
                  refine bodyPost_ret (by simp [results, Tryd.results4, go_sem, y0, y1, y2]; try rfl) rfl ?_
                  refine ⟨?_, ((HWf.out.setCell (by show w.heap.size ≤ w.heap.size; omega) _).setCell (by show w.heap.size ≤ w.heap.size; omega) _).setCell (by show w.heap.size ≤ w.heap.size; omega) _⟩
                  rw [HPZ.out]
                  rfl
                · have HR2E := Lib.hid hr2
                  have hre : ((⟨r2.toArray⟩ : ByteArray).toList == []) = false := by rw [ByteArray.toList_eq, beq_eq_false_iff_ne]; simpa using hr2
                  have hre2 : (r2 == []) = false := by rw [beq_eq_false_iff_ne]; exact hr2
                  clear hr2
                  go_wp2
                  refine ⟨⟨k + 1, by omega, by go_num, Lib.hid (fun a kk v hgd => ?_), HRf, HLf, HWf.out⟩, by simp [intOf]; omega⟩
                  have h1 := HN.out a kk v hgd
                  rcases (by omega : a = (k : Int) + 1 ∨ ((k + 1 : Nat) : Int) < a) with ha | ha
                  · exfalso
                    subst ha
                    have ht := refTry_good _ kk v hgd.1
                    rw [hgd.2, HT.out] at ht
                    have h2 := ht.2
                    simp only [Prod.mk.injEq] at h2
                    obtain ⟨h3, h4, h5⟩ := h2
                    exact HR2E.out h5
                  · exact ha
              · rw [decide_eq_false hol] at hq
                have HOL := Lib.hid hol
                clear hol
                go_wp2
                refine ⟨⟨k + 1, by omega, by go_num, Lib.hid (fun a kk v hgd => ?_), HRf, HLf, HWf.out⟩, by simp [intOf]; omega⟩
                have h1 := HN.out a kk v hgd
                rcases (by omega : a = (k : Int) + 1 ∨ ((k + 1 : Nat) : Int) < a) with ha | ha
                · exfalso
                  subst ha
                  have ht := refTry_good _ kk v hgd.1
                  rw [hgd.2, HT.out] at ht
                  have h2 := ht.2
                  simp only [Prod.mk.injEq] at h2
                  obtain ⟨h3, h4, h5⟩ := h2
                  rw [← h3, ← h4] at hgd
                  exact HOL.out hgd.2
                · exact ha
          | false =>
            have HT : Hid (refTry s.data.toList ((k : Int) + 1) = (0, 0, r0)) := Lib.hid (by unfold refTry; simp only [HRK.out]; unfold refV; rw [hV]; simp only [Bool.false_eq_true, if_false])
            clear hV
            have x0 := HOa.out.cell 0
            have x1 := HOa.out.cell 1
            have x2 := HOa.out.cell 2
            simp at x0 x1 x2
            go_wp2_with fail
            have hC := optext_any ((k : Int) + 1) 0 0 (HG.out.below HWa.out).sp (HG.out.below HWa.out).ten
            with_reducible refine hC.mono ?_
            clear hC x0 x1 x2
            rintro e wf ⟨rfl, hbf⟩
            have HOf := Lib.hid (HOa.out.below hbf HOa.out.lt)
            have HRf := Lib.hid (HRa.out.below hbf HRa.out.lt)
            have HLf := Lib.hid (HLa.out.below hbf HLa.out.lt)
            have HWf := Lib.hid (HWa.out.trans (hbf.mono HWa.out.size))
            clear hbf
            cases hr : opRightB ((k : Int) + 1) 0 0 with
            | false =>
              have e1 : okE false 1 = 1 := by simp [okE]
              have HRT := Lib.hid hr
              clear hr
              simp only [e1]
              go_wp2
              refine ⟨⟨k + 1, by omega, by go_num, Lib.hid (fun a kk v hgd => ?_), HRf, HLf, HWf.out⟩, by simp [intOf]; omega⟩
              have h1 := HN.out a kk v hgd
              rcases (by omega : a = (k : Int) + 1 ∨ ((k + 1 : Nat) : Int) < a) with ha | ha
              · exfalso
                subst ha
                have ht := refTry_good _ kk v hgd.1
                rw [hgd.2, HT.out] at ht
                have h2 := ht.2
                simp only [Prod.mk.injEq] at h2
                obtain ⟨h3, h4, h5⟩ := h2
                rw [← h3, ← h4] at hgd
                exact absurd hgd.1 (by rw [HRT.out]; decide)
              · exact ha
            | true =>
              have e1 : okE true 1 = 0 := by simp [okE]
              have hpz : printZ ((k : Int) + 1) 0 0 = optD ((k : Int) + 1) 0 0 := by simp [printZ, hr]
              have HRT := Lib.hid hr
              clear hr
              simp only [e1, hpz]
              have hq := eqS (optD ((k : Int) + 1) 0 0) s
              rw [optD_list] at hq
              have HOD : Hid (optL ((k : Int) + 1) 0 0 = optL ((k : Int) + 1) 0 0) := Lib.hid rfl
              clear hpz e1
              generalize optD ((k : Int) + 1) 0 0 = od at hq ⊢
              by_cases hol : optL ((k : Int) + 1) 0 0 = s.data.toList
              · rw [decide_eq_true hol] at hq
                have HOL := Lib.hid hol
                clear hol
                by_cases hr2 : r0 = []
                · have HR2E := Lib.hid hr2
                  have hgd : good s.data.toList ((k : Int) + 1) 0 0 := ⟨HRT.out, HOL.out⟩
                  have hpz := parseZ_good hgd
                  have HPZ := Lib.hid hpz
                  have x0 := HOf.out.cell 0
                  have x1 := HOf.out.cell 1
                  have x2 := HOf.out.cell 2
                  have y0 := HRf.out.cell 0
                  have y1 := HRf.out.cell 1
                  have y2 := HRf.out.cell 2
                  have g0 := HRf.out.frozen 0
                  have g1 := HRf.out.frozen 1
                  have g2 := HRf.out.frozen 2
                  simp at x0 x1 x2 y0 y1 y2
                  have hre : ((⟨r0.toArray⟩ : ByteArray).toList == []) = true := by rw [HR2E.out, ByteArray.toList_eq]; rfl
                  have hre2 : (r0 == []) = true := by rw [HR2E.out]; rfl
                  clear hr2 hgd hpz
                  go_wp2
                  rw [← HQ.out]
                  refine bodyPost_ret (by simp [results, Tryd.results4, go_sem, y0, y1, y2]; try rfl) rfl ?_
                  refine ⟨?_, ((HWf.out.setCell (by show w.heap.size ≤ w.heap.size; omega) _).setCell (by show w.heap.size ≤ w.heap.size; omega) _).setCell (by show w.heap.size ≤ w.heap.size; omega) _⟩
                  rw [HPZ.out]
                  rfl
                · have HR2E := Lib.hid hr2
                  have hre : ((⟨r0.toArray⟩ : ByteArray).toList == []) = false := by rw [ByteArray.toList_eq, beq_eq_false_iff_ne]; simpa using hr2
                  have hre2 : (r0 == []) = false := by rw [beq_eq_false_iff_ne]; exact hr2
                  clear hr2
                  go_wp2
                  refine ⟨⟨k + 1, by omega, by go_num, Lib.hid (fun a kk v hgd => ?_), HRf, HLf, HWf.out⟩, by simp [intOf]; omega⟩
                  have h1 := HN.out a kk v hgd
                  rcases (by omega : a = (k : Int) + 1 ∨ ((k + 1 : Nat) : Int) < a) with ha | ha
                  · exfalso
                    subst ha
                    have ht := refTry_good _ kk v hgd.1
                    rw [hgd.2, HT.out] at ht
                    have h2 := ht.2
                    simp only [Prod.mk.injEq] at h2
                    obtain ⟨h3, h4, h5⟩ := h2
                    exact HR2E.out h5
                  · exact ha
              · rw [decide_eq_false hol] at hq
                have HOL := Lib.hid hol
                clear hol
                go_wp2
                refine ⟨⟨k + 1, by omega, by go_num, Lib.hid (fun a kk v hgd => ?_), HRf, HLf, HWf.out⟩, by simp [intOf]; omega⟩
                have h1 := HN.out a kk v hgd
                rcases (by omega : a = (k : Int) + 1 ∨ ((k + 1 : Nat) : Int) < a) with ha | ha
                · exfalso
                  subst ha
                  have ht := refTry_good _ kk v hgd.1
                  rw [hgd.2, HT.out] at ht
                  have h2 := ht.2
                  simp only [Prod.mk.injEq] at h2
                  obtain ⟨h3, h4, h5⟩ := h2
                  rw [← h3, ← h4] at hgd
                  exact HOL.out hgd.2
                · exact ha
    · obtain rfl : k = 6 := by omega
      have hz : parseZ s.data.toList = (0, 0, 0, false) := parseZ_none (fun a kk v h => by
        have h1 := HN.out a kk v h
        have h2 := h.1
        simp [opRightB] at h2
        omega)
      have HZ := Lib.hid hz
      clear hz
      have y0 := HR.out.cell 0
      have y1 := HR.out.cell 1
      have y2 := HR.out.cell 2
      have g0 := HR.out.frozen 0
      have g1 := HR.out.frozen 1
      have g2 := HR.out.frozen 2
      simp at y0 y1 y2
      go_wp2
      rw [← HQ.out]
      refine bodyPost_ret (by simp [results, Tryd.results4, go_sem, y0, y1, y2]; try rfl) rfl ?_
      refine ⟨?_, ((HW.out.setCell (by show w.heap.size ≤ w.heap.size; omega) _).setCell (by show w.heap.size ≤ w.heap.size; omega) _).setCell (by show w.heap.size ≤ w.heap.size; omega) _⟩
      rw [HZ.out]
      rfl
end Go.Proofs.YtagdjpcbgnppnaaDoor
