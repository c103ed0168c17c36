/-
  op.number, op.Parse and the reference's digitsOf, OpParse, for any text of up to 200 bytes. The tables and the errors of strconv hold what they hold, bytealg.MaxLen some number (premises on variables).
-/
import Derived.Test.YtagdjpcbgnppnaaDoorParseP
import Derived.Test.YtagdjpcbgnppnaaDoorCardP
import Derived.Test.YtagdjpcbgnppnaaDoorMErr
namespace Go.Proofs.YtagdjpcbgnppnaaDoor
set_option linter.unusedSimpArgs false
set_option linter.unusedVariables false
set_option linter.unusedSectionVars false
open Go.RowKit
attribute [local go_sem ↓] Go.wp_at_zero Go.wp_at_succ

structure ParT (w : World) : Prop where
  prn : PrintT w
  syn : ErrVar w "strconv.ErrSyntax"
  rng : ErrVar w "strconv.ErrRange"
  max : ∃ m, w.cell? ⟨3, 0, none⟩ = some (.int .i64 m)
theorem ParT.below {w w' : World} (h : ParT w) (hb : Below w.heap.size w w') : ParT w' := ⟨h.prn.below hb, h.syn.below hb, h.rng.below hb, by
  obtain ⟨m, hm⟩ := h.max
  exact ⟨m, (hb.cell (p := ⟨3, 0, none⟩) (World.block_lt_of_cell? w _ hm)).trans hm⟩⟩

theorem cut_any (s sep : ByteArray) (hs : s.size ≤ 1000) {w : World} (hg : ParT w) : Calls Tryd.prog 11 #[.string s, .string sep] w fun e w' =>
    e = .returned (.tuple #[.string ⟨(Lib.cut s.data.toList sep.data.toList).1.toArray⟩, .string ⟨(Lib.cut s.data.toList sep.data.toList).2.1.toArray⟩, .bool (Lib.cut s.data.toList sep.data.toList).2.2]) ∧ Below w.heap.size w w' := by
  obtain ⟨m, hm⟩ := hg.max
  refine (Tryd.strings_Cut s sep m w (by omega) hm).mono ?_
  rintro e w' ⟨rfl, n, rfl⟩
  exact ⟨rfl, below_drewN (Below.refl _ _) n⟩

theorem eqS (a b : ByteArray) : (a.toList == b.toList) = decide (a.data.toList = b.data.toList) := by
  rw [ByteArray.toList_eq, ByteArray.toList_eq]
  by_cases h : a.data.toList = b.data.toList
  · simp [h]
  · rw [decide_eq_false h, beq_eq_false_iff_ne]
    exact h

theorem number_any (v : ByteArray) (hs : v.size ≤ 1000) {w : World} (hg : ParT w) : Calls Tryd.prog 12 #[.string v] w fun e w' =>
    e = .returned (.tuple #[.int .i64 (numZ v.data.toList).1, .bool (numZ v.data.toList).2]) ∧ Below w.heap.size w w' := by
  have HG := Lib.hid hg
  cases h : Lib.atoiAll v.data.toList
  case ok n =>
    have hb := Lib.atoiAll_bounds h
    have hz : numZ v.data.toList = (n, decide (0 < n) && decide (Lib.itoa n = v.data.toList)) := by unfold numZ; rw [h]
    rw [hz]
    have hA := fun w => Tryd.strconv_Atoi_ok v (by omega) n h w
    have he := eqS (itoaB n) v
    have hl : (itoaB n).data.toList = Lib.itoa n := by simp [itoaB]
    rw [hl] at he
    have HA := Lib.hid hA
    clear h hA hg
    by_cases h0 : 0 < n
    · go_enter Tryd.func12, Tryd.ntmps12
      go_wp2_with fail
      refine (HA.out _).mono ?_
      rintro e w1 ⟨rfl, hw1⟩
      have hB1 : Below w.heap.size w w1 := by
        rcases hw1 with rfl | ⟨t, rfl⟩
        · exact Below.refl _ _
        · exact Lib.bytesWorld_below _ _ _
      clear hw1
      go_wp2_with fail
      refine (itoa_any n hb.1 hb.2 (HG.out.prn.ten.on hB1)).mono ?_
      rintro e w2 ⟨rfl, hb2⟩
      go_wp2
      go_ret2
      exact ⟨by simp [h0], hB1.trans (hb2.mono hB1.size)⟩
    · go_enter Tryd.func12, Tryd.ntmps12
      go_wp2_with fail
      refine (HA.out _).mono ?_
      rintro e w1 ⟨rfl, hw1⟩
      have hB1 : Below w.heap.size w w1 := by
        rcases hw1 with rfl | ⟨t, rfl⟩
        · exact Below.refl _ _
        · exact Lib.bytesWorld_below _ _ _
      clear hw1
      go_wp2
      go_ret2
      have d0 : decide (0 < n) = false := by simpa using h0
      exact ⟨by simp [d0], hB1⟩
  case range =>
    have hz : numZ v.data.toList = (Lib.atoiSat v.data.toList, false) := by unfold numZ; rw [h]
    rw [hz]
    obtain ⟨tp, p, hv⟩ := hg.rng
    have hA := Tryd.strconv_Atoi_range_var v (by omega) h tp p w hv
    generalize Lib.atoiSat v.data.toList = x at hA ⊢
    have HA := Lib.hid hA
    clear h hA hg hv
    go_enter Tryd.func12, Tryd.ntmps12
    go_wp2_with fail
    refine HA.out.mono ?_
    rintro e w1 ⟨N, rfl, _, _, hb1⟩
    go_wp2
    go_ret2
    exact ⟨rfl, hb1⟩
  · skip
    have hz : numZ v.data.toList = (0, false) := by unfold numZ; rw [h]
    rw [hz]
    obtain ⟨tp, p, hv⟩ := hg.syn
    have hA := Any.strconv_Atoi_syntax_var Tryd.laysC172 v (by omega) h tp p w hv
    have HA := Lib.hid hA
    clear h hA hg hv
    go_enter Tryd.func12, Tryd.ntmps12
    go_wp2_with fail
    refine HA.out.mono ?_
    rintro e w1 ⟨N, rfl, _, _, hb1⟩
    go_wp2
    go_ret2
    exact ⟨rfl, hb1⟩

theorem cutE (s : ByteArray) (c : UInt8) (l r : List UInt8) (b : Bool) (hs : s.size ≤ 1000) (h : Lib.cut s.data.toList [c] = (l, r, b)) {w : World} (hg : ParT w) : Calls Tryd.prog 11 #[.string s, .string ⟨#[c]⟩] w fun e w' =>
    e = .returned (.tuple #[.string ⟨l.toArray⟩, .string ⟨r.toArray⟩, .bool b]) ∧ Below w.heap.size w w' := by
  have := cut_any s ⟨#[c]⟩ hs hg
  rw [show (⟨#[c]⟩ : ByteArray).data.toList = [c] from rfl, h] at this
  exact this
theorem numE (r : List UInt8) (hs : r.length ≤ 1000) {w : World} (hg : ParT w) : Calls Tryd.prog 12 #[.string ⟨r.toArray⟩] w fun e w' =>
    e = .returned (.tuple #[.int .i64 (numZ r).1, .bool (numZ r).2]) ∧ Below w.heap.size w w' := number_any ⟨r.toArray⟩ (by simpa [ByteArray.size] using hs) hg

/-- Which name, of the first n. -/
def whatK (s : List UInt8) : Nat → Int
  | 0 => 0
  | n + 1 => if opL.getD n [] = s then n + 1 else whatK s n
theorem whatK_six (s : List UInt8) : whatK s 6 = whatZ s := by
  unfold whatZ
  have e : ∀ n, n < 6 → opL.getD n [] = opName (n + 1) := fun n hn => by rcases (by omega : n = 0 ∨ n = 1 ∨ n = 2 ∨ n = 3 ∨ n = 4 ∨ n = 5) with rfl | rfl | rfl | rfl | rfl | rfl <;> rfl
  by_cases h1 : s = opName 1
  · subst h1; decide
  by_cases h2 : s = opName 2
  · subst h2; decide
  by_cases h3 : s = opName 3
  · subst h3; decide
  by_cases h4 : s = opName 4
  · subst h4; decide
  by_cases h5 : s = opName 5
  · subst h5; decide
  by_cases h6 : s = opName 6
  · subst h6; decide
  rw [if_neg h1, if_neg h2, if_neg h3, if_neg h4, if_neg h5, if_neg h6]
  simp only [whatK, e 0 (by decide), e 1 (by decide), e 2 (by decide), e 3 (by decide), e 4 (by decide), e 5 (by decide)]
  rw [if_neg (fun h => h6 h.symm), if_neg (fun h => h5 h.symm), if_neg (fun h => h4 h.symm), if_neg (fun h => h3 h.symm), if_neg (fun h => h2 h.symm), if_neg (fun h => h1 h.symm)]
abbrev nmRow : Array Value := #[.string ⟨#[112, 117, 116]⟩, .string ⟨#[116, 97, 107, 101]⟩, .string ⟨#[102, 114, 111, 110, 116]⟩, .string ⟨#[98, 97, 99, 107]⟩, .string ⟨#[112, 101, 101, 107]⟩, .string ⟨#[99, 111, 117, 110, 116]⟩]
theorem ix_name (w : World) (k : Nat) (h : k < 6) : (Instr.index 44 (.agg nmRow) (.int .i64 (k : Int))).run Tryd.prog w = .ok (.string ⟨(opL.getD k []).toArray⟩) w := by
  rcases (by omega : k = 0 ∨ k = 1 ∨ k = 2 ∨ k = 3 ∨ k = 4 ∨ k = 5) with rfl | rfl | rfl | rfl | rfl | rfl
  all_goals kernel_rfl

/-- The list that a string's bytes are. -/
def SvIs (b : ByteArray) (l : List UInt8) : Prop := b.data.toList = l
theorem svIs (l : List UInt8) : SvIs ⟨l.toArray⟩ l := by simp [SvIs]
theorem svE {b : ByteArray} {l : List UInt8} (h : SvIs b l) : b.data.toList = l := h
set_option maxRecDepth 100000 in
set_option maxHeartbeats 2000000 in
theorem parse_any (s : ByteArray) (hs : s.size ≤ 200) {w : World} (hg : ParT w) : Calls Tryd.prog 5 #[.string s] w fun e w' =>
    e = .returned (.tuple #[.agg #[.int .i64 (parseZ s.data.toList).1, .int .i64 (parseZ s.data.toList).2.1, .int .i64 (parseZ s.data.toList).2.2.1], errV (okE (parseZ s.data.toList).2.2.2 3)]) ∧ Below w.heap.size w w' := by
  have HG := Lib.hid hg
  have hA : Below w.heap.size w ((w.alloc (.cells #[.int .i64 0, .int .i64 0, .int .i64 0] 23)).alloc (.cells #[.int .i64 0, .int .i64 0, .int .i64 0] 23)) := by go_grown
  have HGA := Lib.hid (hg.below hA)
  have HA := Lib.hid hA
  have HBX0 : Hid (Blk ((w.alloc (.cells #[.int .i64 0, .int .i64 0, .int .i64 0] 23)).alloc (.cells #[.int .i64 0, .int .i64 0, .int .i64 0] 23)) (w.heap.size + 1) 23 #[.int .i64 0, .int .i64 0, .int .i64 0]) := Lib.hid (Blk.newAt _ _ _ (by simp))
  have HRX0 : Hid (Blk ((w.alloc (.cells #[.int .i64 0, .int .i64 0, .int .i64 0] 23)).alloc (.cells #[.int .i64 0, .int .i64 0, .int .i64 0] 23)) w.heap.size 23 #[.int .i64 0, .int .i64 0, .int .i64 0]) := Lib.hid ((Blk.new _ _ _).alloc _)
  have hlen : s.data.toList.length = s.size := by rw [Array.length_toList]; rfl
  have hlz : s.data.size ≤ 200 := hs
  clear hg hA
  generalize hQ : bodyPost Tryd.prog Tryd.f5 (fun e w' => e = .returned (.tuple #[.agg #[.int .i64 (parseZ s.data.toList).1, .int .i64 (parseZ s.data.toList).2.1, .int .i64 (parseZ s.data.toList).2.2.1], errV (okE (parseZ s.data.toList).2.2.2 3)]) ∧ Below w.heap.size w w') = Q
  have HQ := Lib.hid hQ
  go_enter Tryd.func5, Tryd.ntmps5
  rw [hQ]
  clear hQ
  rcases cut_split s.data.toList 61 with ⟨s1, v1, hs1, hc1⟩ | hc1
  · have hl1 := congrArg List.length hs1
    simp only [List.length_append, List.length_cons] at hl1
    clear hs1
    go_wp2_with fail
    have hC := cutE s 61 _ _ _ (by omega) hc1 HGA.out
    with_reducible refine hC.mono ?_
    clear hC
    rintro e w1 ⟨rfl, hb1⟩
    have HBXa := Lib.hid (HBX0.out.below hb1 HBX0.out.lt)
    have HRXa := Lib.hid (HRX0.out.below hb1 HRX0.out.lt)
    have HBWa := Lib.hid (HA.out.trans (hb1.mono HA.out.size))
    clear hb1
    go_wp2_with fail
    have hC := numE v1 (by omega) (HG.out.below HBWa.out)
    with_reducible refine hC.mono ?_
    clear hC
    rintro e w2 ⟨rfl, hb2⟩
    have hbx2 := HBXa.out.below hb2 HBXa.out.lt
    have hrx2 := HRXa.out.below hb2 HRXa.out.lt
    have hbw2 := HBWa.out.trans (hb2.mono HBWa.out.size)
    have x2 := hbx2.cell 2
    have fx2 := hbx2.frozen 2
    simp at x2
    have HBX1 := Lib.hid (hbx2.set_ 2 (.int .i64 (numZ v1).1))
    have HRX1 := Lib.hid (hrx2.far (p := ⟨w.heap.size + 1, 2, none⟩) (by show w.heap.size ≠ w.heap.size + 1; omega) (.int .i64 (numZ v1).1))
    have HBW1 := Lib.hid (hbw2.setCell (p := ⟨w.heap.size + 1, 2, none⟩) (by show w.heap.size ≤ w.heap.size + 1; omega) (.int .i64 (numZ v1).1))
    have HSV1 : SvIs ⟨s1.toArray⟩ s1 := svIs s1
    have hst : stepV s.data.toList = ((numZ v1).1, (numZ v1).2, s1) := by unfold stepV; simp only [hc1, if_true]
    clear hb2 hbx2 hrx2 hbw2 HBXa HRXa HBWa hc1
    cases hq1 : (numZ v1).2 with
    | true =>
      rw [hq1] at hst
      clear hq1
      generalize (numZ v1).1 = vv at *
      rcases cut_split s1 58 with ⟨s2, k2, hs2, hc2⟩ | hc2
      · have hl2 := congrArg List.length hs2
        simp only [List.length_append, List.length_cons] at hl2
        clear hs2
        go_wp2_with fail
        have hC := cutE ⟨s1.toArray⟩ 58 s2 k2 true (by simp only [ByteArray.size]; simp; omega) (by rw [svE HSV1]; exact hc2) (HG.out.below HBW1.out)
        with_reducible refine hC.mono ?_
        clear hC
        rintro e w4 ⟨rfl, hb4⟩
        have HBX4 := Lib.hid (HBX1.out.below hb4 HBX1.out.lt)
        have HRX4 := Lib.hid (HRX1.out.below hb4 HRX1.out.lt)
        have HBW4 := Lib.hid (HBW1.out.trans (hb4.mono HBW1.out.size))
        clear hb4
        go_wp2_with fail
        have hC := numE k2 (by omega) (HG.out.below HBW4.out)
        with_reducible refine hC.mono ?_
        clear hC
        rintro e w5 ⟨rfl, hb5⟩
        have hbx5 := HBX4.out.below hb5 HBX4.out.lt
        have hrx5 := HRX4.out.below hb5 HRX4.out.lt
        have hbw5 := HBW4.out.trans (hb5.mono HBW4.out.size)
        have x1 := hbx5.cell 1
        have fx1 := hbx5.frozen 1
        simp at x1
        have HBX := Lib.hid (hbx5.set_ 1 (.int .i64 (numZ k2).1))
        have HRX := Lib.hid (hrx5.far (p := ⟨w.heap.size + 1, 1, none⟩) (by show w.heap.size ≠ w.heap.size + 1; omega) (.int .i64 (numZ k2).1))
        have HBW := Lib.hid (hbw5.setCell (p := ⟨w.heap.size + 1, 1, none⟩) (by show w.heap.size ≤ w.heap.size + 1; omega) (.int .i64 (numZ k2).1))
        have HSV : SvIs ⟨s2.toArray⟩ s2 := svIs s2
        have hp : progP s.data.toList = (whatZ s2, (numZ k2).1, vv, (numZ k2).2) := by unfold progP; simp only [hst]; unfold stepK; simp only [hc2, Bool.and_true, if_true]
        have HP := Lib.hid hp
        clear hb5 hbx5 hrx5 hbw5 HBX4 HRX4 HBW4 hc2 hp hl2
        cases hq : (numZ k2).2 with
        | true =>
          rw [hq] at HP
          clear hq
          generalize (numZ k2).1 = kk at *
          have hnm := (HG.out.below HBW.out).prn.names
          have hn0 := hnm 0 (by decide)
          have hn1 := hnm 1 (by decide)
          have hn2 := hnm 2 (by decide)
          have hn3 := hnm 3 (by decide)
          have hn4 := hnm 4 (by decide)
          have hn5 := hnm 5 (by decide)
          simp only [opL, List.getD_cons_zero, List.getD_cons_succ] at hn0 hn1 hn2 hn3 hn4 hn5
          clear hnm
          go_wp2_with fail
          clear hn0 hn1 hn2 hn3 hn4 hn5
          go_loopw [46] (fun i wr => ∃ k : Nat, k ≤ 6 ∧ i = .int .i64 k ∧ Hid (Blk wr (w.heap.size + 1) 23 #[.int .i64 (whatK s2 k), .int .i64 kk, .int .i64 vv]) ∧ Hid (Blk wr w.heap.size 23 #[.int .i64 0, .int .i64 0, .int .i64 0]) ∧ Below w.heap.size w wr) (fun i _ => 6 - (intOf i).toNat)
          case atStart => exact ⟨0, by omega, rfl, HBX, HRX, HBW.out⟩
          case round =>
            obtain ⟨k, hk, rfl, HX, HR, hB⟩ := hrel
            have hbz := hB.size
            have x0 := HX.out.cell 0
            have x1 := HX.out.cell 1
            have x2 := HX.out.cell 2
            have f0 := HX.out.frozen 0
            simp at x0 x1 x2
            by_cases hk6 : k < 6
            · have q1 : (k : Int) < 6 := by omega
              have ix := fun w => ix_name w k hk6
              have he := eqS ⟨(opL.getD k []).toArray⟩ ⟨s2.toArray⟩
              rw [svE (svIs (opL.getD k [])), svE HSV] at he
              have hw : whatK s2 (k + 1) = if opL.getD k [] = s2 then ((k : Int) + 1) else whatK s2 k := rfl
              have ha : (1 : Int) + (k : Int) = (k : Int) + 1 := by omega
              have HW := Lib.hid hw
              clear hw
              have he2 : (opL.getD k [] == (⟨s2.toArray⟩ : ByteArray).toList) = decide (opL.getD k [] = s2) := by
                rw [← he, ByteArray.toList_eq, ByteArray.toList_eq]
              have he3 : (opL.getD k [] == s2) = decide (opL.getD k [] = s2) := by
                by_cases e : opL.getD k [] = s2
                · rw [decide_eq_true e, beq_iff_eq]; exact e
                · rw [decide_eq_false e, beq_eq_false_iff_ne]; exact e
              by_cases hd : opL.getD k [] = s2
              · rw [decide_eq_true hd] at he he2 he3
                have HD := Lib.hid hd
                clear hd
                generalize opL.getD k [] = nk at ix he he2 he3 HW HD
                go_wp2
                refine ⟨⟨k + 1, by omega, by go_num, Lib.hid ?_, Lib.hid (HR.out.far (by show w.heap.size ≠ w.heap.size + 1; omega) _), hB.setCell (by show w.heap.size ≤ w.heap.size + 1; omega) _⟩, by simp [intOf]; omega⟩
                rw [HW.out, if_pos HD.out, ← ha]
                exact HX.out.set_ 0 _
              · rw [decide_eq_false hd] at he he2 he3
                have HD := Lib.hid hd
                clear hd
                generalize opL.getD k [] = nk at ix he he2 he3 HW HD
                go_wp2
                refine ⟨⟨k + 1, by omega, by go_num, Lib.hid ?_, HR, hB⟩, by simp [intOf]; omega⟩
                rw [HW.out, if_neg HD.out]
                exact HX.out
            · obtain rfl : k = 6 := by omega
              rw [whatK_six] at x0 HX
              have y0 := HR.out.cell 0
              have y1 := HR.out.cell 1
              have y2 := HR.out.cell 2
              have g0 := HR.out.frozen 0
              have g1 := HR.out.frozen 1
              have g2 := HR.out.frozen 2
              simp at y0 y1 y2
              have e3 : errV 3 = .iface 24 (.int .i64 3) := by simp [errV]
              have e0 : errV 0 = .nilIface := by simp [errV]
              cases hr : opRightB (whatZ s2) kk vv with
              | false =>
                have hz : parseZ s.data.toList = (0, 0, 0, false) := by unfold parseZ; rw [HP.out]; simp only [hr, Bool.and_false]; rfl
                rw [hz] at HQ
                simp only [okE, Bool.false_eq_true, if_false, e3] at HQ
                have HRT := Lib.hid hr
                clear hz hr
                go_wp2_with (go_at_call 13; refine (opRight_any _ _ _ _).mono ?_; rintro e w5 ⟨rfl, hb5⟩; rw [HRT.out]; have HR5 := HR.out.below hb5 HR.out.lt; have y0 := HR5.cell 0; have y1 := HR5.cell 1; have y2 := HR5.cell 2; have g0 := HR5.frozen 0; have g1 := HR5.frozen 1; have g2 := HR5.frozen 2; simp at y0 y1 y2; have hB5 := hB.trans (hb5.mono hB.size))
                rw [← HQ.out]
                refine bodyPost_ret (by simp [results, Tryd.results5, go_sem, y0, y1, y2]; try rfl) rfl ?_
                exact ⟨rfl, ((hB5.setCell (by show w.heap.size ≤ w.heap.size; omega) _).setCell (by show w.heap.size ≤ w.heap.size; omega) _).setCell (by show w.heap.size ≤ w.heap.size; omega) _⟩
              | true =>
                have hz : parseZ s.data.toList = (whatZ s2, kk, vv, true) := by unfold parseZ; rw [HP.out]; simp only [hr, Bool.and_true]; rfl
                rw [hz] at HQ
                simp only [okE, if_true, e0] at HQ
                have HRT := Lib.hid hr
                clear hz hr
                go_wp2_with (go_at_call 13; refine (opRight_any _ _ _ _).mono ?_; rintro e w5 ⟨rfl, hb5⟩; rw [HRT.out]; have HR5 := HR.out.below hb5 HR.out.lt; have HX5 := HX.out.below hb5 HX.out.lt; have x0 := HX5.cell 0; have x1 := HX5.cell 1; have x2 := HX5.cell 2; have y0 := HR5.cell 0; have y1 := HR5.cell 1; have y2 := HR5.cell 2; have g0 := HR5.frozen 0; have g1 := HR5.frozen 1; have g2 := HR5.frozen 2; simp at x0 x1 x2 y0 y1 y2; have hB5 := hB.trans (hb5.mono hB.size))
                rw [← HQ.out]
                refine bodyPost_ret (by simp [results, Tryd.results5, go_sem, y0, y1, y2]; try rfl) rfl ?_
                exact ⟨rfl, ((hB5.setCell (by show w.heap.size ≤ w.heap.size; omega) _).setCell (by show w.heap.size ≤ w.heap.size; omega) _).setCell (by show w.heap.size ≤ w.heap.size; omega) _⟩
        | false =>
          rw [hq] at HP
          clear hq
          generalize (numZ k2).1 = kk at *
          have hnm := (HG.out.below HBW.out).prn.names
          have hn0 := hnm 0 (by decide)
          have hn1 := hnm 1 (by decide)
          have hn2 := hnm 2 (by decide)
          have hn3 := hnm 3 (by decide)
          have hn4 := hnm 4 (by decide)
          have hn5 := hnm 5 (by decide)
          simp only [opL, List.getD_cons_zero, List.getD_cons_succ] at hn0 hn1 hn2 hn3 hn4 hn5
          clear hnm
          go_wp2_with fail
          clear hn0 hn1 hn2 hn3 hn4 hn5
          go_loopw [46] (fun i wr => ∃ k : Nat, k ≤ 6 ∧ i = .int .i64 k ∧ Hid (Blk wr (w.heap.size + 1) 23 #[.int .i64 (whatK s2 k), .int .i64 kk, .int .i64 vv]) ∧ Hid (Blk wr w.heap.size 23 #[.int .i64 0, .int .i64 0, .int .i64 0]) ∧ Below w.heap.size w wr) (fun i _ => 6 - (intOf i).toNat)
          case atStart => exact ⟨0, by omega, rfl, HBX, HRX, HBW.out⟩
          case round =>
            obtain ⟨k, hk, rfl, HX, HR, hB⟩ := hrel
            have hbz := hB.size
            have x0 := HX.out.cell 0
            have x1 := HX.out.cell 1
            have x2 := HX.out.cell 2
            have f0 := HX.out.frozen 0
            simp at x0 x1 x2
            by_cases hk6 : k < 6
            · have q1 : (k : Int) < 6 := by omega
              have ix := fun w => ix_name w k hk6
              have he := eqS ⟨(opL.getD k []).toArray⟩ ⟨s2.toArray⟩
              rw [svE (svIs (opL.getD k [])), svE HSV] at he
              have hw : whatK s2 (k + 1) = if opL.getD k [] = s2 then ((k : Int) + 1) else whatK s2 k := rfl
              have ha : (1 : Int) + (k : Int) = (k : Int) + 1 := by omega
              have HW := Lib.hid hw
              clear hw
              have he2 : (opL.getD k [] == (⟨s2.toArray⟩ : ByteArray).toList) = decide (opL.getD k [] = s2) := by
                rw [← he, ByteArray.toList_eq, ByteArray.toList_eq]
              have he3 : (opL.getD k [] == s2) = decide (opL.getD k [] = s2) := by
                by_cases e : opL.getD k [] = s2
                · rw [decide_eq_true e, beq_iff_eq]; exact e
                · rw [decide_eq_false e, beq_eq_false_iff_ne]; exact e
              by_cases hd : opL.getD k [] = s2
              · rw [decide_eq_true hd] at he he2 he3
                have HD := Lib.hid hd
                clear hd
                generalize opL.getD k [] = nk at ix he he2 he3 HW HD
                go_wp2
                refine ⟨⟨k + 1, by omega, by go_num, Lib.hid ?_, Lib.hid (HR.out.far (by show w.heap.size ≠ w.heap.size + 1; omega) _), hB.setCell (by show w.heap.size ≤ w.heap.size + 1; omega) _⟩, by simp [intOf]; omega⟩
                rw [HW.out, if_pos HD.out, ← ha]
                exact HX.out.set_ 0 _
              · rw [decide_eq_false hd] at he he2 he3
                have HD := Lib.hid hd
                clear hd
                generalize opL.getD k [] = nk at ix he he2 he3 HW HD
                go_wp2
                refine ⟨⟨k + 1, by omega, by go_num, Lib.hid ?_, HR, hB⟩, by simp [intOf]; omega⟩
                rw [HW.out, if_neg HD.out]
                exact HX.out
            · obtain rfl : k = 6 := by omega
              rw [whatK_six] at x0 HX
              have y0 := HR.out.cell 0
              have y1 := HR.out.cell 1
              have y2 := HR.out.cell 2
              have g0 := HR.out.frozen 0
              have g1 := HR.out.frozen 1
              have g2 := HR.out.frozen 2
              simp at y0 y1 y2
              have e3 : errV 3 = .iface 24 (.int .i64 3) := by simp [errV]
              have e0 : errV 0 = .nilIface := by simp [errV]
              have hz : parseZ s.data.toList = (0, 0, 0, false) := by unfold parseZ; rw [HP.out]; rfl
              rw [hz] at HQ
              simp only [okE, Bool.false_eq_true, if_false, e3] at HQ
              clear hz
              go_wp2
              rw [← HQ.out]
              refine bodyPost_ret (by simp [results, Tryd.results5, go_sem, y0, y1, y2]; try rfl) rfl ?_
              exact ⟨rfl, ((hB.setCell (by show w.heap.size ≤ w.heap.size; omega) _).setCell (by show w.heap.size ≤ w.heap.size; omega) _).setCell (by show w.heap.size ≤ w.heap.size; omega) _⟩
      · go_wp2_with fail
        have hC := cutE ⟨s1.toArray⟩ 58 s1 [] false (by simp only [ByteArray.size]; simp; omega) (by rw [svE HSV1]; exact hc2) (HG.out.below HBW1.out)
        with_reducible refine hC.mono ?_
        clear hC
        rintro e w4 ⟨rfl, hb4⟩
        have HBX := Lib.hid (HBX1.out.below hb4 HBX1.out.lt)
        have HRX := Lib.hid (HRX1.out.below hb4 HRX1.out.lt)
        have HBW := Lib.hid (HBW1.out.trans (hb4.mono HBW1.out.size))
        have HSV := HSV1
        have hp : progP s.data.toList = (whatZ s1, 0, vv, true) := by unfold progP; simp only [hst]; unfold stepK; simp only [hc2, Bool.false_and, Bool.false_eq_true, if_false]
        have HP := Lib.hid hp
        clear hb4 hc2 hp
        have hnm := (HG.out.below HBW.out).prn.names
        have hn0 := hnm 0 (by decide)
        have hn1 := hnm 1 (by decide)
        have hn2 := hnm 2 (by decide)
        have hn3 := hnm 3 (by decide)
        have hn4 := hnm 4 (by decide)
        have hn5 := hnm 5 (by decide)
        simp only [opL, List.getD_cons_zero, List.getD_cons_succ] at hn0 hn1 hn2 hn3 hn4 hn5
        clear hnm
        go_wp2_with fail
        clear hn0 hn1 hn2 hn3 hn4 hn5
        go_loopw [46] (fun i wr => ∃ k : Nat, k ≤ 6 ∧ i = .int .i64 k ∧ Hid (Blk wr (w.heap.size + 1) 23 #[.int .i64 (whatK s1 k), .int .i64 0, .int .i64 vv]) ∧ Hid (Blk wr w.heap.size 23 #[.int .i64 0, .int .i64 0, .int .i64 0]) ∧ Below w.heap.size w wr) (fun i _ => 6 - (intOf i).toNat)
        case atStart => exact ⟨0, by omega, rfl, HBX, HRX, HBW.out⟩
        case round =>
          obtain ⟨k, hk, rfl, HX, HR, hB⟩ := hrel
          have hbz := hB.size
          have x0 := HX.out.cell 0
          have x1 := HX.out.cell 1
          have x2 := HX.out.cell 2
          have f0 := HX.out.frozen 0
          simp at x0 x1 x2
          by_cases hk6 : k < 6
          · have q1 : (k : Int) < 6 := by omega
            have ix := fun w => ix_name w k hk6
            have he := eqS ⟨(opL.getD k []).toArray⟩ ⟨s1.toArray⟩
            rw [svE (svIs (opL.getD k [])), svE HSV] at he
            have hw : whatK s1 (k + 1) = if opL.getD k [] = s1 then ((k : Int) + 1) else whatK s1 k := rfl
            have ha : (1 : Int) + (k : Int) = (k : Int) + 1 := by omega
            have HW := Lib.hid hw
            clear hw
            have he2 : (opL.getD k [] == (⟨s1.toArray⟩ : ByteArray).toList) = decide (opL.getD k [] = s1) := by
              rw [← he, ByteArray.toList_eq, ByteArray.toList_eq]
            have he3 : (opL.getD k [] == s1) = decide (opL.getD k [] = s1) := by
              by_cases e : opL.getD k [] = s1
              · rw [decide_eq_true e, beq_iff_eq]; exact e
              · rw [decide_eq_false e, beq_eq_false_iff_ne]; exact e
            by_cases hd : opL.getD k [] = s1
            · rw [decide_eq_true hd] at he he2 he3
              have HD := Lib.hid hd
              clear hd
              generalize opL.getD k [] = nk at ix he he2 he3 HW HD
              go_wp2
              refine ⟨⟨k + 1, by omega, by go_num, Lib.hid ?_, Lib.hid (HR.out.far (by show w.heap.size ≠ w.heap.size + 1; omega) _), hB.setCell (by show w.heap.size ≤ w.heap.size + 1; omega) _⟩, by simp [intOf]; omega⟩
              rw [HW.out, if_pos HD.out, ← ha]
              exact HX.out.set_ 0 _
            · rw [decide_eq_false hd] at he he2 he3
              have HD := Lib.hid hd
              clear hd
              generalize opL.getD k [] = nk at ix he he2 he3 HW HD
              go_wp2
              refine ⟨⟨k + 1, by omega, by go_num, Lib.hid ?_, HR, hB⟩, by simp [intOf]; omega⟩
              rw [HW.out, if_neg HD.out]
              exact HX.out
          · obtain rfl : k = 6 := by omega
            rw [whatK_six] at x0 HX
            have y0 := HR.out.cell 0
            have y1 := HR.out.cell 1
            have y2 := HR.out.cell 2
            have g0 := HR.out.frozen 0
            have g1 := HR.out.frozen 1
            have g2 := HR.out.frozen 2
            simp at y0 y1 y2
            have e3 : errV 3 = .iface 24 (.int .i64 3) := by simp [errV]
            have e0 : errV 0 = .nilIface := by simp [errV]
            cases hr : opRightB (whatZ s1) 0 vv with
            | false =>
              have hz : parseZ s.data.toList = (0, 0, 0, false) := by unfold parseZ; rw [HP.out]; simp only [hr, Bool.and_false]; rfl
              rw [hz] at HQ
              simp only [okE, Bool.false_eq_true, if_false, e3] at HQ
              have HRT := Lib.hid hr
              clear hz hr
              go_wp2_with (go_at_call 13; refine (opRight_any _ _ _ _).mono ?_; rintro e w5 ⟨rfl, hb5⟩; rw [HRT.out]; have HR5 := HR.out.below hb5 HR.out.lt; have y0 := HR5.cell 0; have y1 := HR5.cell 1; have y2 := HR5.cell 2; have g0 := HR5.frozen 0; have g1 := HR5.frozen 1; have g2 := HR5.frozen 2; simp at y0 y1 y2; have hB5 := hB.trans (hb5.mono hB.size))
              rw [← HQ.out]
              refine bodyPost_ret (by simp [results, Tryd.results5, go_sem, y0, y1, y2]; try rfl) rfl ?_
              exact ⟨rfl, ((hB5.setCell (by show w.heap.size ≤ w.heap.size; omega) _).setCell (by show w.heap.size ≤ w.heap.size; omega) _).setCell (by show w.heap.size ≤ w.heap.size; omega) _⟩
            | true =>
              have hz : parseZ s.data.toList = (whatZ s1, 0, vv, true) := by unfold parseZ; rw [HP.out]; simp only [hr, Bool.and_true]; rfl
              rw [hz] at HQ
              simp only [okE, if_true, e0] at HQ
              have HRT := Lib.hid hr
              clear hz hr
              go_wp2_with (go_at_call 13; refine (opRight_any _ _ _ _).mono ?_; rintro e w5 ⟨rfl, hb5⟩; rw [HRT.out]; have HR5 := HR.out.below hb5 HR.out.lt; have HX5 := HX.out.below hb5 HX.out.lt; have x0 := HX5.cell 0; have x1 := HX5.cell 1; have x2 := HX5.cell 2; have y0 := HR5.cell 0; have y1 := HR5.cell 1; have y2 := HR5.cell 2; have g0 := HR5.frozen 0; have g1 := HR5.frozen 1; have g2 := HR5.frozen 2; simp at x0 x1 x2 y0 y1 y2; have hB5 := hB.trans (hb5.mono hB.size))
              rw [← HQ.out]
              refine bodyPost_ret (by simp [results, Tryd.results5, go_sem, y0, y1, y2]; try rfl) rfl ?_
              exact ⟨rfl, ((hB5.setCell (by show w.heap.size ≤ w.heap.size; omega) _).setCell (by show w.heap.size ≤ w.heap.size; omega) _).setCell (by show w.heap.size ≤ w.heap.size; omega) _⟩
    | false =>
      rw [hq1] at hst
      clear hq1
      generalize (numZ v1).1 = vv at *
      have hp : progP s.data.toList = (whatZ s1, 0, vv, false) := by unfold progP; simp only [hst]; unfold stepK; simp only [Bool.and_false, Bool.false_eq_true, if_false]
      have HP := Lib.hid hp
      have HSV := HSV1
      clear hp hst
      obtain ⟨l2, r2, b2, hc2⟩ : ∃ l2 r2 b2, Lib.cut s1 [58] = (l2, r2, b2) := ⟨_, _, _, rfl⟩
      go_wp2_with fail
      have hC := cutE ⟨s1.toArray⟩ 58 l2 r2 b2 (by simp only [ByteArray.size]; simp; omega) (by rw [svE HSV1]; exact hc2) (HG.out.below HBW1.out)
      with_reducible refine hC.mono ?_
      clear hC
      rintro e w4 ⟨rfl, hb4⟩
      have HBX := Lib.hid (HBX1.out.below hb4 HBX1.out.lt)
      have HRX := Lib.hid (HRX1.out.below hb4 HRX1.out.lt)
      have HBW := Lib.hid (HBW1.out.trans (hb4.mono HBW1.out.size))
      clear hb4 hc2
      cases b2
      all_goals
        have hnm := (HG.out.below HBW.out).prn.names
        have hn0 := hnm 0 (by decide)
        have hn1 := hnm 1 (by decide)
        have hn2 := hnm 2 (by decide)
        have hn3 := hnm 3 (by decide)
        have hn4 := hnm 4 (by decide)
        have hn5 := hnm 5 (by decide)
        simp only [opL, List.getD_cons_zero, List.getD_cons_succ] at hn0 hn1 hn2 hn3 hn4 hn5
        clear hnm
        go_wp2_with fail
        clear hn0 hn1 hn2 hn3 hn4 hn5
        go_loopw [46] (fun i wr => ∃ k : Nat, k ≤ 6 ∧ i = .int .i64 k ∧ Hid (Blk wr (w.heap.size + 1) 23 #[.int .i64 (whatK s1 k), .int .i64 0, .int .i64 vv]) ∧ Hid (Blk wr w.heap.size 23 #[.int .i64 0, .int .i64 0, .int .i64 0]) ∧ Below w.heap.size w wr) (fun i _ => 6 - (intOf i).toNat)
        case atStart => exact ⟨0, by omega, rfl, HBX, HRX, HBW.out⟩
        case round =>
          obtain ⟨k, hk, rfl, HX, HR, hB⟩ := hrel
          have hbz := hB.size
          have x0 := HX.out.cell 0
          have x1 := HX.out.cell 1
          have x2 := HX.out.cell 2
          have f0 := HX.out.frozen 0
          simp at x0 x1 x2
          by_cases hk6 : k < 6
          · have q1 : (k : Int) < 6 := by omega
            have ix := fun w => ix_name w k hk6
            have he := eqS ⟨(opL.getD k []).toArray⟩ ⟨s1.toArray⟩
            rw [svE (svIs (opL.getD k [])), svE HSV] at he
            have hw : whatK s1 (k + 1) = if opL.getD k [] = s1 then ((k : Int) + 1) else whatK s1 k := rfl
            have ha : (1 : Int) + (k : Int) = (k : Int) + 1 := by omega
            have HW := Lib.hid hw
            clear hw
            have he2 : (opL.getD k [] == (⟨s1.toArray⟩ : ByteArray).toList) = decide (opL.getD k [] = s1) := by
              rw [← he, ByteArray.toList_eq, ByteArray.toList_eq]
            have he3 : (opL.getD k [] == s1) = decide (opL.getD k [] = s1) := by
              by_cases e : opL.getD k [] = s1
              · rw [decide_eq_true e, beq_iff_eq]; exact e
              · rw [decide_eq_false e, beq_eq_false_iff_ne]; exact e
            by_cases hd : opL.getD k [] = s1
            · rw [decide_eq_true hd] at he he2 he3
              have HD := Lib.hid hd
              clear hd
              generalize opL.getD k [] = nk at ix he he2 he3 HW HD
              go_wp2
              refine ⟨⟨k + 1, by omega, by go_num, Lib.hid ?_, Lib.hid (HR.out.far (by show w.heap.size ≠ w.heap.size + 1; omega) _), hB.setCell (by show w.heap.size ≤ w.heap.size + 1; omega) _⟩, by simp [intOf]; omega⟩
              rw [HW.out, if_pos HD.out, ← ha]
              exact HX.out.set_ 0 _
            · rw [decide_eq_false hd] at he he2 he3
              have HD := Lib.hid hd
              clear hd
              generalize opL.getD k [] = nk at ix he he2 he3 HW HD
              go_wp2
              refine ⟨⟨k + 1, by omega, by go_num, Lib.hid ?_, HR, hB⟩, by simp [intOf]; omega⟩
              rw [HW.out, if_neg HD.out]
              exact HX.out
          · obtain rfl : k = 6 := by omega
            rw [whatK_six] at x0 HX
            have y0 := HR.out.cell 0
            have y1 := HR.out.cell 1
            have y2 := HR.out.cell 2
            have g0 := HR.out.frozen 0
            have g1 := HR.out.frozen 1
            have g2 := HR.out.frozen 2
            simp at y0 y1 y2
            have e3 : errV 3 = .iface 24 (.int .i64 3) := by simp [errV]
            have e0 : errV 0 = .nilIface := by simp [errV]
            have hz : parseZ s.data.toList = (0, 0, 0, false) := by unfold parseZ; rw [HP.out]; rfl
            rw [hz] at HQ
            simp only [okE, Bool.false_eq_true, if_false, e3] at HQ
            clear hz
            go_wp2
            rw [← HQ.out]
            refine bodyPost_ret (by simp [results, Tryd.results5, go_sem, y0, y1, y2]; try rfl) rfl ?_
            exact ⟨rfl, ((hB.setCell (by show w.heap.size ≤ w.heap.size; omega) _).setCell (by show w.heap.size ≤ w.heap.size; omega) _).setCell (by show w.heap.size ≤ w.heap.size; omega) _⟩
  · have hst : stepV s.data.toList = (0, true, s.data.toList) := by unfold stepV; simp only [hc1, Bool.false_eq_true, if_false]
    go_wp2_with fail
    have hC := cutE s 61 _ _ _ (by omega) hc1 HGA.out
    with_reducible refine hC.mono ?_
    clear hC
    rintro e w1 ⟨rfl, hb1⟩
    have HBX1 := Lib.hid (HBX0.out.below hb1 HBX0.out.lt)
    have HRX1 := Lib.hid (HRX0.out.below hb1 HRX0.out.lt)
    have HBW1 := Lib.hid (HA.out.trans (hb1.mono HA.out.size))
    have HSV1 : SvIs s s.data.toList := rfl
    clear hb1 hc1
    rcases cut_split s.data.toList 58 with ⟨s2, k2, hs2, hc2⟩ | hc2
    · have hl2 := congrArg List.length hs2
      simp only [List.length_append, List.length_cons] at hl2
      clear hs2
      go_wp2_with fail
      have hC := cutE s 58 s2 k2 true (by simp only [ByteArray.size]; omega) (by rw [svE HSV1]; exact hc2) (HG.out.below HBW1.out)
      with_reducible refine hC.mono ?_
      clear hC
      rintro e w4 ⟨rfl, hb4⟩
      have HBX4 := Lib.hid (HBX1.out.below hb4 HBX1.out.lt)
      have HRX4 := Lib.hid (HRX1.out.below hb4 HRX1.out.lt)
      have HBW4 := Lib.hid (HBW1.out.trans (hb4.mono HBW1.out.size))
      clear hb4
      go_wp2_with fail
      have hC := numE k2 (by omega) (HG.out.below HBW4.out)
      with_reducible refine hC.mono ?_
      clear hC
      rintro e w5 ⟨rfl, hb5⟩
      have hbx5 := HBX4.out.below hb5 HBX4.out.lt
      have hrx5 := HRX4.out.below hb5 HRX4.out.lt
      have hbw5 := HBW4.out.trans (hb5.mono HBW4.out.size)
      have x1 := hbx5.cell 1
      have fx1 := hbx5.frozen 1
      simp at x1
      have HBX := Lib.hid (hbx5.set_ 1 (.int .i64 (numZ k2).1))
      have HRX := Lib.hid (hrx5.far (p := ⟨w.heap.size + 1, 1, none⟩) (by show w.heap.size ≠ w.heap.size + 1; omega) (.int .i64 (numZ k2).1))
      have HBW := Lib.hid (hbw5.setCell (p := ⟨w.heap.size + 1, 1, none⟩) (by show w.heap.size ≤ w.heap.size + 1; omega) (.int .i64 (numZ k2).1))
      have HSV : SvIs ⟨s2.toArray⟩ s2 := svIs s2
      have hp : progP s.data.toList = (whatZ s2, (numZ k2).1, 0, (numZ k2).2) := by unfold progP; simp only [hst]; unfold stepK; simp only [hc2, Bool.and_true, if_true]
      have HP := Lib.hid hp
      clear hb5 hbx5 hrx5 hbw5 HBX4 HRX4 HBW4 hc2 hp hl2
      cases hq : (numZ k2).2 with
      | true =>
        rw [hq] at HP
        clear hq
        generalize (numZ k2).1 = kk at *
        have hnm := (HG.out.below HBW.out).prn.names
        have hn0 := hnm 0 (by decide)
        have hn1 := hnm 1 (by decide)
        have hn2 := hnm 2 (by decide)
        have hn3 := hnm 3 (by decide)
        have hn4 := hnm 4 (by decide)
        have hn5 := hnm 5 (by decide)
        simp only [opL, List.getD_cons_zero, List.getD_cons_succ] at hn0 hn1 hn2 hn3 hn4 hn5
        clear hnm
        go_wp2_with fail
        clear hn0 hn1 hn2 hn3 hn4 hn5
        go_loopw [46] (fun i wr => ∃ k : Nat, k ≤ 6 ∧ i = .int .i64 k ∧ Hid (Blk wr (w.heap.size + 1) 23 #[.int .i64 (whatK s2 k), .int .i64 kk, .int .i64 0]) ∧ Hid (Blk wr w.heap.size 23 #[.int .i64 0, .int .i64 0, .int .i64 0]) ∧ Below w.heap.size w wr) (fun i _ => 6 - (intOf i).toNat)
        case atStart => exact ⟨0, by omega, rfl, HBX, HRX, HBW.out⟩
        case round =>
          obtain ⟨k, hk, rfl, HX, HR, hB⟩ := hrel
          have hbz := hB.size
          have x0 := HX.out.cell 0
          have x1 := HX.out.cell 1
          have x2 := HX.out.cell 2
          have f0 := HX.out.frozen 0
          simp at x0 x1 x2
          by_cases hk6 : k < 6
          · have q1 : (k : Int) < 6 := by omega
            have ix := fun w => ix_name w k hk6
            have he := eqS ⟨(opL.getD k []).toArray⟩ ⟨s2.toArray⟩
            rw [svE (svIs (opL.getD k [])), svE HSV] at he
            have hw : whatK s2 (k + 1) = if opL.getD k [] = s2 then ((k : Int) + 1) else whatK s2 k := rfl
            have ha : (1 : Int) + (k : Int) = (k : Int) + 1 := by omega
            have HW := Lib.hid hw
            clear hw
            have he2 : (opL.getD k [] == (⟨s2.toArray⟩ : ByteArray).toList) = decide (opL.getD k [] = s2) := by
              rw [← he, ByteArray.toList_eq, ByteArray.toList_eq]
            have he3 : (opL.getD k [] == s2) = decide (opL.getD k [] = s2) := by
              by_cases e : opL.getD k [] = s2
              · rw [decide_eq_true e, beq_iff_eq]; exact e
              · rw [decide_eq_false e, beq_eq_false_iff_ne]; exact e
            by_cases hd : opL.getD k [] = s2
            · rw [decide_eq_true hd] at he he2 he3
              have HD := Lib.hid hd
              clear hd
              generalize opL.getD k [] = nk at ix he he2 he3 HW HD
              go_wp2
              refine ⟨⟨k + 1, by omega, by go_num, Lib.hid ?_, Lib.hid (HR.out.far (by show w.heap.size ≠ w.heap.size + 1; omega) _), hB.setCell (by show w.heap.size ≤ w.heap.size + 1; omega) _⟩, by simp [intOf]; omega⟩
              rw [HW.out, if_pos HD.out, ← ha]
              exact HX.out.set_ 0 _
            · rw [decide_eq_false hd] at he he2 he3
              have HD := Lib.hid hd
              clear hd
              generalize opL.getD k [] = nk at ix he he2 he3 HW HD
              go_wp2
              refine ⟨⟨k + 1, by omega, by go_num, Lib.hid ?_, HR, hB⟩, by simp [intOf]; omega⟩
              rw [HW.out, if_neg HD.out]
              exact HX.out
          · obtain rfl : k = 6 := by omega
            rw [whatK_six] at x0 HX
            have y0 := HR.out.cell 0
            have y1 := HR.out.cell 1
            have y2 := HR.out.cell 2
            have g0 := HR.out.frozen 0
            have g1 := HR.out.frozen 1
            have g2 := HR.out.frozen 2
            simp at y0 y1 y2
            have e3 : errV 3 = .iface 24 (.int .i64 3) := by simp [errV]
            have e0 : errV 0 = .nilIface := by simp [errV]
            cases hr : opRightB (whatZ s2) kk 0 with
            | false =>
              have hz : parseZ s.data.toList = (0, 0, 0, false) := by unfold parseZ; rw [HP.out]; simp only [hr, Bool.and_false]; rfl
              rw [hz] at HQ
              simp only [okE, Bool.false_eq_true, if_false, e3] at HQ
              have HRT := Lib.hid hr
              clear hz hr
              go_wp2_with (go_at_call 13; refine (opRight_any _ _ _ _).mono ?_; rintro e w5 ⟨rfl, hb5⟩; rw [HRT.out]; have HR5 := HR.out.below hb5 HR.out.lt; have y0 := HR5.cell 0; have y1 := HR5.cell 1; have y2 := HR5.cell 2; have g0 := HR5.frozen 0; have g1 := HR5.frozen 1; have g2 := HR5.frozen 2; simp at y0 y1 y2; have hB5 := hB.trans (hb5.mono hB.size))
              rw [← HQ.out]
              refine bodyPost_ret (by simp [results, Tryd.results5, go_sem, y0, y1, y2]; try rfl) rfl ?_
              exact ⟨rfl, ((hB5.setCell (by show w.heap.size ≤ w.heap.size; omega) _).setCell (by show w.heap.size ≤ w.heap.size; omega) _).setCell (by show w.heap.size ≤ w.heap.size; omega) _⟩
            | true =>
              have hz : parseZ s.data.toList = (whatZ s2, kk, 0, true) := by unfold parseZ; rw [HP.out]; simp only [hr, Bool.and_true]; rfl
              rw [hz] at HQ
              simp only [okE, if_true, e0] at HQ
              have HRT := Lib.hid hr
              clear hz hr
              go_wp2_with (go_at_call 13; refine (opRight_any _ _ _ _).mono ?_; rintro e w5 ⟨rfl, hb5⟩; rw [HRT.out]; have HR5 := HR.out.below hb5 HR.out.lt; have HX5 := HX.out.below hb5 HX.out.lt; have x0 := HX5.cell 0; have x1 := HX5.cell 1; have x2 := HX5.cell 2; have y0 := HR5.cell 0; have y1 := HR5.cell 1; have y2 := HR5.cell 2; have g0 := HR5.frozen 0; have g1 := HR5.frozen 1; have g2 := HR5.frozen 2; simp at x0 x1 x2 y0 y1 y2; have hB5 := hB.trans (hb5.mono hB.size))
              rw [← HQ.out]
              refine bodyPost_ret (by simp [results, Tryd.results5, go_sem, y0, y1, y2]; try rfl) rfl ?_
              exact ⟨rfl, ((hB5.setCell (by show w.heap.size ≤ w.heap.size; omega) _).setCell (by show w.heap.size ≤ w.heap.size; omega) _).setCell (by show w.heap.size ≤ w.heap.size; omega) _⟩
      | false =>
        rw [hq] at HP
        clear hq
        generalize (numZ k2).1 = kk at *
        have hnm := (HG.out.below HBW.out).prn.names
        have hn0 := hnm 0 (by decide)
        have hn1 := hnm 1 (by decide)
        have hn2 := hnm 2 (by decide)
        have hn3 := hnm 3 (by decide)
        have hn4 := hnm 4 (by decide)
        have hn5 := hnm 5 (by decide)
        simp only [opL, List.getD_cons_zero, List.getD_cons_succ] at hn0 hn1 hn2 hn3 hn4 hn5
        clear hnm
        go_wp2_with fail
        clear hn0 hn1 hn2 hn3 hn4 hn5
        go_loopw [46] (fun i wr => ∃ k : Nat, k ≤ 6 ∧ i = .int .i64 k ∧ Hid (Blk wr (w.heap.size + 1) 23 #[.int .i64 (whatK s2 k), .int .i64 kk, .int .i64 0]) ∧ Hid (Blk wr w.heap.size 23 #[.int .i64 0, .int .i64 0, .int .i64 0]) ∧ Below w.heap.size w wr) (fun i _ => 6 - (intOf i).toNat)
        case atStart => exact ⟨0, by omega, rfl, HBX, HRX, HBW.out⟩
        case round =>
          obtain ⟨k, hk, rfl, HX, HR, hB⟩ := hrel
          have hbz := hB.size
          have x0 := HX.out.cell 0
          have x1 := HX.out.cell 1
          have x2 := HX.out.cell 2
          have f0 := HX.out.frozen 0
          simp at x0 x1 x2
          by_cases hk6 : k < 6
          · have q1 : (k : Int) < 6 := by omega
            have ix := fun w => ix_name w k hk6
            have he := eqS ⟨(opL.getD k []).toArray⟩ ⟨s2.toArray⟩
            rw [svE (svIs (opL.getD k [])), svE HSV] at he
            have hw : whatK s2 (k + 1) = if opL.getD k [] = s2 then ((k : Int) + 1) else whatK s2 k := rfl
            have ha : (1 : Int) + (k : Int) = (k : Int) + 1 := by omega
            have HW := Lib.hid hw
            clear hw
            have he2 : (opL.getD k [] == (⟨s2.toArray⟩ : ByteArray).toList) = decide (opL.getD k [] = s2) := by
              rw [← he, ByteArray.toList_eq, ByteArray.toList_eq]
            have he3 : (opL.getD k [] == s2) = decide (opL.getD k [] = s2) := by
              by_cases e : opL.getD k [] = s2
              · rw [decide_eq_true e, beq_iff_eq]; exact e
              · rw [decide_eq_false e, beq_eq_false_iff_ne]; exact e
            by_cases hd : opL.getD k [] = s2
            · rw [decide_eq_true hd] at he he2 he3
              have HD := Lib.hid hd
              clear hd
              generalize opL.getD k [] = nk at ix he he2 he3 HW HD
              go_wp2
              refine ⟨⟨k + 1, by omega, by go_num, Lib.hid ?_, Lib.hid (HR.out.far (by show w.heap.size ≠ w.heap.size + 1; omega) _), hB.setCell (by show w.heap.size ≤ w.heap.size + 1; omega) _⟩, by simp [intOf]; omega⟩
              rw [HW.out, if_pos HD.out, ← ha]
              exact HX.out.set_ 0 _
            · rw [decide_eq_false hd] at he he2 he3
              have HD := Lib.hid hd
              clear hd
              generalize opL.getD k [] = nk at ix he he2 he3 HW HD
              go_wp2
              refine ⟨⟨k + 1, by omega, by go_num, Lib.hid ?_, HR, hB⟩, by simp [intOf]; omega⟩
              rw [HW.out, if_neg HD.out]
              exact HX.out
          · obtain rfl : k = 6 := by omega
            rw [whatK_six] at x0 HX
            have y0 := HR.out.cell 0
            have y1 := HR.out.cell 1
            have y2 := HR.out.cell 2
            have g0 := HR.out.frozen 0
            have g1 := HR.out.frozen 1
            have g2 := HR.out.frozen 2
            simp at y0 y1 y2
            have e3 : errV 3 = .iface 24 (.int .i64 3) := by simp [errV]
            have e0 : errV 0 = .nilIface := by simp [errV]
            have hz : parseZ s.data.toList = (0, 0, 0, false) := by unfold parseZ; rw [HP.out]; rfl
            rw [hz] at HQ
            simp only [okE, Bool.false_eq_true, if_false, e3] at HQ
            clear hz
            go_wp2
            rw [← HQ.out]
            refine bodyPost_ret (by simp [results, Tryd.results5, go_sem, y0, y1, y2]; try rfl) rfl ?_
            exact ⟨rfl, ((hB.setCell (by show w.heap.size ≤ w.heap.size; omega) _).setCell (by show w.heap.size ≤ w.heap.size; omega) _).setCell (by show w.heap.size ≤ w.heap.size; omega) _⟩
    · go_wp2_with fail
      have hC := cutE s 58 s.data.toList [] false (by simp only [ByteArray.size]; omega) (by rw [svE HSV1]; exact hc2) (HG.out.below HBW1.out)
      with_reducible refine hC.mono ?_
      clear hC
      rintro e w4 ⟨rfl, hb4⟩
      have HBX := Lib.hid (HBX1.out.below hb4 HBX1.out.lt)
      have HRX := Lib.hid (HRX1.out.below hb4 HRX1.out.lt)
      have HBW := Lib.hid (HBW1.out.trans (hb4.mono HBW1.out.size))
      have HSV := HSV1
      have hp : progP s.data.toList = (whatZ s.data.toList, 0, 0, true) := by unfold progP; simp only [hst]; unfold stepK; simp only [hc2, Bool.false_and, Bool.false_eq_true, if_false]
      have HP := Lib.hid hp
      clear hb4 hc2 hp
      have hnm := (HG.out.below HBW.out).prn.names
      have hn0 := hnm 0 (by decide)
      have hn1 := hnm 1 (by decide)
      have hn2 := hnm 2 (by decide)
      have hn3 := hnm 3 (by decide)
      have hn4 := hnm 4 (by decide)
      have hn5 := hnm 5 (by decide)
      simp only [opL, List.getD_cons_zero, List.getD_cons_succ] at hn0 hn1 hn2 hn3 hn4 hn5
      clear hnm
      go_wp2_with fail
      clear hn0 hn1 hn2 hn3 hn4 hn5
      go_loopw [46] (fun i wr => ∃ k : Nat, k ≤ 6 ∧ i = .int .i64 k ∧ Hid (Blk wr (w.heap.size + 1) 23 #[.int .i64 (whatK s.data.toList k), .int .i64 0, .int .i64 0]) ∧ Hid (Blk wr w.heap.size 23 #[.int .i64 0, .int .i64 0, .int .i64 0]) ∧ Below w.heap.size w wr) (fun i _ => 6 - (intOf i).toNat)
      case atStart => exact ⟨0, by omega, rfl, HBX, HRX, HBW.out⟩
      case round =>
        obtain ⟨k, hk, rfl, HX, HR, hB⟩ := hrel
        have hbz := hB.size
        have x0 := HX.out.cell 0
        have x1 := HX.out.cell 1
        have x2 := HX.out.cell 2
        have f0 := HX.out.frozen 0
        simp at x0 x1 x2
        by_cases hk6 : k < 6
        · have q1 : (k : Int) < 6 := by omega
          have ix := fun w => ix_name w k hk6
          have he := eqS ⟨(opL.getD k []).toArray⟩ s
          rw [svE (svIs (opL.getD k [])), svE HSV] at he
          have hw : whatK s.data.toList (k + 1) = if opL.getD k [] = s.data.toList then ((k : Int) + 1) else whatK s.data.toList k := rfl
          have ha : (1 : Int) + (k : Int) = (k : Int) + 1 := by omega
          have HW := Lib.hid hw
          clear hw
          have he2 : (opL.getD k [] == (s : ByteArray).toList) = decide (opL.getD k [] = s.data.toList) := by
            rw [← he, ByteArray.toList_eq, ByteArray.toList_eq]
          have he3 : (opL.getD k [] == s.data.toList) = decide (opL.getD k [] = s.data.toList) := by
            by_cases e : opL.getD k [] = s.data.toList
            · rw [decide_eq_true e, beq_iff_eq]; exact e
            · rw [decide_eq_false e, beq_eq_false_iff_ne]; exact e
          by_cases hd : opL.getD k [] = s.data.toList
          · rw [decide_eq_true hd] at he he2 he3
            have HD := Lib.hid hd
            clear hd
            generalize opL.getD k [] = nk at ix he he2 he3 HW HD
            go_wp2
            refine ⟨⟨k + 1, by omega, by go_num, Lib.hid ?_, Lib.hid (HR.out.far (by show w.heap.size ≠ w.heap.size + 1; omega) _), hB.setCell (by show w.heap.size ≤ w.heap.size + 1; omega) _⟩, by simp [intOf]; omega⟩
            rw [HW.out, if_pos HD.out, ← ha]
            exact HX.out.set_ 0 _
          · rw [decide_eq_false hd] at he he2 he3
            have HD := Lib.hid hd
            clear hd
            generalize opL.getD k [] = nk at ix he he2 he3 HW HD
            go_wp2
            refine ⟨⟨k + 1, by omega, by go_num, Lib.hid ?_, HR, hB⟩, by simp [intOf]; omega⟩
            rw [HW.out, if_neg HD.out]
            exact HX.out
        · obtain rfl : k = 6 := by omega
          rw [whatK_six] at x0 HX
          have y0 := HR.out.cell 0
          have y1 := HR.out.cell 1
          have y2 := HR.out.cell 2
          have g0 := HR.out.frozen 0
          have g1 := HR.out.frozen 1
          have g2 := HR.out.frozen 2
          simp at y0 y1 y2
          have e3 : errV 3 = .iface 24 (.int .i64 3) := by simp [errV]
          have e0 : errV 0 = .nilIface := by simp [errV]
          cases hr : opRightB (whatZ s.data.toList) 0 0 with
          | false =>
            have hz : parseZ s.data.toList = (0, 0, 0, false) := by unfold parseZ; rw [HP.out]; simp only [hr, Bool.and_false]; rfl
            rw [hz] at HQ
            simp only [okE, Bool.false_eq_true, if_false, e3] at HQ
            have HRT := Lib.hid hr
            clear hz hr
            go_wp2_with (go_at_call 13; refine (opRight_any _ _ _ _).mono ?_; rintro e w5 ⟨rfl, hb5⟩; rw [HRT.out]; have HR5 := HR.out.below hb5 HR.out.lt; have y0 := HR5.cell 0; have y1 := HR5.cell 1; have y2 := HR5.cell 2; have g0 := HR5.frozen 0; have g1 := HR5.frozen 1; have g2 := HR5.frozen 2; simp at y0 y1 y2; have hB5 := hB.trans (hb5.mono hB.size))
            rw [← HQ.out]
            refine bodyPost_ret (by simp [results, Tryd.results5, go_sem, y0, y1, y2]; try rfl) rfl ?_
            exact ⟨rfl, ((hB5.setCell (by show w.heap.size ≤ w.heap.size; omega) _).setCell (by show w.heap.size ≤ w.heap.size; omega) _).setCell (by show w.heap.size ≤ w.heap.size; omega) _⟩
          | true =>
            have hz : parseZ s.data.toList = (whatZ s.data.toList, 0, 0, true) := by unfold parseZ; rw [HP.out]; simp only [hr, Bool.and_true]; rfl
            rw [hz] at HQ
            simp only [okE, if_true, e0] at HQ
            have HRT := Lib.hid hr
            clear hz hr
            go_wp2_with (go_at_call 13; refine (opRight_any _ _ _ _).mono ?_; rintro e w5 ⟨rfl, hb5⟩; rw [HRT.out]; have HR5 := HR.out.below hb5 HR.out.lt; have HX5 := HX.out.below hb5 HX.out.lt; have x0 := HX5.cell 0; have x1 := HX5.cell 1; have x2 := HX5.cell 2; have y0 := HR5.cell 0; have y1 := HR5.cell 1; have y2 := HR5.cell 2; have g0 := HR5.frozen 0; have g1 := HR5.frozen 1; have g2 := HR5.frozen 2; simp at x0 x1 x2 y0 y1 y2; have hB5 := hB.trans (hb5.mono hB.size))
            rw [← HQ.out]
            refine bodyPost_ret (by simp [results, Tryd.results5, go_sem, y0, y1, y2]; try rfl) rfl ?_
            exact ⟨rfl, ((hB5.setCell (by show w.heap.size ≤ w.heap.size; omega) _).setCell (by show w.heap.size ≤ w.heap.size; omega) _).setCell (by show w.heap.size ≤ w.heap.size; omega) _⟩
end Go.Proofs.YtagdjpcbgnppnaaDoor
