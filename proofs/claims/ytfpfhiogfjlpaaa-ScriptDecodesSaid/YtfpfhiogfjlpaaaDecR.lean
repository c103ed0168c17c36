/-
  What gristmillref.Decode returns. For texts of at most 4000 bytes.
-/
import Derived.Test.YtfpfhiogfjlpaaaDecA
import Derived.Laws.IdiomStrings
namespace Go.Proofs.Ytfpfhiogfjlpaaa
open Go.RowKit
set_option linter.unusedSimpArgs false
set_option linter.unusedVariables false
attribute [local go_sem ↓] Go.wp_at_zero Go.wp_at_succ

theorem infoRMv : (Try.prog.info? 66).map (fun i => (i.zero, i.size, i.bytes)) = some (some (.agg #[.int .i64 0, .int .i64 0, .int .i64 0, .int .i64 0, .int .i64 0, .int .i64 0, .int .u64 0]), 7, 56) := by kernel_rfl

/-- The state of a round: the reader at byte p, the move in block gm, the moves so far, in a world grown over W. -/
structure StR (W : World) (s : ByteArray) (g p gm : Nat) (M : Array Value) (t : TypeId) (v : Value) (j : Nat) (w : World) : Prop where
  rd : RdR w g s p
  mv : Blk w gm t M
  own : w.ownsRow (g + 1) t 7 v j (mvsC s j)
  og : ∀ k, v.ownBlock = some k → k < gm
  lt : g < gm
  below : Below W.heap.size W w
theorem StR.call {W : World} {s : ByteArray} {g p gm : Nat} {M : Array Value} {t : TypeId} {v : Value} {j : Nat} {w : World} (h : StR W s g p gm M t v j w) (hW : W.heap.size ≤ g) (hsz : s.size ≤ 4000) :
    Calls Try.prog 61 #[.pointer (some ⟨g, 0, none⟩)] w fun e w' => e = .returned (.int .i64 (byA s p)) ∧ StR W s g (p + 1) gm M t v j w' :=
  (byteOf_any s g p w h.rd hsz).mono fun e w' ⟨he, hR, hK⟩ => ⟨he, hR, (hK.block gm h.mv.lt (by have := h.lt; omega)).trans h.mv, ownsRow_keeps h.own hK (fun k hk e => by have := (World.ownsRow.lt h.own k hk).1; omega), h.og, h.lt, h.below.trans (hK.below h.below.size (fun b hb e => by omega))⟩
theorem StR.set {W : World} {s : ByteArray} {g p gm : Nat} {M : Array Value} {t : TypeId} {v : Value} {j : Nat} {w : World} (h : StR W s g p gm M t v j w) (hW : W.heap.size ≤ g) (i : Nat) (u : Value) :
    StR W s g p gm (M.setIfInBounds i u) t v j (w.setCell ⟨gm, i, none⟩ u) :=
  ⟨h.rd.below ((Below.refl _ _).setCell (by have := h.lt; show g + 1 ≤ gm; omega) u), h.mv.set_ i u, ownsRow_keeps h.own (Keeps.setCell (Keeps.refl (fun b => b = gm) w) (p := ⟨gm, i, none⟩) (.inl rfl) u) (fun k hk e => by have := h.og k hk; omega), h.og, h.lt, h.below.setCell (by have := h.lt; show W.heap.size ≤ gm; omega) u⟩
theorem StR.start {W : World} {s : ByteArray} {g p : Nat} {t : TypeId} {v : Value} {j : Nat} {w : World} (hR : RdR w g s p) (ho : w.ownsRow (g + 1) t 7 v j (mvsC s j)) (hb : Below W.heap.size W w) (M : Array Value) :
    StR W s g p w.heap.size M t v j (w.alloc (.cells M t)) :=
  ⟨hR.below ((Below.refl _ _).alloc (by have := hR.lt; omega) _), Blk.new _ _ _, World.ownsRow.alloc ho _, fun k hk => (World.ownsRow.lt ho k hk).2, hR.lt, hb.alloc hb.size _⟩

/-- What []byte(s) lays reads as the text. -/
theorem rd_start (s : ByteArray) (w : World) (C : Array Value) (fr : Nat × Nat) (cap : Nat) (t : TypeId) (hC : ∀ i, i < s.size → C[i]? = some (.int .u8 (byA s i))) (hn : s.size ≤ cap) (hc : cap ≤ 9223372036854775807) :
    RdR ((w.drew.alloc (.cells C t fr)).alloc (.cells #[.slice (some ⟨w.heap.size, 0, none⟩) s.size cap] 97)) (w.heap.size + 1) s 0 := by
  refine ⟨some ⟨w.heap.size, 0, none⟩, s.size, cap, Blk.newAt _ _ _ (by simp), rfl, hn, hc, fun _ => ⟨w.heap.size, 0, rfl, by omega, fun i hi => ?_⟩⟩
  rw [World.cell?_alloc_lt _ _ _ (by simp), Nat.zero_add]
  have hb : (w.drew.alloc (.cells C t fr)).heap[w.heap.size]? = some (.cells C t fr) := heap_alloc_new w.drew _
  rw [cell_of_row _ _ i C t fr hb]
  exact hC i hi

set_option maxRecDepth 100000 in
set_option maxHeartbeats 16000000 in
theorem rdecode_any (s : ByteArray) (w : World) (hs : s.size ≤ 4000) :
    Calls Try.prog 41 #[.string s] w (MvOut s 66 w) := by
  obtain ⟨i0, hi, hz0, hz1, hz2⟩ := info_parts infoRMv
  have hcv := run_bytes_of_string (P := Try.prog) w 9 97 5 s Try.underlying9 Try.underlying97 Try.underlying5
  have hcg := grownCap_ge w s.size 0 5
  have hcm := grownCap_le_maxLen w s.size 0 5 (by unfold maxLen; omega)
  generalize grownCap w s.size 0 5 = cap at *
  have hCC : ∀ i, i < s.size → (bytesRow s cap)[i]? = some (.int .u8 (byA s i)) := fun i hi => by
    unfold bytesRow byA
    rw [dif_pos hi, Array.getElem?_append_left (by simpa using hi)]
    simp [hi]
    rfl
  generalize bytesRow s cap = CB at *
  generalize (CB.size, CB.size + 1) = fr at *
  have HCC := Lib.hid hCC
  unfold maxLen at hcm
  clear hCC
  go_enter Try.func41, Try.ntmps41
  go_wp2
  have hRD := rd_start s w CB fr cap 5 HCC.out hcg (by omega)
  have HRD := Lib.hid hRD
  clear hRD hcv hcg hcm
  go_loopw [5] (fun l wr => ∃ (j p : Nat), Hid (posA s j = p) ∧ Hid (∀ i, i < j → posA s i < s.size ∧ i < 3000) ∧ j ≤ 3000 ∧ Hid (∃ A c, l = .slice A j c ∧ wr.ownsRow (w.heap.size + 2) 66 7 (.slice A j c) j (mvsC s j)) ∧ Hid (RdR wr (w.heap.size + 1) s p) ∧ Below w.heap.size w wr) (fun l _ => 3001 - lenV l)
  case atStart => exact ⟨0, 0, Lib.hid rfl, Lib.hid (fun i hi => absurd hi (by omega)), by omega, Lib.hid ⟨none, 0, rfl, World.ownsRow_nil _ _ _ _⟩, HRD, by go_grown⟩
  case round =>
    obtain ⟨j, p, hp, hall, hj, hex, HR0, hb⟩ := hrel
    obtain ⟨A, c, rfl, hown⟩ := hex.out
    have HO := Lib.hid hown
    clear hown hex
    obtain ⟨A0, n0, cc0, hb0, hn0, h91, h92, h93⟩ := HR0.out.ex
    clear h93
    have a0 := hb0.cell 0
    simp only [List.getElem?_toArray, List.getElem?_cons_zero] at a0
    have HN0 := Lib.hid hn0
    have hpos : p < s.size → 0 < n0 := fun h => by omega
    have hzer : s.size ≤ p → n0 = 0 := fun h => by omega
    clear hn0
    have hpl := posA_le s j
    rw [hp.out] at hpl
    have hgl := HR0.out.lt
    clear hb0
    by_cases hgo : p < s.size ∧ j < 3000
    · obtain ⟨hps, hj3⟩ := hgo
      have q1 : 0 < n0 := hpos hps
      have q2 : (j : Int) < 3000 := by omega
      clear hpos hzer
      have y0b := byA_bd s p
      have y1b := byA_bd s (p + 1)
      have y2b := byA_bd s (p + 1 + 1)
      have y3b := byA_bd s (p + 1 + 1 + 1)
      have HL : Hid (mvL s p = if byA s p / 4 % 8 < 2 then [1, byA s p % 4, byA s (p + 1) % 6 + 1, byA s (p + 1 + 1) % 5, byA s (p + 1 + 1 + 1) % 10, 0, 0]
        else if byA s p / 4 % 8 < 6 then [2, byA s p % 4, 0, 0, 0, byA s (p + 1) % 100 + 1, 0]
        else if byA s p / 4 % 8 = 6 then [3, byA s p % 4, 0, 0, 0, byA s (p + 1) % 9, 0]
        else if byA s p < 128 then [2, byA s p % 4, 0, 0, 0, 1, 0]
        else [4, byA s p % 4, 0, 0, 0, 0, byA s (p + 1) + 256 * byA s (p + 1 + 1)]) := rfl
      have HN : Hid (mvN s p = if byA s p / 4 % 8 < 2 then 4 else if byA s p / 4 % 8 < 6 then 2 else if byA s p / 4 % 8 = 6 then 2 else if byA s p < 128 then 1 else 3) := rfl
      obtain ⟨y0, hy0⟩ : ∃ y, byA s p = y := ⟨_, rfl⟩
      obtain ⟨y1, hy1⟩ : ∃ y, byA s (p + 1) = y := ⟨_, rfl⟩
      obtain ⟨y2, hy2⟩ : ∃ y, byA s (p + 1 + 1) = y := ⟨_, rfl⟩
      obtain ⟨y3, hy3⟩ : ∃ y, byA s (p + 1 + 1 + 1) = y := ⟨_, rfl⟩
      rw [hy0] at y0b HL HN
      rw [hy1] at y1b HL
      rw [hy2] at y2b HL
      rw [hy3] at y3b HL
      have HY0 := Lib.hid hy0
      have HY1 := Lib.hid hy1
      have HY2 := Lib.hid hy2
      have HY3 := Lib.hid hy3
      clear hy0 hy1 hy2 hy3
      go_wp2_with fail
      refine (byteOf_any s (w.heap.size + 1) p _ HR0.out hs).mono ?_
      rintro e w1 ⟨rfl, hR1, hK1⟩
      rw [HY0.out]
      have hO1 := ownsRow_keeps HO.out hK1 (fun k hk e => by have := (World.ownsRow.lt HO.out k hk).1; omega)
      have hb1 : Below w.heap.size w w1 := hb.trans (hK1.below hb.size (fun b hb e => by omega))
      have HR1 := Lib.hid hR1
      have HO1 := Lib.hid hO1
      have hg1 := hR1.lt
      clear hR1 hO1 hK1 HO hb a0 HR0 hgl HN0
      rcases (show y0 / 4 % 8 = 0 ∨ y0 / 4 % 8 = 1 ∨ y0 / 4 % 8 = 2 ∨ y0 / 4 % 8 = 3 ∨ y0 / 4 % 8 = 4 ∨ y0 / 4 % 8 = 5 ∨ y0 / 4 % 8 = 6 ∨ y0 / 4 % 8 = 7 by omega) with hk | hk | hk | hk | hk | hk | hk | hk
      · skip
        have d0 : (y0 / 4 % 8 == 0) = true := by simp; omega
        have d1 : (y0 / 4 % 8 == 1) = false := by simp; omega
        have d2 : (y0 / 4 % 8 == 2) = false := by simp; omega
        have d3 : (y0 / 4 % 8 == 3) = false := by simp; omega
        have d4 : (y0 / 4 % 8 == 4) = false := by simp; omega
        have d5 : (y0 / 4 % 8 == 5) = false := by simp; omega
        have d6 : (y0 / 4 % 8 == 6) = false := by simp; omega
        have d7 : (y0 / 4 % 8 == 7) = false := by simp; omega
        have KK := Lib.hid hk
        clear hk
        have HST : Hid (StR w s (w.heap.size + 1) (p + 1) w1.heap.size #[.int .i64 1, .int .i64 (y0 % 4), .int .i64 0, .int .i64 0, .int .i64 0, .int .i64 0, .int .u64 0] 66 (.slice A j c) j (w1.alloc (.cells #[.int .i64 1, .int .i64 (y0 % 4), .int .i64 0, .int .i64 0, .int .i64 0, .int .i64 0, .int .u64 0] 66))) := StR.start HR1.out HO1.out hb1 _
        go_wp2_with fail
        refine (StR.call HST.out (by omega) hs).mono ?_
        rintro e w2 ⟨rfl, hS2⟩
        rw [HY1.out]
        have HS2 := Lib.hid hS2
        have hS := HS2.out
        have m0 := hS.mv.cell 0
        have m1 := hS.mv.cell 1
        have m2 := hS.mv.cell 2
        have m3 := hS.mv.cell 3
        have m4 := hS.mv.cell 4
        have m5 := hS.mv.cell 5
        have m6 := hS.mv.cell 6
        simp only [List.setIfInBounds_toArray, List.set_cons_zero, List.set_cons_succ, List.getElem?_toArray, List.getElem?_cons_zero, List.getElem?_cons_succ] at m0 m1 m2 m3 m4 m5 m6
        have f2 := hS.mv.frozen 2
        have hgm := hS.mv.lt
        clear hS
        have HT2 := Lib.hid (HS2.out.set (by omega) 2 (.int .i64 (y1 % 6 + 1)))
        go_wp2_with fail
        refine (StR.call HT2.out (by omega) hs).mono ?_
        rintro e w3 ⟨rfl, hS3⟩
        rw [HY2.out]
        have HS3 := Lib.hid hS3
        have hS := HS3.out
        have m0 := hS.mv.cell 0
        have m1 := hS.mv.cell 1
        have m2 := hS.mv.cell 2
        have m3 := hS.mv.cell 3
        have m4 := hS.mv.cell 4
        have m5 := hS.mv.cell 5
        have m6 := hS.mv.cell 6
        simp only [List.setIfInBounds_toArray, List.set_cons_zero, List.set_cons_succ, List.getElem?_toArray, List.getElem?_cons_zero, List.getElem?_cons_succ] at m0 m1 m2 m3 m4 m5 m6
        have f3 := hS.mv.frozen 3
        have hgm := hS.mv.lt
        clear hS
        have HT3 := Lib.hid (HS3.out.set (by omega) 3 (.int .i64 (y2 % 5)))
        go_wp2_with fail
        refine (StR.call HT3.out (by omega) hs).mono ?_
        rintro e w4 ⟨rfl, hS4⟩
        rw [HY3.out]
        have HS4 := Lib.hid hS4
        have hS := HS4.out
        have m0 := hS.mv.cell 0
        have m1 := hS.mv.cell 1
        have m2 := hS.mv.cell 2
        have m3 := hS.mv.cell 3
        have m4 := hS.mv.cell 4
        have m5 := hS.mv.cell 5
        have m6 := hS.mv.cell 6
        simp only [List.setIfInBounds_toArray, List.set_cons_zero, List.set_cons_succ, List.getElem?_toArray, List.getElem?_cons_zero, List.getElem?_cons_succ] at m0 m1 m2 m3 m4 m5 m6
        have f4 := hS.mv.frozen 4
        have hgm := hS.mv.lt
        clear hS
        have hE := HS4.out
        have hbz := hE.below.size
        have HSE := Lib.hid (hE.set (by omega) 4 (.int .i64 (y3 % 10)))
        clear hE
        go_wp2_with (at_builtin; refine wpList_append_mv rfl (.tmp 83) (.tmp 85) 61 66 i0 _ rfl Try.underlying61 hi hz0 hz1 hz2 rfl rfl (World.ownsRow.alloc HSE.out.own _) rfl (Blk.newAt _ 66 #[.int .i64 1, .int .i64 (y0 % 4), .int .i64 (y1 % 6 + 1), .int .i64 (y2 % 5), .int .i64 (y3 % 10), .int .i64 0, .int .u64 0] (by simp)) rfl rfl (by omega) ?_ ?_; (have h9 := HSE.out.rd.lt; simp at h9 ⊢; omega); intro A' c' w' ho' hb')
        refine ⟨⟨j + 1, p + 4, Lib.hid ?_, Lib.hid ?_, by omega, Lib.hid ⟨A', c', rfl, ?_⟩, Lib.hid ?_, ?_⟩, by simp [lenV]; omega⟩
        · show posA s j + mvN s (posA s j) = _
          rw [hp.out, HN.out]
          have hkk := KK.out
          simp only [if_pos (show y0 / 4 % 8 < 2 by omega)]
        · intro i hi
          rcases Nat.lt_or_ge i j with h | h
          · exact hall.out i h
          · obtain rfl : i = j := by omega
            rw [hp.out]
            exact ⟨hps, hj3⟩
        · rw [mvsC_succ, hp.out, HL.out]
          have hkk := KK.out
          simp only [if_pos (show y0 / 4 % 8 < 2 by omega)]
          simpa [mvV, Int.add_comm] using ho'
        · exact (HSE.out.rd.below ((Below.refl _ _).alloc (by have := HSE.out.rd.lt; omega) (.cells #[.int .i64 1, .int .i64 (y0 % 4), .int .i64 (y1 % 6 + 1), .int .i64 (y2 % 5), .int .i64 (y3 % 10), .int .i64 0, .int .u64 0] 66))).below hb'
        · exact (HSE.out.below.alloc HSE.out.below.size _).trans (hb'.mono (by omega))
      · skip
        have d0 : (y0 / 4 % 8 == 0) = false := by simp; omega
        have d1 : (y0 / 4 % 8 == 1) = true := by simp; omega
        have d2 : (y0 / 4 % 8 == 2) = false := by simp; omega
        have d3 : (y0 / 4 % 8 == 3) = false := by simp; omega
        have d4 : (y0 / 4 % 8 == 4) = false := by simp; omega
        have d5 : (y0 / 4 % 8 == 5) = false := by simp; omega
        have d6 : (y0 / 4 % 8 == 6) = false := by simp; omega
        have d7 : (y0 / 4 % 8 == 7) = false := by simp; omega
        have KK := Lib.hid hk
        clear hk
        have HST : Hid (StR w s (w.heap.size + 1) (p + 1) w1.heap.size #[.int .i64 1, .int .i64 (y0 % 4), .int .i64 0, .int .i64 0, .int .i64 0, .int .i64 0, .int .u64 0] 66 (.slice A j c) j (w1.alloc (.cells #[.int .i64 1, .int .i64 (y0 % 4), .int .i64 0, .int .i64 0, .int .i64 0, .int .i64 0, .int .u64 0] 66))) := StR.start HR1.out HO1.out hb1 _
        go_wp2_with fail
        refine (StR.call HST.out (by omega) hs).mono ?_
        rintro e w2 ⟨rfl, hS2⟩
        rw [HY1.out]
        have HS2 := Lib.hid hS2
        have hS := HS2.out
        have m0 := hS.mv.cell 0
        have m1 := hS.mv.cell 1
        have m2 := hS.mv.cell 2
        have m3 := hS.mv.cell 3
        have m4 := hS.mv.cell 4
        have m5 := hS.mv.cell 5
        have m6 := hS.mv.cell 6
        simp only [List.setIfInBounds_toArray, List.set_cons_zero, List.set_cons_succ, List.getElem?_toArray, List.getElem?_cons_zero, List.getElem?_cons_succ] at m0 m1 m2 m3 m4 m5 m6
        have f2 := hS.mv.frozen 2
        have hgm := hS.mv.lt
        clear hS
        have HT2 := Lib.hid (HS2.out.set (by omega) 2 (.int .i64 (y1 % 6 + 1)))
        go_wp2_with fail
        refine (StR.call HT2.out (by omega) hs).mono ?_
        rintro e w3 ⟨rfl, hS3⟩
        rw [HY2.out]
        have HS3 := Lib.hid hS3
        have hS := HS3.out
        have m0 := hS.mv.cell 0
        have m1 := hS.mv.cell 1
        have m2 := hS.mv.cell 2
        have m3 := hS.mv.cell 3
        have m4 := hS.mv.cell 4
        have m5 := hS.mv.cell 5
        have m6 := hS.mv.cell 6
        simp only [List.setIfInBounds_toArray, List.set_cons_zero, List.set_cons_succ, List.getElem?_toArray, List.getElem?_cons_zero, List.getElem?_cons_succ] at m0 m1 m2 m3 m4 m5 m6
        have f3 := hS.mv.frozen 3
        have hgm := hS.mv.lt
        clear hS
        have HT3 := Lib.hid (HS3.out.set (by omega) 3 (.int .i64 (y2 % 5)))
        go_wp2_with fail
        refine (StR.call HT3.out (by omega) hs).mono ?_
        rintro e w4 ⟨rfl, hS4⟩
        rw [HY3.out]
        have HS4 := Lib.hid hS4
        have hS := HS4.out
        have m0 := hS.mv.cell 0
        have m1 := hS.mv.cell 1
        have m2 := hS.mv.cell 2
        have m3 := hS.mv.cell 3
        have m4 := hS.mv.cell 4
        have m5 := hS.mv.cell 5
        have m6 := hS.mv.cell 6
        simp only [List.setIfInBounds_toArray, List.set_cons_zero, List.set_cons_succ, List.getElem?_toArray, List.getElem?_cons_zero, List.getElem?_cons_succ] at m0 m1 m2 m3 m4 m5 m6
        have f4 := hS.mv.frozen 4
        have hgm := hS.mv.lt
        clear hS
        have hE := HS4.out
        have hbz := hE.below.size
        have HSE := Lib.hid (hE.set (by omega) 4 (.int .i64 (y3 % 10)))
        clear hE
        go_wp2_with (at_builtin; refine wpList_append_mv rfl (.tmp 83) (.tmp 85) 61 66 i0 _ rfl Try.underlying61 hi hz0 hz1 hz2 rfl rfl (World.ownsRow.alloc HSE.out.own _) rfl (Blk.newAt _ 66 #[.int .i64 1, .int .i64 (y0 % 4), .int .i64 (y1 % 6 + 1), .int .i64 (y2 % 5), .int .i64 (y3 % 10), .int .i64 0, .int .u64 0] (by simp)) rfl rfl (by omega) ?_ ?_; (have h9 := HSE.out.rd.lt; simp at h9 ⊢; omega); intro A' c' w' ho' hb')
        refine ⟨⟨j + 1, p + 4, Lib.hid ?_, Lib.hid ?_, by omega, Lib.hid ⟨A', c', rfl, ?_⟩, Lib.hid ?_, ?_⟩, by simp [lenV]; omega⟩
        · show posA s j + mvN s (posA s j) = _
          rw [hp.out, HN.out]
          have hkk := KK.out
          simp only [if_pos (show y0 / 4 % 8 < 2 by omega)]
        · intro i hi
          rcases Nat.lt_or_ge i j with h | h
          · exact hall.out i h
          · obtain rfl : i = j := by omega
            rw [hp.out]
            exact ⟨hps, hj3⟩
        · rw [mvsC_succ, hp.out, HL.out]
          have hkk := KK.out
          simp only [if_pos (show y0 / 4 % 8 < 2 by omega)]
          simpa [mvV, Int.add_comm] using ho'
        · exact (HSE.out.rd.below ((Below.refl _ _).alloc (by have := HSE.out.rd.lt; omega) (.cells #[.int .i64 1, .int .i64 (y0 % 4), .int .i64 (y1 % 6 + 1), .int .i64 (y2 % 5), .int .i64 (y3 % 10), .int .i64 0, .int .u64 0] 66))).below hb'
        · exact (HSE.out.below.alloc HSE.out.below.size _).trans (hb'.mono (by omega))
      · skip
        have d0 : (y0 / 4 % 8 == 0) = false := by simp; omega
        have d1 : (y0 / 4 % 8 == 1) = false := by simp; omega
        have d2 : (y0 / 4 % 8 == 2) = true := by simp; omega
        have d3 : (y0 / 4 % 8 == 3) = false := by simp; omega
        have d4 : (y0 / 4 % 8 == 4) = false := by simp; omega
        have d5 : (y0 / 4 % 8 == 5) = false := by simp; omega
        have d6 : (y0 / 4 % 8 == 6) = false := by simp; omega
        have d7 : (y0 / 4 % 8 == 7) = false := by simp; omega
        have KK := Lib.hid hk
        clear hk
        have HST : Hid (StR w s (w.heap.size + 1) (p + 1) w1.heap.size #[.int .i64 2, .int .i64 (y0 % 4), .int .i64 0, .int .i64 0, .int .i64 0, .int .i64 0, .int .u64 0] 66 (.slice A j c) j (w1.alloc (.cells #[.int .i64 2, .int .i64 (y0 % 4), .int .i64 0, .int .i64 0, .int .i64 0, .int .i64 0, .int .u64 0] 66))) := StR.start HR1.out HO1.out hb1 _
        go_wp2_with fail
        refine (StR.call HST.out (by omega) hs).mono ?_
        rintro e w2 ⟨rfl, hS2⟩
        rw [HY1.out]
        have HS2 := Lib.hid hS2
        have hS := HS2.out
        have m0 := hS.mv.cell 0
        have m1 := hS.mv.cell 1
        have m2 := hS.mv.cell 2
        have m3 := hS.mv.cell 3
        have m4 := hS.mv.cell 4
        have m5 := hS.mv.cell 5
        have m6 := hS.mv.cell 6
        simp only [List.setIfInBounds_toArray, List.set_cons_zero, List.set_cons_succ, List.getElem?_toArray, List.getElem?_cons_zero, List.getElem?_cons_succ] at m0 m1 m2 m3 m4 m5 m6
        have f5 := hS.mv.frozen 5
        have hgm := hS.mv.lt
        clear hS
        have hE := HS2.out
        have hbz := hE.below.size
        have HSE := Lib.hid (hE.set (by omega) 5 (.int .i64 (y1 % 100 + 1)))
        clear hE
        go_wp2_with (at_builtin; refine wpList_append_mv rfl (.tmp 83) (.tmp 85) 61 66 i0 _ rfl Try.underlying61 hi hz0 hz1 hz2 rfl rfl (World.ownsRow.alloc HSE.out.own _) rfl (Blk.newAt _ 66 #[.int .i64 2, .int .i64 (y0 % 4), .int .i64 0, .int .i64 0, .int .i64 0, .int .i64 (y1 % 100 + 1), .int .u64 0] (by simp)) rfl rfl (by omega) ?_ ?_; (have h9 := HSE.out.rd.lt; simp at h9 ⊢; omega); intro A' c' w' ho' hb')
        refine ⟨⟨j + 1, p + 2, Lib.hid ?_, Lib.hid ?_, by omega, Lib.hid ⟨A', c', rfl, ?_⟩, Lib.hid ?_, ?_⟩, by simp [lenV]; omega⟩
        · show posA s j + mvN s (posA s j) = _
          rw [hp.out, HN.out]
          have hkk := KK.out
          simp only [if_neg (show ¬ y0 / 4 % 8 < 2 by omega), if_pos (show y0 / 4 % 8 < 6 by omega)]
        · intro i hi
          rcases Nat.lt_or_ge i j with h | h
          · exact hall.out i h
          · obtain rfl : i = j := by omega
            rw [hp.out]
            exact ⟨hps, hj3⟩
        · rw [mvsC_succ, hp.out, HL.out]
          have hkk := KK.out
          simp only [if_neg (show ¬ y0 / 4 % 8 < 2 by omega), if_pos (show y0 / 4 % 8 < 6 by omega)]
          simpa [mvV, Int.add_comm] using ho'
        · exact (HSE.out.rd.below ((Below.refl _ _).alloc (by have := HSE.out.rd.lt; omega) (.cells #[.int .i64 2, .int .i64 (y0 % 4), .int .i64 0, .int .i64 0, .int .i64 0, .int .i64 (y1 % 100 + 1), .int .u64 0] 66))).below hb'
        · exact (HSE.out.below.alloc HSE.out.below.size _).trans (hb'.mono (by omega))
      · skip
        have d0 : (y0 / 4 % 8 == 0) = false := by simp; omega
        have d1 : (y0 / 4 % 8 == 1) = false := by simp; omega
        have d2 : (y0 / 4 % 8 == 2) = false := by simp; omega
        have d3 : (y0 / 4 % 8 == 3) = true := by simp; omega
        have d4 : (y0 / 4 % 8 == 4) = false := by simp; omega
        have d5 : (y0 / 4 % 8 == 5) = false := by simp; omega
        have d6 : (y0 / 4 % 8 == 6) = false := by simp; omega
        have d7 : (y0 / 4 % 8 == 7) = false := by simp; omega
        have KK := Lib.hid hk
        clear hk
        have HST : Hid (StR w s (w.heap.size + 1) (p + 1) w1.heap.size #[.int .i64 2, .int .i64 (y0 % 4), .int .i64 0, .int .i64 0, .int .i64 0, .int .i64 0, .int .u64 0] 66 (.slice A j c) j (w1.alloc (.cells #[.int .i64 2, .int .i64 (y0 % 4), .int .i64 0, .int .i64 0, .int .i64 0, .int .i64 0, .int .u64 0] 66))) := StR.start HR1.out HO1.out hb1 _
        go_wp2_with fail
        refine (StR.call HST.out (by omega) hs).mono ?_
        rintro e w2 ⟨rfl, hS2⟩
        rw [HY1.out]
        have HS2 := Lib.hid hS2
        have hS := HS2.out
        have m0 := hS.mv.cell 0
        have m1 := hS.mv.cell 1
        have m2 := hS.mv.cell 2
        have m3 := hS.mv.cell 3
        have m4 := hS.mv.cell 4
        have m5 := hS.mv.cell 5
        have m6 := hS.mv.cell 6
        simp only [List.setIfInBounds_toArray, List.set_cons_zero, List.set_cons_succ, List.getElem?_toArray, List.getElem?_cons_zero, List.getElem?_cons_succ] at m0 m1 m2 m3 m4 m5 m6
        have f5 := hS.mv.frozen 5
        have hgm := hS.mv.lt
        clear hS
        have hE := HS2.out
        have hbz := hE.below.size
        have HSE := Lib.hid (hE.set (by omega) 5 (.int .i64 (y1 % 100 + 1)))
        clear hE
        go_wp2_with (at_builtin; refine wpList_append_mv rfl (.tmp 83) (.tmp 85) 61 66 i0 _ rfl Try.underlying61 hi hz0 hz1 hz2 rfl rfl (World.ownsRow.alloc HSE.out.own _) rfl (Blk.newAt _ 66 #[.int .i64 2, .int .i64 (y0 % 4), .int .i64 0, .int .i64 0, .int .i64 0, .int .i64 (y1 % 100 + 1), .int .u64 0] (by simp)) rfl rfl (by omega) ?_ ?_; (have h9 := HSE.out.rd.lt; simp at h9 ⊢; omega); intro A' c' w' ho' hb')
        refine ⟨⟨j + 1, p + 2, Lib.hid ?_, Lib.hid ?_, by omega, Lib.hid ⟨A', c', rfl, ?_⟩, Lib.hid ?_, ?_⟩, by simp [lenV]; omega⟩
        · show posA s j + mvN s (posA s j) = _
          rw [hp.out, HN.out]
          have hkk := KK.out
          simp only [if_neg (show ¬ y0 / 4 % 8 < 2 by omega), if_pos (show y0 / 4 % 8 < 6 by omega)]
        · intro i hi
          rcases Nat.lt_or_ge i j with h | h
          · exact hall.out i h
          · obtain rfl : i = j := by omega
            rw [hp.out]
            exact ⟨hps, hj3⟩
        · rw [mvsC_succ, hp.out, HL.out]
          have hkk := KK.out
          simp only [if_neg (show ¬ y0 / 4 % 8 < 2 by omega), if_pos (show y0 / 4 % 8 < 6 by omega)]
          simpa [mvV, Int.add_comm] using ho'
        · exact (HSE.out.rd.below ((Below.refl _ _).alloc (by have := HSE.out.rd.lt; omega) (.cells #[.int .i64 2, .int .i64 (y0 % 4), .int .i64 0, .int .i64 0, .int .i64 0, .int .i64 (y1 % 100 + 1), .int .u64 0] 66))).below hb'
        · exact (HSE.out.below.alloc HSE.out.below.size _).trans (hb'.mono (by omega))
      · skip
        have d0 : (y0 / 4 % 8 == 0) = false := by simp; omega
        have d1 : (y0 / 4 % 8 == 1) = false := by simp; omega
        have d2 : (y0 / 4 % 8 == 2) = false := by simp; omega
        have d3 : (y0 / 4 % 8 == 3) = false := by simp; omega
        have d4 : (y0 / 4 % 8 == 4) = true := by simp; omega
        have d5 : (y0 / 4 % 8 == 5) = false := by simp; omega
        have d6 : (y0 / 4 % 8 == 6) = false := by simp; omega
        have d7 : (y0 / 4 % 8 == 7) = false := by simp; omega
        have KK := Lib.hid hk
        clear hk
        have HST : Hid (StR w s (w.heap.size + 1) (p + 1) w1.heap.size #[.int .i64 2, .int .i64 (y0 % 4), .int .i64 0, .int .i64 0, .int .i64 0, .int .i64 0, .int .u64 0] 66 (.slice A j c) j (w1.alloc (.cells #[.int .i64 2, .int .i64 (y0 % 4), .int .i64 0, .int .i64 0, .int .i64 0, .int .i64 0, .int .u64 0] 66))) := StR.start HR1.out HO1.out hb1 _
        go_wp2_with fail
        refine (StR.call HST.out (by omega) hs).mono ?_
        rintro e w2 ⟨rfl, hS2⟩
        rw [HY1.out]
        have HS2 := Lib.hid hS2
        have hS := HS2.out
        have m0 := hS.mv.cell 0
        have m1 := hS.mv.cell 1
        have m2 := hS.mv.cell 2
        have m3 := hS.mv.cell 3
        have m4 := hS.mv.cell 4
        have m5 := hS.mv.cell 5
        have m6 := hS.mv.cell 6
        simp only [List.setIfInBounds_toArray, List.set_cons_zero, List.set_cons_succ, List.getElem?_toArray, List.getElem?_cons_zero, List.getElem?_cons_succ] at m0 m1 m2 m3 m4 m5 m6
        have f5 := hS.mv.frozen 5
        have hgm := hS.mv.lt
        clear hS
        have hE := HS2.out
        have hbz := hE.below.size
        have HSE := Lib.hid (hE.set (by omega) 5 (.int .i64 (y1 % 100 + 1)))
        clear hE
        go_wp2_with (at_builtin; refine wpList_append_mv rfl (.tmp 83) (.tmp 85) 61 66 i0 _ rfl Try.underlying61 hi hz0 hz1 hz2 rfl rfl (World.ownsRow.alloc HSE.out.own _) rfl (Blk.newAt _ 66 #[.int .i64 2, .int .i64 (y0 % 4), .int .i64 0, .int .i64 0, .int .i64 0, .int .i64 (y1 % 100 + 1), .int .u64 0] (by simp)) rfl rfl (by omega) ?_ ?_; (have h9 := HSE.out.rd.lt; simp at h9 ⊢; omega); intro A' c' w' ho' hb')
        refine ⟨⟨j + 1, p + 2, Lib.hid ?_, Lib.hid ?_, by omega, Lib.hid ⟨A', c', rfl, ?_⟩, Lib.hid ?_, ?_⟩, by simp [lenV]; omega⟩
        · show posA s j + mvN s (posA s j) = _
          rw [hp.out, HN.out]
          have hkk := KK.out
          simp only [if_neg (show ¬ y0 / 4 % 8 < 2 by omega), if_pos (show y0 / 4 % 8 < 6 by omega)]
        · intro i hi
          rcases Nat.lt_or_ge i j with h | h
          · exact hall.out i h
          · obtain rfl : i = j := by omega
            rw [hp.out]
            exact ⟨hps, hj3⟩
        · rw [mvsC_succ, hp.out, HL.out]
          have hkk := KK.out
          simp only [if_neg (show ¬ y0 / 4 % 8 < 2 by omega), if_pos (show y0 / 4 % 8 < 6 by omega)]
          simpa [mvV, Int.add_comm] using ho'
        · exact (HSE.out.rd.below ((Below.refl _ _).alloc (by have := HSE.out.rd.lt; omega) (.cells #[.int .i64 2, .int .i64 (y0 % 4), .int .i64 0, .int .i64 0, .int .i64 0, .int .i64 (y1 % 100 + 1), .int .u64 0] 66))).below hb'
        · exact (HSE.out.below.alloc HSE.out.below.size _).trans (hb'.mono (by omega))
      · skip
        have d0 : (y0 / 4 % 8 == 0) = false := by simp; omega
        have d1 : (y0 / 4 % 8 == 1) = false := by simp; omega
        have d2 : (y0 / 4 % 8 == 2) = false := by simp; omega
        have d3 : (y0 / 4 % 8 == 3) = false := by simp; omega
        have d4 : (y0 / 4 % 8 == 4) = false := by simp; omega
        have d5 : (y0 / 4 % 8 == 5) = true := by simp; omega
        have d6 : (y0 / 4 % 8 == 6) = false := by simp; omega
        have d7 : (y0 / 4 % 8 == 7) = false := by simp; omega
        have KK := Lib.hid hk
        clear hk
        have HST : Hid (StR w s (w.heap.size + 1) (p + 1) w1.heap.size #[.int .i64 2, .int .i64 (y0 % 4), .int .i64 0, .int .i64 0, .int .i64 0, .int .i64 0, .int .u64 0] 66 (.slice A j c) j (w1.alloc (.cells #[.int .i64 2, .int .i64 (y0 % 4), .int .i64 0, .int .i64 0, .int .i64 0, .int .i64 0, .int .u64 0] 66))) := StR.start HR1.out HO1.out hb1 _
        go_wp2_with fail
        refine (StR.call HST.out (by omega) hs).mono ?_
        rintro e w2 ⟨rfl, hS2⟩
        rw [HY1.out]
        have HS2 := Lib.hid hS2
        have hS := HS2.out
        have m0 := hS.mv.cell 0
        have m1 := hS.mv.cell 1
        have m2 := hS.mv.cell 2
        have m3 := hS.mv.cell 3
        have m4 := hS.mv.cell 4
        have m5 := hS.mv.cell 5
        have m6 := hS.mv.cell 6
        simp only [List.setIfInBounds_toArray, List.set_cons_zero, List.set_cons_succ, List.getElem?_toArray, List.getElem?_cons_zero, List.getElem?_cons_succ] at m0 m1 m2 m3 m4 m5 m6
        have f5 := hS.mv.frozen 5
        have hgm := hS.mv.lt
        clear hS
        have hE := HS2.out
        have hbz := hE.below.size
        have HSE := Lib.hid (hE.set (by omega) 5 (.int .i64 (y1 % 100 + 1)))
        clear hE
        go_wp2_with (at_builtin; refine wpList_append_mv rfl (.tmp 83) (.tmp 85) 61 66 i0 _ rfl Try.underlying61 hi hz0 hz1 hz2 rfl rfl (World.ownsRow.alloc HSE.out.own _) rfl (Blk.newAt _ 66 #[.int .i64 2, .int .i64 (y0 % 4), .int .i64 0, .int .i64 0, .int .i64 0, .int .i64 (y1 % 100 + 1), .int .u64 0] (by simp)) rfl rfl (by omega) ?_ ?_; (have h9 := HSE.out.rd.lt; simp at h9 ⊢; omega); intro A' c' w' ho' hb')
        refine ⟨⟨j + 1, p + 2, Lib.hid ?_, Lib.hid ?_, by omega, Lib.hid ⟨A', c', rfl, ?_⟩, Lib.hid ?_, ?_⟩, by simp [lenV]; omega⟩
        · show posA s j + mvN s (posA s j) = _
          rw [hp.out, HN.out]
          have hkk := KK.out
          simp only [if_neg (show ¬ y0 / 4 % 8 < 2 by omega), if_pos (show y0 / 4 % 8 < 6 by omega)]
        · intro i hi
          rcases Nat.lt_or_ge i j with h | h
          · exact hall.out i h
          · obtain rfl : i = j := by omega
            rw [hp.out]
            exact ⟨hps, hj3⟩
        · rw [mvsC_succ, hp.out, HL.out]
          have hkk := KK.out
          simp only [if_neg (show ¬ y0 / 4 % 8 < 2 by omega), if_pos (show y0 / 4 % 8 < 6 by omega)]
          simpa [mvV, Int.add_comm] using ho'
        · exact (HSE.out.rd.below ((Below.refl _ _).alloc (by have := HSE.out.rd.lt; omega) (.cells #[.int .i64 2, .int .i64 (y0 % 4), .int .i64 0, .int .i64 0, .int .i64 0, .int .i64 (y1 % 100 + 1), .int .u64 0] 66))).below hb'
        · exact (HSE.out.below.alloc HSE.out.below.size _).trans (hb'.mono (by omega))
      · skip
        have d0 : (y0 / 4 % 8 == 0) = false := by simp; omega
        have d1 : (y0 / 4 % 8 == 1) = false := by simp; omega
        have d2 : (y0 / 4 % 8 == 2) = false := by simp; omega
        have d3 : (y0 / 4 % 8 == 3) = false := by simp; omega
        have d4 : (y0 / 4 % 8 == 4) = false := by simp; omega
        have d5 : (y0 / 4 % 8 == 5) = false := by simp; omega
        have d6 : (y0 / 4 % 8 == 6) = true := by simp; omega
        have d7 : (y0 / 4 % 8 == 7) = false := by simp; omega
        have KK := Lib.hid hk
        clear hk
        have HST : Hid (StR w s (w.heap.size + 1) (p + 1) w1.heap.size #[.int .i64 3, .int .i64 (y0 % 4), .int .i64 0, .int .i64 0, .int .i64 0, .int .i64 0, .int .u64 0] 66 (.slice A j c) j (w1.alloc (.cells #[.int .i64 3, .int .i64 (y0 % 4), .int .i64 0, .int .i64 0, .int .i64 0, .int .i64 0, .int .u64 0] 66))) := StR.start HR1.out HO1.out hb1 _
        go_wp2_with fail
        refine (StR.call HST.out (by omega) hs).mono ?_
        rintro e w2 ⟨rfl, hS2⟩
        rw [HY1.out]
        have HS2 := Lib.hid hS2
        have hS := HS2.out
        have m0 := hS.mv.cell 0
        have m1 := hS.mv.cell 1
        have m2 := hS.mv.cell 2
        have m3 := hS.mv.cell 3
        have m4 := hS.mv.cell 4
        have m5 := hS.mv.cell 5
        have m6 := hS.mv.cell 6
        simp only [List.setIfInBounds_toArray, List.set_cons_zero, List.set_cons_succ, List.getElem?_toArray, List.getElem?_cons_zero, List.getElem?_cons_succ] at m0 m1 m2 m3 m4 m5 m6
        have f5 := hS.mv.frozen 5
        have hgm := hS.mv.lt
        clear hS
        have hE := HS2.out
        have hbz := hE.below.size
        have HSE := Lib.hid (hE.set (by omega) 5 (.int .i64 (y1 % 9)))
        clear hE
        go_wp2_with (at_builtin; refine wpList_append_mv rfl (.tmp 83) (.tmp 85) 61 66 i0 _ rfl Try.underlying61 hi hz0 hz1 hz2 rfl rfl (World.ownsRow.alloc HSE.out.own _) rfl (Blk.newAt _ 66 #[.int .i64 3, .int .i64 (y0 % 4), .int .i64 0, .int .i64 0, .int .i64 0, .int .i64 (y1 % 9), .int .u64 0] (by simp)) rfl rfl (by omega) ?_ ?_; (have h9 := HSE.out.rd.lt; simp at h9 ⊢; omega); intro A' c' w' ho' hb')
        refine ⟨⟨j + 1, p + 2, Lib.hid ?_, Lib.hid ?_, by omega, Lib.hid ⟨A', c', rfl, ?_⟩, Lib.hid ?_, ?_⟩, by simp [lenV]; omega⟩
        · show posA s j + mvN s (posA s j) = _
          rw [hp.out, HN.out]
          have hkk := KK.out
          simp only [if_neg (show ¬ y0 / 4 % 8 < 2 by omega), if_neg (show ¬ y0 / 4 % 8 < 6 by omega), if_pos (show y0 / 4 % 8 = 6 by omega)]
        · intro i hi
          rcases Nat.lt_or_ge i j with h | h
          · exact hall.out i h
          · obtain rfl : i = j := by omega
            rw [hp.out]
            exact ⟨hps, hj3⟩
        · rw [mvsC_succ, hp.out, HL.out]
          have hkk := KK.out
          simp only [if_neg (show ¬ y0 / 4 % 8 < 2 by omega), if_neg (show ¬ y0 / 4 % 8 < 6 by omega), if_pos (show y0 / 4 % 8 = 6 by omega)]
          simpa [mvV, Int.add_comm] using ho'
        · exact (HSE.out.rd.below ((Below.refl _ _).alloc (by have := HSE.out.rd.lt; omega) (.cells #[.int .i64 3, .int .i64 (y0 % 4), .int .i64 0, .int .i64 0, .int .i64 0, .int .i64 (y1 % 9), .int .u64 0] 66))).below hb'
        · exact (HSE.out.below.alloc HSE.out.below.size _).trans (hb'.mono (by omega))
      · by_cases k4 : y0 < 128
        · skip
          have d0 : (y0 / 4 % 8 == 0) = false := by simp; omega
          have d1 : (y0 / 4 % 8 == 1) = false := by simp; omega
          have d2 : (y0 / 4 % 8 == 2) = false := by simp; omega
          have d3 : (y0 / 4 % 8 == 3) = false := by simp; omega
          have d4 : (y0 / 4 % 8 == 4) = false := by simp; omega
          have d5 : (y0 / 4 % 8 == 5) = false := by simp; omega
          have d6 : (y0 / 4 % 8 == 6) = false := by simp; omega
          have d7 : (y0 / 4 % 8 == 7) = true := by simp; omega
          have KK := Lib.hid hk
          clear hk
          have HST : Hid (StR w s (w.heap.size + 1) (p + 1) w1.heap.size #[.int .i64 2, .int .i64 (y0 % 4), .int .i64 0, .int .i64 0, .int .i64 0, .int .i64 1, .int .u64 0] 66 (.slice A j c) j (w1.alloc (.cells #[.int .i64 2, .int .i64 (y0 % 4), .int .i64 0, .int .i64 0, .int .i64 0, .int .i64 1, .int .u64 0] 66))) := StR.start HR1.out HO1.out hb1 _
          have hS := HST.out
          have m0 := hS.mv.cell 0
          have m1 := hS.mv.cell 1
          have m2 := hS.mv.cell 2
          have m3 := hS.mv.cell 3
          have m4 := hS.mv.cell 4
          have m5 := hS.mv.cell 5
          have m6 := hS.mv.cell 6
          simp only [List.setIfInBounds_toArray, List.set_cons_zero, List.set_cons_succ, List.getElem?_toArray, List.getElem?_cons_zero, List.getElem?_cons_succ] at m0 m1 m2 m3 m4 m5 m6
          have hgm := hS.mv.lt
          clear hS
          have hE := HST.out
          have hbz := hE.below.size
          have HSE := Lib.hid hE
          clear hE
          go_wp2_with (at_builtin; refine wpList_append_mv rfl (.tmp 83) (.tmp 85) 61 66 i0 _ rfl Try.underlying61 hi hz0 hz1 hz2 rfl rfl (World.ownsRow.alloc HSE.out.own _) rfl (Blk.newAt _ 66 #[.int .i64 2, .int .i64 (y0 % 4), .int .i64 0, .int .i64 0, .int .i64 0, .int .i64 1, .int .u64 0] (by simp)) rfl rfl (by omega) ?_ ?_; (have h9 := HSE.out.rd.lt; simp at h9 ⊢; omega); intro A' c' w' ho' hb')
          refine ⟨⟨j + 1, p + 1, Lib.hid ?_, Lib.hid ?_, by omega, Lib.hid ⟨A', c', rfl, ?_⟩, Lib.hid ?_, ?_⟩, by simp [lenV]; omega⟩
          · show posA s j + mvN s (posA s j) = _
            rw [hp.out, HN.out]
            have hkk := KK.out
            simp only [if_neg (show ¬ y0 / 4 % 8 < 2 by omega), if_neg (show ¬ y0 / 4 % 8 < 6 by omega), if_neg (show ¬ y0 / 4 % 8 = 6 by omega), if_pos k4]
          · intro i hi
            rcases Nat.lt_or_ge i j with h | h
            · exact hall.out i h
            · obtain rfl : i = j := by omega
              rw [hp.out]
              exact ⟨hps, hj3⟩
          · rw [mvsC_succ, hp.out, HL.out]
            have hkk := KK.out
            simp only [if_neg (show ¬ y0 / 4 % 8 < 2 by omega), if_neg (show ¬ y0 / 4 % 8 < 6 by omega), if_neg (show ¬ y0 / 4 % 8 = 6 by omega), if_pos k4]
            simpa [mvV, Int.add_comm] using ho'
          · exact (HSE.out.rd.below ((Below.refl _ _).alloc (by have := HSE.out.rd.lt; omega) (.cells #[.int .i64 2, .int .i64 (y0 % 4), .int .i64 0, .int .i64 0, .int .i64 0, .int .i64 1, .int .u64 0] 66))).below hb'
          · exact (HSE.out.below.alloc HSE.out.below.size _).trans (hb'.mono (by omega))
        · have k4' : 128 ≤ y0 := by omega
          have d0 : (y0 / 4 % 8 == 0) = false := by simp; omega
          have d1 : (y0 / 4 % 8 == 1) = false := by simp; omega
          have d2 : (y0 / 4 % 8 == 2) = false := by simp; omega
          have d3 : (y0 / 4 % 8 == 3) = false := by simp; omega
          have d4 : (y0 / 4 % 8 == 4) = false := by simp; omega
          have d5 : (y0 / 4 % 8 == 5) = false := by simp; omega
          have d6 : (y0 / 4 % 8 == 6) = false := by simp; omega
          have d7 : (y0 / 4 % 8 == 7) = true := by simp; omega
          have KK := Lib.hid hk
          clear hk
          have HST : Hid (StR w s (w.heap.size + 1) (p + 1) w1.heap.size #[.int .i64 4, .int .i64 (y0 % 4), .int .i64 0, .int .i64 0, .int .i64 0, .int .i64 0, .int .u64 0] 66 (.slice A j c) j (w1.alloc (.cells #[.int .i64 4, .int .i64 (y0 % 4), .int .i64 0, .int .i64 0, .int .i64 0, .int .i64 0, .int .u64 0] 66))) := StR.start HR1.out HO1.out hb1 _
          go_wp2_with fail
          refine (StR.call HST.out (by omega) hs).mono ?_
          rintro e w2 ⟨rfl, hS2⟩
          rw [HY1.out]
          have HS2 := Lib.hid hS2
          go_wp2_with fail
          refine (StR.call HS2.out (by omega) hs).mono ?_
          rintro e w3 ⟨rfl, hS3⟩
          rw [HY2.out]
          have HS3 := Lib.hid hS3
          have hS := HS3.out
          have m0 := hS.mv.cell 0
          have m1 := hS.mv.cell 1
          have m2 := hS.mv.cell 2
          have m3 := hS.mv.cell 3
          have m4 := hS.mv.cell 4
          have m5 := hS.mv.cell 5
          have m6 := hS.mv.cell 6
          simp only [List.setIfInBounds_toArray, List.set_cons_zero, List.set_cons_succ, List.getElem?_toArray, List.getElem?_cons_zero, List.getElem?_cons_succ] at m0 m1 m2 m3 m4 m5 m6
          have f6 := hS.mv.frozen 6
          have hgm := hS.mv.lt
          clear hS
          have hE := HS3.out
          have hbz := hE.below.size
          have HSE := Lib.hid (hE.set (by omega) 6 (.int .u64 (y1 + 256 * y2)))
          clear hE
          go_wp2_with (at_builtin; refine wpList_append_mv rfl (.tmp 83) (.tmp 85) 61 66 i0 _ rfl Try.underlying61 hi hz0 hz1 hz2 rfl rfl (World.ownsRow.alloc HSE.out.own _) rfl (Blk.newAt _ 66 #[.int .i64 4, .int .i64 (y0 % 4), .int .i64 0, .int .i64 0, .int .i64 0, .int .i64 0, .int .u64 (y1 + 256 * y2)] (by simp)) rfl rfl (by omega) ?_ ?_; (have h9 := HSE.out.rd.lt; simp at h9 ⊢; omega); intro A' c' w' ho' hb')
          refine ⟨⟨j + 1, p + 3, Lib.hid ?_, Lib.hid ?_, by omega, Lib.hid ⟨A', c', rfl, ?_⟩, Lib.hid ?_, ?_⟩, by simp [lenV]; omega⟩
          · show posA s j + mvN s (posA s j) = _
            rw [hp.out, HN.out]
            have hkk := KK.out
            simp only [if_neg (show ¬ y0 / 4 % 8 < 2 by omega), if_neg (show ¬ y0 / 4 % 8 < 6 by omega), if_neg (show ¬ y0 / 4 % 8 = 6 by omega), if_neg (show ¬ y0 < 128 by omega)]
          · intro i hi
            rcases Nat.lt_or_ge i j with h | h
            · exact hall.out i h
            · obtain rfl : i = j := by omega
              rw [hp.out]
              exact ⟨hps, hj3⟩
          · rw [mvsC_succ, hp.out, HL.out]
            have hkk := KK.out
            simp only [if_neg (show ¬ y0 / 4 % 8 < 2 by omega), if_neg (show ¬ y0 / 4 % 8 < 6 by omega), if_neg (show ¬ y0 / 4 % 8 = 6 by omega), if_neg (show ¬ y0 < 128 by omega)]
            simpa [mvV, Int.add_comm] using ho'
          · exact (HSE.out.rd.below ((Below.refl _ _).alloc (by have := HSE.out.rd.lt; omega) (.cells #[.int .i64 4, .int .i64 (y0 % 4), .int .i64 0, .int .i64 0, .int .i64 0, .int .i64 0, .int .u64 (y1 + 256 * y2)] 66))).below hb'
          · exact (HSE.out.below.alloc HSE.out.below.size _).trans (hb'.mono (by omega))
    · have hall' : DecJ s j := ⟨hall.out, by rw [hp.out]; exact hgo⟩
      have HD := Lib.hid hall'
      clear hall'
      rcases Nat.lt_or_ge p s.size with hlt | hge
      · have q0 := hpos hlt
        have q5 : (3000 : Int) ≤ j := by omega
        have d3 : decide ((j : Int) < 3000) = false := by rw [decide_eq_false_iff_not]; omega
        clear hgo hpos hzer
        go_wp2
        go_ret
        exact ⟨A, j, c, rfl, HD.out, HO.out.mono (by omega), hb⟩
      · have q0 := hzer hge
        have d3 : decide (0 < n0) = false := by rw [decide_eq_false_iff_not]; omega
        have q0' := Lib.hid q0
        clear q0
        clear hgo hpos hzer
        go_wp2
        go_ret
        exact ⟨A, j, c, rfl, HD.out, HO.out.mono (by omega), hb⟩
end Go.Proofs.Ytfpfhiogfjlpaaa
