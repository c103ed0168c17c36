/-
  What script.Decode returns. For texts of at most 4000 bytes.
-/
import Derived.Test.YtfpfhiogfjlpaaaDecS
import Derived.Test.YtfpfhiogfjlpaaaClone
namespace Go.Proofs.Ytfpfhiogfjlpaaa
open Go.RowKit
set_option linter.unusedSimpArgs false
set_option linter.unusedVariables false
attribute [local go_sem ↓] Go.wp_at_zero Go.wp_at_succ

theorem infoMv : (Try.prog.info? 67).map (fun i => (i.zero, i.size, i.bytes)) = some (some (.agg #[.int .i64 0, .int .i64 0, .int .i64 0, .int .i64 0, .int .i64 0, .int .i64 0, .int .u64 0]), 7, 56) := by kernel_rfl
/-- The moves lie in a slice of the call's own. -/
def MvOut (s : ByteArray) (t : TypeId) (w : World) (e : Ending) (w' : World) : Prop :=
  ∃ A j c, e = .returned (.slice A j c) ∧ DecJ s j ∧ w'.ownsRow w.heap.size t 7 (.slice A j c) j (mvsC s j) ∧ Below w.heap.size w w'
def lenV : Value → Nat | .slice _ n _ => n | _ => 0

theorem or_low (x y : Int) (h0 : 0 ≤ x) (h1 : x ≤ 255) (h2 : 0 ≤ y) (h3 : y ≤ 255) : bits .or .u64 x (y * 256) = x + 256 * y := by
  obtain ⟨a, rfl⟩ := Int.eq_ofNat_of_zero_le h0
  obtain ⟨b, rfl⟩ := Int.eq_ofNat_of_zero_le h2
  have e : ((b : Int) * 256) = ((2 ^ 8 * b : Nat) : Int) := by omega
  have h : a ||| 2 ^ 8 * b = a + 256 * b := by
    rw [Nat.or_comm, ← Nat.two_pow_add_eq_or_of_lt (by omega)]
    omega
  rw [e]
  rw [u64_or_nat _ _ (by omega) (by omega), h]
  omega

/-- The reader stands at byte p; it is block w0 + 1 beside the text in block w0. -/
structure At0 (s : ByteArray) (g p : Nat) (w : World) : Prop where
  at_ : Blk w (g + 1) 3 #[.int .i64 (p : Int)]
  str : Blk w g 9 #[.string s]
theorem At0.far {s : ByteArray} {g p : Nat} {w : World} (h : At0 s g p w) {q : Addr} (h1 : g + 1 < q.block) (u : Value) : At0 s g p (w.setCell q u) := ⟨h.at_.far (by omega) u, h.str.far (by omega) u⟩
theorem At0.alloc {s : ByteArray} {g p : Nat} {w : World} (h : At0 s g p w) (o : Obj) : At0 s g p (w.alloc o) := ⟨h.at_.alloc o, h.str.alloc o⟩
theorem nextP (s : ByteArray) (g p : Nat) (w : World) (h : At0 s g p w) (hsz : s.size ≤ 4000) (hp : p ≤ 100000) :
    Calls Try.prog 62 #[.pointer (some ⟨g + 1, 0, none⟩), .pointer (some ⟨g, 0, none⟩)] w fun e w' => e = .returned (.int .i64 (byA s p)) ∧ At0 s g (p + 1) w' ∧ Keeps (fun b => b = g + 1) w w' :=
  (next_any s (g + 1) g p (p : Int) w rfl (h.at_.cell 0) (h.at_.frozen 0) (h.str.cell 0) (by omega) hsz hp).mono fun e w' ⟨he, hw⟩ => ⟨he, by
    subst hw
    have h1 := h.at_.set_ 0 (.int .i64 ((p : Int) + 1))
    exact ⟨⟨h1, h.str.far (by simp) _⟩, Keeps.setCell (Keeps.refl (fun b => b = g + 1) w) (p := ⟨g + 1, 0, none⟩) (.inl rfl) _⟩⟩


/-- The state of a round: the reader at byte p, the move in block gm, the moves so far, in a world grown over W. -/
structure StD (W : World) (s : ByteArray) (g p gm : Nat) (M : Array Value) (t : TypeId) (v : Value) (j : Nat) (w : World) : Prop where
  at0 : At0 s g p w
  mv : Blk w gm t M
  own : w.ownsRow (g + 2) t 7 v j (mvsC s j)
  og : ∀ k, v.ownBlock = some k → k < gm
  lt : g + 1 < gm
  below : Below W.heap.size W w
theorem ownsRow_keeps {w w' : World} {B b : Nat} {t : TypeId} {v : Value} {n : Nat} {xs : List Value} (h : w.ownsRow B t 7 v n xs) (hk : Keeps (fun x => x = b) w w') (hb : ∀ k, v.ownBlock = some k → k ≠ b) : w'.ownsRow B t 7 v n xs := by
  refine World.ownsRow.kept (row := some b) h ⟨hk.os, hk.tape, hk.output, hk.size, fun k hlt hne => hk.block k hlt (fun e => hne (by rw [e]))⟩ ?_
  cases ho : v.ownBlock with
  | none => exact .inl rfl
  | some k => exact .inr fun e => hb k ho (Option.some.inj e)
theorem StD.call {W : World} {s : ByteArray} {g p gm : Nat} {M : Array Value} {t : TypeId} {v : Value} {j : Nat} {w : World} (h : StD W s g p gm M t v j w) (hW : W.heap.size ≤ g) (hsz : s.size ≤ 4000) (hp : p ≤ 100000) :
    Calls Try.prog 62 #[.pointer (some ⟨g + 1, 0, none⟩), .pointer (some ⟨g, 0, none⟩)] w fun e w' => e = .returned (.int .i64 (byA s p)) ∧ StD W s g (p + 1) gm M t v j w' :=
  (nextP s g p w h.at0 hsz hp).mono fun e w' ⟨he, hA, hK⟩ => ⟨he, hA, (hK.block gm h.mv.lt (by have := h.lt; omega)).trans h.mv, ownsRow_keeps h.own hK (fun k hk e => by have := (World.ownsRow.lt h.own k hk).1; omega), h.og, h.lt, h.below.trans (hK.below h.below.size (fun b hb e => by omega))⟩
theorem StD.set {W : World} {s : ByteArray} {g p gm : Nat} {M : Array Value} {t : TypeId} {v : Value} {j : Nat} {w : World} (h : StD W s g p gm M t v j w) (hW : W.heap.size ≤ g) (i : Nat) (u : Value) :
    StD W s g p gm (M.setIfInBounds i u) t v j (w.setCell ⟨gm, i, none⟩ u) :=
  ⟨h.at0.far h.lt u, h.mv.set_ i u, ownsRow_keeps h.own (Keeps.setCell (Keeps.refl (fun b => b = gm) w) (p := ⟨gm, i, none⟩) (.inl rfl) u) (fun k hk e => by have := h.og k hk; omega), h.og, h.lt, h.below.setCell (by have := h.lt; show W.heap.size ≤ gm; omega) u⟩
theorem StD.start {W : World} {s : ByteArray} {g p : Nat} {t : TypeId} {v : Value} {j : Nat} {w : World} (hA : At0 s g p w) (ho : w.ownsRow (g + 2) t 7 v j (mvsC s j)) (hb : Below W.heap.size W w) (M : Array Value) :
    StD W s g p w.heap.size M t v j (w.alloc (.cells M t)) :=
  ⟨hA.alloc _, Blk.new _ _ _, World.ownsRow.alloc ho _, fun k hk => (World.ownsRow.lt ho k hk).2, hA.at_.lt, hb.alloc hb.size _⟩

set_option maxRecDepth 100000 in
set_option maxHeartbeats 4000000 in
theorem decode_any (s : ByteArray) (w : World) (hs : s.size ≤ 4000) :
    Calls Try.prog 42 #[.string s] w (MvOut s 67 w) := by
  obtain ⟨i0, hi, hz0, hz1, hz2⟩ := info_parts infoMv
  go_enter Try.func42, Try.ntmps42
  go_wp2
  go_loopw [3] (fun l wr => ∃ (j p : Nat), Hid (posA s j = p) ∧ Hid (∀ i, i < j → posA s i < s.size ∧ i < 3000) ∧ j ≤ 3000 ∧ Hid (∃ A c, l = .slice A j c ∧ wr.ownsRow (w.heap.size + 2) 67 7 (.slice A j c) j (mvsC s j)) ∧ Hid (At0 s w.heap.size p wr) ∧ Below w.heap.size w wr) (fun l _ => 3001 - lenV l)
  case atStart => exact ⟨0, 0, Lib.hid rfl, Lib.hid (fun i hi => absurd hi (by omega)), by omega, Lib.hid ⟨none, 0, rfl, World.ownsRow_nil _ _ _ _⟩, Lib.hid ⟨Blk.newAt _ _ _ (by simp), (Blk.new _ _ _).alloc _⟩, by go_grown⟩
  case round =>
    obtain ⟨j, p, hp, hall, hj, hex, HA0, hb⟩ := hrel
    obtain ⟨A, c, rfl, hown⟩ := hex.out
    have HO := Lib.hid hown
    clear hown hex
    have a0 := HA0.out.at_.cell 0
    have s0 := HA0.out.str.cell 0
    simp only [List.getElem?_toArray, List.getElem?_cons_zero] at a0 s0
    have hgl := HA0.out.at_.lt
    have hpl := posA_le s j
    rw [hp.out] at hpl
    by_cases hgo : p < s.size ∧ j < 3000
    · obtain ⟨hps, hj3⟩ := hgo
      have q1 : (p : Int) < s.size := by omega
      have q2 : (j : Int) < 3000 := by omega
      have y0b := byA_bd s p
      have y1b := byA_bd s (p + 1)
      have y2b := byA_bd s (p + 1 + 1)
      have y3b := byA_bd s (p + 1 + 1 + 1)
      have HL : Hid (mvL s p = if byA s p / 4 % 8 < 2 then [1, byA s p % 4, byA s (p + 1) % 6 + 1, byA s (p + 1 + 1) % 5, byA s (p + 1 + 1 + 1) % 10, 0, 0]
        else if byA s p / 4 % 8 < 6 then [2, byA s p % 4, 0, 0, 0, byA s (p + 1) % 100 + 1, 0]
        else if byA s p / 4 % 8 = 6 then [3, byA s p % 4, 0, 0, 0, byA s (p + 1) % 9, 0]
        else if byA s p < 128 then [2, byA s p % 4, 0, 0, 0, 1, 0]
        else [4, byA s p % 4, 0, 0, 0, 0, byA s (p + 1) + 256 * byA s (p + 1 + 1)]) := rfl
      have HN : Hid (mvN s p = if byA s p / 4 % 8 < 2 then 4 else if byA s p / 4 % 8 < 6 then 2 else if byA s p / 4 % 8 = 6 then 2 else if byA s p < 128 then 1 else 3) := rfl
      obtain ⟨y0, hy0⟩ : ∃ y, byA s p = y := ⟨_, rfl⟩
      obtain ⟨y1, hy1⟩ : ∃ y, byA s (p + 1) = y := ⟨_, rfl⟩
      obtain ⟨y2, hy2⟩ : ∃ y, byA s (p + 1 + 1) = y := ⟨_, rfl⟩
      obtain ⟨y3, hy3⟩ : ∃ y, byA s (p + 1 + 1 + 1) = y := ⟨_, rfl⟩
      rw [hy0] at y0b HL HN
      rw [hy1] at y1b HL
      rw [hy2] at y2b HL
      rw [hy3] at y3b HL
      have HY0 := Lib.hid hy0
      have HY1 := Lib.hid hy1
      have HY2 := Lib.hid hy2
      have HY3 := Lib.hid hy3
      clear hy0 hy1 hy2 hy3
      go_wp2_with fail
      refine (nextP s w.heap.size p _ HA0.out hs (by omega)).mono ?_
      rintro e w1 ⟨rfl, hA1, hK1⟩
      rw [HY0.out]
      have hO1 := ownsRow_keeps HO.out hK1 (fun k hk e => by have := (World.ownsRow.lt HO.out k hk).1; omega)
      have hb1 : Below w.heap.size w w1 := hb.trans (hK1.below hb.size (fun b hb e => by omega))
      have HA1 := Lib.hid hA1
      have HO1 := Lib.hid hO1
      clear hA1 hO1 hK1 HO hb a0 s0 HA0 hgl
      have hg1 := HA1.out.at_.lt
      by_cases k1 : y0 / 4 % 8 < 2
      · have HST : Hid (StD w s w.heap.size (p + 1) w1.heap.size #[.int .i64 1, .int .i64 (y0 % 4), .int .i64 0, .int .i64 0, .int .i64 0, .int .i64 0, .int .u64 0] 67 (.slice A j c) j (w1.alloc (.cells #[.int .i64 1, .int .i64 (y0 % 4), .int .i64 0, .int .i64 0, .int .i64 0, .int .i64 0, .int .u64 0] 67))) := StD.start HA1.out HO1.out hb1 _
        go_wp2_with fail
        refine (StD.call HST.out (Nat.le_refl _) hs (by omega)).mono ?_
        rintro e w2 ⟨rfl, hS2⟩
        rw [HY1.out]
        have HS2 := Lib.hid hS2
        clear hS2
        go_wp2_with fail
        refine (StD.call HS2.out (Nat.le_refl _) hs (by omega)).mono ?_
        rintro e w3 ⟨rfl, hS3⟩
        rw [HY2.out]
        have HS3 := Lib.hid hS3
        clear hS3
        go_wp2_with fail
        refine (StD.call HS3.out (Nat.le_refl _) hs (by omega)).mono ?_
        rintro e w4 ⟨rfl, hS4⟩
        rw [HY3.out]
        have HS4 := Lib.hid hS4
        clear hS4
        have hS := HS4.out
        have m0 := hS.mv.cell 0
        have m1 := hS.mv.cell 1
        have m2 := hS.mv.cell 2
        have m3 := hS.mv.cell 3
        have m4 := hS.mv.cell 4
        have m5 := hS.mv.cell 5
        have m6 := hS.mv.cell 6
        simp only [List.getElem?_toArray, List.getElem?_cons_zero, List.getElem?_cons_succ] at m0 m1 m2 m3 m4 m5 m6
        have f2 := hS.mv.frozen 2
        have f3 := hS.mv.frozen 3
        have f4 := hS.mv.frozen 4
        have hgm := hS.mv.lt
        have hE := (((hS.set (Nat.le_refl _) 2 (.int .i64 (1 + y1 % 6))).set (Nat.le_refl _) 3 (.int .i64 (y2 % 5))).set (Nat.le_refl _) 4 (.int .i64 (y3 % 10)))
        have hbz := hE.below.size
        have HSE := Lib.hid hE
        clear hS hE
        go_wp2_with (at_builtin; refine wpList_append_mv rfl (.tmp 75) (.tmp 77) 63 67 i0 _ rfl Try.underlying63 hi hz0 hz1 hz2 rfl rfl (World.ownsRow.alloc HSE.out.own _) rfl (Blk.newAt _ 67 #[.int .i64 1, .int .i64 (y0 % 4), .int .i64 (1 + y1 % 6), .int .i64 (y2 % 5), .int .i64 (y3 % 10), .int .i64 0, .int .u64 0] (by simp)) rfl rfl (by omega) ?_ ?_; (have h9 := HSE.out.at0.at_.lt; simp at h9 ⊢; omega); intro A' c' w' ho' hb')
        have hbb := hb'
        refine ⟨⟨j + 1, p + 4, Lib.hid ?_, Lib.hid ?_, by omega, Lib.hid ⟨A', c', rfl, ?_⟩, Lib.hid ?_, ?_⟩, by simp [lenV]; omega⟩
        · show posA s j + mvN s (posA s j) = _
          rw [hp.out, HN.out]
          simp only [if_pos k1]
        · intro i hi
          rcases Nat.lt_or_ge i j with h | h
          · exact hall.out i h
          · obtain rfl : i = j := by omega
            rw [hp.out]
            exact ⟨hps, hj3⟩
        · rw [mvsC_succ, hp.out, HL.out]
          simp only [if_pos k1]
          simpa [mvV, Int.add_comm] using ho'
        · have h9 := (HSE.out.at0.alloc (.cells #[.int .i64 1, .int .i64 (y0 % 4), .int .i64 (1 + y1 % 6), .int .i64 (y2 % 5), .int .i64 (y3 % 10), .int .i64 0, .int .u64 0] 67))
          exact ⟨h9.at_.below hb' (by omega), h9.str.below hb' (by omega)⟩
        · exact (HSE.out.below.alloc HSE.out.below.size _).trans (hb'.mono (by omega))
      · have k1' : 2 ≤ y0 / 4 % 8 := by omega
        by_cases k2 : y0 / 4 % 8 < 6
        · skip
          have HST : Hid (StD w s w.heap.size (p + 1) w1.heap.size #[.int .i64 2, .int .i64 (y0 % 4), .int .i64 0, .int .i64 0, .int .i64 0, .int .i64 0, .int .u64 0] 67 (.slice A j c) j (w1.alloc (.cells #[.int .i64 2, .int .i64 (y0 % 4), .int .i64 0, .int .i64 0, .int .i64 0, .int .i64 0, .int .u64 0] 67))) := StD.start HA1.out HO1.out hb1 _
          go_wp2_with fail
          refine (StD.call HST.out (Nat.le_refl _) hs (by omega)).mono ?_
          rintro e w2 ⟨rfl, hS2⟩
          rw [HY1.out]
          have HS2 := Lib.hid hS2
          clear hS2
          have hS := HS2.out
          have m0 := hS.mv.cell 0
          have m1 := hS.mv.cell 1
          have m2 := hS.mv.cell 2
          have m3 := hS.mv.cell 3
          have m4 := hS.mv.cell 4
          have m5 := hS.mv.cell 5
          have m6 := hS.mv.cell 6
          simp only [List.getElem?_toArray, List.getElem?_cons_zero, List.getElem?_cons_succ] at m0 m1 m2 m3 m4 m5 m6
          have f5 := hS.mv.frozen 5
          have hgm := hS.mv.lt
          have hE := (hS.set (Nat.le_refl _) 5 (.int .i64 (1 + y1 % 100)))
          have hbz := hE.below.size
          have HSE := Lib.hid hE
          clear hS hE
          go_wp2_with (at_builtin; refine wpList_append_mv rfl (.tmp 75) (.tmp 77) 63 67 i0 _ rfl Try.underlying63 hi hz0 hz1 hz2 rfl rfl (World.ownsRow.alloc HSE.out.own _) rfl (Blk.newAt _ 67 #[.int .i64 2, .int .i64 (y0 % 4), .int .i64 0, .int .i64 0, .int .i64 0, .int .i64 (1 + y1 % 100), .int .u64 0] (by simp)) rfl rfl (by omega) ?_ ?_; (have h9 := HSE.out.at0.at_.lt; simp at h9 ⊢; omega); intro A' c' w' ho' hb')
          have hbb := hb'
          refine ⟨⟨j + 1, p + 2, Lib.hid ?_, Lib.hid ?_, by omega, Lib.hid ⟨A', c', rfl, ?_⟩, Lib.hid ?_, ?_⟩, by simp [lenV]; omega⟩
          · show posA s j + mvN s (posA s j) = _
            rw [hp.out, HN.out]
            simp only [if_neg (show ¬ y0 / 4 % 8 < 2 by omega), if_pos k2]
          · intro i hi
            rcases Nat.lt_or_ge i j with h | h
            · exact hall.out i h
            · obtain rfl : i = j := by omega
              rw [hp.out]
              exact ⟨hps, hj3⟩
          · rw [mvsC_succ, hp.out, HL.out]
            simp only [if_neg (show ¬ y0 / 4 % 8 < 2 by omega), if_pos k2]
            simpa [mvV, Int.add_comm] using ho'
          · have h9 := (HSE.out.at0.alloc (.cells #[.int .i64 2, .int .i64 (y0 % 4), .int .i64 0, .int .i64 0, .int .i64 0, .int .i64 (1 + y1 % 100), .int .u64 0] 67))
            exact ⟨h9.at_.below hb' (by omega), h9.str.below hb' (by omega)⟩
          · exact (HSE.out.below.alloc HSE.out.below.size _).trans (hb'.mono (by omega))
        · have k2' : 6 ≤ y0 / 4 % 8 := by omega
          by_cases k3 : y0 / 4 % 8 = 6
          · have d6 : (y0 / 4 % 8 == 6) = true := by simpa using k3
            have K3 := Lib.hid k3
            clear k3
            have HST : Hid (StD w s w.heap.size (p + 1) w1.heap.size #[.int .i64 3, .int .i64 (y0 % 4), .int .i64 0, .int .i64 0, .int .i64 0, .int .i64 0, .int .u64 0] 67 (.slice A j c) j (w1.alloc (.cells #[.int .i64 3, .int .i64 (y0 % 4), .int .i64 0, .int .i64 0, .int .i64 0, .int .i64 0, .int .u64 0] 67))) := StD.start HA1.out HO1.out hb1 _
            go_wp2_with fail
            refine (StD.call HST.out (Nat.le_refl _) hs (by omega)).mono ?_
            rintro e w2 ⟨rfl, hS2⟩
            rw [HY1.out]
            have HS2 := Lib.hid hS2
            clear hS2
            have hS := HS2.out
            have m0 := hS.mv.cell 0
            have m1 := hS.mv.cell 1
            have m2 := hS.mv.cell 2
            have m3 := hS.mv.cell 3
            have m4 := hS.mv.cell 4
            have m5 := hS.mv.cell 5
            have m6 := hS.mv.cell 6
            simp only [List.getElem?_toArray, List.getElem?_cons_zero, List.getElem?_cons_succ] at m0 m1 m2 m3 m4 m5 m6
            have f5 := hS.mv.frozen 5
            have hgm := hS.mv.lt
            have hE := (hS.set (Nat.le_refl _) 5 (.int .i64 (y1 % 9)))
            have hbz := hE.below.size
            have HSE := Lib.hid hE
            clear hS hE
            go_wp2_with (at_builtin; refine wpList_append_mv rfl (.tmp 75) (.tmp 77) 63 67 i0 _ rfl Try.underlying63 hi hz0 hz1 hz2 rfl rfl (World.ownsRow.alloc HSE.out.own _) rfl (Blk.newAt _ 67 #[.int .i64 3, .int .i64 (y0 % 4), .int .i64 0, .int .i64 0, .int .i64 0, .int .i64 (y1 % 9), .int .u64 0] (by simp)) rfl rfl (by omega) ?_ ?_; (have h9 := HSE.out.at0.at_.lt; simp at h9 ⊢; omega); intro A' c' w' ho' hb')
            have hbb := hb'
            refine ⟨⟨j + 1, p + 2, Lib.hid ?_, Lib.hid ?_, by omega, Lib.hid ⟨A', c', rfl, ?_⟩, Lib.hid ?_, ?_⟩, by simp [lenV]; omega⟩
            · show posA s j + mvN s (posA s j) = _
              rw [hp.out, HN.out]
              simp only [if_neg (show ¬ y0 / 4 % 8 < 2 by omega), if_neg (show ¬ y0 / 4 % 8 < 6 by omega), if_pos K3.out]
            · intro i hi
              rcases Nat.lt_or_ge i j with h | h
              · exact hall.out i h
              · obtain rfl : i = j := by omega
                rw [hp.out]
                exact ⟨hps, hj3⟩
            · rw [mvsC_succ, hp.out, HL.out]
              simp only [if_neg (show ¬ y0 / 4 % 8 < 2 by omega), if_neg (show ¬ y0 / 4 % 8 < 6 by omega), if_pos K3.out]
              simpa [mvV, Int.add_comm] using ho'
            · have h9 := (HSE.out.at0.alloc (.cells #[.int .i64 3, .int .i64 (y0 % 4), .int .i64 0, .int .i64 0, .int .i64 0, .int .i64 (y1 % 9), .int .u64 0] 67))
              exact ⟨h9.at_.below hb' (by omega), h9.str.below hb' (by omega)⟩
            · exact (HSE.out.below.alloc HSE.out.below.size _).trans (hb'.mono (by omega))
          · have d6 : (y0 / 4 % 8 == 6) = false := by simpa using k3
            have K3 := Lib.hid k3
            clear k3
            by_cases k4 : y0 < 128
            · skip
              have HST : Hid (StD w s w.heap.size (p + 1) w1.heap.size #[.int .i64 2, .int .i64 (y0 % 4), .int .i64 0, .int .i64 0, .int .i64 0, .int .i64 1, .int .u64 0] 67 (.slice A j c) j (w1.alloc (.cells #[.int .i64 2, .int .i64 (y0 % 4), .int .i64 0, .int .i64 0, .int .i64 0, .int .i64 1, .int .u64 0] 67))) := StD.start HA1.out HO1.out hb1 _
              have hS := HST.out
              have m0 := hS.mv.cell 0
              have m1 := hS.mv.cell 1
              have m2 := hS.mv.cell 2
              have m3 := hS.mv.cell 3
              have m4 := hS.mv.cell 4
              have m5 := hS.mv.cell 5
              have m6 := hS.mv.cell 6
              simp only [List.getElem?_toArray, List.getElem?_cons_zero, List.getElem?_cons_succ] at m0 m1 m2 m3 m4 m5 m6
              have hgm := hS.mv.lt
              have hE := hS
              have hbz := hE.below.size
              have HSE := Lib.hid hE
              clear hS hE
              go_wp2_with (at_builtin; refine wpList_append_mv rfl (.tmp 75) (.tmp 77) 63 67 i0 _ rfl Try.underlying63 hi hz0 hz1 hz2 rfl rfl (World.ownsRow.alloc HSE.out.own _) rfl (Blk.newAt _ 67 #[.int .i64 2, .int .i64 (y0 % 4), .int .i64 0, .int .i64 0, .int .i64 0, .int .i64 1, .int .u64 0] (by simp)) rfl rfl (by omega) ?_ ?_; (have h9 := HSE.out.at0.at_.lt; simp at h9 ⊢; omega); intro A' c' w' ho' hb')
              have hbb := hb'
              refine ⟨⟨j + 1, p + 1, Lib.hid ?_, Lib.hid ?_, by omega, Lib.hid ⟨A', c', rfl, ?_⟩, Lib.hid ?_, ?_⟩, by simp [lenV]; omega⟩
              · show posA s j + mvN s (posA s j) = _
                rw [hp.out, HN.out]
                simp only [if_neg (show ¬ y0 / 4 % 8 < 2 by omega), if_neg (show ¬ y0 / 4 % 8 < 6 by omega), if_neg K3.out, if_pos k4]
              · intro i hi
                rcases Nat.lt_or_ge i j with h | h
                · exact hall.out i h
                · obtain rfl : i = j := by omega
                  rw [hp.out]
                  exact ⟨hps, hj3⟩
              · rw [mvsC_succ, hp.out, HL.out]
                simp only [if_neg (show ¬ y0 / 4 % 8 < 2 by omega), if_neg (show ¬ y0 / 4 % 8 < 6 by omega), if_neg K3.out, if_pos k4]
                simpa [mvV, Int.add_comm] using ho'
              · have h9 := (HSE.out.at0.alloc (.cells #[.int .i64 2, .int .i64 (y0 % 4), .int .i64 0, .int .i64 0, .int .i64 0, .int .i64 1, .int .u64 0] 67))
                exact ⟨h9.at_.below hb' (by omega), h9.str.below hb' (by omega)⟩
              · exact (HSE.out.below.alloc HSE.out.below.size _).trans (hb'.mono (by omega))
            · have k4' : 128 ≤ y0 := by omega
              have HST : Hid (StD w s w.heap.size (p + 1) w1.heap.size #[.int .i64 4, .int .i64 (y0 % 4), .int .i64 0, .int .i64 0, .int .i64 0, .int .i64 0, .int .u64 0] 67 (.slice A j c) j (w1.alloc (.cells #[.int .i64 4, .int .i64 (y0 % 4), .int .i64 0, .int .i64 0, .int .i64 0, .int .i64 0, .int .u64 0] 67))) := StD.start HA1.out HO1.out hb1 _
              go_wp2_with fail
              refine (StD.call HST.out (Nat.le_refl _) hs (by omega)).mono ?_
              rintro e w2 ⟨rfl, hS2⟩
              rw [HY1.out]
              have HS2 := Lib.hid hS2
              clear hS2
              go_wp2_with fail
              refine (StD.call HS2.out (Nat.le_refl _) hs (by omega)).mono ?_
              rintro e w3 ⟨rfl, hS3⟩
              rw [HY2.out]
              have HS3 := Lib.hid hS3
              clear hS3
              have hor := or_low y1 y2 y1b.1 y1b.2 y2b.1 y2b.2
              have hS := HS3.out
              have m0 := hS.mv.cell 0
              have m1 := hS.mv.cell 1
              have m2 := hS.mv.cell 2
              have m3 := hS.mv.cell 3
              have m4 := hS.mv.cell 4
              have m5 := hS.mv.cell 5
              have m6 := hS.mv.cell 6
              simp only [List.getElem?_toArray, List.getElem?_cons_zero, List.getElem?_cons_succ] at m0 m1 m2 m3 m4 m5 m6
              have f6 := hS.mv.frozen 6
              have hgm := hS.mv.lt
              have hE := (hS.set (Nat.le_refl _) 6 (.int .u64 (y1 + 256 * y2)))
              have hbz := hE.below.size
              have HSE := Lib.hid hE
              clear hS hE
              go_wp2_with (at_builtin; refine wpList_append_mv rfl (.tmp 75) (.tmp 77) 63 67 i0 _ rfl Try.underlying63 hi hz0 hz1 hz2 rfl rfl (World.ownsRow.alloc HSE.out.own _) rfl (Blk.newAt _ 67 #[.int .i64 4, .int .i64 (y0 % 4), .int .i64 0, .int .i64 0, .int .i64 0, .int .i64 0, .int .u64 (y1 + 256 * y2)] (by simp)) rfl rfl (by omega) ?_ ?_; (have h9 := HSE.out.at0.at_.lt; simp at h9 ⊢; omega); intro A' c' w' ho' hb')
              have hbb := hb'
              refine ⟨⟨j + 1, p + 3, Lib.hid ?_, Lib.hid ?_, by omega, Lib.hid ⟨A', c', rfl, ?_⟩, Lib.hid ?_, ?_⟩, by simp [lenV]; omega⟩
              · show posA s j + mvN s (posA s j) = _
                rw [hp.out, HN.out]
                simp only [if_neg (show ¬ y0 / 4 % 8 < 2 by omega), if_neg (show ¬ y0 / 4 % 8 < 6 by omega), if_neg K3.out, if_neg (show ¬ y0 < 128 by omega)]
              · intro i hi
                rcases Nat.lt_or_ge i j with h | h
                · exact hall.out i h
                · obtain rfl : i = j := by omega
                  rw [hp.out]
                  exact ⟨hps, hj3⟩
              · rw [mvsC_succ, hp.out, HL.out]
                simp only [if_neg (show ¬ y0 / 4 % 8 < 2 by omega), if_neg (show ¬ y0 / 4 % 8 < 6 by omega), if_neg K3.out, if_neg (show ¬ y0 < 128 by omega)]
                simpa [mvV, Int.add_comm] using ho'
              · have h9 := (HSE.out.at0.alloc (.cells #[.int .i64 4, .int .i64 (y0 % 4), .int .i64 0, .int .i64 0, .int .i64 0, .int .i64 0, .int .u64 (y1 + 256 * y2)] 67))
                exact ⟨h9.at_.below hb' (by omega), h9.str.below hb' (by omega)⟩
              · exact (HSE.out.below.alloc HSE.out.below.size _).trans (hb'.mono (by omega))
    · have hall' : DecJ s j := ⟨hall.out, by rw [hp.out]; exact hgo⟩
      have HD := Lib.hid hall'
      clear hall'
      rcases Nat.lt_or_ge p s.size with hlt | hge
      · have q1 : (p : Int) < s.size := by omega
        have d3 : decide ((j : Int) < 3000) = false := by rw [decide_eq_false_iff_not]; omega
        clear hgo
        go_wp2
        go_ret
        exact ⟨A, j, c, rfl, HD.out, HO.out.mono (by omega), hb⟩
      · have d3 : decide ((p : Int) < s.size) = false := by rw [decide_eq_false_iff_not]; omega
        clear hgo
        go_wp2
        go_ret
        exact ⟨A, j, c, rfl, HD.out, HO.out.mono (by omega), hb⟩
end Go.Proofs.Ytfpfhiogfjlpaaa
