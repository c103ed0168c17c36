/-
  slices.Index, slices.Contains on ints; slices.IndexFunc with judge.Fits's own test. For all values.
-/
import Derived.Test.YtdogjdgfidbfhaaDoorJuC
namespace Go.Proofs.YtdogjdgfidbfhaaDoor
set_option linter.unusedSimpArgs false
set_option linter.unusedVariables false
set_option linter.unusedSectionVars false
open Go.RowKit Go.Maps
set_option linter.unusedSimpArgs false
set_option linter.unusedVariables false
attribute [local go_sem ↓] Go.wp_at_zero Go.wp_at_succ

/-- A slice of ints of which each is a natural number. -/
structure SlN (w : World) (A : Option Addr) (n c : Nat) (O : Nat → Nat) : Prop where
  cap : n ≤ c
  cap63 : c ≤ 9223372036854775807
  at_ : 0 < n → ∃ b off, A = some ⟨b, off, none⟩ ∧ b < w.heap.size ∧ ∀ i : Nat, i < n → w.cell? ⟨b, off + i, none⟩ = some (.int .i64 (O i : Int))
def IdxOf (n : Nat) (P : Nat → Prop) (r : Int) : Prop := (r = -1 ∧ ∀ k, k < n → ¬ P k) ∨ ∃ k, k < n ∧ r = (k : Int) ∧ P k ∧ ∀ j, j < k → ¬ P j
theorem idxOf_exists (n : Nat) (P : Nat → Prop) : ∃ r, IdxOf n P r := by
  obtain ⟨K, h1, h2, h3⟩ := uptoP_exists (fun k => ¬ P k) n
  rcases h3 with h3 | h3
  · exact ⟨-1, .inl ⟨rfl, fun k hk => h2 k (by omega)⟩⟩
  · by_cases hn : K < n
    · exact ⟨(K : Int), .inr ⟨K, hn, rfl, Classical.not_not.1 h3, h2⟩⟩
    · exact ⟨-1, .inl ⟨rfl, fun k hk => h2 k (by omega)⟩⟩
theorem IdxOf.hit {n k : Nat} {P : Nat → Prop} {r : Int} (h : IdxOf n P r) (hk : k < n) (hp : P k) (hm : ∀ j, j < k → ¬ P j) : r = k := by
  rcases h with ⟨_, h⟩ | ⟨k', h1, h2, h3, h4⟩
  · exact absurd hp (h k hk)
  · rcases Nat.lt_trichotomy k k' with e | e | e
    · exact absurd hp (h4 k e)
    · rw [h2, e]
    · exact absurd h3 (hm k' e)
theorem IdxOf.miss {n : Nat} {P : Nat → Prop} {r : Int} (h : IdxOf n P r) (hm : ∀ j, j < n → ¬ P j) : r = -1 := by
  rcases h with ⟨h, _⟩ | ⟨k', h1, h2, h3, h4⟩
  · exact h
  · exact absurd h3 (hm k' h1)
theorem index_any (A : Option Addr) (n c : Nat) (O : Nat → Nat) (v r : Int) (w : World) (h : SlN w A n c O) (hr : IdxOf n (fun k => v = (O k : Int)) r) : Calls Tryd.prog 17 #[.slice A n c, .int .i64 v] w fun e w' => e = .returned (.int .i64 r) ∧ w = w' := by
  have H := Lib.hid h
  have HR := Lib.hid hr
  have hc1 := h.cap
  have hc2 := h.cap63
  clear h hr
  go_enter Tryd.func17, Tryd.ntmps17
  go_wp2
  go_loopw [8] (fun i wr => ∃ k : Nat, k ≤ n ∧ i = .int .i64 k ∧ Below w.heap.size w wr ∧ w = wr ∧ Hid (∀ j, j < k → ¬ v = (O j : Int))) (fun i _ => n - (intOf i).toNat)
  case atStart => exact ⟨0, by omega, rfl, Below.refl _ _, rfl, Lib.hid fun j hj => absurd hj (by omega)⟩
  case round =>
    obtain ⟨k, hk, rfl, _, rfl, hj⟩ := hrel
    by_cases hkn : k < n
    · obtain ⟨b, off, rfl, hblt, hcell⟩ := H.out.at_ (by omega)
      have q1 : (k : Int) < n := by omega
      have c0 := hcell k hkn
      clear hcell
      by_cases e : v = (O k : Int)
      · have hre := HR.out.hit hkn e hj.out
        have d1 : (v == (O k : Int)) = true := by simp [e]
        have d2 : decide (v = (O k : Int)) = true := decide_eq_true e
        clear e
        go_wp2
        go_ret
        exact ⟨by rw [hre]; rfl, rfl⟩
      · have d1 : (v == (O k : Int)) = false := by simp [e]
        have d2 : decide (v = (O k : Int)) = false := decide_eq_false e
        go_wp2
        go_roundw
        case rel => exact ⟨k + 1, by omega, by go_num, Below.refl _ _, trivial, Lib.hid fun j hjk => by
          rcases Nat.lt_or_ge j k with z | z
          · exact hj.out j z
          · obtain rfl : j = k := by omega
            exact e⟩
        case measure => simp [intOf]; omega
    · obtain rfl : k = n := by omega
      have hre := HR.out.miss hj.out
      go_wp2
      go_ret
      exact ⟨by rw [hre]; rfl, rfl⟩
theorem contains_any (A : Option Addr) (n c : Nat) (O : Nat → Nat) (v : Int) (b : Bool) (w : World) (h : SlN w A n c O) (hb : b = true ↔ ∃ k, k < n ∧ v = (O k : Int)) : Calls Tryd.prog 11 #[.slice A n c, .int .i64 v] w fun e w' => e = .returned (.bool b) ∧ w = w' := by
  obtain ⟨r, hr⟩ := idxOf_exists n (fun k => v = (O k : Int))
  have hrb : decide (0 ≤ r) = b := by
    rw [Bool.eq_iff_iff, decide_eq_true_iff, hb]
    rcases hr with ⟨h1, h2⟩ | ⟨k, h1, h2, h3, _⟩
    · exact ⟨fun h => by omega, fun ⟨k, h3, h4⟩ => absurd h4 (h2 k h3)⟩
    · exact ⟨fun _ => ⟨k, h1, h3⟩, fun _ => by omega⟩
  go_enter Tryd.func11, Tryd.ntmps11
  go_wp2_with (go_at_call 17; refine (index_any A n c O v r _ h hr).mono ?_; rintro e w1 ⟨rfl, rfl⟩)
  go_ret
  exact ⟨by rw [← hrb]; rfl, rfl⟩
theorem fits1_any (x0 x1 x2 x3 x4 x5 x6 x7 x8 y0 y1 y2 y3 y4 y5 : Int) (gd : Nat) (b : Bool) (w : World) (h : Blk w gd 46 #[.int .i64 y0, .int .i64 y1, .int .i64 y2, .int .i64 y3, .int .i64 y4, .int .i64 y5]) (hb : b = true ↔ x5 = 0 ∧ x0 = y0 ∧ x1 = y1 ∧ x2 = y2 ∧ x3 = y3) :
    Calls Tryd.prog 10 #[.agg #[.int .i64 x0, .int .i64 x1, .int .i64 x2, .int .i64 x3, .int .i64 x4, .int .i64 x5, .int .i64 x6, .int .i64 x7, .int .i64 x8], .pointer (some ⟨gd, 0, none⟩)] w fun e w' => e = .returned (.bool b) ∧ Below w.heap.size w w' := by
  have hl := h.lt
  have c0 := h.cell 0
  have c1 := h.cell 1
  have c2 := h.cell 2
  have c3 := h.cell 3
  simp only [List.getElem?_toArray, List.getElem?_cons_zero, List.getElem?_cons_succ] at c0 c1 c2 c3
  by_cases e5 : x5 = 0
  · by_cases e0 : x0 = y0
    · have heq := eqOp x1 x2 x3 y1 y2 y3
      have hdb : decide (x1 = y1 ∧ x2 = y2 ∧ x3 = y3) = b := by
        rw [Bool.eq_iff_iff, decide_eq_true_iff, hb]
        exact ⟨fun h => ⟨e5, e0, h⟩, fun h => h.2.2⟩
      simp only [hdb] at heq
      subst e5 e0
      clear hb hdb h
      go_enter Tryd.func10, Tryd.ntmps10
      go_wp2
      go_ret
      exact ⟨rfl, by go_grown⟩
    · obtain rfl : b = false := by rw [← Bool.not_eq_true, hb]; exact fun h => e0 h.2.1
      have d0 : decide (x0 = y0) = false := decide_eq_false e0
      subst e5
      clear hb h
      go_enter Tryd.func10, Tryd.ntmps10
      go_wp2
      go_ret
      exact ⟨rfl, by go_grown⟩
  · obtain rfl : b = false := by rw [← Bool.not_eq_true, hb]; exact fun h => e5 h.1
    have d0 : decide (x5 = 0) = false := decide_eq_false e5
    clear hb h
    go_enter Tryd.func10, Tryd.ntmps10
    go_wp2
    go_ret
    exact ⟨rfl, by go_grown⟩
theorem rowJ_eq (f : Nat → Nat → Int) (a b : Nat) : ∃ x6 x7 x8 : Int, rowJ f (a, b) = [.int .i64 (f a 1), .int .i64 (f a 2), .int .i64 (f a 3), .int .i64 (f a 4), .int .i64 ((a : Int) + 1), .int .i64 (b : Int), .int .i64 x6, .int .i64 x7, .int .i64 x8] := by
  cases b with
  | zero => exact ⟨0, 0, 0, rfl⟩
  | succ b => exact ⟨f b 7, f b 5, f b 6, rfl⟩
theorem fndB_of {f g : Nat → Nat → Int} {n : Nat} {C : CL} (h : CInv f n C) {k i a : Nat} (hi : C[i]? = some (a, 0)) (h0 : f a 1 = g k 0) (h1 : f a 2 = g k 1) (h2 : f a 3 = g k 2) (h3 : f a 4 = g k 3) : fndB f g C k = some i := by
  have ho := (opn_iff h).2 ⟨a, hi, h0⟩
  unfold fndB
  rw [ho]
  dsimp only
  rw [hi]
  dsimp only
  rw [if_pos ⟨h1, h2, h3⟩]
theorem fndB_no {f g : Nat → Nat → Int} {C : CL} {k : Nat} (h : ∀ i a : Nat, C[i]? = some (a, 0) → ¬ (f a 1 = g k 0 ∧ f a 2 = g k 1 ∧ f a 3 = g k 2 ∧ f a 4 = g k 3)) : fndB f g C k = none := by
  cases e : fndB f g C k with
  | none => rfl
  | some i =>
    obtain ⟨_, a, h1, h2, h3, h4, h5, _⟩ := fndB_lt e
    exact absurd ⟨h2, h3, h4, h5⟩ (h i a h1)
def fndR (f g : Nat → Nat → Int) (C : CL) (k : Nat) : Int := match fndB f g C k with | none => -1 | some i => (i : Int)
set_option maxRecDepth 100000 in
set_option maxHeartbeats 4000000 in
theorem indexFunc_any (f g : Nat → Nat → Int) (nn : Nat) (C : CL) (k gd : Nat) (A : Option Addr) (c : Nat) (w : World) (h : SlR 9 w A C.length c (rowsJ f C)) (hI : CInv f nn C) (hl : nn ≤ 60)
    (hd : Blk w gd 46 #[.int .i64 (g k 0), .int .i64 (g k 1), .int .i64 (g k 2), .int .i64 (g k 3), .int .i64 (g k 4), .int .i64 (g k 5)]) :
    Calls Tryd.prog 9 #[.slice A C.length c, .func (.func 10) #[] #[.pointer (some ⟨gd, 0, none⟩)]] w fun e w' => e = .returned (.int .i64 (fndR f g C k)) ∧ Below w.heap.size w w' := by
  have H := Lib.hid h
  have HI := Lib.hid hI
  have HD := Lib.hid hd
  have hc1 := h.cap
  have hc2 := h.cap63
  have hln := hI.len
  have hdl := hd.lt
  generalize hm : C.length = m at *
  have HM := Lib.hid hm
  clear h hI hd hm
  go_enter Tryd.func9, Tryd.ntmps9
  go_wp2
  go_loopw [8] (fun i wr => ∃ q : Nat, q ≤ m ∧ i = .int .i64 q ∧ Below w.heap.size w wr ∧ Hid (∀ i a : Nat, i < q → C[i]? = some (a, 0) → ¬ (f a 1 = g k 0 ∧ f a 2 = g k 1 ∧ f a 3 = g k 2 ∧ f a 4 = g k 3))) (fun i _ => m - (intOf i).toNat)
  case atStart => exact ⟨0, by omega, rfl, Below.refl _ _, Lib.hid fun i a hi => absurd hi (by omega)⟩
  case round =>
    obtain ⟨q, hq, rfl, hB, hj⟩ := hrel
    have hbz := hB.size
    by_cases hqm : q < m
    · obtain ⟨b0, off, rfl, hblt, hcell⟩ := H.out.at_ (by omega)
      have q1 : (q : Int) < m := by omega
      obtain ⟨⟨a, b⟩, hab⟩ : ∃ x, C[q]? = some x := ⟨C[q]'(by rw [HM.out]; exact hqm), List.getElem?_eq_getElem _⟩
      have hrow := rowsJ_get (f := f) hab
      obtain ⟨x6, x7, x8, hx⟩ := rowJ_eq f a b
      rw [hx] at hrow
      have c0 : wr.cell? ⟨b0, off + q * 9, none⟩ = some (.int .i64 (f a 1)) := (hB.cell (p := ⟨b0, off + q * 9, none⟩) hblt).trans (by simpa using hcell q _ hrow 0 _ rfl)
      have c1 : wr.cell? ⟨b0, off + q * 9 + 1, none⟩ = some (.int .i64 (f a 2)) := (hB.cell (p := ⟨b0, off + q * 9 + 1, none⟩) hblt).trans (by simpa using hcell q _ hrow 1 _ rfl)
      have c2 : wr.cell? ⟨b0, off + q * 9 + 2, none⟩ = some (.int .i64 (f a 3)) := (hB.cell (p := ⟨b0, off + q * 9 + 2, none⟩) hblt).trans (by simpa using hcell q _ hrow 2 _ rfl)
      have c3 : wr.cell? ⟨b0, off + q * 9 + 3, none⟩ = some (.int .i64 (f a 4)) := (hB.cell (p := ⟨b0, off + q * 9 + 3, none⟩) hblt).trans (by simpa using hcell q _ hrow 3 _ rfl)
      have c4 : wr.cell? ⟨b0, off + q * 9 + 4, none⟩ = some (.int .i64 ((a : Int) + 1)) := (hB.cell (p := ⟨b0, off + q * 9 + 4, none⟩) hblt).trans (by simpa using hcell q _ hrow 4 _ rfl)
      have c5 : wr.cell? ⟨b0, off + q * 9 + 5, none⟩ = some (.int .i64 (b : Int)) := (hB.cell (p := ⟨b0, off + q * 9 + 5, none⟩) hblt).trans (by simpa using hcell q _ hrow 5 _ rfl)
      have c6 : wr.cell? ⟨b0, off + q * 9 + 6, none⟩ = some (.int .i64 x6) := (hB.cell (p := ⟨b0, off + q * 9 + 6, none⟩) hblt).trans (by simpa using hcell q _ hrow 6 _ rfl)
      have c7 : wr.cell? ⟨b0, off + q * 9 + 7, none⟩ = some (.int .i64 x7) := (hB.cell (p := ⟨b0, off + q * 9 + 7, none⟩) hblt).trans (by simpa using hcell q _ hrow 7 _ rfl)
      have c8 : wr.cell? ⟨b0, off + q * 9 + 8, none⟩ = some (.int .i64 x8) := (hB.cell (p := ⟨b0, off + q * 9 + 8, none⟩) hblt).trans (by simpa using hcell q _ hrow 8 _ rfl)
      have HDW := Lib.hid (HD.out.below hB hdl)
      have HAB := Lib.hid hab
      clear hcell hrow hx hab
      by_cases hmt : b = 0 ∧ f a 1 = g k 0 ∧ f a 2 = g k 1 ∧ f a 3 = g k 2 ∧ f a 4 = g k 3
      · have HRE : Hid (fndR f g C k = (q : Int)) := Lib.hid (by
          unfold fndR
          rw [fndB_of HI.out (by rw [HAB.out, hmt.1]) hmt.2.1 hmt.2.2.1 hmt.2.2.2.1 hmt.2.2.2.2])
        have HCA := fun w h => fits1_any (f a 1) (f a 2) (f a 3) (f a 4) ((a : Int) + 1) (b : Int) x6 x7 x8 (g k 0) (g k 1) (g k 2) (g k 3) (g k 4) (g k 5) gd true w h (by simp; exact ⟨by omega, hmt.2⟩)
        have HC := Lib.hid HCA
        clear HCA hmt
        go_wp2_with (go_at_call 10; refine (HC.out _ HDW.out).mono ?_; rintro e w1 ⟨rfl, hb1⟩; have HB1 := Lib.hid (hB.trans (hb1.mono hbz)))
        go_ret
        exact ⟨by rw [HRE.out]; rfl, HB1.out⟩
      · have HMT := Lib.hid hmt
        have HCA := fun w h => fits1_any (f a 1) (f a 2) (f a 3) (f a 4) ((a : Int) + 1) (b : Int) x6 x7 x8 (g k 0) (g k 1) (g k 2) (g k 3) (g k 4) (g k 5) gd false w h (by simp; intro e1 e2 e3 e4 e5; exact hmt ⟨by omega, e2, e3, e4, e5⟩)
        have HC := Lib.hid HCA
        clear HCA hmt
        go_wp2_with (go_at_call 10; refine (HC.out _ HDW.out).mono ?_; rintro e w1 ⟨rfl, hb1⟩; have HB1 := Lib.hid (hB.trans (hb1.mono hbz)))
        go_roundw
        case rel => exact ⟨q + 1, by omega, by go_num, HB1.out, Lib.hid fun i a' hi hia => by
          rcases Nat.lt_or_ge i q with z | z
          · exact hj.out i a' z hia
          · obtain rfl : i = q := by omega
            rw [HAB.out] at hia
            cases hia
            exact fun hx => HMT.out ⟨rfl, hx⟩⟩
        case measure => simp [intOf]; omega
    · obtain rfl : q = m := by omega
      have HRE : Hid (fndR f g C k = -1) := Lib.hid (by
        unfold fndR
        rw [fndB_no fun i a hia => hj.out i a (by rw [← HM.out]; exact (List.getElem?_eq_some_iff.1 hia).1) hia])
      go_wp2
      go_ret
      exact ⟨by rw [HRE.out]; rfl, hB⟩
end Go.Proofs.YtdogjdgfidbfhaaDoor
