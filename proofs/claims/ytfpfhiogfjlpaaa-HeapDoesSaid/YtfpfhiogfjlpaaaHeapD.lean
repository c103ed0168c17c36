/-
  What heap.Do returns: for lists of at most 60 numbers.
-/
import Derived.Test.YtfpfhiogfjlpaaaHeapU
namespace Go.Proofs.Ytfpfhiogfjlpaaa
open Go.RowKit
attribute [local go_sem ↓] Go.wp_at_zero Go.wp_at_succ

def heapY (xs : List Int) (a v : Int) : List Int := if a = 1 then (if xs.length < 6 then rise (xs ++ [v]) xs.length else xs) else if a = 2 then sink (xs.take (xs.length - 1)) 0 (gI xs (xs.length - 1)) else xs
def heapC (xs : List Int) (a : Int) : Int := if a = 1 then (if xs.length < 6 then 1 else 3) else if a = 2 ∨ a = 5 then (if xs.length = 0 then 2 else 1) else if a = 6 then 1 else 5
def heapV (xs : List Int) (a : Int) : Int := if a = 2 ∨ a = 5 then gI xs 0 else if a = 6 then xs.length else 0

theorem frozen_setCell_all (w : World) (p q : Addr) (u : Value) : (w.setCell p u).frozen? q = w.frozen? q := by simp
theorem rowKeepsBelow {w w1 w2 : World} {g : Nat} (hb : Below w.heap.size w w1) (hk : Keeps (fun b => b = g) w1 w2) (hg : w.heap.size ≤ g) : Below w.heap.size w w2 :=
  hb.trans (hk.below hb.size (fun b hlt e => by omega))

set_option linter.unusedSimpArgs false in
set_option maxRecDepth 100000 in
set_option maxHeartbeats 2000000 in
theorem heap_put (A : Option Addr) (n c : Nat) (xs : List Int) (k v : Int) (w : World) (h : SlI w A n c xs) (hn : n < 6) (hv : -9223372036854775808 ≤ v ∧ v ≤ 9223372036854775807) :
    Calls Try.prog 44 #[.slice A n c, .agg #[.int .i64 1, .int .i64 k, .int .i64 v]] w (RetL (rise (xs ++ [v]) n) 1 0 w) := by
  have H := Lib.hid h
  clear h
  have hv' := Lib.hid hv
  clear hv
  have d0 : decide (6 ≤ (n : Int)) = false := by simp; omega
  go_enter Try.func44, Try.ntmps44
  go_wp2_with (first
    | (go_at_call 58; refine (clone_at A n c xs w _ H.out (by omega) ?_).mono ?_; (go_grown); rintro e w1 ⟨A1, c1, rfl, hown, hb1, hB⟩; obtain ⟨hc, hf⟩ := bcell hb1; have hz := hb1.size; simp only [World.size_alloc] at hz; replace hown := hown.mono (B' := w.heap.size + 2) (by simp); have q1 : w.heap.size + 1 < w1.heap.size := (by omega); have q0 : w.heap.size < w1.heap.size := (by omega); have hown' := Lib.hid hown; clear hown; have r0 := hc (w.heap.size + 1) 0 (by simp); have r1 := hc (w.heap.size + 1) 1 (by simp); have p0 := hf (w.heap.size + 1) 0 (by simp); have p1 := hf (w.heap.size + 1) 1 (by simp); simp [go_sem] at r0 r1 p0 p1; have m1 : ¬ w.heap.size + 1 = w1.heap.size := (by omega))
    | (at_builtin; refine wpList_append1 rfl (.tmp 19) (.tmp 22) rfl (B := w.heap.size + 2) rfl (hown'.out.alloc _) rfl ((Blk.new _ _ _).cell 0) (by omega) (by simp; omega) ?_; intro g2 c2 w2 hown2 hb2; obtain ⟨hc2, hf2⟩ := bcell hb2; have hz2 := hb2.size; simp only [World.size_alloc] at hz2; have hB2 : Below w.heap.size w w2 := Below.trans (by go_grown) (hb2.mono (by simp)); have s0 := (hc2 (w.heap.size + 1) 0 (by simp)).trans ((cell_alloc_lt (by omega)).trans r0); have s1 := (hc2 (w.heap.size + 1) 1 (by simp)).trans ((cell_alloc_lt (by omega)).trans r1); have y0 := (hf2 (w.heap.size + 1) 0 (by simp)).trans ((frozen_alloc_lt (by omega)).trans p0); have y1 := (hf2 (w.heap.size + 1) 1 (by simp)).trans ((frozen_alloc_lt (by omega)).trans p1); have hsl2 := Lib.hid (hown2.sli (IBd.app H.out.bd hv'.out)); obtain ⟨g3, hg3, hBg, hrow⟩ := hown2.row (IBd.app H.out.bd hv'.out) (by omega); cases hg3; have hrow' := Lib.hid hrow; clear hrow hown2; have q3 : w.heap.size + 1 < w2.heap.size := (by omega); have q4 : w.heap.size < w2.heap.size := (by omega); have m2 : ¬ w.heap.size + 1 = w2.heap.size := (by omega))
    | (go_at_call 63; refine (up_any g2 (n + 1) c2 _ _ hrow'.out (by omega) (by omega)).mono ?_; rintro e w3 ⟨rfl, hrow3, hk3⟩; have hr3 := Lib.hid hrow3; clear hrow3; have hsz3 := hk3.size; have hB3 := rowKeepsBelow hB2 hk3 (by omega); have t0 := (hk3.cell (p := ⟨w.heap.size + 1, 0, none⟩) q3 (by show ¬ w.heap.size + 1 = g2; omega)).trans s0; have t1 := (hk3.cell (p := ⟨w.heap.size + 1, 1, none⟩) q3 (by show ¬ w.heap.size + 1 = g2; omega)).trans s1; have z0 := (hk3.frozen (p := ⟨w.heap.size + 1, 0, none⟩) q3 (by show ¬ w.heap.size + 1 = g2; omega)).trans y0; have z1 := (hk3.frozen (p := ⟨w.heap.size + 1, 1, none⟩) q3 (by show ¬ w.heap.size + 1 = g2; omega)).trans y1; have q5 : w.heap.size + 1 < w3.heap.size := (by omega); have hk3' := Lib.hid hk3; clear hk3))
  all_goals (refine bodyPost_ret (by first | (simp [results, Try.results44, go_sem, t0, t1]; try rfl; done)) rfl ?_)
  refine retL_slo (hr3.out.slo hBg hsl2.out.cap hsl2.out.cap63) hB3 ?_ ?_ ?_ ?_ ?_ rfl rfl
  all_goals first | (show w.heap.size + 1 < w.heap.size + 2; omega) | (show w.heap.size ≤ w.heap.size + 1; omega) | skip
  simp


set_option linter.unusedSimpArgs false in
set_option maxRecDepth 100000 in
set_option maxHeartbeats 2000000 in
theorem heap_take (A : Option Addr) (n c : Nat) (xs : List Int) (k v : Int) (w : World) (h : SlI w A n c xs) (hn : n ≤ 60) (hn0 : 0 < n) :
    Calls Try.prog 44 #[.slice A n c, .agg #[.int .i64 2, .int .i64 k, .int .i64 v]] w (RetL (sink (xs.take (n - 1)) 0 (gI xs (n - 1))) 1 (gI xs 0) w) := by
  have hlen := Lib.hid h.len
  have H := Lib.hid h
  clear h
  have d0 : ((n : Int) == 0) = false := by simp; omega
  have b0 : (0 : Int) ≤ (n : Int) - 1 := by omega
  have b1 : (n : Int) - 1 < n := by omega
  have b1' : (n : Int) - 1 ≤ n := by omega
  have b1'' : (1 : Int) ≤ n := by omega
  have e1 : ((n : Int) - 1).toNat = n - 1 := by omega
  go_enter Try.func44, Try.ntmps44
  go_wp2_with (first
    | (go_at_call 58; refine (clone_at A n c xs w _ H.out (by omega) ?_).mono ?_; (go_grown); rintro e w1 ⟨A1, c1, rfl, hown, hb1, hB⟩; obtain ⟨hc, hf⟩ := bcell hb1; have hz := hb1.size; simp only [World.size_alloc] at hz; replace hown := hown.mono (B' := w.heap.size + 2) (by simp); have q1 : w.heap.size + 1 < w1.heap.size := (by omega); have q0 : w.heap.size < w1.heap.size := (by omega); obtain ⟨g, rfl, hg0, hrow⟩ := hown.row H.out.bd hn0; have hrow' := Lib.hid hrow; have x0 := hrow.cell (i := 0) hn0; have x1 := hrow.cell (i := n - 1) (by omega); have fz := hrow.frozen 0; have hc1n := (hown.sli H.out.bd).cap; have hc163 := (hown.sli H.out.bd).cap63; have b2 : (n : Int) - 1 ≤ c1 := (by omega); have hgl := hrow.lt; have mg : ¬ w.heap.size = g := (by omega); have mg2 : ¬ w.heap.size + 1 = g := (by omega); clear hrow hown; have r0 := hc (w.heap.size + 1) 0 (by simp); have r1 := hc (w.heap.size + 1) 1 (by simp); have r2 := hc w.heap.size 0 (by simp; omega); have p0 := hf (w.heap.size + 1) 0 (by simp); have p1 := hf (w.heap.size + 1) 1 (by simp); simp [go_sem] at r0 r1 r2 p0 p1; have m1 : ¬ w.heap.size + 1 = w1.heap.size := (by omega))
    | (go_at_call 64; refine (down_any _ g (n - 1) c1 (xs.take (n - 1)) (gI xs (n - 1)) _ (fun _ => rfl) ?_ (by omega)).mono ?_; (have h9 := (hrow'.out.set (H.out.bd (n - 1)) hn0 (v := gI xs (n - 1))).take (k := n - 1) (by omega); rw [List.take_set] at h9; exact h9); rintro e w3 ⟨rfl, hrow3, hk3⟩; have hr3 := Lib.hid hrow3; clear hrow3; have hsz3 := hk3.size; simp only [World.size_setCell] at hsz3; have hB3 := rowKeepsBelow (hB.setCell (show w.heap.size ≤ g by omega) _) hk3 (by omega); have t0 := (hk3.cell (p := ⟨w.heap.size + 1, 0, none⟩) (by simpa using q1) (by show ¬ w.heap.size + 1 = g; omega)).trans ((World.cell?_setCell_far _ _ _ _ (by show g ≠ w.heap.size + 1; omega)).trans r0); have t1 := (hk3.cell (p := ⟨w.heap.size + 1, 1, none⟩) (by simpa using q1) (by show ¬ w.heap.size + 1 = g; omega)).trans ((World.cell?_setCell_far _ _ _ _ (by show g ≠ w.heap.size + 1; omega)).trans r1); have z0 := (hk3.frozen (p := ⟨w.heap.size + 1, 0, none⟩) (by simpa using q1) (by show ¬ w.heap.size + 1 = g; omega)).trans ((frozen_setCell_all _ _ _ _).trans p0); have z1 := (hk3.frozen (p := ⟨w.heap.size + 1, 1, none⟩) (by simpa using q1) (by show ¬ w.heap.size + 1 = g; omega)).trans ((frozen_setCell_all _ _ _ _).trans p1); have q5 : w.heap.size + 1 < w3.heap.size := (by omega); have hk3' := Lib.hid hk3; clear hk3))
  all_goals (refine bodyPost_ret (by first | (simp [results, Try.results44, go_sem, t0, t1]; try rfl; done)) rfl ?_)
  refine retL_slo (hr3.out.slo hg0 (by omega) hc163) hB3 ?_ ?_ ?_ ?_ rfl rfl rfl
  all_goals first | (show w.heap.size + 1 < w.heap.size + 2; omega) | (show w.heap.size ≤ w.heap.size + 1; omega) | skip

set_option linter.unusedSimpArgs false in
set_option maxRecDepth 100000 in
set_option maxHeartbeats 2000000 in
theorem heap_rest (A : Option Addr) (n c : Nat) (xs : List Int) (a k v : Int) (w : World) (h : SlI w A n c xs) (hn : n ≤ 60) (h1 : a = 1 → 6 ≤ n) (h2 : a = 2 → n = 0) :
    Calls Try.prog 44 #[.slice A n c, .agg #[.int .i64 a, .int .i64 k, .int .i64 v]] w (RetL xs (heapC xs a) (heapV xs a) w) := by
  have hlen := Lib.hid h.len
  have H := Lib.hid h
  clear h
  rcases Nat.eq_zero_or_pos n with hn0 | hn0
  · subst hn0
    obtain rfl : xs = [] := List.eq_nil_of_length_eq_zero hlen.out
    have na1 : ¬ a = 1 := fun e => absurd (h1 e) (by omega)
    clear h1 h2
    go_enter Try.func44, Try.ntmps44
    go_wp2_with (go_at_call 58; refine (clone_at A 0 c [] w _ H.out (by omega) ?_).mono ?_; (go_grown); rintro e w1 ⟨A1, c1, rfl, hown, hb1, hB⟩; obtain ⟨hc, hf⟩ := bcell hb1; have hz := hb1.size; simp only [World.size_alloc] at hz; replace hown := hown.mono (B' := w.heap.size + 2) (by simp); have q1 : w.heap.size + 1 < w1.heap.size := (by omega); have q0 : w.heap.size < w1.heap.size := (by omega); have hown' := Lib.hid hown; clear hown; have r0 := hc (w.heap.size + 1) 0 (by simp); have r1 := hc (w.heap.size + 1) 1 (by simp); have r2 := hc w.heap.size 0 (by simp; omega); have p0 := hf (w.heap.size + 1) 0 (by simp); have p1 := hf (w.heap.size + 1) 1 (by simp); simp [go_sem] at r0 r1 r2 p0 p1; have m1 : ¬ w.heap.size + 1 = w1.heap.size := (by omega))
    all_goals (refine bodyPost_ret (by first | (simp [results, Try.results44, go_sem, r0, r1]; try rfl; done)) rfl ?_)
    all_goals try simp only [beq_iff_eq, beq_eq_false_iff_ne, bne_iff_ne, bne_eq_false_iff_eq, ne_eq] at *
    all_goals (refine retL_slo (hown'.out.slo H.out.bd) hB ?_ ?_ ?_ ?_ rfl ?_ ?_)
    all_goals first | (show w.heap.size + 1 < w.heap.size + 2; omega) | (show w.heap.size ≤ w.heap.size + 1; omega) | skip
    all_goals (simp only [heapC, heapV, gI]; (repeat' split) <;> first | rfl | (exfalso; omega) | (simp_all; done) | (simp_all; omega))
  · have d0 : ((n : Int) == 0) = false := by simp; omega
    have na2 : ¬ a = 2 := fun e => absurd (h2 e) (by omega)
    by_cases ha1 : a = 1
    · have h6 := h1 ha1
      subst ha1
      have d6 : decide (6 ≤ (n : Int)) = true := by simp; omega
      clear h1 h2
      go_enter Try.func44, Try.ntmps44
      go_wp2_with (go_at_call 58; refine (clone_at A n c xs w _ H.out (by omega) ?_).mono ?_; (go_grown); rintro e w1 ⟨A1, c1, rfl, hown, hb1, hB⟩; obtain ⟨hc, hf⟩ := bcell hb1; have hz := hb1.size; simp only [World.size_alloc] at hz; replace hown := hown.mono (B' := w.heap.size + 2) (by simp); have q1 : w.heap.size + 1 < w1.heap.size := (by omega); have q0 : w.heap.size < w1.heap.size := (by omega); obtain ⟨g, rfl, hg0, hrow⟩ := hown.row H.out.bd hn0; have x0 := hrow.cell (i := 0) hn0; have hgl := hrow.lt; have hown' := Lib.hid hown; clear hrow hown; have r0 := hc (w.heap.size + 1) 0 (by simp); have r1 := hc (w.heap.size + 1) 1 (by simp); have r2 := hc w.heap.size 0 (by simp; omega); have p0 := hf (w.heap.size + 1) 0 (by simp); have p1 := hf (w.heap.size + 1) 1 (by simp); simp [go_sem] at r0 r1 r2 p0 p1; have m1 : ¬ w.heap.size + 1 = w1.heap.size := (by omega))
      all_goals (refine bodyPost_ret (by first | (simp [results, Try.results44, go_sem, r0, r1]; try rfl; done)) rfl ?_)
      all_goals try simp only [beq_iff_eq, beq_eq_false_iff_ne, bne_iff_ne, bne_eq_false_iff_eq, ne_eq] at *
      all_goals (refine retL_slo (hown'.out.slo H.out.bd) hB ?_ ?_ ?_ ?_ rfl ?_ ?_)
      all_goals first | (show w.heap.size + 1 < w.heap.size + 2; omega) | (show w.heap.size ≤ w.heap.size + 1; omega) | skip
      all_goals (have hl := hlen.out; simp only [heapC, heapV]; (repeat' split) <;> first | rfl | (exfalso; omega) | (simp_all; done) | (simp_all; omega))
    · clear h1 h2
      go_enter Try.func44, Try.ntmps44
      go_wp2_with (go_at_call 58; refine (clone_at A n c xs w _ H.out (by omega) ?_).mono ?_; (go_grown); rintro e w1 ⟨A1, c1, rfl, hown, hb1, hB⟩; obtain ⟨hc, hf⟩ := bcell hb1; have hz := hb1.size; simp only [World.size_alloc] at hz; replace hown := hown.mono (B' := w.heap.size + 2) (by simp); have q1 : w.heap.size + 1 < w1.heap.size := (by omega); have q0 : w.heap.size < w1.heap.size := (by omega); obtain ⟨g, rfl, hg0, hrow⟩ := hown.row H.out.bd hn0; have x0 := hrow.cell (i := 0) hn0; have hgl := hrow.lt; have hown' := Lib.hid hown; clear hrow hown; have r0 := hc (w.heap.size + 1) 0 (by simp); have r1 := hc (w.heap.size + 1) 1 (by simp); have r2 := hc w.heap.size 0 (by simp; omega); have p0 := hf (w.heap.size + 1) 0 (by simp); have p1 := hf (w.heap.size + 1) 1 (by simp); simp [go_sem] at r0 r1 r2 p0 p1; have m1 : ¬ w.heap.size + 1 = w1.heap.size := (by omega))
      all_goals (refine bodyPost_ret (by first | (simp [results, Try.results44, go_sem, r0, r1]; try rfl; done)) rfl ?_)
      all_goals try simp only [beq_iff_eq, beq_eq_false_iff_ne, bne_iff_ne, bne_eq_false_iff_eq, ne_eq] at *
      all_goals (refine retL_slo (hown'.out.slo H.out.bd) hB ?_ ?_ ?_ ?_ rfl ?_ ?_)
      all_goals first | (show w.heap.size + 1 < w.heap.size + 2; omega) | (show w.heap.size ≤ w.heap.size + 1; omega) | skip
      all_goals (have hl := hlen.out; simp only [heapC, heapV]; (repeat' split) <;> first | rfl | (exfalso; omega) | (simp_all; done) | (simp_all; omega))

theorem heap_any (A : Option Addr) (n c : Nat) (xs : List Int) (a k v : Int) (w : World) (h : SlI w A n c xs) (hn : n ≤ 60) (hv : -9223372036854775808 ≤ v ∧ v ≤ 9223372036854775807) :
    Calls Try.prog 44 #[.slice A n c, .agg #[.int .i64 a, .int .i64 k, .int .i64 v]] w (RetL (heapY xs a v) (heapC xs a) (heapV xs a) w) := by
  have hl := h.len
  by_cases h1 : a = 1 ∧ n < 6
  · obtain ⟨rfl, h6⟩ := h1
    have e1 : heapY xs 1 v = rise (xs ++ [v]) n := by simp [heapY, hl, h6]
    have e2 : heapC xs 1 = 1 := by simp [heapC, hl, h6]
    have e3 : heapV xs 1 = 0 := by simp [heapV]
    rw [e1, e2, e3]
    exact heap_put A n c xs k v w h h6 hv
  · by_cases h2 : a = 2 ∧ 0 < n
    · obtain ⟨rfl, h0⟩ := h2
      have e1 : heapY xs 2 v = sink (xs.take (n - 1)) 0 (gI xs (n - 1)) := by simp [heapY, hl]
      have e2 : heapC xs 2 = 1 := by simp [heapC, hl]; omega
      have e3 : heapV xs 2 = gI xs 0 := by simp [heapV]
      rw [e1, e2, e3]
      exact heap_take A n c xs k v w h hn h0
    · have e1 : heapY xs a v = xs := by
        unfold heapY
        split
        · rw [if_neg (by omega)]
        · split
          · obtain rfl : xs = [] := List.eq_nil_of_length_eq_zero (by omega)
            exact sink_nil _ _
          · rfl
      rw [e1]
      exact heap_rest A n c xs a k v w h hn (by omega) (by omega)
end Go.Proofs.Ytfpfhiogfjlpaaa
