/-
  What gristmillref.Heap returns, all operations: for lists of at most 60 numbers.
-/
import Derived.Test.YtkoflhjnpilchaaGreatDoorRHeap
namespace Go.Proofs.YtkoflhjnpilchaaGreatDoor
set_option linter.unusedSimpArgs false
set_option linter.unusedVariables false
set_option linter.unusedSectionVars false
open Go.RowKit
attribute [local go_sem ↓] Go.wp_at_zero Go.wp_at_succ

set_option linter.unusedSimpArgs false in
set_option maxRecDepth 100000 in
set_option maxHeartbeats 2000000 in
theorem refHeap_1 (A : Option Addr) (n c : Nat) (xs : List Int) (k v : Int) (w : World) (h : SlI w A n c xs) (hn : n ≤ 60) (hv : -9223372036854775808 ≤ v ∧ v ≤ 9223372036854775807) (h6 : 6 ≤ n) :
    Calls Tryz.prog 47 #[.slice A n c, .agg #[.int .i64 1, .int .i64 k, .int .i64 v]] w (RetL (endsY xs 1 v false 0) (endsC xs 1) (endsV xs 1 0) w) := by
  have H := Lib.hid h
  clear h
  have hv' := Lib.hid hv
  clear hv
  have hwi : withinB 1 1 6 = true := by decide
  have d0 : decide ((n : Int) < 6) = false := by rw [decide_eq_false_iff_not]; omega
  go_enter Tryz.func47, Tryz.ntmps47
  go_wp2_with (first
    | (at_builtin; refine wpList_append_copy rfl (.const (.slice none 0 0)) (.tmp 14) rfl rfl rfl (H.out.below (by go_grown)) (by omega) ?_; intro A1 c1 w1 hown hb1; obtain ⟨hc, hf⟩ := bcell hb1; have hz := hb1.size; simp only [World.size_alloc] at hz; have hB : Below w.heap.size w w1 := Below.trans (by go_grown) (hb1.mono (by simp; omega)); replace hown := hown.mono (B' := w.heap.size + 2) (by simp); have q1 : w.heap.size + 1 < w1.heap.size := (by omega); have q0 : w.heap.size < w1.heap.size := (by omega); have hown' := Lib.hid hown; clear hown; have r0 := hc (w.heap.size + 1) 0 (by simp); have r1 := hc (w.heap.size + 1) 1 (by simp); have p0 := hf (w.heap.size + 1) 0 (by simp); have p1 := hf (w.heap.size + 1) 1 (by simp); simp [go_sem] at r0 r1 p0 p1; have m1 : ¬ w.heap.size + 1 = w1.heap.size := (by omega))
    | (go_at_call 12; refine (within_any _ _ _ _).mono ?_; rintro e w' ⟨rfl, rfl⟩)
    | (go_at_call 71; refine (said_any _ _ _).mono ?_; rintro e w2 ⟨rfl, rfl⟩)
    | (go_at_call 72; refine (ends_any A1 n c1 xs 1 k v false 0 0 w1 (hown'.out.sli H.out.bd) hn hv'.out (fun h => ⟨rfl, h⟩)).mono ?_; rintro e w3 ⟨A3, n3, c3, rfl, hs, hb3⟩; have hz3 := hb3.size; obtain ⟨hc3, hf3⟩ := bcell hb3; have s0 := (hc3 (w.heap.size + 1) 0 q1).trans r0; have s1 := (hc3 (w.heap.size + 1) 1 q1).trans r1; have y0 := (hf3 (w.heap.size + 1) 0 q1).trans p0; have y1 := (hf3 (w.heap.size + 1) 1 q1).trans p1; have q3 : w.heap.size + 1 < w3.heap.size := (by omega); have m3 : ¬ w.heap.size + 1 = w3.heap.size := (by omega); have hs' := Lib.hid hs; clear hs))
  all_goals (refine bodyPost_ret (by simp [results, Tryz.results47, go_sem, s0, s1, q3, m3]; try rfl; done) rfl ?_)
  exact retL_on hs'.out hB hb3 q1 q1 (by show w.heap.size ≤ w.heap.size + 1; omega) (by show w.heap.size ≤ w.heap.size + 1; omega)

set_option linter.unusedSimpArgs false in
set_option maxRecDepth 100000 in
set_option maxHeartbeats 2000000 in
theorem refHeap_2 (A : Option Addr) (n c : Nat) (xs : List Int) (k v : Int) (w : World) (h : SlI w A n c xs) (hn : n ≤ 60) (hv : -9223372036854775808 ≤ v ∧ v ≤ 9223372036854775807) (h0 : n ≤ 0) :
    Calls Tryz.prog 47 #[.slice A n c, .agg #[.int .i64 2, .int .i64 k, .int .i64 v]] w (RetL (endsY xs 2 v false 0) (endsC xs 2) (endsV xs 2 0) w) := by
  have H := Lib.hid h
  clear h
  have hv' := Lib.hid hv
  clear hv
  have hwi : withinB 2 1 6 = true := by decide
  have d0 : decide (0 < (n : Int)) = false := by rw [decide_eq_false_iff_not]; omega
  go_enter Tryz.func47, Tryz.ntmps47
  go_wp2_with (first
    | (at_builtin; refine wpList_append_copy rfl (.const (.slice none 0 0)) (.tmp 14) rfl rfl rfl (H.out.below (by go_grown)) (by omega) ?_; intro A1 c1 w1 hown hb1; obtain ⟨hc, hf⟩ := bcell hb1; have hz := hb1.size; simp only [World.size_alloc] at hz; have hB : Below w.heap.size w w1 := Below.trans (by go_grown) (hb1.mono (by simp; omega)); replace hown := hown.mono (B' := w.heap.size + 2) (by simp); have q1 : w.heap.size + 1 < w1.heap.size := (by omega); have q0 : w.heap.size < w1.heap.size := (by omega); have hown' := Lib.hid hown; clear hown; have r0 := hc (w.heap.size + 1) 0 (by simp); have r1 := hc (w.heap.size + 1) 1 (by simp); have p0 := hf (w.heap.size + 1) 0 (by simp); have p1 := hf (w.heap.size + 1) 1 (by simp); simp [go_sem] at r0 r1 p0 p1; have m1 : ¬ w.heap.size + 1 = w1.heap.size := (by omega))
    | (go_at_call 12; refine (within_any _ _ _ _).mono ?_; rintro e w' ⟨rfl, rfl⟩)
    | (go_at_call 71; refine (said_any _ _ _).mono ?_; rintro e w2 ⟨rfl, rfl⟩)
    | (go_at_call 72; refine (ends_any A1 n c1 xs 2 k v false 0 0 w1 (hown'.out.sli H.out.bd) hn hv'.out (fun h => ⟨rfl, h⟩)).mono ?_; rintro e w3 ⟨A3, n3, c3, rfl, hs, hb3⟩; have hz3 := hb3.size; obtain ⟨hc3, hf3⟩ := bcell hb3; have s0 := (hc3 (w.heap.size + 1) 0 q1).trans r0; have s1 := (hc3 (w.heap.size + 1) 1 q1).trans r1; have y0 := (hf3 (w.heap.size + 1) 0 q1).trans p0; have y1 := (hf3 (w.heap.size + 1) 1 q1).trans p1; have q3 : w.heap.size + 1 < w3.heap.size := (by omega); have m3 : ¬ w.heap.size + 1 = w3.heap.size := (by omega); have hs' := Lib.hid hs; clear hs))
  all_goals (refine bodyPost_ret (by simp [results, Tryz.results47, go_sem, s0, s1, q3, m3]; try rfl; done) rfl ?_)
  exact retL_on hs'.out hB hb3 q1 q1 (by show w.heap.size ≤ w.heap.size + 1; omega) (by show w.heap.size ≤ w.heap.size + 1; omega)

set_option linter.unusedSimpArgs false in
set_option maxRecDepth 100000 in
set_option maxHeartbeats 2000000 in
theorem refHeap_5 (A : Option Addr) (n c : Nat) (xs : List Int) (k v : Int) (w : World) (h : SlI w A n c xs) (hn : n ≤ 60) (hv : -9223372036854775808 ≤ v ∧ v ≤ 9223372036854775807)  :
    Calls Tryz.prog 47 #[.slice A n c, .agg #[.int .i64 5, .int .i64 k, .int .i64 v]] w (RetL (endsY xs 5 v false 0) (endsC xs 5) (endsV xs 5 0) w) := by
  have H := Lib.hid h
  clear h
  have hv' := Lib.hid hv
  clear hv
  have hwi : withinB 5 1 6 = true := by decide
  go_enter Tryz.func47, Tryz.ntmps47
  go_wp2_with (first
    | (at_builtin; refine wpList_append_copy rfl (.const (.slice none 0 0)) (.tmp 14) rfl rfl rfl (H.out.below (by go_grown)) (by omega) ?_; intro A1 c1 w1 hown hb1; obtain ⟨hc, hf⟩ := bcell hb1; have hz := hb1.size; simp only [World.size_alloc] at hz; have hB : Below w.heap.size w w1 := Below.trans (by go_grown) (hb1.mono (by simp; omega)); replace hown := hown.mono (B' := w.heap.size + 2) (by simp); have q1 : w.heap.size + 1 < w1.heap.size := (by omega); have q0 : w.heap.size < w1.heap.size := (by omega); have hown' := Lib.hid hown; clear hown; have r0 := hc (w.heap.size + 1) 0 (by simp); have r1 := hc (w.heap.size + 1) 1 (by simp); have p0 := hf (w.heap.size + 1) 0 (by simp); have p1 := hf (w.heap.size + 1) 1 (by simp); simp [go_sem] at r0 r1 p0 p1; have m1 : ¬ w.heap.size + 1 = w1.heap.size := (by omega))
    | (go_at_call 12; refine (within_any _ _ _ _).mono ?_; rintro e w' ⟨rfl, rfl⟩)
    | (go_at_call 71; refine (said_any _ _ _).mono ?_; rintro e w2 ⟨rfl, rfl⟩)
    | (go_at_call 72; refine (ends_any A1 n c1 xs 5 k v false 0 0 w1 (hown'.out.sli H.out.bd) hn hv'.out (fun h => ⟨rfl, h⟩)).mono ?_; rintro e w3 ⟨A3, n3, c3, rfl, hs, hb3⟩; have hz3 := hb3.size; obtain ⟨hc3, hf3⟩ := bcell hb3; have s0 := (hc3 (w.heap.size + 1) 0 q1).trans r0; have s1 := (hc3 (w.heap.size + 1) 1 q1).trans r1; have y0 := (hf3 (w.heap.size + 1) 0 q1).trans p0; have y1 := (hf3 (w.heap.size + 1) 1 q1).trans p1; have q3 : w.heap.size + 1 < w3.heap.size := (by omega); have m3 : ¬ w.heap.size + 1 = w3.heap.size := (by omega); have hs' := Lib.hid hs; clear hs))
  all_goals (refine bodyPost_ret (by simp [results, Tryz.results47, go_sem, s0, s1, q3, m3]; try rfl; done) rfl ?_)
  exact retL_on hs'.out hB hb3 q1 q1 (by show w.heap.size ≤ w.heap.size + 1; omega) (by show w.heap.size ≤ w.heap.size + 1; omega)

set_option linter.unusedSimpArgs false in
set_option maxRecDepth 100000 in
set_option maxHeartbeats 2000000 in
theorem refHeap_6 (A : Option Addr) (n c : Nat) (xs : List Int) (k v : Int) (w : World) (h : SlI w A n c xs) (hn : n ≤ 60) (hv : -9223372036854775808 ≤ v ∧ v ≤ 9223372036854775807)  :
    Calls Tryz.prog 47 #[.slice A n c, .agg #[.int .i64 6, .int .i64 k, .int .i64 v]] w (RetL (endsY xs 6 v false 0) (endsC xs 6) (endsV xs 6 0) w) := by
  have H := Lib.hid h
  clear h
  have hv' := Lib.hid hv
  clear hv
  have hwi : withinB 6 1 6 = true := by decide
  go_enter Tryz.func47, Tryz.ntmps47
  go_wp2_with (first
    | (at_builtin; refine wpList_append_copy rfl (.const (.slice none 0 0)) (.tmp 14) rfl rfl rfl (H.out.below (by go_grown)) (by omega) ?_; intro A1 c1 w1 hown hb1; obtain ⟨hc, hf⟩ := bcell hb1; have hz := hb1.size; simp only [World.size_alloc] at hz; have hB : Below w.heap.size w w1 := Below.trans (by go_grown) (hb1.mono (by simp; omega)); replace hown := hown.mono (B' := w.heap.size + 2) (by simp); have q1 : w.heap.size + 1 < w1.heap.size := (by omega); have q0 : w.heap.size < w1.heap.size := (by omega); have hown' := Lib.hid hown; clear hown; have r0 := hc (w.heap.size + 1) 0 (by simp); have r1 := hc (w.heap.size + 1) 1 (by simp); have p0 := hf (w.heap.size + 1) 0 (by simp); have p1 := hf (w.heap.size + 1) 1 (by simp); simp [go_sem] at r0 r1 p0 p1; have m1 : ¬ w.heap.size + 1 = w1.heap.size := (by omega))
    | (go_at_call 12; refine (within_any _ _ _ _).mono ?_; rintro e w' ⟨rfl, rfl⟩)
    | (go_at_call 71; refine (said_any _ _ _).mono ?_; rintro e w2 ⟨rfl, rfl⟩)
    | (go_at_call 72; refine (ends_any A1 n c1 xs 6 k v false 0 0 w1 (hown'.out.sli H.out.bd) hn hv'.out (fun h => ⟨rfl, h⟩)).mono ?_; rintro e w3 ⟨A3, n3, c3, rfl, hs, hb3⟩; have hz3 := hb3.size; obtain ⟨hc3, hf3⟩ := bcell hb3; have s0 := (hc3 (w.heap.size + 1) 0 q1).trans r0; have s1 := (hc3 (w.heap.size + 1) 1 q1).trans r1; have y0 := (hf3 (w.heap.size + 1) 0 q1).trans p0; have y1 := (hf3 (w.heap.size + 1) 1 q1).trans p1; have q3 : w.heap.size + 1 < w3.heap.size := (by omega); have m3 : ¬ w.heap.size + 1 = w3.heap.size := (by omega); have hs' := Lib.hid hs; clear hs))
  all_goals (refine bodyPost_ret (by simp [results, Tryz.results47, go_sem, s0, s1, q3, m3]; try rfl; done) rfl ?_)
  exact retL_on hs'.out hB hb3 q1 q1 (by show w.heap.size ≤ w.heap.size + 1; omega) (by show w.heap.size ≤ w.heap.size + 1; omega)

set_option linter.unusedSimpArgs false in
set_option maxRecDepth 100000 in
set_option maxHeartbeats 2000000 in
theorem refHeap_wrong (A : Option Addr) (n c : Nat) (xs : List Int) (a k v : Int) (w : World) (h : SlI w A n c xs) (hn : n ≤ 60) (ha : ¬ (a = 1 ∨ a = 2 ∨ a = 5 ∨ a = 6)) :
    Calls Tryz.prog 47 #[.slice A n c, .agg #[.int .i64 a, .int .i64 k, .int .i64 v]] w (RetL xs 5 0 w) := by
  have H := Lib.hid h
  clear h
  have HA := Lib.hid ha
  by_cases h34 : a = 3 ∨ a = 4
  all_goals have H34 := Lib.hid h34
  · have hwi : withinB a 1 6 = true := by simp [withinB]; omega
    rcases h34 with rfl | rfl
    all_goals clear ha
    all_goals
      go_enter Tryz.func47, Tryz.ntmps47
      go_wp2_with (first
        | (at_builtin; refine wpList_append_copy rfl (.const (.slice none 0 0)) (.tmp 14) rfl rfl rfl (H.out.below (by go_grown)) (by omega) ?_; intro A1 c1 w1 hown hb1; obtain ⟨hc, hf⟩ := bcell hb1; have hz := hb1.size; simp only [World.size_alloc] at hz; have hB : Below w.heap.size w w1 := Below.trans (by go_grown) (hb1.mono (by simp; omega)); replace hown := hown.mono (B' := w.heap.size + 2) (by simp); have q1 : w.heap.size + 1 < w1.heap.size := (by omega); have q0 : w.heap.size < w1.heap.size := (by omega); have hown' := Lib.hid hown; clear hown; have r0 := hc (w.heap.size + 1) 0 (by simp); have r1 := hc (w.heap.size + 1) 1 (by simp); have p0 := hf (w.heap.size + 1) 0 (by simp); have p1 := hf (w.heap.size + 1) 1 (by simp); simp [go_sem] at r0 r1 p0 p1; have m1 : ¬ w.heap.size + 1 = w1.heap.size := (by omega))
        | (go_at_call 12; refine (within_any _ _ _ _).mono ?_; rintro e w' ⟨rfl, rfl⟩)
        | (go_at_call 71; refine (said_any _ _ _).mono ?_; rintro e w2 ⟨rfl, rfl⟩))
      all_goals (refine bodyPost_ret (by simp [results, Tryz.results47, go_sem, r0, r1, q1, m1]; try rfl; done) rfl ?_)
      refine RetL.alloc (retL_slo (hown'.out.slo H.out.bd) hB ?_ ?_ ?_ ?_ rfl rfl rfl) _
      all_goals first | (show w.heap.size + 1 < w.heap.size + 2; omega) | (show w.heap.size ≤ w.heap.size + 1; omega)
  · have hwi : withinB a 1 6 = false := by simp [withinB]; omega
    clear ha h34
    go_enter Tryz.func47, Tryz.ntmps47
    go_wp2_with (first
      | (at_builtin; refine wpList_append_copy rfl (.const (.slice none 0 0)) (.tmp 14) rfl rfl rfl (H.out.below (by go_grown)) (by omega) ?_; intro A1 c1 w1 hown hb1; obtain ⟨hc, hf⟩ := bcell hb1; have hz := hb1.size; simp only [World.size_alloc] at hz; have hB : Below w.heap.size w w1 := Below.trans (by go_grown) (hb1.mono (by simp; omega)); replace hown := hown.mono (B' := w.heap.size + 2) (by simp); have q1 : w.heap.size + 1 < w1.heap.size := (by omega); have q0 : w.heap.size < w1.heap.size := (by omega); have hown' := Lib.hid hown; clear hown; have r0 := hc (w.heap.size + 1) 0 (by simp); have r1 := hc (w.heap.size + 1) 1 (by simp); have p0 := hf (w.heap.size + 1) 0 (by simp); have p1 := hf (w.heap.size + 1) 1 (by simp); simp [go_sem] at r0 r1 p0 p1; have m1 : ¬ w.heap.size + 1 = w1.heap.size := (by omega))
      | (go_at_call 12; refine (within_any _ _ _ _).mono ?_; rintro e w' ⟨rfl, rfl⟩)
      | (go_at_call 71; refine (said_any _ _ _).mono ?_; rintro e w2 ⟨rfl, rfl⟩))
    all_goals (refine bodyPost_ret (by simp [results, Tryz.results47, go_sem, r0, r1, q1, m1]; try rfl; done) rfl ?_)
    refine RetL.alloc (retL_slo (hown'.out.slo H.out.bd) hB ?_ ?_ ?_ ?_ rfl rfl rfl) _
    all_goals first | (show w.heap.size + 1 < w.heap.size + 2; omega) | (show w.heap.size ≤ w.heap.size + 1; omega)

theorem refHeap_any (A : Option Addr) (n c : Nat) (xs : List Int) (a k v : Int) (w : World) (h : SlI w A n c xs) (hn : n ≤ 60) (hv : -9223372036854775808 ≤ v ∧ v ≤ 9223372036854775807) :
    Calls Tryz.prog 47 #[.slice A n c, .agg #[.int .i64 a, .int .i64 k, .int .i64 v]] w (RetL (heapY xs a v) (heapC xs a) (heapV xs a) w) := by
  have hl := h.len
  by_cases a1 : a = 1
  · subst a1
    by_cases h6 : n < 6
    · have e1 : heapY xs 1 v = rise (xs ++ [v]) n := by simp [heapY, hl, h6]
      have e2 : heapC xs 1 = 1 := by simp [heapC, hl, h6]
      have e3 : heapV xs 1 = 0 := by simp [heapV]
      rw [e1, e2, e3]
      exact refHeap_put A n c xs k v w h h6 hv
    · have e1 : heapY xs 1 v = endsY xs 1 v false 0 := by simp [heapY, endsY, hl, h6]
      have e2 : heapC xs 1 = endsC xs 1 := by simp [heapC, endsC, hl, h6]
      have e3 : heapV xs 1 = endsV xs 1 0 := by simp [heapV, endsV]
      rw [e1, e2, e3]
      exact refHeap_1 A n c xs k v w h hn hv (by omega)
  · by_cases a2 : a = 2
    · subst a2
      rcases n with _ | m
      · obtain rfl : xs = [] := List.eq_nil_of_length_eq_zero hl
        have e1 : heapY [] 2 v = endsY [] 2 v false 0 := by simp [heapY, endsY, sink_nil]
        have e2 : heapC [] 2 = endsC [] 2 := by simp [heapC, endsC]
        have e3 : heapV [] 2 = endsV [] 2 0 := by simp [heapV, endsV, gI]
        rw [e1, e2, e3]
        exact refHeap_2 A 0 c [] k v w h hn hv (Nat.le_refl _)
      · have e1 : heapY xs 2 v = sink (xs.take m) 0 (gI xs m) := by simp [heapY, hl]
        have e2 : heapC xs 2 = 1 := by simp [heapC, hl]
        have e3 : heapV xs 2 = gI xs 0 := by simp [heapV]
        rw [e1, e2, e3]
        rcases Nat.eq_zero_or_pos m with hm | hm
        · have := refHeap_take1 A m c xs k v w h hm
          subst hm
          rw [List.take_zero, sink_nil]
          exact this
        · exact refHeap_take A m c xs k v w h hn hm
    · by_cases a5 : a = 5
      · subst a5
        have e1 : heapY xs 5 v = endsY xs 5 v false 0 := by simp [heapY, endsY]
        have e2 : heapC xs 5 = endsC xs 5 := by simp [heapC, endsC]
        have e3 : heapV xs 5 = endsV xs 5 0 := by
          rcases xs with _ | ⟨x, xs⟩ <;> simp [heapV, endsV, gI]
        rw [e1, e2, e3]
        exact refHeap_5 A n c xs k v w h hn hv
      · by_cases a6 : a = 6
        · subst a6
          have e1 : heapY xs 6 v = endsY xs 6 v false 0 := by simp [heapY, endsY]
          have e2 : heapC xs 6 = endsC xs 6 := by simp [heapC, endsC]
          have e3 : heapV xs 6 = endsV xs 6 0 := by simp [heapV, endsV]
          rw [e1, e2, e3]
          exact refHeap_6 A n c xs k v w h hn hv
        · have e1 : heapY xs a v = xs := by simp [heapY, a1, a2]
          have e2 : heapC xs a = 5 := by simp [heapC, a1, a2, a5, a6]
          have e3 : heapV xs a = 0 := by simp [heapV, a2, a5, a6]
          rw [e1, e2, e3]
          exact refHeap_wrong A n c xs a k v w h hn (by omega)
end Go.Proofs.YtkoflhjnpilchaaGreatDoor
