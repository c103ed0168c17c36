/-
  What queue.Do returns: for lists of at most 60 numbers.
-/
import Derived.Test.YtkoflhjnpilchaaGreatDoorMWord
namespace Go.Proofs.YtkoflhjnpilchaaGreatDoor
set_option linter.unusedSimpArgs false
set_option linter.unusedVariables false
set_option linter.unusedSectionVars false
open Go.RowKit
attribute [local go_sem ↓] Go.wp_at_zero Go.wp_at_succ

def queueY (xs : List Int) (a v : Int) : List Int := if a = 1 then (if xs.length < 6 then xs ++ [v] else xs) else if a = 2 then xs.tail else xs
def queueC (xs : List Int) (a : Int) : Int := if a = 1 then (if xs.length < 6 then 1 else 3) else if a = 2 ∨ a = 5 then (if xs.length = 0 then 2 else 1) else if a = 6 then 1 else 5
def queueV (xs : List Int) (a : Int) : Int := if a = 2 ∨ a = 5 then xs[0]?.getD 0 else if a = 6 then xs.length else 0

set_option linter.unusedSimpArgs false in
set_option maxHeartbeats 1000000 in
set_option maxRecDepth 100000 in
theorem queue_any (A : Option Addr) (n c : Nat) (xs : List Int) (a k v : Int) (w : World) (h : SlI w A n c xs) (hn : n ≤ 60) (hv : -9223372036854775808 ≤ v ∧ v ≤ 9223372036854775807) :
    Calls Tryz.prog 64 #[.slice A n c, .agg #[.int .i64 a, .int .i64 k, .int .i64 v]] w (RetL (queueY xs a v) (queueC xs a) (queueV xs a) w) := by
  have h63 := h.cap63
  have hnc := h.cap
  have hlen := h.len
  have BD := Lib.hid h.bd
  have HV := Lib.hid hv
  clear hv
  rcases Nat.eq_zero_or_pos n with hn0 | hn0
  · subst hn0
    obtain rfl : xs = [] := List.eq_nil_of_length_eq_zero hlen
    have H := Lib.hid h
    clear h
    go_enter Tryz.func64, Tryz.ntmps64
    go_wp2_with (go_at_call 83; refine (clone_at A _ c [] w _ H.out hn ?_).mono ?_; (go_grown); rintro e w1 ⟨A1, c1, rfl, hown, hb1, hB⟩; obtain ⟨hc, hf⟩ := bcell hb1; have hz := hb1.size; simp only [World.size_alloc, World.size_drew] at hz; replace hown := hown.mono (B' := w.heap.size + 2) (by simp); have r0 := hc (w.heap.size + 1) 0 (by simp); have r1 := hc (w.heap.size + 1) 1 (by simp); have r2 := hc w.heap.size 2 (by simp; omega); have f0 := hf (w.heap.size + 1) 0 (by simp); have f1 := hf (w.heap.size + 1) 1 (by simp); simp [go_sem] at r0 r1 r2 f0 f1)
    · go_region_held3 (fun w' => w'.cell? ⟨w.heap.size, 2, none⟩ = some (.int .i64 v)) (go_keep) (first
      | (go_at_call 83; refine (clone_at A _ c [] w _ H.out hn ?_).mono ?_; (go_grown); rintro e w1 ⟨A1, c1, rfl, hown, hb1, hB⟩; obtain ⟨hc, hf⟩ := bcell hb1; have hz := hb1.size; simp only [World.size_alloc, World.size_drew] at hz; replace hown := hown.mono (B' := w.heap.size + 2) (by simp); have r0 := hc (w.heap.size + 1) 0 (by simp); have r1 := hc (w.heap.size + 1) 1 (by simp); have r2 := hc w.heap.size 2 (by simp; omega); have f0 := hf (w.heap.size + 1) 0 (by simp); have f1 := hf (w.heap.size + 1) 1 (by simp); simp [go_sem] at r0 r1 r2 f0 f1)
      | (refine step_append1 rfl (.tmp 17) (.tmp 20) rfl (B := w.heap.size + 2) (A := A1) (n := 0) (c := c1) (xs := []) rfl ?_ (g := w1.heap.size) (v := v) (c' := 1) rfl ?_ ?_ ?_ ?_; (exact hown.alloc _); (exact (Blk.new _ _ _).cell 0); (omega); (first | omega | (simp; omega)); intro g2 cap2 w2 hown2 hb2; obtain ⟨hc2, hf2⟩ := bcell hb2; have hz2 := hb2.size; (try simp only [World.size_alloc, World.size_drew] at hz2); have s0 := (hc2 (w.heap.size + 1) 0 (by omega)).trans ((cell_alloc_lt (by omega)).trans r0); have t0 := (hf2 (w.heap.size + 1) 0 (by omega)).trans ((frozen_alloc_lt (by omega)).trans f0); have s1 := (hc2 (w.heap.size + 1) 1 (by omega)).trans ((cell_alloc_lt (by omega)).trans r1); have t1 := (hf2 (w.heap.size + 1) 1 (by omega)).trans ((frozen_alloc_lt (by omega)).trans f1); have s2 := (hc2 w.heap.size 2 (by omega)).trans ((cell_alloc_lt (by omega)).trans r2); have hB2 : Below w.heap.size w w2 := Below.trans (by go_grown) (hb2.mono (by omega)); clear hc2 hf2 hc hf)
      | (refine step_append1 rfl (.tmp 17) (.tmp 20) rfl (B := w.heap.size + 2) (A := A1) (n := 0) (c := c1) (xs := []) rfl ?_ (g := w.heap.size + 1 + 1) (v := v) (c' := 1) rfl ?_ ?_ ?_ ?_; (exact hown); (exact (hc _ _ (by simp)).trans ((Blk.newAt _ _ _ (by simp)).cell 0)); (omega); (first | omega | (simp; omega)); intro g2 cap2 w2 hown2 hb2; obtain ⟨hc2, hf2⟩ := bcell hb2; have hz2 := hb2.size; (try simp only [World.size_alloc, World.size_drew] at hz2); have s0 := (hc2 (w.heap.size + 1) 0 (by omega)).trans r0; have t0 := (hf2 (w.heap.size + 1) 0 (by omega)).trans f0; have s1 := (hc2 (w.heap.size + 1) 1 (by omega)).trans r1; have t1 := (hf2 (w.heap.size + 1) 1 (by omega)).trans f1; have s2 := (hc2 w.heap.size 2 (by omega)).trans r2; have hB2 : Below w.heap.size w w2 := Below.trans (by go_grown) (hb2.mono (by omega)); clear hc2 hf2 hc hf))
      all_goals go_wp2
      all_goals try (refine bodyPost_ret (by first | (simp [results, Tryz.results64, go_sem, s0, s1]; try rfl; done) | (simp [results, Tryz.results64, go_sem, r0, r1]; try rfl; done) | (simp [results, Tryz.results64, go_sem]; try rfl; done)) rfl ?_)
      all_goals simp only [beq_iff_eq, beq_eq_false_iff_ne, ne_eq] at *
      all_goals first
        | (refine retL_own hown2 hB2 ?_ ?_ ?_ ?_ ?_ ?_ ?_ ?_; (exact IBd.app BD.out HV.out); (show w.heap.size + 1 < w.heap.size + 2; omega); (show w.heap.size + 1 < w.heap.size + 2; omega); (show w.heap.size ≤ w.heap.size + 1; omega); (show w.heap.size ≤ w.heap.size + 1; omega))
        | (refine retL_own hown hB BD.out ?_ ?_ ?_ ?_ ?_ ?_ ?_; (show w.heap.size + 1 < w.heap.size + 2; omega); (show w.heap.size + 1 < w.heap.size + 2; omega); (show w.heap.size ≤ w.heap.size + 1; omega); (show w.heap.size ≤ w.heap.size + 1; omega))
        | (refine retL_own hown hB (IBd.tail BD.out) ?_ ?_ ?_ ?_ ?_ ?_ ?_; (show w.heap.size + 1 < w.heap.size + 2; omega); (show w.heap.size + 1 < w.heap.size + 2; omega); (show w.heap.size ≤ w.heap.size + 1; omega); (show w.heap.size ≤ w.heap.size + 1; omega))
        | (refine retL_nil ?_ ?_ ?_ ?_; (go_grown))
      all_goals (simp only [queueY, queueC, queueV]; (repeat' split) <;> first | rfl | (exfalso; omega) | (simp_all; done) | omega)
    all_goals try (refine bodyPost_ret (by first | (simp [results, Tryz.results64, go_sem, s0, s1]; try rfl; done) | (simp [results, Tryz.results64, go_sem, r0, r1]; try rfl; done) | (simp [results, Tryz.results64, go_sem]; try rfl; done)) rfl ?_)
    all_goals simp only [beq_iff_eq, beq_eq_false_iff_ne, ne_eq] at *
    all_goals first
      | (refine retL_own hown2 hB2 ?_ ?_ ?_ ?_ ?_ ?_ ?_ ?_; (exact IBd.app BD.out HV.out); (show w.heap.size + 1 < w.heap.size + 2; omega); (show w.heap.size + 1 < w.heap.size + 2; omega); (show w.heap.size ≤ w.heap.size + 1; omega); (show w.heap.size ≤ w.heap.size + 1; omega))
      | (refine retL_own hown hB BD.out ?_ ?_ ?_ ?_ ?_ ?_ ?_; (show w.heap.size + 1 < w.heap.size + 2; omega); (show w.heap.size + 1 < w.heap.size + 2; omega); (show w.heap.size ≤ w.heap.size + 1; omega); (show w.heap.size ≤ w.heap.size + 1; omega))
      | (refine retL_own hown hB (IBd.tail BD.out) ?_ ?_ ?_ ?_ ?_ ?_ ?_; (show w.heap.size + 1 < w.heap.size + 2; omega); (show w.heap.size + 1 < w.heap.size + 2; omega); (show w.heap.size ≤ w.heap.size + 1; omega); (show w.heap.size ≤ w.heap.size + 1; omega))
      | (refine retL_nil ?_ ?_ ?_ ?_; (go_grown))
    all_goals (simp only [queueY, queueC, queueV]; (repeat' split) <;> first | rfl | (exfalso; omega) | (simp_all; done) | omega)
  · obtain ⟨b, off, rfl, hblt, hcell⟩ := h.at_ hn0
    have H := Lib.hid h
    clear h
    have hc0 := hcell 0 hn0
    rw [Nat.add_zero] at hc0
    obtain ⟨x0, hx0⟩ : ∃ x, xs[0]?.getD 0 = x := ⟨_, rfl⟩
    rw [hx0] at hc0
    have HX0 := Lib.hid hx0
    clear hx0
    clear hcell
    have hT := Lib.hid (SlI.tailIf H.out hn0)
    go_enter Tryz.func64, Tryz.ntmps64
    have nb1 : ¬ b = w.heap.size + 1 := by omega
    have nb2 : ¬ w.heap.size + 1 = b := by omega
    have d0 : ((n : Int) == 0) = false := by simp; omega
    have e1 : (1 : Int) ≤ n := by omega
    have e2 : (n : Int) ≤ c := by omega
    have e3 : ((n : Int) - 1).toNat = n - 1 := by omega
    have e4 : ((c : Int) - 1).toNat = c - 1 := by omega
    go_wp2_with (go_at_call 83; refine (clone_at _ _ c xs w _ H.out hn ?_).mono ?_; (go_grown); rintro e w1 ⟨A1, c1, rfl, hown, hb1, hB⟩; obtain ⟨hc, hf⟩ := bcell hb1; have hz := hb1.size; simp only [World.size_alloc, World.size_drew] at hz; replace hown := hown.mono (B' := w.heap.size + 2) (by simp); have r0 := hc (w.heap.size + 1) 0 (by simp); have r1 := hc (w.heap.size + 1) 1 (by simp); have r2 := hc w.heap.size 2 (by simp; omega); have rb := (hB.cell (p := ⟨b, off, none⟩) hblt).trans hc0; have f0 := hf (w.heap.size + 1) 0 (by simp); have f1 := hf (w.heap.size + 1) 1 (by simp); simp [go_sem] at r0 r1 r2 f0 f1)
    all_goals try ((have hq : (a == 1) = true := by assumption); clear hq; go_region_held3 (fun w' => w'.cell? ⟨w.heap.size, 2, none⟩ = some (.int .i64 v)) (go_keep) (first
      | (go_at_call 83; refine (clone_at _ _ c xs w _ H.out hn ?_).mono ?_; (go_grown); rintro e w1 ⟨A1, c1, rfl, hown, hb1, hB⟩; obtain ⟨hc, hf⟩ := bcell hb1; have hz := hb1.size; simp only [World.size_alloc, World.size_drew] at hz; replace hown := hown.mono (B' := w.heap.size + 2) (by simp); have r0 := hc (w.heap.size + 1) 0 (by simp); have r1 := hc (w.heap.size + 1) 1 (by simp); have r2 := hc w.heap.size 2 (by simp; omega); have rb := (hB.cell (p := ⟨b, off, none⟩) hblt).trans hc0; have f0 := hf (w.heap.size + 1) 0 (by simp); have f1 := hf (w.heap.size + 1) 1 (by simp); simp [go_sem] at r0 r1 r2 f0 f1)
      | (refine step_append1 rfl (.tmp 17) (.tmp 20) rfl (B := w.heap.size + 2) (A := A1) (n := n) (c := c1) (xs := xs) rfl ?_ (g := w1.heap.size) (v := v) (c' := 1) rfl ?_ ?_ ?_ ?_; (exact hown.alloc _); (exact (Blk.new _ _ _).cell 0); (omega); (first | omega | (simp; omega)); intro g2 cap2 w2 hown2 hb2; obtain ⟨hc2, hf2⟩ := bcell hb2; have hz2 := hb2.size; (try simp only [World.size_alloc, World.size_drew] at hz2); have s0 := (hc2 (w.heap.size + 1) 0 (by omega)).trans ((cell_alloc_lt (by omega)).trans r0); have t0 := (hf2 (w.heap.size + 1) 0 (by omega)).trans ((frozen_alloc_lt (by omega)).trans f0); have s1 := (hc2 (w.heap.size + 1) 1 (by omega)).trans ((cell_alloc_lt (by omega)).trans r1); have t1 := (hf2 (w.heap.size + 1) 1 (by omega)).trans ((frozen_alloc_lt (by omega)).trans f1); have s2 := (hc2 w.heap.size 2 (by omega)).trans ((cell_alloc_lt (by omega)).trans r2); have hB2 : Below w.heap.size w w2 := Below.trans (by go_grown) (hb2.mono (by omega)); clear hc2 hf2 hc hf; have sb := (hB2.cell (p := ⟨b, off, none⟩) hblt).trans hc0)
      | (refine step_append1 rfl (.tmp 17) (.tmp 20) rfl (B := w.heap.size + 2) (A := A1) (n := n) (c := c1) (xs := xs) rfl ?_ (g := w.heap.size + 1 + 1) (v := v) (c' := 1) rfl ?_ ?_ ?_ ?_; (exact hown); (exact (hc _ _ (by simp)).trans ((Blk.newAt _ _ _ (by simp)).cell 0)); (omega); (first | omega | (simp; omega)); intro g2 cap2 w2 hown2 hb2; obtain ⟨hc2, hf2⟩ := bcell hb2; have hz2 := hb2.size; (try simp only [World.size_alloc, World.size_drew] at hz2); have s0 := (hc2 (w.heap.size + 1) 0 (by omega)).trans r0; have t0 := (hf2 (w.heap.size + 1) 0 (by omega)).trans f0; have s1 := (hc2 (w.heap.size + 1) 1 (by omega)).trans r1; have t1 := (hf2 (w.heap.size + 1) 1 (by omega)).trans f1; have s2 := (hc2 w.heap.size 2 (by omega)).trans r2; have hB2 : Below w.heap.size w w2 := Below.trans (by go_grown) (hb2.mono (by omega)); clear hc2 hf2 hc hf; have sb := (hB2.cell (p := ⟨b, off, none⟩) hblt).trans hc0)))
    all_goals try ((have hq : (a == 5) = true := by assumption); clear hq; go_region_held3 (fun w' => w'.cell? ⟨b, off, none⟩ = some (.int .i64 x0)) (go_keep) (first
      | (go_at_call 83; refine (clone_at _ _ c xs w _ H.out hn ?_).mono ?_; (go_grown); rintro e w1 ⟨A1, c1, rfl, hown, hb1, hB⟩; obtain ⟨hc, hf⟩ := bcell hb1; have hz := hb1.size; simp only [World.size_alloc, World.size_drew] at hz; replace hown := hown.mono (B' := w.heap.size + 2) (by simp); have r0 := hc (w.heap.size + 1) 0 (by simp); have r1 := hc (w.heap.size + 1) 1 (by simp); have r2 := hc w.heap.size 2 (by simp; omega); have rb := (hB.cell (p := ⟨b, off, none⟩) hblt).trans hc0; have f0 := hf (w.heap.size + 1) 0 (by simp); have f1 := hf (w.heap.size + 1) 1 (by simp); simp [go_sem] at r0 r1 r2 f0 f1)))
    all_goals try ((have hq : (a == 2) = true := by assumption); clear hq; by_cases hc1 : c = 1 <;> go_region_held3 (fun w' => w'.cell? ⟨b, off, none⟩ = some (.int .i64 x0)) (go_keep) (first
      | (go_at_call 83; refine (clone_at _ _ _ xs.tail w _ ?_ ?_ ?_).mono ?_; (first | exact hT.out | simpa [hc1] using hT.out); (omega); (go_grown); rintro e w1 ⟨A1, c1, rfl, hown, hb1, hB⟩; obtain ⟨hc, hf⟩ := bcell hb1; have hz := hb1.size; simp only [World.size_alloc, World.size_drew] at hz; replace hown := hown.mono (B' := w.heap.size + 2) (by simp); have r0 := hc (w.heap.size + 1) 0 (by simp); have r1 := hc (w.heap.size + 1) 1 (by simp); have r2 := hc w.heap.size 2 (by simp; omega); have rb := (hB.cell (p := ⟨b, off, none⟩) hblt).trans hc0; have f0 := hf (w.heap.size + 1) 0 (by simp); have f1 := hf (w.heap.size + 1) 1 (by simp); simp [go_sem] at r0 r1 r2 f0 f1)))
    all_goals try go_wp2
    all_goals try (refine bodyPost_ret (by first | (simp [results, Tryz.results64, go_sem, s0, s1]; try rfl; done) | (simp [results, Tryz.results64, go_sem, r0, r1]; try rfl; done) | (simp [results, Tryz.results64, go_sem]; try rfl; done)) rfl ?_)
    all_goals simp only [beq_iff_eq, beq_eq_false_iff_ne, ne_eq] at *
    all_goals first
      | (refine retL_own hown2 hB2 ?_ ?_ ?_ ?_ ?_ ?_ ?_ ?_; (exact IBd.app BD.out HV.out); (show w.heap.size + 1 < w.heap.size + 2; omega); (show w.heap.size + 1 < w.heap.size + 2; omega); (show w.heap.size ≤ w.heap.size + 1; omega); (show w.heap.size ≤ w.heap.size + 1; omega))
      | (refine retL_own hown hB BD.out ?_ ?_ ?_ ?_ ?_ ?_ ?_; (show w.heap.size + 1 < w.heap.size + 2; omega); (show w.heap.size + 1 < w.heap.size + 2; omega); (show w.heap.size ≤ w.heap.size + 1; omega); (show w.heap.size ≤ w.heap.size + 1; omega))
      | (refine retL_own hown hB (IBd.tail BD.out) ?_ ?_ ?_ ?_ ?_ ?_ ?_; (show w.heap.size + 1 < w.heap.size + 2; omega); (show w.heap.size + 1 < w.heap.size + 2; omega); (show w.heap.size ≤ w.heap.size + 1; omega); (show w.heap.size ≤ w.heap.size + 1; omega))
      | (refine retL_nil ?_ ?_ ?_ ?_; (go_grown))
    all_goals (have hx := HX0.out; subst hlen; simp only [queueY, queueC, queueV]; (repeat' split) <;> first | rfl | (exfalso; omega) | (simp_all; done) | (simp_all; omega))
end Go.Proofs.YtkoflhjnpilchaaGreatDoor
