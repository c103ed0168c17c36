/-
  What gristmillref.Deque returns: for lists of at most 60 numbers.
-/
import Derived.Test.YtkoflhjnpilchaaGreatDoorLists
namespace Go.Proofs.YtkoflhjnpilchaaGreatDoor
set_option linter.unusedSimpArgs false
set_option linter.unusedVariables false
set_option linter.unusedSectionVars false
open Go.RowKit
attribute [local go_sem ↓] Go.wp_at_zero Go.wp_at_succ

def rdqP (n : Nat) (a : Int) : Nat := if a = 4 then n - 1 else 0
def rdqY (xs : List Int) (a v : Int) : List Int := if 1 ≤ a ∧ a ≤ 6 then endsY xs a v (decide (a = 3)) (rdqP xs.length a) else xs
def rdqC (xs : List Int) (a : Int) : Int := if 1 ≤ a ∧ a ≤ 6 then endsC xs a else 5
def rdqV (xs : List Int) (a : Int) : Int := if 1 ≤ a ∧ a ≤ 6 then endsV xs a (rdqP xs.length a) else 0

set_option linter.unusedSimpArgs false in
set_option maxRecDepth 100000 in
set_option maxHeartbeats 1000000 in
theorem refDeque_any (A : Option Addr) (n c : Nat) (xs : List Int) (a k v : Int) (w : World) (h : SlI w A n c xs) (hn : n ≤ 60) (hv : -9223372036854775808 ≤ v ∧ v ≤ 9223372036854775807) :
    Calls Tryz.prog 46 #[.slice A n c, .agg #[.int .i64 a, .int .i64 k, .int .i64 v]] w (RetJ A n (rdqY xs a v) (rdqC xs a) (rdqV xs a) w) := by
  have hlen := Lib.hid h.len
  have H := Lib.hid h
  clear h
  have hv' := Lib.hid hv
  clear hv
  have e2 : IntKind.i64.wrap ((n : Int) - 1) = n - 1 := IntWalk.i64_in _ (by omega)
  by_cases h4 : a = 4
  · subst h4
    have e5 : rdqY xs 4 v = endsY xs 4 v false (n - 1) := by have hl := hlen.out; unfold rdqY rdqP; rw [if_pos (by omega), if_pos rfl, hl]; rfl
    have e6 : rdqC xs 4 = endsC xs 4 := if_pos (by omega)
    have e7 : rdqV xs 4 = endsV xs 4 (n - 1) := by have hl := hlen.out; unfold rdqV rdqP; rw [if_pos (by omega), if_pos rfl, hl]
    rw [e5, e6, e7]
    clear e5 e6 e7
    go_enter Tryz.func46, Tryz.ntmps46
    go_wp2_with (first
      | (go_at_call 12; refine (within_any _ _ _ _).mono ?_; rintro e w' ⟨rfl, rfl⟩)
      | (go_at_call 71; refine (said_any _ _ _).mono ?_; rintro e w2 ⟨rfl, rfl⟩)
      | (go_at_call 72; refine (ends_any A n c xs 4 k v false ((n : Int) - 1) (n - 1) _ (H.out.below (by go_grown)) hn hv'.out (by intro h; constructor <;> omega)).mono ?_; rintro e w1 ⟨A1, n1, c1, rfl, hs, hb⟩; obtain ⟨hc, hf⟩ := bcell hb; have hz := hb.size; simp only [World.size_alloc] at hz; have r0 := hc (w.heap.size + 1) 0 (by simp); have r1 := hc (w.heap.size + 1) 1 (by simp); simp [go_sem] at r0 r1; have q1 : w.heap.size + 1 < w1.heap.size := (by omega); have m1 : ¬ w.heap.size + 1 = w1.heap.size := (by omega); have hs' := Lib.hid hs; clear hs))
    all_goals (refine bodyPost_ret (by first | (simp [results, Tryz.results46, go_sem, r0, r1]; try rfl; done) | (simp [results, Tryz.results46, go_sem]; try rfl; done)) rfl ?_)
    all_goals simp only [beq_iff_eq, beq_eq_false_iff_ne, ne_eq, withinB, decide_eq_true_eq, decide_eq_false_iff_not] at *
    all_goals exact (retL_on hs'.out (by go_grown) hb (by simp) (by simp) (by simp) (by simp)).weakJ A n
  · have h4' : (a == 4) = false := by simpa using h4
    go_enter Tryz.func46, Tryz.ntmps46
    go_wp2_with (first
      | (go_at_call 12; refine (within_any _ _ _ _).mono ?_; rintro e w' ⟨rfl, rfl⟩)
      | (go_at_call 71; refine (said_any _ _ _).mono ?_; rintro e w2 ⟨rfl, rfl⟩)
      | (go_at_call 72; refine (ends_any A n c xs a k v _ 0 0 _ (H.out.below (by go_grown)) hn hv'.out (by intro h; constructor <;> omega)).mono ?_; rintro e w1 ⟨A1, n1, c1, rfl, hs, hb⟩; obtain ⟨hc, hf⟩ := bcell hb; have hz := hb.size; simp only [World.size_alloc] at hz; have r0 := hc (w.heap.size + 1) 0 (by simp); have r1 := hc (w.heap.size + 1) 1 (by simp); simp [go_sem] at r0 r1; have q1 : w.heap.size + 1 < w1.heap.size := (by omega); have m1 : ¬ w.heap.size + 1 = w1.heap.size := (by omega); have hs' := Lib.hid hs; clear hs))
    all_goals (refine bodyPost_ret (by first | (simp [results, Tryz.results46, go_sem, r0, r1]; try rfl; done) | (simp [results, Tryz.results46, go_sem]; try rfl; done)) rfl ?_)
    all_goals simp only [beq_iff_eq, beq_eq_false_iff_ne, ne_eq, withinB, decide_eq_true_eq, decide_eq_false_iff_not] at *
    all_goals first
      | (have e1 : 1 ≤ a ∧ a ≤ 6 := (by first | assumption | omega | (simp_all; done) | (simp_all; omega))
         have e5 : rdqY xs a v = endsY xs a v (decide (a = 3)) 0 := by unfold rdqY rdqP; rw [if_pos e1, if_neg h4]
         have e6 : rdqC xs a = endsC xs a := if_pos e1
         have e7 : rdqV xs a = endsV xs a 0 := by unfold rdqV rdqP; rw [if_pos e1, if_neg h4]
         have e8 : decide (a = 3) = (a == 3) := by rw [Bool.eq_iff_iff]; simp
         rw [e5, e6, e7, e8]
         exact (retL_on hs'.out (by go_grown) hb (by simp) (by simp) (by simp) (by simp)).weakJ A n)
      | (have e1 : ¬ (1 ≤ a ∧ a ≤ 6) := (by first | assumption | omega | (simp_all; done) | (simp_all; omega))
         have e2 : rdqY xs a v = xs := if_neg e1
         have e3 : rdqC xs a = 5 := if_neg e1
         have e4 : rdqV xs a = 0 := if_neg e1
         rw [e2, e3, e4]
         exact retJ_old H.out (by go_grown) rfl rfl)
end Go.Proofs.YtkoflhjnpilchaaGreatDoor
