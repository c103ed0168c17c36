/-
  What gristmillref.Queue, Stack and Deque return: for lists of at most 60 numbers.
-/
import Derived.Test.YtkoflhjnpilchaaGreatDoorEnds
import Derived.Test.YtkoflhjnpilchaaGreatDoorMBase
namespace Go.Proofs.YtkoflhjnpilchaaGreatDoor
set_option linter.unusedSimpArgs false
set_option linter.unusedVariables false
set_option linter.unusedSectionVars false
open Go.RowKit
attribute [local go_sem ↓] Go.wp_at_zero Go.wp_at_succ

/-- A list, new or the very one that came, and an answer. -/
def RetJ (A0 : Option Addr) (n0 : Nat) (ys : List Int) (code val : Int) (w : World) (e : Ending) (w' : World) : Prop :=
  ∃ A n c, e = .returned (.tuple #[.slice A n c, .agg #[.int .i64 code, .int .i64 val]]) ∧ SlI w' A n c ys ∧ Below w.heap.size w w' ∧ (0 < n → (A = A0 ∧ n = n0) ∨ ∀ b, A = some b → w.heap.size ≤ b.block)
theorem RetL.weakJ {ys : List Int} {code val : Int} {w : World} {e : Ending} {w' : World} (h : RetL ys code val w e w') (A0 : Option Addr) (n0 : Nat) : RetJ A0 n0 ys code val w e w' := by
  obtain ⟨A, n, c, he, hs, hb⟩ := h
  exact ⟨A, n, c, he, hs.sli, hb, fun hn => .inr (hs.up hn)⟩
theorem retJ_old {ys : List Int} {code val co va : Int} {w w' : World} {A : Option Addr} {n c : Nat} (h : SlI w A n c ys) (hb : Below w.heap.size w w') (h1 : co = code) (h2 : va = val) : RetJ A n ys code val w (.returned (.tuple #[.slice A n c, .agg #[.int .i64 co, .int .i64 va]])) w' :=
  ⟨A, n, c, by rw [h1, h2], h.below hb, hb, fun _ => .inl ⟨rfl, rfl⟩⟩
def qsC (xs : List Int) (a : Int) : Int := if a = 1 ∨ a = 2 ∨ a = 5 ∨ a = 6 then endsC xs a else 5
def qsY (xs : List Int) (a v : Int) (p : Nat) : List Int := if a = 1 ∨ a = 2 ∨ a = 5 ∨ a = 6 then endsY xs a v false p else xs
def qsV (xs : List Int) (a : Int) (p : Nat) : Int := if a = 1 ∨ a = 2 ∨ a = 5 ∨ a = 6 then endsV xs a p else 0

set_option linter.unusedSimpArgs false in
set_option maxRecDepth 100000 in
set_option maxHeartbeats 1000000 in
theorem refQueue_any (A : Option Addr) (n c : Nat) (xs : List Int) (a k v : Int) (w : World) (h : SlI w A n c xs) (hn : n ≤ 60) (hv : -9223372036854775808 ≤ v ∧ v ≤ 9223372036854775807) :
    Calls Tryz.prog 44 #[.slice A n c, .agg #[.int .i64 a, .int .i64 k, .int .i64 v]] w (RetJ A n (qsY xs a v 0) (qsC xs a) (qsV xs a 0) w) := by
  have H := Lib.hid h
  clear h
  have hv' := Lib.hid hv
  clear hv
  go_enter Tryz.func44, Tryz.ntmps44
  go_wp2_with (first
    | (go_at_call 12; refine (within_any _ _ _ _).mono ?_; rintro e w' ⟨rfl, rfl⟩)
    | (go_at_call 71; refine (said_any _ _ _).mono ?_; rintro e w2 ⟨rfl, rfl⟩)
    | (go_at_call 72; refine (ends_any A n c xs a k v false 0 0 _ (H.out.below (by go_grown)) hn hv'.out (fun h => ⟨rfl, h⟩)).mono ?_; rintro e w1 ⟨A1, n1, c1, rfl, hs, hb⟩; obtain ⟨hc, hf⟩ := bcell hb; have hz := hb.size; simp only [World.size_alloc] at hz; have r0 := hc (w.heap.size + 1) 0 (by simp); have r1 := hc (w.heap.size + 1) 1 (by simp); simp [go_sem] at r0 r1; have q1 : w.heap.size + 1 < w1.heap.size := (by omega); have m1 : ¬ w.heap.size + 1 = w1.heap.size := (by omega); have hs' := Lib.hid hs; clear hs))
  all_goals (refine bodyPost_ret (by first | (simp [results, Tryz.results44, go_sem, r0, r1]; try rfl; done) | (simp [results, Tryz.results44, go_sem]; try rfl; done)) rfl ?_)
  all_goals simp only [beq_iff_eq, beq_eq_false_iff_ne, ne_eq, withinB, decide_eq_true_eq, decide_eq_false_iff_not] at *
  all_goals first
    | (have e1 : a = 1 ∨ a = 2 ∨ a = 5 ∨ a = 6 := (by omega)
       have e2 : qsY xs a v 0 = endsY xs a v false 0 := if_pos e1
       have e3 : qsC xs a = endsC xs a := if_pos e1
       have e4 : qsV xs a 0 = endsV xs a 0 := if_pos e1
       rw [e2, e3, e4]
       exact (retL_on hs'.out (by go_grown) hb (by simp) (by simp) (by simp) (by simp)).weakJ A n)
    | (have e1 : ¬ (a = 1 ∨ a = 2 ∨ a = 5 ∨ a = 6) := (by omega)
       have e2 : qsY xs a v 0 = xs := if_neg e1
       have e3 : qsC xs a = 5 := if_neg e1
       have e4 : qsV xs a 0 = 0 := if_neg e1
       rw [e2, e3, e4]
       exact retJ_old H.out (by go_grown) rfl rfl)
set_option linter.unusedSimpArgs false in
set_option maxRecDepth 100000 in
set_option maxHeartbeats 1000000 in
theorem refStack_any (A : Option Addr) (n c : Nat) (xs : List Int) (a k v : Int) (w : World) (h : SlI w A n c xs) (hn : n ≤ 60) (hv : -9223372036854775808 ≤ v ∧ v ≤ 9223372036854775807) :
    Calls Tryz.prog 45 #[.slice A n c, .agg #[.int .i64 a, .int .i64 k, .int .i64 v]] w (RetJ A n (qsY xs a v (n - 1)) (qsC xs a) (qsV xs a (n - 1)) w) := by
  have H := Lib.hid h
  clear h
  have hv' := Lib.hid hv
  clear hv
  go_enter Tryz.func45, Tryz.ntmps45
  have e2 : IntKind.i64.wrap ((n : Int) - 1) = n - 1 := IntWalk.i64_in _ (by omega)
  go_wp2_with (first
    | (go_at_call 12; refine (within_any _ _ _ _).mono ?_; rintro e w' ⟨rfl, rfl⟩)
    | (go_at_call 71; refine (said_any _ _ _).mono ?_; rintro e w2 ⟨rfl, rfl⟩)
    | (go_at_call 72; refine (ends_any A n c xs a k v false _ (n - 1) _ (H.out.below (by go_grown)) hn hv'.out (fun h => ⟨by omega, by omega⟩)).mono ?_; rintro e w1 ⟨A1, n1, c1, rfl, hs, hb⟩; obtain ⟨hc, hf⟩ := bcell hb; have hz := hb.size; simp only [World.size_alloc] at hz; have r0 := hc (w.heap.size + 1) 0 (by simp); have r1 := hc (w.heap.size + 1) 1 (by simp); simp [go_sem] at r0 r1; have q1 : w.heap.size + 1 < w1.heap.size := (by omega); have m1 : ¬ w.heap.size + 1 = w1.heap.size := (by omega); have hs' := Lib.hid hs; clear hs))
  all_goals (refine bodyPost_ret (by first | (simp [results, Tryz.results45, go_sem, r0, r1]; try rfl; done) | (simp [results, Tryz.results45, go_sem]; try rfl; done)) rfl ?_)
  all_goals simp only [beq_iff_eq, beq_eq_false_iff_ne, ne_eq, withinB, decide_eq_true_eq, decide_eq_false_iff_not] at *
  all_goals first
    | (have e1 : a = 1 ∨ a = 2 ∨ a = 5 ∨ a = 6 := (by omega)
       have e2 : qsY xs a v (n - 1) = endsY xs a v false (n - 1) := if_pos e1
       have e3 : qsC xs a = endsC xs a := if_pos e1
       have e4 : qsV xs a (n - 1) = endsV xs a (n - 1) := if_pos e1
       rw [e2, e3, e4]
       exact (retL_on hs'.out (by go_grown) hb (by simp) (by simp) (by simp) (by simp)).weakJ A n)
    | (have e1 : ¬ (a = 1 ∨ a = 2 ∨ a = 5 ∨ a = 6) := (by omega)
       have e2 : qsY xs a v (n - 1) = xs := if_neg e1
       have e3 : qsC xs a = 5 := if_neg e1
       have e4 : qsV xs a (n - 1) = 0 := if_neg e1
       rw [e2, e3, e4]
       exact retJ_old H.out (by go_grown) rfl rfl)
end Go.Proofs.YtkoflhjnpilchaaGreatDoor
