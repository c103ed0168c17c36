/-
  What op.Of and the reference's AnswerOf, OpOf return. For every word.
-/
import Derived.Test.YtkoflhjnpilchaaGreatDoorTold
namespace Go.Proofs.YtkoflhjnpilchaaGreatDoor
set_option linter.unusedSimpArgs false
set_option linter.unusedVariables false
set_option linter.unusedSectionVars false
open Go.RowKit
attribute [local go_sem ↓] Go.wp_at_zero Go.wp_at_succ

def ofC (p k q y : Int) : Int := if opRightB p k q = true then y else 0

set_option linter.unusedSimpArgs false in
theorem refAnswerOf_any (x p q : Nat) (w : World) (hx : x < 18446744073709551616) (hp : x / 4294967296 = p) (hq : x % 4294967296 = q) :
    Calls Tryz.prog 24 #[.int .u64 x] w fun e w' => e = .returned (.tuple #[.agg #[.int .i64 (toldC p q), .int .i64 (toldV p q)], .int .i64 (okE (fitsB p q) 3)]) ∧ Below w.heap.size w w' := by
  have p1 : (x : Int) / 4294967296 = (p : Int) := by omega
  have q1 : (x : Int) % 4294967296 = (q : Int) := by omega
  have p2 : (p : Int) ≤ 4294967295 := by omega
  have q2 : (q : Int) ≤ 4294967295 := by omega
  clear hp hq
  clear hx
  cases hr : fitsB p q with
  | false =>
    have e1 : toldC p q = 0 := by unfold toldC; rw [if_neg (by rw [hr]; simp)]
    have e2 : toldV p q = 0 := by unfold toldV; rw [if_neg (by rw [hr]; simp)]
    have e3 : okE false 3 = 3 := by simp [okE]
    simp only [e1, e2, e3]
    clear e1 e2 e3
    have HR := Lib.hid hr
    clear hr
    go_enter Tryz.func24, Tryz.ntmps24
    go_wp2_with (go_at_call 42; refine (refFits_any _ _ _).mono ?_; rintro e w3 ⟨rfl, hb3⟩; rw [HR.out]; have HB3 : Below (w.heap.size + 1) (w.alloc (.cells #[.int .i64 0, .int .i64 0] 51)) w3 := Below.trans (by go_grown) (hb3.mono (show w.heap.size + 1 ≤ _ by simp)); obtain ⟨hc, hf⟩ := bcell HB3; obtain ⟨hc3, hf3⟩ := bcell hb3; have z3 := hb3.size; simp only [World.size_alloc] at z3; have m3 : w.heap.size + 1 < w3.heap.size := (by omega); have hB : Below w.heap.size w w3 := Below.trans (by go_grown) (HB3.mono (by omega)))
    refine bodyPost_ret (by simp [results, Tryz.results24, go_sem, hc]; try rfl) rfl ?_
    exact ⟨rfl, by go_grown⟩
  | true =>
    have e1 : toldC p q = p := by unfold toldC; rw [if_pos hr]
    have e2 : toldV p q = q := by unfold toldV; rw [if_pos hr]
    have e3 : okE true 3 = 0 := by simp [okE]
    simp only [e1, e2, e3]
    clear e1 e2 e3
    have HR := Lib.hid hr
    clear hr
    go_enter Tryz.func24, Tryz.ntmps24
    go_wp2_with (go_at_call 42; refine (refFits_any _ _ _).mono ?_; rintro e w3 ⟨rfl, hb3⟩; rw [HR.out]; have HB3 : Below (w.heap.size + 1) (w.alloc (.cells #[.int .i64 0, .int .i64 0] 51)) w3 := Below.trans (by go_grown) (hb3.mono (show w.heap.size + 1 ≤ _ by simp)); obtain ⟨hc, hf⟩ := bcell HB3; obtain ⟨hc3, hf3⟩ := bcell hb3; have z3 := hb3.size; simp only [World.size_alloc] at z3; have m3 : w.heap.size + 1 < w3.heap.size := (by omega); have hB : Below w.heap.size w w3 := Below.trans (by go_grown) (HB3.mono (by omega)))
    refine bodyPost_ret (by simp [results, Tryz.results24, go_sem, hc]; try rfl) rfl ?_
    exact ⟨rfl, by go_grown⟩

end Go.Proofs.YtkoflhjnpilchaaGreatDoor
