/-
  What op.Told, op.Of and the reference's AnswerOf, OpOf return. For every word.
-/
import Derived.Test.YtkoflhjnpilchaaGreatDoorGet
namespace Go.Proofs.YtkoflhjnpilchaaGreatDoor
set_option linter.unusedSimpArgs false
set_option linter.unusedVariables false
set_option linter.unusedSectionVars false
open Go.RowKit
attribute [local go_sem ↓] Go.wp_at_zero Go.wp_at_succ

theorem get_at (x : Nat) (i j : Nat) (p : Nat) (w : World) (hx : x < 18446744073709551616) (hi : 1 ≤ j ∧ i + j ≤ 64) (hp : x / 2 ^ i % 2 ^ j = p) (a n : Int) (ha : a = i) (hn : n = j) :
    Calls Tryz.prog 54 #[.int .u64 x, .int .i64 a, .int .i64 n] w fun e w' => e = .returned (.tuple #[.int .u64 (p : Int), .nilIface]) ∧ Below w.heap.size w w' := by
  subst ha hn
  have hr : rangeB i j = true := by simp [rangeB]; omega
  refine (get_any x i j w hx).mono fun e w' ⟨he, hb⟩ => ⟨?_, hb⟩
  rw [he, hr]
  have e1 : getN x i j = p := by unfold getN; rw [if_pos hr]; simpa using hp
  rw [e1]
  simp [okE, errV]

def toldC (p q : Int) : Int := if fitsB p q = true then p else 0
def toldV (p q : Int) : Int := if fitsB p q = true then q else 0

set_option linter.unusedSimpArgs false in
theorem told_any (x p q : Nat) (w : World) (hx : x < 18446744073709551616) (hp : x / 4294967296 = p) (hq : x % 4294967296 = q) :
    Calls Tryz.prog 34 #[.int .u64 x] w fun e w' => e = .returned (.tuple #[.agg #[.int .i64 (toldC p q), .int .i64 (toldV p q)], errV (okE (fitsB p q) 3)]) ∧ Below w.heap.size w w' := by
  have hp2 : (p : Int) ≤ 4294967295 := by omega
  have hq2 : (q : Int) ≤ 4294967295 := by omega
  have h32 : (2 : Nat) ^ 32 = 4294967296 := by decide
  have g1 : ∀ w, _ := fun w => get_at x 32 32 p w hx (by omega) (by rw [h32, hp]; omega) 32 32 rfl rfl
  have g2 : ∀ w, _ := fun w => get_at x 0 32 q w hx (by omega) (by rw [h32, Nat.pow_zero, Nat.div_one, hq]) 0 32 rfl rfl
  have G1 := Lib.hid g1
  have G2 := Lib.hid g2
  clear g1 g2 h32 hx hp hq
  cases hr : fitsB p q with
  | false =>
    have e1 : toldC p q = 0 := by unfold toldC; rw [if_neg (by rw [hr]; simp)]
    have e2 : toldV p q = 0 := by unfold toldV; rw [if_neg (by rw [hr]; simp)]
    have e3 : errV (okE false 3) = .iface 28 (.int .i64 3) := by simp [okE, errV]
    rw [e1, e2, e3]
    clear e1 e2 e3
    have HR := Lib.hid hr
    clear hr
    go_enter Tryz.func34, Tryz.ntmps34
    go_wp2_with (first
      | (go_at_call 54; (with_reducible refine (G1.out _).mono ?_); rintro e w1 ⟨rfl, hb1⟩; have z1 : w.heap.size + 1 ≤ w1.heap.size := (by have := hb1.size; simpa using this); have HB1 := hb1.mono (show w.heap.size + 1 ≤ _ by simp))
      | (go_at_call 54; (with_reducible refine (G2.out _).mono ?_); rintro e w2 ⟨rfl, hb2⟩; have z2 : w.heap.size + 1 ≤ w2.heap.size := (by have := hb2.size; omega); have HB2 := HB1.trans (hb2.mono z1))
      | (go_at_call 55; refine (fits_any _ _ _).mono ?_; rintro e w3 ⟨rfl, hb3⟩; rw [HR.out]; have z3 : w2.heap.size + 1 ≤ w3.heap.size := (by have := hb3.size; simpa using this); have HB3 := HB2.trans (Below.trans (by go_grown) (hb3.mono (show w.heap.size + 1 ≤ _ by simp; omega))); obtain ⟨hc, hf⟩ := bcell HB3; obtain ⟨hc3, hf3⟩ := bcell hb3; have m3 : w2.heap.size < w3.heap.size := (by omega); have n3 : ¬ w2.heap.size = w.heap.size := (by omega); have hB : Below w.heap.size w w3 := Below.trans (by go_grown) (HB3.mono (by omega))))
    refine bodyPost_ret (by simp [results, Tryz.results34, go_sem, hc]; try rfl) rfl ?_
    exact ⟨rfl, by go_grown⟩
  | true =>
    have e1 : toldC p q = p := by unfold toldC; rw [if_pos hr]
    have e2 : toldV p q = q := by unfold toldV; rw [if_pos hr]
    have e3 : errV (okE true 3) = .nilIface := by simp [okE, errV]
    rw [e1, e2, e3]
    clear e1 e2 e3
    have HR := Lib.hid hr
    clear hr
    go_enter Tryz.func34, Tryz.ntmps34
    go_wp2_with (first
      | (go_at_call 54; (with_reducible refine (G1.out _).mono ?_); rintro e w1 ⟨rfl, hb1⟩; have z1 : w.heap.size + 1 ≤ w1.heap.size := (by have := hb1.size; simpa using this); have HB1 := hb1.mono (show w.heap.size + 1 ≤ _ by simp))
      | (go_at_call 54; (with_reducible refine (G2.out _).mono ?_); rintro e w2 ⟨rfl, hb2⟩; have z2 : w.heap.size + 1 ≤ w2.heap.size := (by have := hb2.size; omega); have HB2 := HB1.trans (hb2.mono z1))
      | (go_at_call 55; refine (fits_any _ _ _).mono ?_; rintro e w3 ⟨rfl, hb3⟩; rw [HR.out]; have z3 : w2.heap.size + 1 ≤ w3.heap.size := (by have := hb3.size; simpa using this); have HB3 := HB2.trans (Below.trans (by go_grown) (hb3.mono (show w.heap.size + 1 ≤ _ by simp; omega))); obtain ⟨hc, hf⟩ := bcell HB3; obtain ⟨hc3, hf3⟩ := bcell hb3; have m3 : w2.heap.size < w3.heap.size := (by omega); have n3 : ¬ w2.heap.size = w.heap.size := (by omega); have hB : Below w.heap.size w w3 := Below.trans (by go_grown) (HB3.mono (by omega))))
    refine bodyPost_ret (by simp [results, Tryz.results34, go_sem, hc]; try rfl) rfl ?_
    exact ⟨rfl, by go_grown⟩
end Go.Proofs.YtkoflhjnpilchaaGreatDoor
