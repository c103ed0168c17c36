/-
  What op.Word, op.Answer, op.Fits and the reference's return. For every input.
-/
import Derived.Test.YtkoflhjnpilchaaDoorMBase
namespace Go.Proofs.YtkoflhjnpilchaaDoor
set_option linter.unusedSimpArgs false
set_option linter.unusedVariables false
set_option linter.unusedSectionVars false
open Go.RowKit
attribute [local go_sem ↓] Go.wp_at_zero Go.wp_at_succ

def opWordN (a k v : Int) : Int := if opRightB a k v = true then (a * 65536 + k) * 4294967296 + v else 0
def okE (b : Bool) (e : Int) : Int := if b = true then 0 else e

theorem or_add (x y : Int) (n p : Nat) (hx : x = ((2 ^ n * p : Nat) : Int)) (h0 : 0 ≤ y) (hy : y < ((2 ^ n : Nat) : Int)) (hs : x + y < 18446744073709551616) : bits .or .u64 x y = x + y := by
  obtain ⟨m, rfl⟩ := Int.eq_ofNat_of_zero_le h0
  have hm : m < 2 ^ n := by omega
  subst hx
  rw [u64_or_nat _ _ (by omega) (by omega), ← Nat.two_pow_add_eq_or_of_lt hm]
  simp
theorem p48 : (2 : Nat) ^ 48 = 281474976710656 := by decide
theorem p32 : (2 : Nat) ^ 32 = 4294967296 := by decide
theorem word_bits (a k v : Int) (q1 : 1 ≤ a) (q2 : a ≤ 6) (q3 : 0 ≤ k) (q4 : k ≤ 1000) (q5 : 0 ≤ v) (q6 : v ≤ 4294967295) :
    bits .or .u64 (bits .or .u64 (a * 281474976710656) (k * 4294967296)) v = (a * 65536 + k) * 4294967296 + v := by
  obtain ⟨p, rfl⟩ := Int.eq_ofNat_of_zero_le (show 0 ≤ a by omega)
  obtain ⟨q, rfl⟩ := Int.eq_ofNat_of_zero_le q3
  rw [or_add ((p : Int) * 281474976710656) ((q : Int) * 4294967296) 48 p (by rw [p48]; omega) (by omega) (by rw [p48]; omega) (by omega)]
  rw [or_add _ v 32 (p * 65536 + q) (by rw [p32]; omega) (by omega) (by rw [p32]; omega) (by omega)]
  omega
theorem answer_bits (a v : Int) (q1 : 1 ≤ a) (q2 : a ≤ 5) (q5 : 0 ≤ v) (q6 : v ≤ 4294967295) : bits .or .u64 (a * 4294967296) v = a * 4294967296 + v := by
  obtain ⟨p, rfl⟩ := Int.eq_ofNat_of_zero_le (show 0 ≤ a by omega)
  rw [or_add _ v 32 p (by rw [p32]; omega) (by omega) (by rw [p32]; omega) (by omega)]
theorem ret_word {x y : Int} {e : Value} (h : x = y) : Ending.returned (.tuple #[.int .u64 x, e]) = .returned (.tuple #[.int .u64 y, e]) := by rw [h]

def fitsB (a v : Int) : Bool := decide (1 ≤ a ∧ a ≤ 5 ∧ 0 ≤ v ∧ v ≤ 4294967295 ∧ (a = 1 ∨ v = 0))
def ansN (a v : Int) : Int := if fitsB a v = true then a * 4294967296 + v else 0
theorem refFits_any (a v : Int) (w : World) : Calls Tryd.prog 30 #[.agg #[.int .i64 a, .int .i64 v]] w fun e w' => e = .returned (.bool (fitsB a v)) ∧ Below w.heap.size w w' := by
  go_enter Tryd.func30, Tryd.ntmps30
  go_wp2_with (go_at_call 18; refine (within_any _ _ _ _).mono ?_; rintro e w' ⟨rfl, rfl⟩)
  all_goals (go_ret; refine ⟨ret_bool ?_, by go_grown⟩; simp_all [fitsB, withinB]; try omega)

theorem refAnswer_any (a v : Int) (w : World) : Calls Tryd.prog 23 #[.agg #[.int .i64 a, .int .i64 v]] w fun e w' => e = .returned (.tuple #[.int .u64 (ansN a v), .int .i64 (okE (fitsB a v) 1)]) ∧ Below w.heap.size w w' := by
  cases hr : fitsB a v with
  | false =>
    have e1 : ansN a v = 0 := by unfold ansN; rw [if_neg (by rw [hr]; simp)]
    have e2 : okE false 1 = 1 := by simp [okE]
    rw [e1, e2]
    clear e1 e2
    have HR := Lib.hid hr
    clear hr
    go_enter Tryd.func23, Tryd.ntmps23
    go_wp2_with (go_at_call 30; refine (refFits_any _ _ _).mono ?_; rintro e w1 ⟨rfl, hb⟩; rw [HR.out])
    go_ret2
    exact ⟨rfl, Below.trans (by go_grown) (hb.mono (by simp))⟩
  | true =>
    have e1 : ansN a v = a * 4294967296 + v := by unfold ansN; rw [if_pos hr]
    have e2 : okE true 1 = 0 := by simp [okE]
    rw [e1, e2]
    clear e1 e2
    have hq : 1 ≤ a ∧ a ≤ 5 ∧ 0 ≤ v ∧ v ≤ 4294967295 ∧ (a = 1 ∨ v = 0) := by simpa [fitsB] using hr
    obtain ⟨q1, q2, q5, q6, _⟩ := hq
    have HR := Lib.hid hr
    clear hr
    go_enter Tryd.func23, Tryd.ntmps23
    go_wp2_with (go_at_call 30; refine (refFits_any _ _ _).mono ?_; rintro e w1 ⟨rfl, hb⟩; rw [HR.out]; obtain ⟨hc, hf⟩ := bcell hb; have hz := hb.size; simp only [World.size_alloc] at hz)
    go_ret2
    exact ⟨rfl, Below.trans (by go_grown) (hb.mono (by simp))⟩
end Go.Proofs.YtkoflhjnpilchaaDoor
