/-
  What word.Get and gristmillref.Get return. For every word and every range of bits.
-/
import Derived.Test.YtkoflhjnpilchaaDoorMWord
import Derived.Test.YtkoflhjnpilchaaDoorOpW
import Derived.Test.YtkoflhjnpilchaaDoorMBase
namespace Go.Proofs.YtkoflhjnpilchaaDoor
set_option linter.unusedSimpArgs false
set_option linter.unusedVariables false
set_option linter.unusedSectionVars false
open Go.RowKit
attribute [local go_sem ↓] Go.wp_at_zero Go.wp_at_succ

def rangeB (a n : Int) : Bool := decide (1 ≤ n ∧ n ≤ 64 ∧ 0 ≤ a ∧ a ≤ 64 - n)
def getN (x : Nat) (a n : Int) : Nat := if rangeB a n = true then x / 2 ^ a.toNat % 2 ^ n.toNat else 0

theorem pow_pos (j : Nat) : 1 ≤ 2 ^ j := Nat.one_le_two_pow
theorem and_ones (x a j : Nat) (hx : x < 18446744073709551616) (hj : j ≤ 64) : bits .and .u64 ((x : Int) / 2 ^ a) ((2 ^ j - 1 : Nat) : Int) = ((x / 2 ^ a % 2 ^ j : Nat) : Int) := by
  have e : (x : Int) / 2 ^ a = ((x / 2 ^ a : Nat) : Int) := by simp
  have hq : 2 ^ j - 1 < 18446744073709551616 := by
    have h1 : 2 ^ j ≤ 2 ^ 64 := Nat.pow_le_pow_right (by decide) hj
    have h2 : (2 : Nat) ^ 64 = 18446744073709551616 := by decide
    have h3 := pow_pos j
    omega
  rw [e, u64_and_nat _ _ (Nat.lt_of_le_of_lt (Nat.div_le_self _ _) hx) hq, Nat.and_two_pow_sub_one_eq_mod]

theorem SlI.cut {w : World} {b off n c : Nat} {xs : List Int} (h : SlI w (some ⟨b, off, none⟩) n c xs) (i j : Nat) (hij : i + j ≤ n) : SlI w (some ⟨b, off + i, none⟩) j (c - i) ((xs.drop i).take j) :=
  ⟨by simp [h.len]; omega, by have := h.cap; omega, by have := h.cap63; omega, fun k => by
    rw [List.getElem?_take]; split
    · rw [List.getElem?_drop]; exact h.bd (i + k)
    · decide, fun hj => by
    obtain ⟨b', off', hA, hlt, hc⟩ := h.at_ (by omega)
    cases hA
    refine ⟨b, off + i, rfl, hlt, fun k hk => ?_⟩
    rw [List.getElem?_take, if_pos hk, List.getElem?_drop, Nat.add_assoc]
    exact hc (i + k) (by omega)⟩

end Go.Proofs.YtkoflhjnpilchaaDoor
