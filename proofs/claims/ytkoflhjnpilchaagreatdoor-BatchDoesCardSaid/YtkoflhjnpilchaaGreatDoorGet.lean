/-
  What word.Get and gristmillref.Get return. For every word and every range of bits.
-/
import Derived.Test.YtkoflhjnpilchaaGreatDoorMWord
import Derived.Test.YtkoflhjnpilchaaGreatDoorOpW
import Derived.Test.YtkoflhjnpilchaaGreatDoorMBase
namespace Go.Proofs.YtkoflhjnpilchaaGreatDoor
set_option linter.unusedSimpArgs false
set_option linter.unusedVariables false
set_option linter.unusedSectionVars false
open Go.RowKit
attribute [local go_sem ↓] Go.wp_at_zero Go.wp_at_succ

def rangeB (a n : Int) : Bool := decide (1 ≤ n ∧ n ≤ 64 ∧ 0 ≤ a ∧ a ≤ 64 - n)
def getN (x : Nat) (a n : Int) : Nat := if rangeB a n = true then x / 2 ^ a.toNat % 2 ^ n.toNat else 0

theorem wright_any (a n : Int) (w : World) : Calls Tryz.prog 75 #[.int .i64 a, .int .i64 n] w fun e w' => e = .returned (.bool (rangeB a n)) ∧ Below w.heap.size w w' := by
  go_enter Tryz.func75, Tryz.ntmps75
  go_wp2
  all_goals (go_ret; refine ⟨ret_bool ?_, by go_grown⟩; simp_all [rangeB]; try omega)
theorem pow_pos (j : Nat) : 1 ≤ 2 ^ j := Nat.one_le_two_pow
theorem ones_any (j : Nat) (w : World) (hj : j ≤ 64) : Calls Tryz.prog 76 #[.int .i64 j] w fun e w' => e = .returned (.int .u64 ((2 ^ j - 1 : Nat) : Int)) ∧ Below w.heap.size w w' := by
  by_cases h : j = 64
  · subst h
    go_enter Tryz.func76, Tryz.ntmps76
    go_wp2
    go_ret
    exact ⟨ret_int (by decide), by go_grown⟩
  · have hj' : j < 64 := by omega
    have h1 := two_pow_lt hj'
    have h0 := pow_pos j
    have e1 : IntKind.u64.wrap ((2 : Int) ^ j) = ((2 ^ j : Nat) : Int) := by
      have h2 : (2 : Int) ^ j = ((2 ^ j : Nat) : Int) := by simp
      rw [h2]
      generalize 2 ^ j = q at h1
      exact IntWalk.u64_in _ (by omega)
    have E1 := Lib.hid e1
    clear e1
    have H0 := Lib.hid h0
    have H1 := Lib.hid h1
    clear h0 h1
    go_enter Tryz.func76, Tryz.ntmps76
    go_wp2
    go_ret
    refine ⟨ret_int ?_, by go_grown⟩
    have h0 := H0.out
    have h1 := H1.out
    rw [E1.out]
    generalize 2 ^ j = q at h0 h1
    rw [IntWalk.u64_in _ (by omega)]
    omega
theorem and_ones (x a j : Nat) (hx : x < 18446744073709551616) (hj : j ≤ 64) : bits .and .u64 ((x : Int) / 2 ^ a) ((2 ^ j - 1 : Nat) : Int) = ((x / 2 ^ a % 2 ^ j : Nat) : Int) := by
  have e : (x : Int) / 2 ^ a = ((x / 2 ^ a : Nat) : Int) := by simp
  have hq : 2 ^ j - 1 < 18446744073709551616 := by
    have h1 : 2 ^ j ≤ 2 ^ 64 := Nat.pow_le_pow_right (by decide) hj
    have h2 : (2 : Nat) ^ 64 = 18446744073709551616 := by decide
    have h3 := pow_pos j
    omega
  rw [e, u64_and_nat _ _ (Nat.lt_of_le_of_lt (Nat.div_le_self _ _) hx) hq, Nat.and_two_pow_sub_one_eq_mod]

set_option maxRecDepth 100000 in
theorem get_any (x : Nat) (a n : Int) (w : World) (hx : x < 18446744073709551616) : Calls Tryz.prog 54 #[.int .u64 x, .int .i64 a, .int .i64 n] w fun e w' => e = .returned (.tuple #[.int .u64 ((getN x a n : Nat) : Int), errV (okE (rangeB a n) 2)]) ∧ Below w.heap.size w w' := by
  cases hr : rangeB a n with
  | false =>
    have e1 : getN x a n = 0 := by unfold getN; rw [if_neg (by rw [hr]; simp)]
    have e2 : errV (okE false 2) = .iface 28 (.int .i64 2) := by simp [okE, errV]
    rw [e1, e2]
    clear e1 e2
    have HR := Lib.hid hr
    clear hr
    go_enter Tryz.func54, Tryz.ntmps54
    go_wp2_with (go_at_call 75; refine (wright_any _ _ _).mono ?_; rintro e w1 ⟨rfl, hb⟩; rw [HR.out])
    go_ret2
    exact ⟨rfl, hb⟩
  | true =>
    have e1 : getN x a n = x / 2 ^ a.toNat % 2 ^ n.toNat := by unfold getN; rw [if_pos hr]
    have e2 : errV (okE true 2) = .nilIface := by simp [okE, errV]
    rw [e1, e2]
    clear e1 e2
    have hq : 1 ≤ n ∧ n ≤ 64 ∧ 0 ≤ a ∧ a ≤ 64 - n := by simpa [rangeB] using hr
    obtain ⟨q1, q2, q3, q4⟩ := hq
    obtain ⟨i, rfl⟩ := Int.eq_ofNat_of_zero_le q3
    obtain ⟨j, rfl⟩ := Int.eq_ofNat_of_zero_le (show 0 ≤ n by omega)
    have hj : j ≤ 64 := by omega
    have HR := Lib.hid hr
    clear hr
    have HX := Lib.hid hx
    clear hx
    have hi63 : (i : Int) < 64 := by omega
    go_enter Tryz.func54, Tryz.ntmps54
    go_wp2_with (go_at_call 75; refine (wright_any _ _ _).mono ?_; rintro e w1 ⟨rfl, hb⟩; rw [HR.out])
    refine wp_region_rely 7 nowhere [] (by kernel_rfl) (by kernel_rfl) ?_
    iterate 7
      refine wpRely_step (fun K hK => ?_)
      first
      | (refine .inl ?_
         apply Exists.intro
         refine ⟨Any, ?_, hK _ _ _ _ ?_⟩
         · simp only [RelyOp, fillE]
           refine ⟨?_, fun w9 hw9 _ => ?_⟩
           · first | rfl | (go_simp; done)
           obtain ⟨hc9, hf9⟩ := hw9.all
           go_simp
           first
           | exact ⟨⟨rfl, trivial⟩, Keeps.refl _ _⟩
           | (go_at_call 76; exact rely_det (ones_any j _ hj))
         clear hK K
         try simp only [Act.put, List.setIfInBounds_toArray, List.set_cons_zero, List.set_cons_succ])
      | (refine .inr (.inl ⟨?_, hK _ _ _ _ ?_⟩)
         · simp only [fillE]
           first | rfl | (go_simp; done)
         clear hK K
         try simp only [Act.put, List.setIfInBounds_toArray, List.set_cons_zero, List.set_cons_succ])
    refine wpRely_nil ?_
    simp only [fillE]
    intro w9 hw9 _
    obtain ⟨hc9, hf9⟩ := hw9.all
    go_wp2
    go_ret2
    exact ⟨ret_word (by rw [and_ones x i j HX.out hj]; simp), hb.trans (hw9.same.mono hb.size)⟩

theorem SlI.cut {w : World} {b off n c : Nat} {xs : List Int} (h : SlI w (some ⟨b, off, none⟩) n c xs) (i j : Nat) (hij : i + j ≤ n) : SlI w (some ⟨b, off + i, none⟩) j (c - i) ((xs.drop i).take j) :=
  ⟨by simp [h.len]; omega, by have := h.cap; omega, by have := h.cap63; omega, fun k => by
    rw [List.getElem?_take]; split
    · rw [List.getElem?_drop]; exact h.bd (i + k)
    · decide, fun hj => by
    obtain ⟨b', off', hA, hlt, hc⟩ := h.at_ (by omega)
    cases hA
    refine ⟨b, off + i, rfl, hlt, fun k hk => ?_⟩
    rw [List.getElem?_take, if_pos hk, List.getElem?_drop, Nat.add_assoc]
    exact hc (i + k) (by omega)⟩

end Go.Proofs.YtkoflhjnpilchaaGreatDoor
