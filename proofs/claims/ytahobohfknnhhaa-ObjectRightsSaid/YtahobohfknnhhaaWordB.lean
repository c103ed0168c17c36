/-
  What word.Bit, word.Flip and the reference's return: for every word and every place.
-/
import Derived.Test.YtahobohfknnhhaaOps
import Derived.Test.YtahobohfknnhhaaDigits
namespace Go.Proofs.Ytahobohfknnhhaa
set_option linter.unusedSimpArgs false
set_option linter.unusedVariables false
set_option linter.unusedSectionVars false
open Go.RowKit
attribute [local go_sem ↓] Go.wp_at_zero Go.wp_at_succ

def bitB (x : Nat) (a : Int) : Bool := decide (0 ≤ a ∧ a < 64 ∧ x / 2 ^ a.toNat % 2 = 1)
def flipN (x : Nat) (a : Int) : Nat := if 0 ≤ a ∧ a < 64 then x ^^^ 2 ^ a.toNat else x

theorem two_pow_lt {j : Nat} (h : j < 64) : 2 ^ j < 18446744073709551616 := by
  have h1 : 2 ^ j < 2 ^ 64 := Nat.pow_lt_pow_right (by decide) h
  have h2 : (2 : Nat) ^ 64 = 18446744073709551616 := by decide
  omega
theorem and_one (x j : Nat) (hx : x < 18446744073709551616) : bits .and .u64 ((x : Int) / 2 ^ j) 1 = ((x / 2 ^ j % 2 : Nat) : Int) := by
  have e : (x : Int) / 2 ^ j = ((x / 2 ^ j : Nat) : Int) := by simp
  rw [e, show (1 : Int) = ((1 : Nat) : Int) from rfl, u64_and_nat _ _ (Nat.lt_of_le_of_lt (Nat.div_le_self _ _) hx) (by decide), Nat.and_one_is_mod]
theorem xor_pow (x j : Nat) (hx : x < 18446744073709551616) (hj : j < 64) : bits .xor .u64 (x : Int) (IntKind.u64.wrap (2 ^ j)) = ((x ^^^ 2 ^ j : Nat) : Int) := by
  have h1 := two_pow_lt hj
  have h2 : (2 : Int) ^ j = ((2 ^ j : Nat) : Int) := by simp
  have e : IntKind.u64.wrap ((2 : Int) ^ j) = ((2 ^ j : Nat) : Int) := by
    rw [h2]
    generalize 2 ^ j = q at h1
    exact IntWalk.u64_in _ (by omega)
  rw [e, u64_xor_nat _ _ hx (two_pow_lt hj)]

theorem bitB_in (x j : Nat) (hj : j < 64) : bitB x (j : Int) = decide (x / 2 ^ j % 2 = 1) := by
  have h : (j : Int) < 64 := by omega
  simp [bitB, h]
theorem eq_one (m : Nat) : (((m : Nat) : Int) == 1) = decide (m = 1) := by
  rw [Bool.eq_iff_iff]; simp; omega
theorem flipN_in (x j : Nat) (hj : j < 64) : flipN x (j : Int) = x ^^^ 2 ^ j := by
  have h : (j : Int) < 64 := by omega
  simp [flipN, h]

theorem refBit_any (x : Nat) (a : Int) (w : World) (hx : x < 18446744073709551616) :
    Calls Try.prog 18 #[.int .u64 x, .int .i64 a] w fun e w' => e = .returned (.bool (bitB x a)) ∧ Below w.heap.size w w' := by
  by_cases ha : 0 ≤ a ∧ a < 64
  · obtain ⟨h0, h1⟩ := ha
    obtain ⟨j, rfl⟩ := Int.eq_ofNat_of_zero_le h0
    have hw : withinB (j : Int) 0 63 = true := by simp [withinB]; omega
    go_enter Try.func18, Try.ntmps18
    go_wp2_with fail
    refine (within_any _ _ _ _).mono ?_
    rintro e w1 ⟨rfl, rfl⟩
    go_wp2_with fail
    refine (digits_any x _ hx).mono ?_
    rintro e w1 ⟨rfl, hblk, hb⟩
    have hc : w1.cell? ⟨w.heap.size, j, none⟩ = some (.int .i64 ((x / 2 ^ j % 2 : Nat) : Int)) := by rw [hblk.cell j, digArr_get _ _ _ (by omega), if_pos (by omega)]
    generalize hm : x / 2 ^ j % 2 = m at hc
    have HM := Lib.hid hm
    clear hm
    go_wp2
    go_ret
    exact ⟨ret_bool (by rw [bitB_in x j (by omega), eq_one, HM.out]), hb⟩
  · have hw : withinB a 0 63 = false := by simp [withinB]; omega
    go_enter Try.func18, Try.ntmps18
    go_wp2_with (go_at_call 9; refine (within_any _ _ _ _).mono ?_; rintro e w1 ⟨rfl, rfl⟩)
    go_ret
    exact ⟨ret_bool (by simp [bitB]; omega), Below.refl _ _⟩

theorem digs_slI {w : World} {g x : Nat} (h : Blk w g 3 (digArr x 64)) : SlI w (some ⟨g, 0, none⟩) 64 64 ((Pl.digs x).map fun b : Nat => (b : Int)) := by
  have hget : ∀ i : Nat, i < 64 → ((Pl.digs x).map fun b : Nat => (b : Int))[i]?.getD 0 = ((x / 2 ^ i % 2 : Nat) : Int) := fun i hi => by
    rw [List.getElem?_map, Pl.digs_get x i hi]; rfl
  refine SlI.of_blk h (by simp [Pl.digs_length]) (Nat.le_refl _) (by decide) (fun i hi => ?_) (fun i => ?_)
  · rw [digArr_get _ _ _ hi, if_pos hi, hget i hi]
  · by_cases hi : i < 64
    · rw [hget i hi]; omega
    · rw [List.getElem?_eq_none (by simp [Pl.digs_length]; omega)]; decide

theorem refFlip_any (x : Nat) (a : Int) (w : World) (hx : x < 18446744073709551616) :
    Calls Try.prog 29 #[.int .u64 x, .int .i64 a] w fun e w' => e = .returned (.int .u64 ((flipN x a : Nat) : Int)) ∧ Below w.heap.size w w' := by
  have hx64 : x < 2 ^ 64 := by have h2 : (2 : Nat) ^ 64 = 18446744073709551616 := by decide
                               omega
  by_cases ha : 0 ≤ a ∧ a < 64
  · obtain ⟨h0, h1⟩ := ha
    obtain ⟨j, rfl⟩ := Int.eq_ofNat_of_zero_le h0
    have hw : withinB (j : Int) 0 63 = true := by simp [withinB]; omega
    have hj : j < 64 := by omega
    go_enter Try.func29, Try.ntmps29
    go_wp2_with fail
    refine (digits_any x _ hx).mono ?_
    rintro e w1 ⟨rfl, hblk, hb⟩
    have hc : w1.cell? ⟨w.heap.size, j, none⟩ = some (.int .i64 ((x / 2 ^ j % 2 : Nat) : Int)) := by rw [hblk.cell j, digArr_get _ _ _ (by omega), if_pos (by omega)]
    have hf : w1.frozen? ⟨w.heap.size, j, none⟩ = false := hblk.frozen j
    have hm2 : x / 2 ^ j % 2 < 2 := Nat.mod_lt _ (by decide)
    generalize hm : x / 2 ^ j % 2 = m at hc hm2
    have HM := Lib.hid hm
    clear hm
    go_wp2_with (go_at_call 9; refine (within_any _ _ _ _).mono ?_; rintro e w1 ⟨rfl, rfl⟩)
    have hsl : SlI (w1.setCell ⟨w.heap.size, j, none⟩ (.int .i64 (1 - (m : Int)))) (some ⟨w.heap.size, 0, none⟩) 64 64 (((Pl.digs x).set j (1 - m)).map fun b : Nat => (b : Int)) := by
      have hlen : (Pl.digs x).length = 64 := Pl.digs_length x
      have hget : ∀ i : Nat, i < 64 → (((Pl.digs x).set j (1 - m)).map fun b : Nat => (b : Int))[i]?.getD 0 = if j = i then 1 - (m : Int) else ((x / 2 ^ i % 2 : Nat) : Int) := fun i hi => by
        rw [List.getElem?_map, List.getElem?_set, hlen, if_pos hj]
        by_cases h : j = i
        · rw [if_pos h, if_pos h]
          simp only [Option.map_some, Option.getD_some]
          omega
        · rw [if_neg h, if_neg h, Pl.digs_get x i hi]; rfl
      refine SlI.of_blk (hblk.set_ j _) (by simp [hlen]) (Nat.le_refl _) (by decide) (fun i hi => ?_) (fun i => ?_)
      · rw [Array.getElem?_setIfInBounds, hget i hi]
        by_cases h : j = i
        · subst h
          rw [if_pos rfl, if_pos rfl, if_pos (by simp [digArr]; exact hj)]
        · rw [if_neg h, if_neg h, digArr_get _ _ _ hi, if_pos hi]
      · by_cases hi : i < 64
        · rw [hget i hi]
          split
          · omega
          · have : x / 2 ^ i % 2 < 2 := Nat.mod_lt _ (by decide)
            generalize x / 2 ^ i % 2 = z at this
            omega
        · rw [List.getElem?_eq_none (by simp [hlen]; omega)]; decide
    refine (number_any _ _ _ _ _ hsl (Pl.mem_set_bit (Pl.digs_bit x) (by omega)) (by simp [Pl.digs_length])).mono ?_
    rintro e w2 ⟨rfl, rfl⟩
    go_wp2
    go_ret
    exact ⟨ret_int (by rw [flipN_in x j hj, ← HM.out, Pl.nof_flip x j hx64 hj]), by go_grown⟩
  · have hw : withinB a 0 63 = false := by simp [withinB]; omega
    go_enter Try.func29, Try.ntmps29
    go_wp2_with fail
    refine (digits_any x _ hx).mono ?_
    rintro e w1 ⟨rfl, hblk, hb⟩
    go_wp2_with (first | (go_at_call 9; refine (within_any _ _ _ _).mono ?_; rintro e w1 ⟨rfl, rfl⟩) | (go_at_call 34; refine (number_any _ _ _ (Pl.digs x) _ (digs_slI hblk) (Pl.digs_bit x) (by rw [Pl.digs_length]; exact Nat.le_refl _)).mono ?_; rintro e w2 ⟨rfl, rfl⟩))
    go_ret
    exact ⟨ret_int (by simp only [flipN]; rw [if_neg ha, Pl.nof_digs x hx64]), hb⟩
end Go.Proofs.Ytahobohfknnhhaa
