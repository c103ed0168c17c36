/-
  What word.Set and gristmillref.Set return. For every word, range of bits and number.
-/
import Derived.Test.YtiajglefmlfkfaaDoorGet
namespace Go.Proofs.YtiajglefmlfkfaaDoor
open Go.RowKit
attribute [local go_sem ↓] Go.wp_at_zero Go.wp_at_succ

namespace Pl
theorem laidIn_length (x y a n : Nat) : (laidIn x y a n).length = 64 := by simp [laidIn]
theorem laidIn_get (x y a n i : Nat) (h : i < 64) : (laidIn x y a n)[i]? = some (if a ≤ i ∧ i < a + n then y / 2 ^ (i - a) % 2 else x / 2 ^ i % 2) := by
  unfold laidIn
  rw [List.getElem?_map, List.getElem?_range h]
  rfl
theorem laidIn_bit (x y a n : Nat) : ∀ b ∈ laidIn x y a n, b < 2 := by
  intro b hb
  unfold laidIn at hb
  simp only [List.mem_map] at hb
  obtain ⟨i, _, rfl⟩ := hb
  split <;> exact Nat.mod_lt _ (by decide)
theorem nof_laidIn (x y i j o : Nat) (hx : x < 2 ^ 64) (hij : i + j ≤ 64) (hy : y < 2 ^ j) (ho : o = 2 ^ j - 1) :
    (x &&& (18446744073709551615 - o * 2 ^ i)) ||| (y * 2 ^ i) = nof (laidIn x y i j) := by
  have hp : 1 ≤ 2 ^ j := Nat.one_le_two_pow
  have hi : 1 ≤ 2 ^ i := Nat.one_le_two_pow
  have hlt : o * 2 ^ i < 2 ^ 64 := by
    have h1 : 2 ^ (i + j) ≤ 2 ^ 64 := Nat.pow_le_pow_right (by decide) hij
    rw [Nat.pow_add] at h1
    have h2 : o * 2 ^ i < 2 ^ j * 2 ^ i := Nat.mul_lt_mul_of_pos_right (by omega) (by omega)
    rw [Nat.mul_comm (2 ^ j)] at h2
    omega
  have h64 : (2 : Nat) ^ 64 = 18446744073709551616 := by decide
  have e1 : 18446744073709551615 - o * 2 ^ i = 2 ^ 64 - (o * 2 ^ i + 1) := by omega
  apply Nat.eq_of_testBit_eq
  intro k
  rw [nof_testBit _ (laidIn_bit x y i j), Nat.testBit_or, Nat.testBit_and, e1, Nat.testBit_two_pow_sub_succ hlt, Nat.testBit_mul_two_pow, Nat.testBit_mul_two_pow, ho, Nat.testBit_two_pow_sub_one]
  by_cases h : k < 64
  · rw [laidIn_get _ _ _ _ _ h, Option.getD_some, testBit_div x, testBit_div y]
    by_cases h1 : i ≤ k
    · by_cases h2 : k < i + j
      · have h3 : k - i < j := by omega
        simp [h, h1, h2, h3]
      · have h3 : ¬ k - i < j := by omega
        have h4 : y / 2 ^ (k - i) = 0 := by
          rw [Nat.div_eq_of_lt]
          exact Nat.lt_of_lt_of_le hy (Nat.pow_le_pow_right (by decide) (by omega))
        simp [h, h1, h2, h3, h4]
    · simp [h, h1]
  · rw [List.getElem?_eq_none (by rw [laidIn_length]; omega)]
    have h1 : i ≤ k := by omega
    have h4 : y.testBit (k - i) = false := Nat.testBit_lt_two_pow (Nat.lt_of_lt_of_le hy (Nat.pow_le_pow_right (by decide) (by omega)))
    simp [h, h4]
theorem full_iff (y j : Nat) (hy : y < 18446744073709551616) (o : Nat) (ho : o = 2 ^ j - 1) (hj : j ≤ 64) : (y &&& (18446744073709551615 - o) = 0) ↔ y < 2 ^ j := by
  have h64 : (2 : Nat) ^ 64 = 18446744073709551616 := by decide
  have hp : 1 ≤ 2 ^ j := Nat.one_le_two_pow
  have hlt : o < 2 ^ 64 := by
    have h1 : 2 ^ j ≤ 2 ^ 64 := Nat.pow_le_pow_right (by decide) hj
    omega
  have e1 : 18446744073709551615 - o = 2 ^ 64 - (o + 1) := by omega
  rw [e1]
  constructor
  · intro h
    apply Nat.lt_pow_two_of_testBit
    intro k hk
    have h1 := congrArg (fun v => v.testBit k) h
    simp only [Nat.testBit_and, Nat.zero_testBit, Nat.testBit_two_pow_sub_succ hlt] at h1
    rw [ho, Nat.testBit_two_pow_sub_one] at h1
    by_cases hk64 : k < 64
    · have : ¬ k < j := by omega
      simpa [hk64, this] using h1
    · exact Nat.testBit_lt_two_pow (Nat.lt_of_lt_of_le (by omega : y < 2 ^ 64) (Nat.pow_le_pow_right (by decide) (by omega)))
  · intro h
    apply Nat.eq_of_testBit_eq
    intro k
    simp only [Nat.testBit_and, Nat.zero_testBit, Nat.testBit_two_pow_sub_succ hlt]
    rw [ho, Nat.testBit_two_pow_sub_one]
    by_cases hk : k < j
    · simp [hk]
    · rw [Nat.testBit_lt_two_pow (Nat.lt_of_lt_of_le h (Nat.pow_le_pow_right (by decide) (by omega)))]
      simp
end Pl

def setE (a n : Int) (y : Nat) : Int := if rangeB a n = true then (if y < 2 ^ n.toNat then 0 else 12) else 2
def setV (x : Nat) (a n : Int) (y : Nat) : Nat := if rangeB a n = true ∧ y < 2 ^ n.toNat then Pl.nof (Pl.laidIn x y a.toNat n.toNat) else 0

set_option maxRecDepth 100000 in
theorem set_any (x y : Nat) (a n : Int) (w : World) (hx : x < 18446744073709551616) (hy : y < 18446744073709551616) :
    Calls Tryd.prog 31 #[.int .u64 x, .int .i64 a, .int .i64 n, .int .u64 y] w fun e w' => e = .returned (.tuple #[.int .u64 ((setV x a n y : Nat) : Int), errV (setE a n y)]) ∧ Below w.heap.size w w' := by
  cases hr : rangeB a n with
  | false =>
    have e1 : setV x a n y = 0 := by unfold setV; rw [if_neg (by rw [hr]; simp)]
    have e2 : errV (setE a n y) = .iface 25 (.int .i64 2) := by unfold setE; rw [if_neg (by rw [hr]; simp)]; simp [errV]
    rw [e1, e2]
    clear e1 e2
    have HR := Lib.hid hr
    clear hr
    go_enter Tryd.func31, Tryd.ntmps31
    go_wp2_with (go_at_call 76; refine (right_any _ _ _).mono ?_; rintro e w1 ⟨rfl, hb⟩; rw [HR.out])
    go_ret2
    exact ⟨rfl, hb⟩
  | true =>
    have hq : 1 ≤ n ∧ n ≤ 64 ∧ 0 ≤ a ∧ a ≤ 64 - n := by simpa [rangeB] using hr
    obtain ⟨q1, q2, q3, q4⟩ := hq
    obtain ⟨i, rfl⟩ := Int.eq_ofNat_of_zero_le q3
    obtain ⟨j, rfl⟩ := Int.eq_ofNat_of_zero_le (show 0 ≤ n by omega)
    have hj : j ≤ 64 := by omega
    have hi63 : (i : Int) < 64 := by omega
    have hone : ∀ w, _ := fun w => ones_any j w hj
    obtain ⟨o, ho⟩ : ∃ o, o = 2 ^ j - 1 := ⟨_, rfl⟩
    rw [← ho] at hone
    have hp : 1 ≤ 2 ^ j := Nat.one_le_two_pow
    have ho64 : o < 18446744073709551616 := by
      have h64 : (2 : Nat) ^ 64 = 18446744073709551616 := by decide
      have h1 : 2 ^ j ≤ 2 ^ 64 := Nat.pow_le_pow_right (by decide) hj
      omega
    have hfull := Pl.full_iff y j hy o ho hj
    have han : bits .andNot .u64 (y : Int) (o : Int) = ((y &&& (18446744073709551615 - o) : Nat) : Int) := u64_andNot_nat y o hy ho64
    have HONE := Lib.hid hone
    clear hone
    have HR := Lib.hid hr
    clear hr
    by_cases hyj : y < 2 ^ j
    · have e1 : setV x i j y = Pl.nof (Pl.laidIn x y i j) := by unfold setV; rw [if_pos ⟨HR.out, by simpa using hyj⟩]; simp
      have e2 : errV (setE i j y) = .nilIface := by unfold setE; rw [if_pos HR.out, if_pos (by simpa using hyj)]; simp [errV]
      have hz : (bits .andNot .u64 (y : Int) (o : Int) != 0) = false := by rw [han, hfull.2 hyj]; rfl
      have hnof := Pl.nof_laidIn x y i j o (by have h64 : (2 : Nat) ^ 64 = 18446744073709551616 := by decide
                                               omega) (by omega) hyj ho
      rw [e1, e2, ← hnof]
      have ho2 : o * 2 ^ i < 18446744073709551616 := by
        have h64 : (2 : Nat) ^ 64 = 18446744073709551616 := by decide
        have h1 : 2 ^ (i + j) ≤ 2 ^ 64 := Nat.pow_le_pow_right (by decide) (by omega)
        rw [Nat.pow_add] at h1
        have h2 : o * 2 ^ i < 2 ^ j * 2 ^ i := Nat.mul_lt_mul_of_pos_right (by omega) (Nat.two_pow_pos i)
        rw [Nat.mul_comm (2 ^ j)] at h2
        omega
      have hy2 : y * 2 ^ i < 18446744073709551616 := by
        have h64 : (2 : Nat) ^ 64 = 18446744073709551616 := by decide
        have h1 : 2 ^ (i + j) ≤ 2 ^ 64 := Nat.pow_le_pow_right (by decide) (by omega)
        rw [Nat.pow_add] at h1
        have h2 : y * 2 ^ i < 2 ^ j * 2 ^ i := Nat.mul_lt_mul_of_pos_right hyj (Nat.two_pow_pos i)
        rw [Nat.mul_comm (2 ^ j)] at h2
        omega
      have ew : bits .or .u64 (bits .andNot .u64 (x : Int) (IntKind.u64.wrap ((o : Int) * 2 ^ i))) (IntKind.u64.wrap ((y : Int) * 2 ^ i)) = (((x &&& (18446744073709551615 - o * 2 ^ i)) ||| (y * 2 ^ i) : Nat) : Int) := by
        have c1 : (o : Int) * 2 ^ i = ((o * 2 ^ i : Nat) : Int) := by simp
        have c2 : (y : Int) * 2 ^ i = ((y * 2 ^ i : Nat) : Int) := by simp
        rw [c1, c2, IntWalk.u64_in _ (by omega), IntWalk.u64_in _ (by omega), u64_andNot_nat _ _ hx ho2, u64_or_nat _ _ (by have := Nat.and_le_left (n := x) (m := 18446744073709551615 - o * 2 ^ i); omega) hy2]
      have HW := Lib.hid ew
      clear ew e1 e2 hnof hfull han ho2 hy2 ho hp ho64 hyj
      go_enter Tryd.func31, Tryd.ntmps31
      go_wp2_with (first
        | (go_at_call 76; refine (right_any _ _ _).mono ?_; rintro e w1 ⟨rfl, hb⟩; rw [HR.out])
        | (go_at_call 77; refine (HONE.out _).mono ?_; rintro e w2 ⟨rfl, hb2⟩; have hB := hb.trans (hb2.mono hb.size)))
      refine wp_region_rely 11 nowhere [] (by kernel_rfl) (by kernel_rfl) ?_
      iterate 11
        refine wpRely_step (fun K hK => ?_)
        first
        | (refine .inl ?_
           apply Exists.intro
           refine ⟨Any, ?_, hK _ _ _ ?_⟩
           · simp only [RelyOp, fillE]
             refine ⟨?_, fun w9 hw9 _ => ?_⟩
             · first | rfl | (go_simp; done)
             obtain ⟨hc9, hf9⟩ := hw9.all
             go_simp
             first
             | exact ⟨⟨rfl, trivial⟩, Keeps.refl _ _⟩
             | (go_at_call 77; exact rely_det (HONE.out _))
           clear hK K
           try simp only [Act.put, List.setIfInBounds_toArray, List.set_cons_zero, List.set_cons_succ])
        | (refine .inr (.inl ⟨?_, hK _ _ _ ?_⟩)
           · simp only [fillE]
             first | rfl | (go_simp; done)
           clear hK K
           try simp only [Act.put, List.setIfInBounds_toArray, List.set_cons_zero, List.set_cons_succ])
      refine wpRely_nil ?_
      simp only [fillE]
      intro w9 hw9 _
      obtain ⟨hc9, hf9⟩ := hw9.all
      go_wp2
      go_ret2
      exact ⟨ret_word HW.out, hB.trans (hw9.same.mono hB.size)⟩
    · have e1 : setV x i j y = 0 := by unfold setV; rw [if_neg (by simp; intro; omega)]
      have e2 : errV (setE i j y) = .iface 25 (.int .i64 12) := by unfold setE; rw [if_pos HR.out, if_neg (by simpa using hyj)]; simp [errV]
      have hz : (bits .andNot .u64 (y : Int) (o : Int) != 0) = true := by
        rw [han]
        have : ¬ (y &&& (18446744073709551615 - o) = 0) := fun h => hyj (hfull.1 h)
        simpa using this
      rw [e1, e2]
      clear e1 e2 hfull han ho hp ho64 hyj
      go_enter Tryd.func31, Tryd.ntmps31
      go_wp2_with (first
        | (go_at_call 76; refine (right_any _ _ _).mono ?_; rintro e w1 ⟨rfl, hb⟩; rw [HR.out])
        | (go_at_call 77; refine (HONE.out _).mono ?_; rintro e w2 ⟨rfl, hb2⟩; have hB := hb.trans (hb2.mono hb.size)))
      go_ret2
      exact ⟨rfl, hB⟩

def layArr (x y a m : Nat) : Array Value := ((Pl.laidIn x y a m).map fun b => Value.int .i64 ((b : Nat) : Int)).toArray
theorem layArr_get (x y a m i : Nat) (h : i < 64) : (layArr x y a m)[i]? = some (.int .i64 ((if a ≤ i ∧ i < a + m then y / 2 ^ (i - a) % 2 else x / 2 ^ i % 2 : Nat) : Int)) := by
  simp [layArr, Pl.laidIn_get x y a m i h]
theorem layArr_size (x y a m : Nat) : (layArr x y a m).size = 64 := by simp [layArr, Pl.laidIn_length]
theorem layArr_zero (x y a : Nat) : layArr x y a 0 = digArr x 64 := by
  apply Array.ext_getElem?
  intro i
  by_cases h : i < 64
  · rw [layArr_get _ _ _ _ _ h, digArr_get _ _ _ h, if_pos h, if_neg (by omega)]
  · rw [Array.getElem?_eq_none (by rw [layArr_size]; omega), Array.getElem?_eq_none (by simp [digArr]; omega)]
theorem layArr_set (x y a m : Nat) (h : a + m < 64) : (layArr x y a m).setIfInBounds (a + m) (.int .i64 ((y / 2 ^ m % 2 : Nat) : Int)) = layArr x y a (m + 1) := by
  apply Array.ext_getElem?
  intro i
  rw [Array.getElem?_setIfInBounds]
  by_cases hi : i < 64
  · by_cases h1 : a + m = i
    · subst h1
      rw [if_pos rfl, if_pos (by rw [layArr_size]; omega), layArr_get _ _ _ _ _ hi, if_pos (by omega), show a + m - a = m by omega]
    · rw [if_neg h1, layArr_get _ _ _ _ _ hi, layArr_get _ _ _ _ _ hi]
      by_cases h2 : a ≤ i ∧ i < a + m
      · rw [if_pos h2, if_pos (by omega)]
      · rw [if_neg h2, if_neg (by omega)]
  · rw [if_neg (by omega), Array.getElem?_eq_none (by rw [layArr_size]; omega), Array.getElem?_eq_none (by rw [layArr_size]; omega)]
theorem lay_slI {w : World} {g x y a m : Nat} (h : Blk w g 3 (layArr x y a m)) : SlI w (some ⟨g, 0, none⟩) 64 64 ((Pl.laidIn x y a m).map fun b : Nat => (b : Int)) := by
  have hb := Pl.laidIn_bit x y a m
  have hget : ∀ i : Nat, i < 64 → ((Pl.laidIn x y a m).map fun b : Nat => (b : Int))[i]?.getD 0 = ((if a ≤ i ∧ i < a + m then y / 2 ^ (i - a) % 2 else x / 2 ^ i % 2 : Nat) : Int) := fun i hi => by
    rw [List.getElem?_map, Pl.laidIn_get x y a m i hi]; rfl
  refine SlI.of_blk h (by simp [Pl.laidIn_length]) (Nat.le_refl _) (by decide) (fun i hi => ?_) (fun i => ?_)
  · rw [layArr_get _ _ _ _ _ hi, hget i hi]
  · by_cases hi : i < 64
    · rw [hget i hi]; split <;> omega
    · rw [List.getElem?_eq_none (by simp [Pl.laidIn_length]; omega)]; decide

set_option maxRecDepth 100000 in
theorem refSet_any (x y : Nat) (a n : Int) (w : World) (hx : x < 18446744073709551616) (hy : y < 18446744073709551616) :
    Calls Tryd.prog 30 #[.int .u64 x, .int .i64 a, .int .i64 n, .int .u64 y] w fun e w' => e = .returned (.tuple #[.int .u64 ((setV x a n y : Nat) : Int), .int .i64 (setE a n y)]) ∧ Below w.heap.size w w' := by
  have hget := fun w => refGet_any x a n w hx
  cases hr : rangeB a n with
  | false =>
    have e1 : setV x a n y = 0 := by unfold setV; rw [if_neg (by rw [hr]; simp)]
    have e2 : setE a n y = 2 := by unfold setE; rw [if_neg (by rw [hr]; simp)]
    rw [hr] at hget
    have e3 : okE false 2 = 2 := by simp [okE]
    rw [e3] at hget
    rw [e1, e2]
    clear e1 e2 e3
    have HGET := Lib.hid hget
    clear hr hget
    go_enter Tryd.func30, Tryd.ntmps30
    go_wp2_with (go_at_call 28; refine (HGET.out _).mono ?_; rintro e w1 ⟨rfl, hb⟩)
    go_ret2
    exact ⟨rfl, hb⟩
  | true =>
    have hq : 1 ≤ n ∧ n ≤ 64 ∧ 0 ≤ a ∧ a ≤ 64 - n := by simpa [rangeB] using hr
    obtain ⟨q1, q2, q3, q4⟩ := hq
    obtain ⟨i, rfl⟩ := Int.eq_ofNat_of_zero_le q3
    obtain ⟨j, rfl⟩ := Int.eq_ofNat_of_zero_le (show 0 ≤ n by omega)
    have hj : j ≤ 64 := by omega
    have hij : i + j ≤ 64 := by omega
    rw [hr] at hget
    have e3 : okE true 2 = 0 := by simp [okE]
    rw [e3] at hget
    have HE0 : Hid (y < 2 ^ j → setE i j y = 0) := fun h => by unfold setE; rw [if_pos hr, if_pos (by simpa using h)]
    have HE1 : Hid (¬ y < 2 ^ j → setE i j y = 12) := fun h => by unfold setE; rw [if_pos hr, if_neg (by simpa using h)]
    have HV0 : Hid (y < 2 ^ j → setV x i j y = Pl.nof (Pl.laidIn x y i j)) := fun h => by unfold setV; rw [if_pos ⟨hr, by simpa using h⟩]; simp
    have HV1 : Hid (¬ y < 2 ^ j → setV x i j y = 0) := fun h => by unfold setV; rw [if_neg (by simp; intro; omega)]
    have HGET := Lib.hid hget
    have HX := Lib.hid hx
    have HY := Lib.hid hy
    clear hr hget e3 hx hy
    go_enter Tryd.func30, Tryd.ntmps30
    go_wp2_with (go_at_call 28; refine (HGET.out _).mono ?_; rintro e w1 ⟨rfl, hb⟩)
    refine (digits_any x _ HX.out).mono ?_
    rintro e w2 ⟨rfl, hblk1, hb2⟩
    go_wp2_with fail
    refine (digits_any y _ HY.out).mono ?_
    rintro e w3 ⟨rfl, hblk2, hb3⟩
    have z2 := hblk1.lt
    have z3 := hblk2.lt
    have hs1 := hb.size
    have hs2 := hb2.size
    have HBx : Hid (Blk w3 w1.heap.size 3 (layArr x y i 0)) := by rw [layArr_zero]; exact hblk1.below hb3 z2
    have HBy := Lib.hid hblk2
    have hB3 : Below w.heap.size w w3 := (hb.trans (hb2.mono hs1)).trans (hb3.mono (by omega))
    clear hblk1 hblk2 hb hb2 hb3
    go_wp2_with fail
    go_loopw [29] (fun kv wr => ∃ k : Nat, k ≤ 64 ∧ kv = .int .i64 k ∧ Below w.heap.size w wr ∧ Hid (Blk wr w1.heap.size 3 (layArr x y i (min k j))) ∧ Hid (Blk wr w2.heap.size 3 (digArr y 64)) ∧ Hid (∀ m, j ≤ m → m < k → y / 2 ^ m % 2 = 0)) (fun kv _ => 64 - (intOf kv).toNat)
    case atStart => exact ⟨0, by omega, rfl, hB3, by rw [Nat.zero_min]; exact HBx, HBy, Lib.hid fun m h1 h2 => absurd h2 (by omega)⟩
    case round =>
      obtain ⟨k, hk, rfl, hB, h1, h2, hall⟩ := hrel
      have l1 := h1.out.lt
      have l2 := h2.out.lt
      by_cases hk64 : k < 64
      · have b1 : (k : Int) < 64 := by omega
        have cy : wr.cell? ⟨w2.heap.size, k, none⟩ = some (.int .i64 ((y / 2 ^ k % 2 : Nat) : Int)) := by rw [h2.out.cell, digArr_get _ _ _ hk64, if_pos hk64]
        have hm2 : y / 2 ^ k % 2 < 2 := Nat.mod_lt _ (by decide)
        obtain ⟨m, hm⟩ : ∃ m, m = y / 2 ^ k % 2 := ⟨_, rfl⟩
        rw [← hm] at cy hm2
        have HM := Lib.hid hm
        clear hm
        by_cases hkj : k < j
        · have hkj' : (k : Int) < j := by omega
          have hik : i + k < 64 := by omega
          have hik' : (i : Int) + k < 64 := by omega
          obtain ⟨u, hu⟩ : ∃ u : Int, (layArr x y i (min k j))[i + k]? = some (.int .i64 u) := ⟨_, layArr_get _ _ _ _ _ hik⟩
          have cx : wr.cell? ⟨w1.heap.size, i + k, none⟩ = some (.int .i64 u) := h1.out.cell _ |>.trans hu
          clear hu
          have cf : wr.frozen? ⟨w1.heap.size, i + k, none⟩ = false := h1.out.frozen _
          go_wp2
          refine ⟨⟨k + 1, by omega, by go_num, hB.setCell (by show w.heap.size ≤ w1.heap.size; omega) _, Lib.hid ?_, Lib.hid (h2.out.far (by simp; omega) _), Lib.hid fun q c1 c2 => absurd c1 (by omega)⟩, by simp [intOf]; omega⟩
          have hst := h1.out.set_ (i + k) (.int .i64 (m : Int))
          rw [show min k j = k by omega, HM.out, layArr_set x y i k hik] at hst
          rw [show min (k + 1) j = k + 1 by omega, HM.out]
          exact hst
        · have hkj' : ¬ (k : Int) < j := by omega
          by_cases hm1 : m = 1
          · have hm1' : ((m : Int) == 1) = true := by simp [hm1]
            have hny : ¬ y < 2 ^ j := fun h => by
              have h0 : y / 2 ^ k = 0 := Nat.div_eq_of_lt (Nat.lt_of_lt_of_le h (Nat.pow_le_pow_right (by decide) (by omega)))
              have := HM.out
              rw [h0] at this
              omega
            have HNY := Lib.hid hny
            clear hny
            go_wp2
            go_ret2
            exact ⟨by rw [HE1.out HNY.out, HV1.out HNY.out]; rfl, hB⟩
          · have hm1' : ((m : Int) == 1) = false := by simp; omega
            go_wp2
            go_roundw
            case rel => exact ⟨k + 1, by omega, by go_num, hB, by rw [show min (k + 1) j = min k j by omega]; exact h1, h2, Lib.hid fun q c1 c2 => by
              rcases Nat.lt_or_ge q k with h | h
              · exact hall.out q c1 h
              · obtain rfl : q = k := by omega
                have := HM.out
                omega⟩
            case measure => simp [intOf]; omega
      · obtain rfl : k = 64 := by omega
        have hyj : y < 2 ^ j := by
          apply Nat.lt_pow_two_of_testBit
          intro q hq
          rw [Pl.testBit_div]
          by_cases h : q < 64
          · simp [hall.out q hq h]
          · have h64 : (2 : Nat) ^ 64 = 18446744073709551616 := by decide
            rw [Nat.div_eq_of_lt (Nat.lt_of_lt_of_le (by rw [h64]; exact HY.out) (Nat.pow_le_pow_right (by decide) (show 64 ≤ q by omega)))]
            simp
        have hE := HE0.out hyj
        have hV := HV0.out hyj
        rw [show min 64 j = j by omega] at h1
        have HE := Lib.hid hE
        have HV := Lib.hid hV
        clear hyj hE hV
        go_wp2_with fail
        refine (number_any _ 64 64 (Pl.laidIn x y i j) _ (lay_slI h1.out) (Pl.laidIn_bit x y i j) (by rw [Pl.laidIn_length]; omega)).mono ?_
        rintro e w5 ⟨rfl, rfl⟩
        go_wp2
        go_ret2
        exact ⟨by rw [HE.out, HV.out]; rfl, hB⟩
end Go.Proofs.YtiajglefmlfkfaaDoor
