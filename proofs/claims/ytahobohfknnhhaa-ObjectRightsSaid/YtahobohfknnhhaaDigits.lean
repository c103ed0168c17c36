/-
  What gristmillref.digits and number return. digits: every word; number: lists of at most 64 bits.
-/
import Derived.Test.YtahobohfknnhhaaProg
import Derived.Test.YtahobohfknnhhaaKit
import Derived.Test.YtahobohfknnhhaaBits
namespace Go.Proofs.Ytahobohfknnhhaa
set_option linter.unusedSimpArgs false
set_option linter.unusedVariables false
set_option linter.unusedSectionVars false
open Go.RowKit
attribute [local go_sem ↓] Go.wp_at_zero Go.wp_at_succ

/-- The cells of digits behind k rounds. -/
def digArr (x k : Nat) : Array Value := ((List.range 64).map fun i => Value.int .i64 ((if i < k then x / 2 ^ i % 2 else 0 : Nat) : Int)).toArray
theorem digArr_get (x k i : Nat) (h : i < 64) : (digArr x k)[i]? = some (.int .i64 ((if i < k then x / 2 ^ i % 2 else 0 : Nat) : Int)) := by
  simp [digArr, h]
theorem digArr_set (x k : Nat) : (digArr x k).setIfInBounds k (.int .i64 ((x / 2 ^ k % 2 : Nat) : Int)) = digArr x (k + 1) := by
  apply Array.ext_getElem?
  intro i
  rw [Array.getElem?_setIfInBounds]
  by_cases hk : i < 64
  · by_cases h : k = i
    · subst h
      have hs : k < (digArr x k).size := by simp [digArr]; exact hk
      rw [if_pos rfl, if_pos hs, digArr_get _ _ _ hk, if_pos (by omega)]
    · rw [if_neg h, digArr_get _ _ _ hk, digArr_get _ _ _ hk]
      by_cases h2 : i < k
      · rw [if_pos h2, if_pos (by omega)]
      · rw [if_neg h2, if_neg (by omega)]
  · have e1 : (digArr x k)[i]? = none := by simp [digArr]; omega
    have e2 : (digArr x (k + 1))[i]? = none := by simp [digArr]; omega
    have hs : ¬ k = i ∨ ¬ k < (digArr x k).size := by
      by_cases h : k = i
      · right; simp [digArr]; omega
      · exact .inl h
    rw [e1, e2]
    by_cases h : k = i
    · rw [if_pos h, if_neg (by rcases hs with h' | h'; exact absurd h h'; exact h')]
    · rw [if_neg h]

theorem digits_mk (w : World) : (Instr.makeSlice 25 (.int .i64 64) (.int .i64 64)).run Try.prog w = .ok (.slice (some ⟨w.heap.size, 0, none⟩) 64 64) (w.alloc (.cells (digArr 0 0) 3)) := by kernel_rfl

theorem digArr_zero (x : Nat) : digArr x 0 = digArr 0 0 := by
  unfold digArr
  congr 1

set_option maxRecDepth 100000 in
theorem digits_any (x : Nat) (w : World) (hx : x < 18446744073709551616) :
    Calls Try.prog 27 #[.int .u64 x] w fun e w' => e = .returned (.slice (some ⟨w.heap.size, 0, none⟩) 64 64) ∧ Blk w' w.heap.size 3 (digArr x 64) ∧ Below w.heap.size w w' := by
  have hmk := digits_mk
  have hblk0 : Blk (w.alloc (.cells (digArr 0 0) 3)) w.heap.size 3 (digArr x 0) := by rw [digArr_zero]; exact Blk.new _ _ _
  have HB0 := Lib.hid hblk0
  clear hblk0
  go_enter Try.func27, Try.ntmps27
  go_wp2
  clear hmk
  go_loopw [0, 8] (fun y i wr => ∃ k : Nat, k ≤ 64 ∧ i = .int .i64 k ∧ y = .int .u64 ((x / 2 ^ k : Nat) : Int) ∧ Hid (Blk wr w.heap.size 3 (digArr x k)) ∧ Below w.heap.size w wr) (fun _ i _ => 64 - (intOf i).toNat)
  case atStart => exact ⟨0, by omega, rfl, by simp, HB0.out, by go_grown⟩
  case round =>
    obtain ⟨k, hk, rfl, rfl, hblk, hb⟩ := hrel
    have hyx : x / 2 ^ k < 18446744073709551616 := Nat.lt_of_le_of_lt (Nat.div_le_self _ _) hx
    have hnext : x / 2 ^ (k + 1) = x / 2 ^ k / 2 := by rw [Nat.pow_succ, Nat.div_div_eq_div_mul]
    have HN := Lib.hid hnext
    clear hnext
    have hset := digArr_set x k
    have HS := Lib.hid hset
    clear hset
    generalize hy : x / 2 ^ k = y at *
    have HY := Lib.hid hy
    clear hy
    by_cases hk64 : k < 64
    · have hc : wr.cell? ⟨w.heap.size, k, none⟩ = some (.int .i64 0) := by rw [hblk.out.cell k, digArr_get _ _ _ hk64, if_neg (by omega)]; rfl
      have hf : wr.frozen? ⟨w.heap.size, k, none⟩ = false := hblk.out.frozen k
      go_wp2
      go_roundw
      case rel => exact ⟨k + 1, by omega, by go_num, by rw [HN.out]; simp; try omega, by
        have h := hblk.out.set_ k (.int .i64 ((y : Int) % 2))
        rw [show ((y : Int) % 2) = ((y % 2 : Nat) : Int) by omega, HS.out] at h
        exact Lib.hid (by simpa using h), hb.setCell (by simp) _⟩
      case measure => simp [intOf]; omega
    · obtain rfl : k = 64 := by omega
      go_wp2
      go_ret
      exact ⟨rfl, hblk.out, hb⟩

theorem drop_bit {xs : List Nat} {k : Nat} (hk : k < xs.length) : Pl.nof (xs.drop k) = xs[k]?.getD 0 + 2 * Pl.nof (xs.drop (k + 1)) := by
  rw [List.drop_eq_getElem_cons hk, Pl.nof, List.getElem?_eq_getElem hk]
  rfl

theorem nof_drop_lt {xs : List Nat} (hb : ∀ b ∈ xs, b < 2) (hl : xs.length ≤ 64) (k : Nat) : Pl.nof (xs.drop k) < 18446744073709551616 := by
  have h1 := Pl.nof_lt (xs.drop k) (fun b h => hb b (List.mem_of_mem_drop h))
  have h2 : 2 ^ (xs.drop k).length ≤ 2 ^ 64 := Nat.pow_le_pow_right (by decide) (by rw [List.length_drop]; omega)
  have h3 : (2 : Nat) ^ 64 = 18446744073709551616 := by decide
  omega

theorem number_any (A : Option Addr) (n c : Nat) (xs : List Nat) (w : World) (h : SlI w A n c (xs.map fun b : Nat => (b : Int))) (hbit : ∀ b ∈ xs, b < 2) (hl : xs.length ≤ 64) :
    Calls Try.prog 34 #[.slice A n c] w fun e w' => e = .returned (.int .u64 ((Pl.nof xs : Nat) : Int)) ∧ w = w' := by
  have hn : xs.length = n := by simpa using h.len
  have h64 : n ≤ 64 := by omega
  have HN := Lib.hid hn
  clear hn
  have HS := Lib.hid h
  clear h
  have HB := Lib.hid hbit
  clear hbit
  go_enter Try.func34, Try.ntmps34
  go_wp2
  go_loop [3, 4] (fun a i => ∃ k : Nat, k ≤ n ∧ i = .int .i64 ((k : Int) - 1) ∧ a = .int .u64 ((Pl.nof (xs.drop k) : Nat) : Int)) (fun _ i => (intOf i + 1).toNat)
  case atStart => exact ⟨n, Nat.le_refl _, by go_num, by rw [List.drop_of_length_le (by rw [HN.out]; exact Nat.le_refl _)]; rfl⟩
  case round =>
    obtain ⟨k, hk, rfl, rfl⟩ := hrel
    by_cases hk0 : 0 < k
    · obtain ⟨j, rfl⟩ : ∃ j, k = j + 1 := ⟨k - 1, by omega⟩
      obtain ⟨b, off, rfl, hblt, hcell⟩ := HS.out.at_ (by omega)
      have hc := hcell j (by omega)
      clear hcell
      have hjl : j < xs.length := by rw [HN.out]; omega
      have hbj : xs[j]?.getD 0 < 2 := by rw [List.getElem?_eq_getElem hjl]; exact HB.out _ (List.getElem_mem hjl)
      have e1 : ((xs.map fun b : Nat => (b : Int))[j]?.getD 0) = ((xs[j]?.getD 0 : Nat) : Int) := by simp [List.getElem?_eq_getElem hjl]
      rw [e1] at hc
      clear e1
      have hdrop := drop_bit hjl
      have hlt := nof_drop_lt HB.out hl j
      have e2 : ((j + 1 : Nat) : Int) - 1 = (j : Int) := by omega
      rw [e2]
      clear e2
      generalize ha : Pl.nof (xs.drop (j + 1)) = a at *
      generalize hbb : xs[j]?.getD 0 = bb at *
      have HA := Lib.hid ha
      clear ha
      have HBB := Lib.hid hbb
      clear hbb
      have HD := Lib.hid hdrop
      have hs : bb + 2 * a < 18446744073709551616 := by omega
      clear hdrop hlt hl
      go_wp2
      go_round
      case rel => exact ⟨j, by omega, by go_num, by rw [HD.out]; exact val_int (by omega)⟩
      case measure => simp [intOf]; try omega
    · obtain rfl : k = 0 := by omega
      go_wp2
      go_ret
      exact ⟨by simp, rfl⟩
end Go.Proofs.Ytahobohfknnhhaa
