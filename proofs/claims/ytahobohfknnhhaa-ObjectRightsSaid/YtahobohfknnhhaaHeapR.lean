/-
  What the two tests for a heap return: heap.Right for every slice; gristmillref.HeapRight for slices of at most 60 numbers.
-/
import Derived.Test.YtahobohfknnhhaaProg
import Derived.Test.YtahobohfknnhhaaKit
namespace Go.Proofs.Ytahobohfknnhhaa
set_option linter.unusedSimpArgs false
set_option linter.unusedVariables false
set_option linter.unusedSectionVars false
open Go.RowKit
attribute [local go_sem ↓] Go.wp_at_zero Go.wp_at_succ

def heapT (xs : List Int) (k : Nat) : Bool := decide (k = 0 ∨ xs[(k - 1) / 2]?.getD 0 ≤ xs[k]?.getD 0)
def heapR (xs : List Int) : Bool := (List.range xs.length).all (heapT xs) && decide (xs.length ≤ 6)
theorem heapR_no {xs : List Int} {k : Nat} (hk : k < xs.length) (h : heapT xs k = false) : heapR xs = false := by
  unfold heapR
  rw [Bool.and_eq_false_iff]
  left
  rw [List.all_eq_false]
  exact ⟨k, by simpa using hk, by simp [h]⟩
theorem heapR_end {xs : List Int} (h : ∀ i, i < xs.length → heapT xs i = true) : heapR xs = decide (xs.length ≤ 6) := by
  unfold heapR
  have : (List.range xs.length).all (heapT xs) = true := by rw [List.all_eq_true]; intro x hx; exact h x (by simpa using hx)
  rw [this, Bool.true_and]


theorem heapRight_any (A : Option Addr) (n c : Nat) (xs : List Int) (w : World) (h : SlI w A n c xs) :
    Calls Try.prog 15 #[.slice A n c] w fun e w' => e = .returned (.bool (heapR xs)) ∧ Below w.heap.size w w' := by
  obtain ⟨hlen, hcap, h63, hbd, hat⟩ := h
  have HL := Lib.hid hlen
  clear hlen
  have HA := Lib.hid hat
  clear hat
  have HB := Lib.hid hbd
  clear hbd
  go_enter Try.func15, Try.ntmps15
  go_wp2
  go_loopw [6] (fun i wr => ∃ k : Nat, k ≤ n ∧ i = .int .i64 k ∧ Below w.heap.size w wr ∧ Hid (∀ j, j < k → heapT xs j = true)) (fun i _ => n - (intOf i).toNat)
  case atStart => exact ⟨0, by omega, rfl, Below.refl _ _, fun j hj => absurd hj (by omega)⟩
  case round =>
    obtain ⟨k, hk, rfl, hb, hall⟩ := hrel
    by_cases hkn : k < n
    · obtain ⟨b, off, rfl, hblt, hcell⟩ := HA.out (by omega)
      have HC := Lib.hid hcell
      clear hcell
      by_cases hk0 : 0 < k
      · have hc1 : wr.cell? ⟨b, off + k, none⟩ = some (.int .i64 (xs[k]?.getD 0)) := (hb.cell (p := ⟨b, off + k, none⟩) hblt).trans (HC.out k hkn)
        have hc2 : wr.cell? ⟨b, off + (k - 1) / 2, none⟩ = some (.int .i64 (xs[(k - 1) / 2]?.getD 0)) := (hb.cell (p := ⟨b, off + (k - 1) / 2, none⟩) hblt).trans (HC.out _ (by omega))
        have b1 : (k : Int) < n := by omega
        have b2 : ((k : Int) - 1) / 2 < n := by omega
        have b3 : 0 ≤ ((k : Int) - 1) / 2 := by omega
        have b4 : 0 < (k : Int) := by omega
        go_wp2
        go_quiet (fail)
        go_wp2
        · have hlt : xs[k]?.getD 0 < xs[(k - 1) / 2]?.getD 0 := by assumption
          go_ret
          exact ⟨ret_bool (by rw [heapR_no (by rw [HL.out]; exact hkn) (by simp [heapT]; omega)]), below_drewN hb _⟩
        · have hle : xs[(k - 1) / 2]?.getD 0 ≤ xs[k]?.getD 0 := by assumption
          go_roundw
          case rel => exact ⟨k + 1, by omega, by go_num, below_drewN hb _, fun j hj => by
            rcases Nat.lt_or_ge j k with h | h
            · exact hall.out j h
            · obtain rfl : j = k := by omega
              simp [heapT, hle]⟩
          case measure => simp [intOf]; omega
      · obtain rfl : k = 0 := by omega
        go_wp2
        go_quiet (fail)
        go_wp2
        go_roundw
        case rel => exact ⟨1, by omega, rfl, below_drewN hb _, fun j hj => by
            obtain rfl : j = 0 := by omega
            simp [heapT]⟩
        case measure => simp [intOf]; omega
    · obtain rfl : k = n := by omega
      go_wp2
      go_ret
      exact ⟨ret_bool (by rw [heapR_end (by rw [HL.out]; exact hall.out), HL.out]; simp; omega), hb⟩

theorem heapT_child {xs : List Int} {k j : Nat} (hj : j = 2 * k + 1 ∨ j = 2 * k + 2) : heapT xs j = decide (xs[k]?.getD 0 ≤ xs[j]?.getD 0) := by
  have e : (j - 1) / 2 = k := by omega
  have e0 : j ≠ 0 := by omega
  simp [heapT, e, e0]
theorem heapR_of_children {xs : List Int} (h : ∀ k, k < xs.length → ∀ j, (j = 2 * k + 1 ∨ j = 2 * k + 2) → j < xs.length → heapT xs j = true) : heapR xs = decide (xs.length ≤ 6) :=
  heapR_end fun i hi => by
    by_cases h0 : i = 0
    · simp [heapT, h0]
    · exact h ((i - 1) / 2) (by omega) i (by omega) hi

set_option maxHeartbeats 800000 in
theorem refHeapRight_any (A : Option Addr) (n c : Nat) (xs : List Int) (w : World) (h : SlI w A n c xs) (hn : n ≤ 60) :
    Calls Try.prog 11 #[.slice A n c] w fun e w' => e = .returned (.bool (heapR xs)) ∧ Below w.heap.size w w' := by
  obtain ⟨hlen, hcap, h63, hbd, hat⟩ := h
  have HL := Lib.hid hlen
  clear hlen
  have HA := Lib.hid hat
  clear hat
  have HB := Lib.hid hbd
  clear hbd
  go_enter Try.func11, Try.ntmps11
  go_wp2
  go_loopw [8] (fun i wr => ∃ k : Nat, k ≤ n ∧ i = .int .i64 k ∧ Below w.heap.size w wr ∧ Hid (∀ k', k' < k → ∀ j, (j = 2 * k' + 1 ∨ j = 2 * k' + 2) → j < n → heapT xs j = true)) (fun i _ => n - (intOf i).toNat)
  case atStart => exact ⟨0, by omega, rfl, Below.refl _ _, fun j hj => absurd hj (by omega)⟩
  case round =>
    obtain ⟨k, hk, rfl, hb, hall⟩ := hrel
    by_cases hkn : k < n
    · obtain ⟨b, off, rfl, hblt, hcell⟩ := HA.out (by omega)
      have HC := Lib.hid hcell
      clear hcell
      have hc0 : wr.cell? ⟨b, off + k, none⟩ = some (.int .i64 (xs[k]?.getD 0)) := (hb.cell (p := ⟨b, off + k, none⟩) hblt).trans (HC.out k hkn)
      have hbz : b < wr.heap.size := by have := hb.size; omega
      have hsz := hb.size
      have hk60 : k < 60 := by omega
      have e1 : IntKind.i64.wrap (2 * (k : Int)) = 2 * k := IntWalk.i64_in _ (by omega)
      have e2 : IntKind.i64.wrap (2 * (k : Int) + 1) = 2 * k + 1 := IntWalk.i64_in _ (by omega)
      have e3 : IntKind.i64.wrap (2 * (k : Int) + 2) = 2 * k + 2 := IntWalk.i64_in _ (by omega)
      have hno : ∀ j, (j = 2 * k + 1 ∨ j = 2 * k + 2) → j < n → xs[j]?.getD 0 < xs[k]?.getD 0 → heapR xs = false := fun j hj hjn hlt =>
        heapR_no (k := j) (by rw [HL.out]; exact hjn) (by rw [heapT_child hj]; simp; omega)
      have HN := Lib.hid hno
      clear hno
      by_cases p1 : 2 * k + 1 < n
      · have hc1 : wr.cell? ⟨b, off + (2 * k + 1), none⟩ = some (.int .i64 (xs[2 * k + 1]?.getD 0)) := (hb.cell (p := ⟨b, off + (2 * k + 1), none⟩) hblt).trans (HC.out _ p1)
        have q1 : 2 * (k : Int) + 1 < n := by omega
        by_cases p2 : 2 * k + 2 < n
        · have hc2 : wr.cell? ⟨b, off + (2 * k + 2), none⟩ = some (.int .i64 (xs[2 * k + 2]?.getD 0)) := (hb.cell (p := ⟨b, off + (2 * k + 2), none⟩) hblt).trans (HC.out _ p2)
          have q2 : 2 * (k : Int) + 2 < n := by omega
          go_wp2
          refine wp_loop_rounds 3 ?_
          rw [rounds_succ]
          go_wp2
          go_quiet (fail)
          go_wp2
          · have hlt : xs[2 * k + 1]?.getD 0 < xs[k]?.getD 0 := by assumption
            go_ret
            exact ⟨ret_bool (by rw [HN.out _ (.inl rfl) p1 hlt]), (by repeat' (first | exact hb | exact hsz | refine below_drewN ?_ _ | refine Below.alloc ?_ ?_ _))⟩
          · have hle1 : xs[k]?.getD 0 ≤ xs[2 * k + 1]?.getD 0 := by assumption
            rw [rounds_succ]
            go_wp2
            go_quiet (fail)
            go_wp2
            · have hlt : xs[2 * k + 2]?.getD 0 < xs[k]?.getD 0 := by assumption
              go_ret
              exact ⟨ret_bool (by rw [HN.out _ (.inr rfl) p2 hlt]), (by repeat' (first | exact hb | exact hsz | refine below_drewN ?_ _ | refine Below.alloc ?_ ?_ _))⟩
            · have hle2 : xs[k]?.getD 0 ≤ xs[2 * k + 2]?.getD 0 := by assumption
              rw [rounds_succ]
              go_wp2
              go_roundw
              case rel => exact ⟨k + 1, by omega, by go_num, (by repeat' (first | exact hb | exact hsz | refine below_drewN ?_ _ | refine Below.alloc ?_ ?_ _)), fun k' hk' j hj hjn => by
                rcases Nat.lt_or_ge k' k with h | h
                · exact hall.out k' h j hj hjn
                · obtain rfl : k' = k := by omega
                  rw [heapT_child hj]
                  rcases hj with rfl | rfl <;> simpa⟩
              case measure => simp [intOf]; omega
        · have d2 : decide (2 * (k : Int) + 2 < n) = false := by simp; omega
          go_wp2
          refine wp_loop_rounds 3 ?_
          rw [rounds_succ]
          go_wp2
          go_quiet (fail)
          go_wp2
          · have hlt : xs[2 * k + 1]?.getD 0 < xs[k]?.getD 0 := by assumption
            go_ret
            exact ⟨ret_bool (by rw [HN.out _ (.inl rfl) p1 hlt]), (by repeat' (first | exact hb | exact hsz | refine below_drewN ?_ _ | refine Below.alloc ?_ ?_ _))⟩
          · have hle1 : xs[k]?.getD 0 ≤ xs[2 * k + 1]?.getD 0 := by assumption
            rw [rounds_succ]
            go_wp2
            go_quiet (fail)
            go_wp2
            rw [rounds_succ]
            go_wp2
            go_roundw
            case rel => exact ⟨k + 1, by omega, by go_num, (by repeat' (first | exact hb | exact hsz | refine below_drewN ?_ _ | refine Below.alloc ?_ ?_ _)), fun k' hk' j hj hjn => by
                rcases Nat.lt_or_ge k' k with h | h
                · exact hall.out k' h j hj hjn
                · obtain rfl : k' = k := by omega
                  rw [heapT_child hj]
                  rcases hj with rfl | rfl
                  · simpa
                  · exact absurd hjn p2⟩
            case measure => simp [intOf]; omega
      · have d1 : decide (2 * (k : Int) + 1 < n) = false := by simp; omega
        have d2 : decide (2 * (k : Int) + 2 < n) = false := by simp; omega
        go_wp2
        refine wp_loop_rounds 3 ?_
        rw [rounds_succ]
        go_wp2
        go_quiet (fail)
        go_wp2
        rw [rounds_succ]
        go_wp2
        go_quiet (fail)
        go_wp2
        rw [rounds_succ]
        go_wp2
        go_roundw
        case rel => exact ⟨k + 1, by omega, by go_num, (by repeat' (first | exact hb | exact hsz | refine below_drewN ?_ _ | refine Below.alloc ?_ ?_ _)), fun k' hk' j hj hjn => by
                rcases Nat.lt_or_ge k' k with h | h
                · exact hall.out k' h j hj hjn
                · omega⟩
        case measure => simp [intOf]; omega
    · obtain rfl : k = n := by omega
      go_wp2
      go_ret
      exact ⟨ret_bool (by rw [heapR_of_children (by rw [HL.out]; exact hall.out), HL.out]; simp; omega), hb⟩

end Go.Proofs.Ytahobohfknnhhaa
