/-
  What gristmillref.same returns: for any two lists of words.
-/
import Derived.Test.YtahobohfknnhhaaProg
import Derived.Test.YtahobohfknnhhaaKit
namespace Go.Proofs.Ytahobohfknnhhaa
set_option linter.unusedSimpArgs false
set_option linter.unusedVariables false
set_option linter.unusedSectionVars false
open Go.RowKit
set_option linter.unusedSimpArgs false
set_option linter.unusedVariables false
attribute [local go_sem ↓] Go.wp_at_zero Go.wp_at_succ

theorem same_any (A B : Option Addr) (n c m d : Nat) (z y : Nat → Int) (w : World) (h : SlU w A n c z) (k : SlU w B m d y) :
    Calls Try.prog 12 #[.slice A n c, .slice B m d] w fun e w' => ∃ b, e = .returned (.bool b) ∧ (b = true ↔ n = m ∧ ∀ i, i < n → z i = y i) ∧ Below w.heap.size w w' := by
  have h63 := h.cap63
  have k63 := k.cap63
  have hnc := h.cap
  have kmc := k.cap
  have HX := Lib.hid h
  have HY := Lib.hid k
  clear h k
  go_enter Try.func12, Try.ntmps12
  go_wp2
  go_loopw [8] (fun i wr => ∃ k : Nat, k ≤ n ∧ k ≤ m ∧ i = .int .i64 k ∧ Below w.heap.size w wr ∧ Hid (∀ j, j < k → z j = y j)) (fun i _ => n - (intOf i).toNat)
  case atStart => exact ⟨0, by omega, by omega, rfl, Below.refl _ _, fun j hj => absurd hj (by omega)⟩
  case round =>
    obtain ⟨k, hk, hkm, rfl, hb, hall⟩ := hrel
    by_cases hkn : k < n
    · have b1 : (k : Int) < n := by omega
      obtain ⟨b, off, rfl, hblt, hcell⟩ := HX.out.at_ (by omega)
      have hc1 : wr.cell? ⟨b, off + k, none⟩ = some (.int .u64 (z k)) := (hb.cell (p := ⟨b, off + k, none⟩) hblt).trans (hcell k hkn)
      clear hcell
      by_cases hk2 : k < m
      · have b2 : (k : Int) < m := by omega
        have d2 : decide ((m : Int) ≤ k) = false := by simp; omega
        obtain ⟨b', off', rfl, hblt', hcell'⟩ := HY.out.at_ (by omega)
        have hc2 : wr.cell? ⟨b', off' + k, none⟩ = some (.int .u64 (y k)) := (hb.cell (p := ⟨b', off' + k, none⟩) hblt').trans (hcell' k hk2)
        clear hcell'
        go_wp2
        go_quiet (fail)
        go_wp2
        · go_ret
          refine ⟨_, rfl, ?_, below_drewN hb _⟩
          constructor
          · intro h; cases h
          · intro h
            have := h.2 k hkn
            simp_all <;> omega
        · go_roundw
          case rel => exact ⟨k + 1, by omega, by omega, by go_num, below_drewN hb _, Lib.hid fun j hj => by
            rcases Nat.lt_or_ge j k with h | h
            · exact hall.out j h
            · obtain rfl : j = k := by omega
              simp_all <;> omega⟩
          case measure => simp [intOf]; omega
      · have d2 : decide ((m : Int) ≤ k) = true := by simp; omega
        go_wp2
        go_quiet (fail)
        go_wp2
        go_ret
        refine ⟨_, rfl, ?_, below_drewN hb _⟩
        constructor
        · intro h; cases h
        · intro h
          exact absurd h.1 (by omega)
    · obtain rfl : k = n := by omega
      go_wp2
      go_ret
      refine ⟨_, rfl, ?_, hb⟩
      constructor
      · intro h
        have h := of_decide_eq_true h
        exact ⟨by omega, hall.out⟩
      · rintro ⟨h, _⟩
        exact decide_eq_true (by omega)
end Go.Proofs.Ytahobohfknnhhaa
