/-
  What word.Count, word.First and the reference's return: for every word.
-/
import Derived.Test.YtfdbomflfhmecaaDoorMBase
import Derived.Test.YtfdbomflfhmecaaDoorMWord
import Derived.Test.YtfdbomflfhmecaaDoorCardD
import Derived.Test.YtfdbomflfhmecaaDoorPop
import Derived.Test.YtfdbomflfhmecaaDoorShelf
import Derived.Shelf.Spec.TrailingZeros
import Derived.Lib.TrailingZeros
import Derived.Laws.Bits128
namespace Go.Proofs.YtfdbomflfhmecaaDoor
set_option linter.unusedSimpArgs false
set_option linter.unusedVariables false
set_option linter.unusedSectionVars false
open Go.RowKit
attribute [local go_sem ↓] Go.wp_at_zero Go.wp_at_succ

theorem and_wide (a b : Nat) (h : a < 18446744073709551616) (k : b < 18446744073709551616) : bits .and .u64 (a : Int) (b : Int) = ((a &&& b : Nat) : Int) := u64_and_nat a b h k
theorem st_lt {k b n x m : Nat} (hm : Pop.rep b n = m) : Pop.st k b n x ≤ 2 * m := by
  unfold Pop.st
  have h1 : (x / k &&& Pop.rep b n) ≤ Pop.rep b n := Nat.and_le_right
  have h2 : (x &&& Pop.rep b n) ≤ Pop.rep b n := Nat.and_le_right
  omega
set_option maxRecDepth 100000 in
theorem ones64_any (x : Nat) (w : World) (hx : x < 18446744073709551616) :
    Calls Tryd.prog 8 #[.int .u64 x] w fun e w' => e = .returned (.int .i64 ((Pop.ones x 64 : Nat) : Int)) ∧ w = w' := by
  obtain ⟨r1, r2, r3⟩ := Pop.rep8
  obtain ⟨Z, hZ⟩ : ∃ Z, Z = Pop.st 2 85 8 x := ⟨_, rfl⟩
  obtain ⟨Y, hY⟩ : ∃ Y, Y = Pop.st 4 51 8 Z := ⟨_, rfl⟩
  obtain ⟨T, hT⟩ : ∃ T, T = Pop.t 8 x := ⟨_, rfl⟩
  have zb : Z ≤ 2 * 6148914691236517205 := by rw [hZ]; exact st_lt r1
  have yb : Y ≤ 2 * 3689348814741910323 := by rw [hY]; exact st_lt r2
  have tb : T ≤ 578721382704613384 := by rw [hT]; exact Pop.t_le x
  have tY : T = (Y / 16 + Y) &&& 1085102592571150095 := by rw [hT, hY, hZ, ← r3]; rfl
  have h1 : IntKind.u64.wrap (bits BinOp.and IntKind.u64 ((x : Int) / 2) 6148914691236517205 + bits BinOp.and IntKind.u64 (x : Int) 6148914691236517205) = (Z : Int) := by
    have a1 : bits BinOp.and IntKind.u64 ((x / 2 : Nat) : Int) 6148914691236517205 = (((x / 2) &&& 6148914691236517205 : Nat) : Int) := and_wide (x / 2) 6148914691236517205 (by omega) (by decide)
    have a2 : bits BinOp.and IntKind.u64 ((x : Nat) : Int) 6148914691236517205 = ((x &&& 6148914691236517205 : Nat) : Int) := and_wide (x) 6148914691236517205 hx (by decide)
    have e : ((x : Int) / 2) = ((x / 2 : Nat) : Int) := by simp
    rw [e]
    rw [a1, a2, IntKind.wrap_u64]
    have : Z = (x / 2 &&& 6148914691236517205) + (x &&& 6148914691236517205) := by rw [hZ, ← r1]; rfl
    omega
  have h2 : IntKind.u64.wrap (bits BinOp.and IntKind.u64 ((Z : Int) / 4) 3689348814741910323 + bits BinOp.and IntKind.u64 (Z : Int) 3689348814741910323) = (Y : Int) := by
    have a1 : bits BinOp.and IntKind.u64 ((Z / 4 : Nat) : Int) 3689348814741910323 = (((Z / 4) &&& 3689348814741910323 : Nat) : Int) := and_wide (Z / 4) 3689348814741910323 (by omega) (by decide)
    have a2 : bits BinOp.and IntKind.u64 ((Z : Nat) : Int) 3689348814741910323 = ((Z &&& 3689348814741910323 : Nat) : Int) := and_wide (Z) 3689348814741910323 (by omega) (by decide)
    have e : ((Z : Int) / 4) = ((Z / 4 : Nat) : Int) := by simp
    rw [e]
    rw [a1, a2, IntKind.wrap_u64]
    have : Y = (Z / 4 &&& 3689348814741910323) + (Z &&& 3689348814741910323) := by rw [hY, ← r2]; rfl
    omega
  have h3 : bits BinOp.and IntKind.u64 (IntKind.u64.wrap ((Y : Int) / 16 + (Y : Int))) 1085102592571150095 = (T : Int) := by
    have a1 : bits BinOp.and IntKind.u64 ((Y / 16 + Y : Nat) : Int) 1085102592571150095 = (((Y / 16 + Y) &&& 1085102592571150095 : Nat) : Int) := and_wide (Y / 16 + Y) 1085102592571150095 (by omega) (by decide)
    have e : IntKind.u64.wrap ((Y : Int) / 16 + (Y : Int)) = ((Y / 16 + Y : Nat) : Int) := by rw [IntKind.wrap_u64]; omega
    rw [e]
    rw [a1, tY]
  have h4 : IntKind.u64.wrap ((T : Int) + (T : Int) / 256) = ((T + T / 256 : Nat) : Int) := by rw [IntKind.wrap_u64]; omega
  have h8 := Pop.t8 x T (T + T / 256) _ hT rfl rfl
  generalize hu : T + T / 256 = u at *
  have ub : u < 600000000000000000 := by omega
  have h5 : IntKind.u64.wrap ((u : Int) + (u : Int) / 65536) = ((u + u / 65536 : Nat) : Int) := by rw [IntKind.wrap_u64]; omega
  generalize hv : u + u / 65536 = v at *
  have vb : v < 700000000000000000 := by omega
  have h6 : IntKind.u64.wrap ((v : Int) + (v : Int) / 4294967296) = ((v + v / 4294967296 : Nat) : Int) := by rw [IntKind.wrap_u64]; omega
  have h7 : bits BinOp.and IntKind.i64 (wrap64 ((v + v / 4294967296 : Nat) : Int)) 127 = ((Pop.ones x 64 : Nat) : Int) := by
    rw [i64_and127, ← h8]
    have : wrap64 ((v + v / 4294967296 : Nat) : Int) = ((v + v / 4294967296 : Nat) : Int) := by unfold wrap64; omega
    rw [this]
    omega
  have H1 := Lib.hid h1
  have H2 := Lib.hid h2
  have H3 := Lib.hid h3
  have H4 := Lib.hid h4
  have H5 := Lib.hid h5
  have H6 := Lib.hid h6
  have H7 := Lib.hid h7
  clear h1 h2 h3 h4 h5 h6 h7 h8 hZ hY hT hu hv zb yb tb tY ub vb r1 r2 r3
  go_enter Tryd.func8, Tryd.ntmps8
  go_wp2
  go_ret
  refine ⟨ret_int ?_, rfl⟩
  rw [H1.out, H2.out, H3.out, H4.out, H5.out, H6.out, H7.out]

theorem count_any (x : Nat) (w : World) (hx : x < 18446744073709551616) :
    Calls Tryd.prog 4 #[.int .u64 x] w fun e w' => e = .returned (.int .i64 ((Pop.ones x 64 : Nat) : Int)) ∧ w = w' := by
  have h := ones64_any x w hx
  go_enter Tryd.func4, Tryd.ntmps4
  go_wp2_with (go_at_call 8; refine h.mono ?_; rintro e w1 ⟨rfl, rfl⟩)
  go_ret
  exact ⟨rfl, rfl⟩

theorem ones_le (x : Nat) : ∀ n, Pop.ones x n ≤ n
  | 0 => Nat.le_refl _
  | n + 1 => by
    have := ones_le x n
    have h2 : x / 2 ^ n % 2 < 2 := Nat.mod_lt _ (by decide)
    simp only [Pop.ones]
    omega

set_option maxRecDepth 100000 in
theorem refCount_any (x : Nat) (w : World) (hx : x < 18446744073709551616) :
    Calls Tryd.prog 5 #[.int .u64 x] w fun e w' => e = .returned (.int .i64 ((Pop.ones x 64 : Nat) : Int)) ∧ Below w.heap.size w w' := by
  go_enter Tryd.func5, Tryd.ntmps5
  go_wp2_with fail
  refine (digits_any x _ hx).mono ?_
  rintro e w1 ⟨rfl, hblk, hb⟩
  have HB := Lib.hid hblk
  have HW := Lib.hid hb
  clear hblk hb
  go_wp2
  go_loop [3, 9] (fun n i => ∃ k : Nat, k ≤ 64 ∧ i = .int .i64 k ∧ n = .int .i64 ((Pop.ones x k : Nat) : Int)) (fun _ i => 64 - (intOf i).toNat)
  case atStart => exact ⟨0, by omega, rfl, rfl⟩
  case round =>
    obtain ⟨k, hk, rfl, rfl⟩ := hrel
    by_cases hk64 : k < 64
    · have hc : w1.cell? ⟨w.heap.size, k, none⟩ = some (.int .i64 ((x / 2 ^ k % 2 : Nat) : Int)) := by rw [HB.out.cell k, digArr_get _ _ _ hk64, if_pos hk64]
      have HN : Hid (Pop.ones x (k + 1) = Pop.ones x k + x / 2 ^ k % 2) := Lib.hid rfl
      have hle := ones_le x k
      have hb2 : x / 2 ^ k % 2 < 2 := Nat.mod_lt _ (by decide)
      generalize x / 2 ^ k % 2 = b at *
      generalize Pop.ones x k = n at *
      go_wp2
      go_round
      case rel => exact ⟨k + 1, by omega, by go_num, by rw [HN.out]; exact val_int (by omega)⟩
      case measure => simp [intOf]; omega
    · obtain rfl : k = 64 := by omega
      go_wp2
      go_ret
      exact ⟨rfl, HW.out⟩

/-- The least bit that is 1. -/
def firstZ (x : Nat) : Int := if x = 0 then -1 else (Lib.ctz 64 x : Nat)
theorem ctz_bits {x : Nat} (h0 : x ≠ 0) (hx : x < 18446744073709551616) : Lib.ctz 64 x < 64 ∧ x / 2 ^ Lib.ctz 64 x % 2 = 1 ∧ ∀ j, j < Lib.ctz 64 x → x / 2 ^ j % 2 = 0 := by
  have e : Lib.ctz 64 x = Lib.ctzFrom 64 x := by simp [Lib.ctz, h0]
  obtain ⟨m, hm, hk⟩ := Lib.ctzFrom_spec 64 x (by omega) (by simpa using hx)
  rw [e]
  generalize Lib.ctzFrom 64 x = k at *
  refine ⟨hk, ?_, fun j hj => ?_⟩
  · rw [hm, Nat.mul_div_cancel_left _ (Nat.two_pow_pos k)]
    omega
  · obtain ⟨d, rfl⟩ : ∃ d, k = j + (d + 1) := ⟨k - j - 1, by omega⟩
    rw [hm, Nat.pow_add, Nat.mul_assoc, Nat.mul_div_cancel_left _ (Nat.two_pow_pos j), Nat.pow_succ, Nat.mul_comm (2 ^ d) 2, Nat.mul_assoc]
    omega
theorem bits_zero {x : Nat} (hx : x < 18446744073709551616) (h : ∀ j, j < 64 → x / 2 ^ j % 2 = 0) : x = 0 := by
  apply Classical.byContradiction
  intro h0
  obtain ⟨h1, h2, _⟩ := ctz_bits h0 hx
  have := h _ h1
  omega
theorem ctz_unique {x k : Nat} (hx : x < 18446744073709551616) (h1 : x / 2 ^ k % 2 = 1) (h2 : ∀ j, j < k → x / 2 ^ j % 2 = 0) : firstZ x = (k : Int) := by
  have h0 : x ≠ 0 := by rintro rfl; simp at h1
  obtain ⟨c1, c2, c3⟩ := ctz_bits h0 hx
  unfold firstZ
  rw [if_neg h0]
  congr 1
  rcases Nat.lt_trichotomy (Lib.ctz 64 x) k with h | h | h
  · have := h2 _ h; omega
  · exact h
  · have := c3 _ h; omega

theorem tz_any (x : Nat) (w : World) (hx : x < 18446744073709551616) (hT : TabT w) :
    Calls Tryd.prog 10 #[.int .u64 x] w fun e w' => e = .returned (.int .i64 ((Lib.ctz 64 x : Nat) : Int)) ∧ w = w' :=
  (Any7.bits_TrailingZeros64 Tryd.lays29 x hx w (fun _ j hj => hT j hj)).mono fun _ _ ⟨h1, h2⟩ => ⟨h1, h2.symm⟩

theorem first_any (x : Nat) (w : World) (hx : x < 18446744073709551616) (hT : TabT w) :
    Calls Tryd.prog 6 #[.int .u64 x] w fun e w' => e = .returned (.int .i64 (firstZ x)) ∧ w = w' := by
  by_cases h0 : x = 0
  · subst h0
    show Calls Tryd.prog 6 #[.int .u64 0] w _
    go_enter Tryd.func6, Tryd.ntmps6
    go_wp2
    go_ret
    exact ⟨ret_int (by simp [firstZ]), rfl⟩
  · have h := tz_any x w hx hT
    have hz : ((x : Int) == 0) = false := by simp; omega
    have hfz : firstZ x = ((Lib.ctz 64 x : Nat) : Int) := by unfold firstZ; rw [if_neg h0]
    rw [← hfz] at h
    clear h0 hfz hT
    go_enter Tryd.func6, Tryd.ntmps6
    go_wp2_with (go_at_call 10; refine h.mono ?_; rintro e w1 ⟨rfl, rfl⟩)
    go_ret
    exact ⟨rfl, rfl⟩

set_option maxRecDepth 100000 in
theorem refFirst_any (x : Nat) (w : World) (hx : x < 18446744073709551616) :
    Calls Tryd.prog 7 #[.int .u64 x] w fun e w' => e = .returned (.int .i64 (firstZ x)) ∧ Below w.heap.size w w' := by
  go_enter Tryd.func7, Tryd.ntmps7
  go_wp2_with fail
  refine (digits_any x _ hx).mono ?_
  rintro e w1 ⟨rfl, hblk, hb⟩
  have HB := Lib.hid hblk
  have HW := Lib.hid hb
  clear hblk hb
  go_wp2
  go_loop [8] (fun i => ∃ k : Nat, k ≤ 64 ∧ i = .int .i64 k ∧ Hid (∀ j, j < k → x / 2 ^ j % 2 = 0)) (fun i => 64 - (intOf i).toNat)
  case atStart => exact ⟨0, by omega, rfl, Lib.hid fun j h => absurd h (by omega)⟩
  case round =>
    obtain ⟨k, hk, rfl, HZ⟩ := hrel
    by_cases hk64 : k < 64
    · have hc : w1.cell? ⟨w.heap.size, k, none⟩ = some (.int .i64 ((x / 2 ^ k % 2 : Nat) : Int)) := by rw [HB.out.cell k, digArr_get _ _ _ hk64, if_pos hk64]
      have hb2 : x / 2 ^ k % 2 = 0 ∨ x / 2 ^ k % 2 = 1 := by omega
      rcases hb2 with e | e
      · rw [e] at hc
        have HE := Lib.hid e
        clear e
        go_wp2
        go_round
        case rel => exact ⟨k + 1, by omega, by go_num, Lib.hid fun j hj => by
            by_cases h : j = k
            · rw [h]; exact HE.out
            · exact HZ.out j (by omega)⟩
        case measure => simp [intOf]; omega
      · rw [e] at hc
        have HF := Lib.hid (ctz_unique hx e HZ.out)
        clear e
        go_wp2
        go_ret
        exact ⟨ret_int HF.out.symm, HW.out⟩
    · obtain rfl : k = 64 := by omega
      have HF : Hid (firstZ x = -1) := Lib.hid (by rw [bits_zero hx HZ.out]; rfl)
      go_wp2
      go_ret
      exact ⟨ret_int HF.out.symm, HW.out⟩
end Go.Proofs.YtfdbomflfhmecaaDoor
