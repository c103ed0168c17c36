/-
  What gristmillref.place returns. For every table.
-/
import Derived.Test.YtfpfhiogfjlpaaaRTab
namespace Go.Proofs.Ytfpfhiogfjlpaaa
open Go.RowKit
set_option linter.unusedSimpArgs false
set_option linter.unusedVariables false
attribute [local go_sem ↓] Go.wp_at_zero Go.wp_at_succ

set_option maxRecDepth 100000 in
set_option maxHeartbeats 1000000 in
theorem place_any (C : Array Value) (z : Nat → Int) (key : Nat) (w : World) (h : I64s C 16 z) (hk : key ≤ 1000) :
    Calls Try.prog 65 #[.agg C, .int .i64 key] w fun e w' => e = .returned (.int .i64 (atT z key)) ∧ Below w.heap.size w w' := by
  have H := Lib.hid h
  clear h
  have HBK : Hid (Blk (w.alloc (.cells C 52)) w.heap.size 52 C) := Blk.new _ _ _
  go_enter Try.func65, Try.ntmps65
  go_wp2_with (go_at_call 60; refine (row_any key _ hk).mono ?_; rintro e w1 ⟨A, c, rfl, hs, hb1⟩; have hz1 := hb1.size; simp only [World.size_alloc] at hz1; have HS := Lib.hid hs; have HBl := Lib.hid (HBK.out.below hb1 (by simp)); have hB : Below w.heap.size w w1 := Below.trans (by go_grown) (hb1.mono (by simp)); clear hs)
  obtain ⟨b, off, rfl, hblt, hcell⟩ := HS.out.sli.at_ (by omega)
  have h63 := HS.out.sli.cap63
  have hcap := HS.out.sli.cap
  have HC := Lib.hid hcell
  clear hcell hb1
  go_loop [10] (fun i => ∃ k : Nat, k ≤ 8 ∧ i = .int .i64 k ∧ Hid (∀ j, j < k → hitB z key j = false)) (fun i => 8 - (intOf i).toNat)
  case atStart => exact ⟨0, by omega, rfl, fun j hj => absurd hj (by omega)⟩
  case round =>
    obtain ⟨k, hk8, rfl, hno⟩ := hrel
    by_cases hlt : k < 8
    · have b1 : (k : Int) < 8 := by omega
      have hrl := rowP_lt key k
      have c0 : w1.cell? ⟨b, off + k, none⟩ = some (.int .i64 ((rowP key k : Nat) : Int)) := by rw [HC.out k hlt, rowL_get key 8 k hlt]
      have c1 : w1.cell? ⟨w.heap.size, rowP key k * 2, none⟩ = some (.int .i64 (z (2 * rowP key k))) := by rw [Nat.mul_comm, HBl.out.cell, H.out.get _ (by omega)]
      generalize hr : rowP key k = r at *
      have HR := Lib.hid hr
      clear hr
      have hr8 : (r : Int) < 8 := by omega
      generalize hy : z (2 * r) = y at *
      have HY := Lib.hid hy
      clear hy
      have HH : Hid (hitB z key k = decide (y = key ∨ y = 0)) := by unfold hitB; rw [HR.out, HY.out]; exact rfl
      have HF : Hid (hitB z key k = true → atT z key = (r : Int)) := fun hh => by
        have hf : (List.range 8).find? (hitB z key) = some k := find_range hlt hh hno.out
        unfold atT
        rw [hf, ← HR.out]
      by_cases hyk : y = key
      · have d1 : (y == (key : Int)) = true := by simpa using hyk
        have e1 := HF.out (by rw [HH.out]; simpa using .inl hyk)
        have E1 := Lib.hid e1
        clear hyk e1
        go_wp2
        go_ret
        exact ⟨ret_int E1.out.symm, hB⟩
      · have d1 : (y == (key : Int)) = false := by simpa using hyk
        by_cases hy0 : y = 0
        · have d2 : (y == 0) = true := by simpa using hy0
          have e1 := HF.out (by rw [HH.out]; simpa using .inr hy0)
          have E1 := Lib.hid e1
          clear hyk e1 hy0
          go_wp2
          go_ret
          exact ⟨ret_int E1.out.symm, hB⟩
        · have d2 : (y == 0) = false := by simpa using hy0
          have hno' : hitB z key k = false := by rw [HH.out]; simp [hyk, hy0]
          have HNO := Lib.hid hno'
          clear hyk hy0 hno'
          go_wp2
          refine ⟨⟨k + 1, by omega, by go_num, Lib.hid fun j hj => ?_⟩, by simp [intOf]; omega⟩
          rcases Nat.lt_or_ge j k with h | h
          · exact hno.out j h
          · obtain rfl : j = k := by omega
            exact HNO.out
    · obtain rfl : k = 8 := by omega
      have hn : (List.range 8).find? (hitB z key) = none := find_range_none hno.out
      have HE : Hid (atT z key = -1) := by unfold atT; rw [hn]; exact rfl
      clear hn
      go_wp2
      go_ret
      exact ⟨ret_int HE.out.symm, hB⟩
theorem place_int (C : Array Value) (z : Nat → Int) (key : Int) (w : World) (h : I64s C 16 z) (h0 : 0 ≤ key) (h1 : key ≤ 1000) :
    Calls Try.prog 65 #[.agg C, .int .i64 key] w fun e w' => e = .returned (.int .i64 (atT z key.toNat)) ∧ Below w.heap.size w w' := by
  obtain ⟨q, rfl⟩ := Int.eq_ofNat_of_zero_le h0
  simpa using place_any C z q w h (by omega)
end Go.Proofs.Ytfpfhiogfjlpaaa
