/-
  What table.Len and table.at return. For every table.
-/
import Derived.Test.YtahobohfknnhhaaProg
import Derived.Test.YtahobohfknnhhaaKit
import Derived.Test.YtahobohfknnhhaaRely
namespace Go.Proofs.Ytahobohfknnhhaa
set_option linter.unusedSimpArgs false
set_option linter.unusedVariables false
set_option linter.unusedSectionVars false
open Go.RowKit
attribute [local go_sem ↓] Go.wp_at_zero Go.wp_at_succ

/-- n ints, z. -/
structure I64s (C : Array Value) (n : Nat) (z : Nat → Int) : Prop where
  size : C.size = n
  get : ∀ i, i < n → C[i]? = some (.int .i64 (z i))
  bd : ∀ i, i < n → -9223372036854775808 ≤ z i ∧ z i ≤ 9223372036854775807
theorem I64s.pair {C : Array Value} {n : Nat} {z : Nat → Int} (h : I64s C n z) (i : Nat) (hi : i + 2 ≤ n) : C.extract i (i + 2) = #[.int .i64 (z i), .int .i64 (z (i + 1))] := by
  apply Array.ext_getElem?
  intro j
  have hs := h.size
  rw [Array.getElem?_extract]
  rcases Nat.lt_or_ge j 2 with hj | hj
  · rw [if_pos (by omega), h.get (i + j) (by omega)]
    rcases j with _ | _ | j
    · rfl
    · rfl
    · omega
  · rw [if_neg (by omega), Array.getElem?_eq_none (by simpa using hj)]
theorem I64s.one {C : Array Value} {n : Nat} {z : Nat → Int} (h : I64s C n z) : C.all (·.oneCell') = true := by
  rw [Array.all_eq_true]
  intro i hi
  have e := h.get i (by rw [← h.size]; exact hi)
  rw [Array.getElem?_eq_getElem hi] at e
  rw [Option.some.inj e]
  rfl

theorem size2 (w : World) : (sizeOf 56).run Try.prog w = .ok 2 w := by kernel_rfl
theorem agg2 (w : World) : (isAgg 56).run Try.prog w = .ok true w := by kernel_rfl
theorem run_index_slot {C : Array Value} {z : Nat → Int} (h : I64s C 16 z) (k : Nat) (hk : k < 8) (w : World) : (Instr.index 58 (.agg C) (.int .i64 k)).run Try.prog w = .ok (.agg #[.int .i64 (z (2 * k)), .int .i64 (z (2 * k + 1))]) w := by
  have hp := h.pair (2 * k) (by omega)
  have h8 : (k : Int) < 8 := by omega
  simp [Instr.index, asIntOf, run_underlying Try.underlying58, part, agg2, size2, h8]
  rw [if_pos hk, Nat.mul_comm k 2, hp]

def lenT (z : Nat → Int) (k : Nat) : Int := ((List.range k).filter fun i => decide (z (2 * i) ≠ 0)).length
theorem lenT_succ (z : Nat → Int) (k : Nat) : lenT z (k + 1) = lenT z k + if z (2 * k) ≠ 0 then 1 else 0 := by
  unfold lenT
  rw [List.range_succ, List.filter_append]
  by_cases h : z (2 * k) = 0 <;> simp [h]
theorem lenT_bd (z : Nat → Int) (k : Nat) : 0 ≤ lenT z k ∧ lenT z k ≤ k := by
  unfold lenT
  have := List.length_filter_le (fun i => decide (z (2 * i) ≠ 0)) (List.range k)
  simp at this ⊢
  omega

set_option maxRecDepth 100000 in
set_option maxHeartbeats 1000000 in
theorem len_any (C : Array Value) (z : Nat → Int) (w : World) (h : I64s C 16 z) :
    Calls Try.prog 32 #[.agg C] w fun e w' => e = .returned (.int .i64 (lenT z 8)) ∧ Below w.heap.size w w' := by
  have H := Lib.hid h
  have hs := h.size
  have hi : (Try.prog.info? 58).map (·.size) = some C.size := by rw [hs]; kernel_rfl
  have HI := Lib.hid hi
  clear hi hs h
  have hu := Try.underlying58
  have HU := Lib.hid hu
  clear hu
  have hp : ∀ k, k < 8 → C.extract (2 * k) (2 * k + 2) = #[.int .i64 (z (2 * k)), .int .i64 (z (2 * k + 1))] := fun k hk => H.out.pair (2 * k) (by omega)
  have HP := Lib.hid hp
  clear hp
  go_enter Try.func32, Try.ntmps32
  go_wp2_with (refine wpList_load_row rfl 58 _ rfl w.heap.size rfl 58 C (0, 0) _ ?ha HU.out rfl ?hb1 ?_)
  case ha => exact Blk.new _ _ _
  case hb1 => exact HI.out
  go_wp2
  go_loopw [3, 7] (fun n i wr => ∃ k : Nat, k ≤ 8 ∧ i = .int .i64 k ∧ n = .int .i64 (lenT z k) ∧ Below w.heap.size w wr) (fun _ i _ => 8 - (intOf i).toNat)
  case atStart => exact ⟨0, by omega, rfl, rfl, by go_grown⟩
  case round =>
    obtain ⟨k, hk, rfl, rfl, hb⟩ := hrel
    by_cases hk8 : k < 8
    · have b1 : (k : Int) < 8 := by omega
      have hix := run_index_slot H.out k hk8
      have hls := lenT_succ z k
      have hlb := lenT_bd z k
      have HLS := Lib.hid hls
      clear hls
      generalize hy : z (2 * k) = y at *
      by_cases hy0 : y = 0
      · have hyb : (y != 0) = false := by simpa using hy0
        have hys : lenT z (k + 1) = lenT z k := by rw [HLS.out, if_neg (by simpa using hy0)]; omega
        have HYS := Lib.hid hys
        clear hys hy0
        go_wp2
        go_roundw
        case rel => exact ⟨k + 1, by omega, by go_num, by rw [HYS.out], hb.alloc hb.size _⟩
        case measure => simp [intOf]; omega
      · have hyb : (y != 0) = true := by simpa using hy0
        have hys : lenT z (k + 1) = lenT z k + 1 := by rw [HLS.out, if_pos (by simpa using hy0)]
        have HYS := Lib.hid hys
        clear hys hy0
        go_wp2
        go_roundw
        case rel => exact ⟨k + 1, by omega, by go_num, by rw [HYS.out], hb.alloc hb.size _⟩
        case measure => simp [intOf]; omega
    · obtain rfl : k = 8 := by omega
      go_wp2
      go_ret
      exact ⟨rfl, hb⟩

def rowP (key k : Nat) : Nat := (key * 5 % 8 + k) % 8
theorem rowP_lt (key k : Nat) : rowP key k < 8 := Nat.mod_lt _ (by decide)
def hitB (z : Nat → Int) (key : Nat) (k : Nat) : Bool := decide (z (2 * rowP key k) = key ∨ z (2 * rowP key k) = 0)
def atT (z : Nat → Int) (key : Nat) : Int := match (List.range 8).find? (hitB z key) with | some k => (rowP key k : Int) | none => -1
theorem find_range {p : Nat → Bool} {n k : Nat} (hk : k < n) (h : p k = true) (hn : ∀ j, j < k → p j = false) : (List.range n).find? p = some k := by
  rw [List.find?_range_eq_some]
  refine ⟨h, by simpa using hk, fun j hj => by simpa using hn j hj⟩
theorem find_range_none {p : Nat → Bool} {n : Nat} (hn : ∀ j, j < n → p j = false) : (List.range n).find? p = none := by
  rw [List.find?_eq_none]
  intro x hx
  simp at hx
  simp [hn x hx]

theorem home_any (key : Nat) (w : World) (hk : key ≤ 1000) : Calls Try.prog 37 #[.int .i64 key] w fun e w' => e = .returned (.int .i64 ((key * 5 % 8 : Nat) : Int)) ∧ w = w' := by
  have h1 : (key : Int) ≤ 1000 := by omega
  go_enter Try.func37, Try.ntmps37
  go_wp2
  go_ret
  exact ⟨ret_int (by omega), rfl⟩

set_option maxRecDepth 100000 in
set_option maxHeartbeats 1000000 in
theorem at_any (C : Array Value) (z : Nat → Int) (g key : Nat) (w : World) (h : I64s C 16 z) (hg : Blk w g 58 C) (hk : key ≤ 1000) :
    Calls Try.prog 33 #[.pointer (some ⟨g, 0, none⟩), .int .i64 key] w fun e w' => e = .returned (.int .i64 (atT z key)) ∧ Below w.heap.size w w' := by
  have H := Lib.hid h
  clear h
  have hgl := hg.lt
  have HG := Lib.hid hg
  clear hg
  go_enter Try.func33, Try.ntmps33
  go_wp2
  go_loopw [7] (fun i wr => ∃ k : Nat, k ≤ 8 ∧ i = .int .i64 k ∧ Below w.heap.size w wr ∧ Hid (∀ j, j < k → hitB z key j = false)) (fun i _ => 8 - (intOf i).toNat)
  case atStart => exact ⟨0, by omega, rfl, Below.refl _ _, fun j hj => absurd hj (by omega)⟩
  case round =>
    obtain ⟨k, hk, rfl, hb, hno⟩ := hrel
    by_cases hk8 : k < 8
    · have b1 : (k : Int) < 8 := by omega
      have hrl := rowP_lt key k
      have hcell : wr.cell? ⟨g, rowP key k * 2, none⟩ = some (.int .i64 (z (2 * rowP key k))) := (hb.cell (p := ⟨g, rowP key k * 2, none⟩) hgl).trans (by rw [Nat.mul_comm, HG.out.cell, H.out.get _ (by omega)])
      have hrd : (((key * 5 % 8 : Nat) : Int) + k) % 8 = ((rowP key k : Nat) : Int) := by unfold rowP; omega
      have hb5 : ((key * 5 % 8 : Nat) : Int) < 8 := by omega
      generalize hm : key * 5 % 8 = m at *
      generalize hr : rowP key k = r at *
      have HM := Lib.hid hm
      have HR := Lib.hid hr
      clear hm hr
      have hr8 : (r : Int) < 8 := by omega
      generalize hy : z (2 * r) = y at *
      have HY := Lib.hid hy
      clear hy
      have HH : Hid (hitB z key k = decide (y = key ∨ y = 0)) := by unfold hitB; rw [HR.out, HY.out]; exact rfl
      have HF : Hid (hitB z key k = true → atT z key = (r : Int)) := fun hh => by
        have hf : (List.range 8).find? (hitB z key) = some k := find_range hk8 hh hno.out
        unfold atT
        rw [hf, ← HR.out]
      go_wp2_with (go_at_call 37; refine (home_any key _ (by assumption)).mono ?_; rintro e w' ⟨rfl, rfl⟩; rw [HM.out])
      · go_ret
        exact ⟨ret_int (hrd.trans (HF.out (by rw [HH.out]; simp_all)).symm), hb⟩
      · go_ret
        exact ⟨ret_int (hrd.trans (HF.out (by rw [HH.out]; simp_all)).symm), hb⟩
      · go_roundw
        case rel => exact ⟨k + 1, by omega, by go_num, hb, Lib.hid fun j hj => by
          rcases Nat.lt_or_ge j k with h | h
          · exact hno.out j h
          · obtain rfl : j = k := by omega
            rw [HH.out]
            simp_all⟩
        case measure => simp [intOf]; omega
    · obtain rfl : k = 8 := by omega
      have hn : (List.range 8).find? (hitB z key) = none := find_range_none hno.out
      have HE : Hid (atT z key = -1) := by unfold atT; rw [hn]; exact rfl
      clear hn
      go_wp2
      go_ret
      exact ⟨ret_int HE.out.symm, hb⟩

theorem at_int (C : Array Value) (z : Nat → Int) (g : Nat) (key : Int) (w : World) (h : I64s C 16 z) (hg : Blk w g 58 C) (h0 : 0 ≤ key) (h1 : key ≤ 1000) :
    Calls Try.prog 33 #[.pointer (some ⟨g, 0, none⟩), .int .i64 key] w fun e w' => e = .returned (.int .i64 (atT z key.toNat)) ∧ Below w.heap.size w w' := by
  obtain ⟨q, rfl⟩ := Int.eq_ofNat_of_zero_le h0
  simpa using at_any C z g q w h hg (by omega)
end Go.Proofs.Ytahobohfknnhhaa
