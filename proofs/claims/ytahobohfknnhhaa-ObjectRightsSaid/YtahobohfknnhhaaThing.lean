/-
  What gristmillref.Thing's Cells return.
-/
import Derived.Test.YtahobohfknnhhaaProg
import Derived.Test.YtahobohfknnhhaaKit
import Derived.Test.YtahobohfknnhhaaRTab
import Derived.Test.YtahobohfknnhhaaSlots
import Derived.Test.YtahobohfknnhhaaRecA
namespace Go.Proofs.Ytahobohfknnhhaa
set_option linter.unusedSimpArgs false
set_option linter.unusedVariables false
set_option linter.unusedSectionVars false
open Go.RowKit
set_option linter.unusedSimpArgs false
set_option linter.unusedVariables false
attribute [local go_sem ↓] Go.wp_at_zero Go.wp_at_succ

theorem thing_mk (w : World) : (Instr.makeSlice 34 (.int .i64 17) (.int .i64 17)).run Try.prog w = .ok (.slice (some ⟨w.heap.size, 0, none⟩) 17 17) (w.alloc (.cells (Array.replicate 17 (.int .u64 0)) 22)) := by kernel_rfl

/-- A thing's cells. -/
structure ThR (C : Array Value) (kind : Int) (A : Option Addr) (n c : Nat) (d : Nat → Int) (N : Int) : Prop where
  size : C.size = 19
  kind_ : C[0]? = some (.int .i64 kind)
  list : C[1]? = some (.slice A n c)
  slot : ∀ i, i < 16 → C[2 + i]? = some (.int .i64 (d i))
  num : C[18]? = some (.int .i64 N)
/-- A list's words. -/
def listW (n : Nat) (xs : List Int) (i : Nat) : Int := if i = 0 then n else if i ≤ n then xs[i - 1]?.getD 0 else 0
/-- The words so far: k of them. -/
def listK (n k : Nat) (xs : List Int) (i : Nat) : Int := if i = 0 then n else if i ≤ k then xs[i - 1]?.getD 0 else 0

def CellsOut (z : Nat → Int) (w : World) (e : Ending) (w' : World) : Prop :=
  ∃ g D, e = .returned (.slice (some ⟨g, 0, none⟩) 17 17) ∧ Blk w' g 22 D ∧ U64s D 17 z ∧ w.heap.size ≤ g ∧ Below w.heap.size w w'

set_option maxHeartbeats 1000000 in
theorem cells_tally (C : Array Value) (A : Option Addr) (n c : Nat) (d : Nat → Int) (N : Int) (w : World) (h : ThR C 6 A n c d N) (hN : 0 ≤ N ∧ N ≤ 9223372036854775807) :
    Calls Try.prog 13 #[.agg C] w (CellsOut (fun i => if i = 0 then N else 0) w) := by
  have k0 := h.kind_
  have k18 := h.num
  have hmk := thing_mk
  have hw : N % 18446744073709551616 = N := by omega
  have HU : Hid (U64s ((Array.replicate 17 (.int .u64 0)).setIfInBounds 0 (.int .u64 N)) 17 (fun i => if i = 0 then N else 0)) := Lib.hid ((U64s.zero 17).set_ (k := 0) (by omega))
  clear h
  go_enter Try.func13, Try.ntmps13
  go_wp2
  go_ret
  exact ⟨w.heap.size + 1, _, rfl, Blk.newAt _ _ _ (by simp), HU.out, by omega, by go_grown⟩

set_option maxHeartbeats 1000000 in
theorem cells_list (C : Array Value) (kind : Int) (A : Option Addr) (n c : Nat) (xs : List Int) (d : Nat → Int) (N : Int) (w : World) (h : ThR C kind A n c d N) (hl : SlI w A n c xs) (hn : n ≤ 16) (hx : ∀ i : Nat, i < n → 0 ≤ xs[i]?.getD 0)
    (h5 : kind ≠ 5) (h6 : kind ≠ 6) :
    Calls Try.prog 13 #[.agg C] w (CellsOut (listW n xs) w) := by
  have k0 := h.kind_
  have k1 := h.list
  have hmk := thing_mk
  have hw : (n : Int) % 18446744073709551616 = n := by omega
  have e5 : (kind == 5) = false := by simpa using h5
  have e6 : (kind == 6) = false := by simpa using h6
  have HU : Hid (U64s ((Array.replicate 17 (.int .u64 0)).setIfInBounds 0 (.int .u64 n)) 17 (listK n 0 xs)) := Lib.hid (((U64s.zero 17).set_ (k := 0) (v := n) (by omega)).congr (fun i hi => by
    unfold listK
    by_cases h0 : i = 0
    · rw [if_pos h0, if_pos h0]
    · rw [if_neg h0, if_neg h0, if_neg (by omega)]))
  have HX := Lib.hid hx
  have HL := Lib.hid hl
  clear h h5 h6 hx hl
  go_enter Try.func13, Try.ntmps13
  go_wp2
  go_loopw [20] (fun i wr => ∃ k : Nat, k ≤ n ∧ i = .int .i64 k ∧ Hid (∃ D, Blk wr (w.heap.size + 1) 22 D ∧ U64s D 17 (listK n k xs)) ∧ Below w.heap.size w wr) (fun i _ => n - (intOf i).toNat)
  case atStart => exact ⟨0, by omega, rfl, Lib.hid ⟨_, Blk.newAt _ _ _ (by simp), HU.out⟩, by go_grown⟩
  case round =>
    obtain ⟨k, hk, rfl, hD, hb⟩ := hrel
    by_cases hkn : k < n
    · have b1 : (k : Int) < n := by omega
      obtain ⟨D, hB, hU⟩ := hD.out
      clear hD
      obtain ⟨b, off, rfl, hblt, hcell⟩ := HL.out.at_ (by omega)
      have hc1 : wr.cell? ⟨b, off + k, none⟩ = some (.int .i64 (xs[k]?.getD 0)) := (hb.cell (p := ⟨b, off + k, none⟩) hblt).trans (hcell k hkn)
      have bd1 := HL.out.bd k
      have bd0 := HX.out k hkn
      have hnc := HL.out.cap
      have c63 := HL.out.cap63
      clear hcell
      have hq := hB.cell (k + 1)
      rw [hU.get (k + 1) (by omega)] at hq
      have hf := hB.frozen (k + 1)
      have HB := Lib.hid hB
      have HU2 := Lib.hid hU
      generalize hv : xs[k]?.getD 0 = v at hc1 bd1 bd0
      have HV := Lib.hid hv
      clear hB hU hv
      have hw2 : v % 18446744073709551616 = v := by omega
      go_wp2
      go_roundw
      case rel => exact ⟨k + 1, by omega, by go_num, Lib.hid ⟨_, HB.out.set_ (k + 1) _, (HU2.out.set_ (k := k + 1) (v := v) (by omega)).congr (fun i hi => by
        have hv := HV.out
        unfold listK
        by_cases h0 : i = k + 1
        · subst h0
          rw [if_pos rfl, if_neg (by omega), if_pos (by omega), Nat.add_sub_cancel, hv]
        · rw [if_neg h0]
          by_cases h1 : i = 0
          · rw [if_pos h1, if_pos h1]
          · rw [if_neg h1, if_neg h1]
            by_cases h2 : i ≤ k
            · rw [if_pos h2, if_pos (by omega)]
            · rw [if_neg h2, if_neg (by omega)])⟩, hb.setCell (by show w.heap.size ≤ w.heap.size + 1; omega) _⟩
      case measure => simp [intOf]; omega
    · obtain rfl : k = n := by omega
      go_wp2
      go_ret
      obtain ⟨D, hB, hU⟩ := hD.out
      exact ⟨w.heap.size + 1, D, rfl, hB, hU, by omega, hb⟩

/-- A table's words so far: k slots of them. -/
def slotK (k : Nat) (d : Nat → Int) (i : Nat) : Int := if i < 2 * k then d i else 0
theorem info52 : (Try.prog.info? 29).map (·.size) = some 16 := by kernel_rfl

set_option maxRecDepth 100000 in
set_option maxHeartbeats 2000000 in
theorem cells_table (C : Array Value) (A : Option Addr) (n c : Nat) (d : Nat → Int) (N : Int) (w : World) (h : ThR C 5 A n c d N) (hd : ∀ i, i < 16 → 0 ≤ d i ∧ d i ≤ 9223372036854775807) :
    Calls Try.prog 13 #[.agg C] w (CellsOut (slotK 8 d) w) := by
  have k0 := h.kind_
  have hmk := thing_mk
  obtain ⟨D, hD⟩ : ∃ D, D = C.extract 2 18 := ⟨_, rfl⟩
  have hI : I64s D 16 d := by
    have hs := h.size
    refine ⟨by rw [hD]; simp; omega, fun i hi => ?_, fun i hi => by have := hd i hi; omega⟩
    rw [hD, Array.getElem?_extract, if_pos (by omega)]
    exact h.slot i hi
  have HI := Lib.hid hI
  have HS := Lib.hid hI.size
  have HD := Lib.hid hD
  have HB := Lib.hid hd
  have HU : Hid (U64s (Array.replicate 17 (.int .u64 0)) 17 (slotK 0 d)) := Lib.hid ((U64s.zero 17).congr (fun i hi => by unfold slotK; rw [if_neg (by omega)]))
  clear h hd hD hI
  go_enter Try.func13, Try.ntmps13
  go_wp2_with (refine wpList_load_mid rfl 29 _ rfl w.heap.size 2 rfl D.toList _ ?hc Try.underlying29 rfl ?hi ?_)
  case hc =>
    rw [HD.out]
    exact World.rangeAt_of_block (t := 31) (fr := (0, 0)) (((Blk.new w 31 C).alloc _)) 2 16
  case hi => rw [info52, Array.length_toList, HS.out]
  go_wp2
  go_loopw [36] (fun i wr => ∃ k : Nat, k ≤ 8 ∧ i = .int .i64 k ∧ Hid (∃ E, Blk wr (w.heap.size + 1) 22 E ∧ U64s E 17 (slotK k d)) ∧ Below w.heap.size w wr) (fun i _ => 8 - (intOf i).toNat)
  case atStart => exact ⟨0, by omega, rfl, Lib.hid ⟨_, Blk.newAt _ _ _ (by simp), HU.out⟩, by go_grown⟩
  case round =>
    obtain ⟨k, hk, rfl, hE, hb⟩ := hrel
    by_cases hk8 : k < 8
    · have b1 : (k : Int) < 8 := by omega
      obtain ⟨E, hB, hU⟩ := hE.out
      clear hE
      have hix := run_index_slotR HI.out k hk8
      have hx := HB.out (2 * k) (by omega)
      have hy := HB.out (2 * k + 1) (by omega)
      have HK : Hid (∀ i, slotK (k + 1) d i = if i = 2 * k + 1 then d (2 * k + 1) else if i = 2 * k then d (2 * k) else slotK k d i) := Lib.hid fun i => by
        unfold slotK
        by_cases h1 : i = 2 * k + 1
        · subst h1
          rw [if_pos (by omega), if_pos rfl]
        · rw [if_neg h1]
          by_cases h2 : i = 2 * k
          · subst h2
            rw [if_pos (by omega), if_pos rfl]
          · rw [if_neg h2]
            by_cases h3 : i < 2 * k
            · rw [if_pos h3, if_pos (by omega)]
            · rw [if_neg h3, if_neg (by omega)]
      generalize hdx : d (2 * k) = x at hx hix HK
      generalize hdy : d (2 * k + 1) = y at hy hix HK
      have HDX := Lib.hid hdx
      have HDY := Lib.hid hdy
      clear hdx hdy
      have hwx : x % 18446744073709551616 = x := by omega
      have hwy : y % 18446744073709551616 = y := by omega
      have q0 := (hB.alloc (.cells #[.int .i64 x, .int .i64 y] 27)).cell (2 * k)
      rw [hU.get (2 * k) (by omega)] at q0
      have q1 := (hB.alloc (.cells #[.int .i64 x, .int .i64 y] 27)).cell (2 * k + 1)
      rw [hU.get (2 * k + 1) (by omega)] at q1
      have f0 := (hB.alloc (.cells #[.int .i64 x, .int .i64 y] 27)).frozen (2 * k)
      have f1 := (hB.alloc (.cells #[.int .i64 x, .int .i64 y] 27)).frozen (2 * k + 1)
      have s0 := (Blk.new wr 27 #[.int .i64 x, .int .i64 y]).cell 0
      have s1 := (Blk.new wr 27 #[.int .i64 x, .int .i64 y]).cell 1
      simp only [List.getElem?_toArray, List.getElem?_cons_zero, List.getElem?_cons_succ] at s0 s1
      have hne : w.heap.size + 1 ≠ wr.heap.size := by have := hB.lt; omega
      have HB5 := Lib.hid (hB.alloc (.cells #[.int .i64 x, .int .i64 y] 27))
      have HBB := Lib.hid (hb.alloc hb.size (.cells #[.int .i64 x, .int .i64 y] 27))
      have HUU := Lib.hid hU
      clear hB hU hb
      go_wp2
      generalize wr.alloc (.cells #[.int .i64 x, .int .i64 y] 27) = w5 at *
      generalize wr.heap.size = gs at *
      go_region
      apply_assumption
      go_wp2
      go_roundw
      case rel => exact ⟨k + 1, by omega, by go_num, Lib.hid ⟨_, (HB5.out.set_ (2 * k) _).set_ (2 * k + 1) _, ((HUU.out.set_ (k := 2 * k) (v := x) (by omega)).set_ (k := 2 * k + 1) (v := y) (by omega)).congr (fun i hi => HK.out i)⟩,
        ((HBB.out.setCell (p := ⟨w.heap.size + 1, 2 * k, none⟩) (by show w.heap.size ≤ w.heap.size + 1; omega) _).setCell (p := ⟨w.heap.size + 1, 2 * k + 1, none⟩) (by show w.heap.size ≤ w.heap.size + 1; omega) _).drew⟩
      case measure => simp [intOf]; omega
    · obtain rfl : k = 8 := by omega
      go_wp2
      go_ret
      obtain ⟨E, hB, hU⟩ := hE.out
      exact ⟨w.heap.size + 1, E, rfl, hB, hU, by omega, hb⟩
end Go.Proofs.Ytahobohfknnhhaa
