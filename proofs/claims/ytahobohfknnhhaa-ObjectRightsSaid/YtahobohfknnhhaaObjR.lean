/-
  What object.Right returns: for any kind and any seventeen words. 
-/
import Derived.Test.YtahobohfknnhhaaProg
import Derived.Test.YtahobohfknnhhaaKit
import Derived.Test.YtahobohfknnhhaaObjL
import Derived.Test.YtahobohfknnhhaaObjS
import Derived.Test.YtahobohfknnhhaaHeapR
import Derived.Test.YtahobohfknnhhaaEqArr
namespace Go.Proofs.Ytahobohfknnhhaa
set_option linter.unusedSimpArgs false
set_option linter.unusedVariables false
set_option linter.unusedSectionVars false
open Go.RowKit
set_option linter.unusedSimpArgs false
set_option linter.unusedVariables false
attribute [local go_sem ↓] Go.wp_at_zero Go.wp_at_succ

theorem infoOC : (Try.prog.info? 24).map (·.size) = some 17 := by kernel_rfl

set_option maxRecDepth 100000 in
set_option maxHeartbeats 2000000 in
theorem right_list (C : Array Value) (z : Nat → Int) (kind : Int) (w : World) (h : U64s C 17 z) (hk : kind = 1 ∨ kind = 2 ∨ kind = 3) :
    Calls Try.prog 6 #[.int .i64 kind, .agg C] w fun e w' => ∃ b, e = .returned (.bool b) ∧ (b = true ↔ listOk z) ∧ Below w.heap.size w w' := by
  have HC := Lib.hid h
  have HIE : Hid ((Try.prog.info? 24).map (·.size) = some C.size) := by show _ = _; rw [infoOC, h.size]
  have HBK : Hid (Blk (w.alloc (.cells C 24)) w.heap.size 24 C) := Blk.new _ _ _
  have HL : Calls Try.prog 14 #[.agg C] (w.alloc (.cells C 24)) (ListOut z (w.alloc (.cells C 24))) := list_any C z _ h
  clear h
  rcases hk with rfl | rfl | rfl
  all_goals
    go_enter Try.func6, Try.ntmps6
    go_wp2_with (refine wpList_load_row rfl 24 _ rfl w.heap.size rfl 24 C (0, 0) _ HBK.out Try.underlying24 rfl HIE.out ?_)
    refine HL.mono ?_
    rintro e w1 ⟨hb, hcase⟩
    have hB : Below w.heap.size w w1 := Below.trans (by go_grown) (hb.mono (by simp))
    rcases hcase with ⟨hok, A, c, rfl, hown⟩ | ⟨hno, rfl⟩
    · have HOK := Lib.hid hok
      clear hok hown
      go_wp2
      go_ret
      exact ⟨_, rfl, Iff.intro (fun _ => HOK.out) (fun _ => rfl), hB⟩
    · have HNO := Lib.hid hno
      clear hno
      go_wp2
      go_ret
      exact ⟨_, rfl, Iff.intro (fun h => Bool.noConfusion h) (fun h => absurd h HNO.out), hB⟩

set_option maxRecDepth 100000 in
set_option maxHeartbeats 2000000 in
theorem right_heap (C : Array Value) (z : Nat → Int) (w : World) (h : U64s C 17 z) :
    Calls Try.prog 6 #[.int .i64 4, .agg C] w fun e w' => ∃ b, e = .returned (.bool b) ∧ (b = true ↔ listOk z ∧ heapR (upL z (z 0).toNat) = true) ∧ Below w.heap.size w w' := by
  have HC := Lib.hid h
  have HIE : Hid ((Try.prog.info? 24).map (·.size) = some C.size) := by show _ = _; rw [infoOC, h.size]
  have HBK : Hid (Blk (w.alloc (.cells C 24)) w.heap.size 24 C) := Blk.new _ _ _
  have HL : Calls Try.prog 14 #[.agg C] (w.alloc (.cells C 24)) (ListOut z (w.alloc (.cells C 24))) := list_any C z _ h
  clear h
  go_enter Try.func6, Try.ntmps6
  go_wp2_with (refine wpList_load_row rfl 24 _ rfl w.heap.size rfl 24 C (0, 0) _ HBK.out Try.underlying24 rfl HIE.out ?_)
  refine HL.mono ?_
  rintro e w1 ⟨hb, hcase⟩
  have hB : Below w.heap.size w w1 := Below.trans (by go_grown) (hb.mono (by simp))
  rcases hcase with ⟨hok, A, c, rfl, hown⟩ | ⟨hno, rfl⟩
  · have HOK := Lib.hid hok
    have hn : (z 0).toNat ≤ 16 := by have := hok.1; omega
    have HS : Hid (SlI w1 A (z 0).toNat c (upL z (z 0).toNat)) := Lib.hid (SlI.of_own hown (fun i => by
      by_cases hi : i < (z 0).toNat
      · rw [upL_get z _ i hi]
        have h1 := (hok.2 i (by omega)).1
        have h0 := (HC.out.bd (i + 1) (by omega)).1
        omega
      · rw [List.getElem?_eq_none (by rw [upL_len]; omega)]
        decide))
    clear hok hown
    go_wp2_with (go_at_call 15; refine (heapRight_any A _ c _ _ HS.out).mono ?_; rintro e w2 ⟨rfl, hb2⟩)
    go_ret
    exact ⟨_, rfl, Iff.intro (fun h => ⟨HOK.out, h⟩) (fun h => h.2), hB.trans (hb2.mono hB.size)⟩
  · have HNO := Lib.hid hno
    clear hno
    go_wp2
    go_ret
    exact ⟨_, rfl, Iff.intro (fun h => Bool.noConfusion h) (fun h => absurd h.1 HNO.out), hB⟩

set_option maxRecDepth 100000 in
set_option maxHeartbeats 2000000 in
theorem right_table (C : Array Value) (z : Nat → Int) (w : World) (h : U64s C 17 z) :
    Calls Try.prog 6 #[.int .i64 5, .agg C] w fun e w' => ∃ b, e = .returned (.bool b) ∧ (b = true ↔ slotsOk z) ∧ Below w.heap.size w w' := by
  have HIE : Hid ((Try.prog.info? 24).map (·.size) = some C.size) := by show _ = _; rw [infoOC, h.size]
  have HBK : Hid (Blk (w.alloc (.cells C 24)) w.heap.size 24 C) := Blk.new _ _ _
  have HL : Calls Try.prog 16 #[.agg C] (w.alloc (.cells C 24)) (SlotsOut z (w.alloc (.cells C 24))) := slots_any C z _ h
  clear h
  go_enter Try.func6, Try.ntmps6
  go_wp2_with (refine wpList_load_row rfl 24 _ rfl w.heap.size rfl 24 C (0, 0) _ HBK.out Try.underlying24 rfl HIE.out ?_)
  refine HL.mono ?_
  rintro e w1 ⟨hb, D, y, b, rfl, hI, hb1, hb2⟩
  have hB : Below w.heap.size w w1 := Below.trans (by go_grown) (hb.mono (by simp))
  have HI := Lib.hid hI
  have HID : Hid ((Try.prog.info? 58).map (·.size) = some D.size) := by show _ = _; rw [infoTS, hI.size]
  have HB1 := Lib.hid hb1
  clear hb1 hb2 hI
  go_wp2_with (refine wpList_store_row rfl 58 _ _ rfl w1.heap.size D rfl rfl 58 #[.int .i64 0, .int .i64 0, .int .i64 0, .int .i64 0, .int .i64 0, .int .i64 0, .int .i64 0, .int .i64 0, .int .i64 0, .int .i64 0, .int .i64 0, .int .i64 0, .int .i64 0, .int .i64 0, .int .i64 0, .int .i64 0] (Blk.new _ _ _) HID.out (by rw [HI.out.size]; rfl) HI.out.one ?_)
  go_ret
  exact ⟨_, rfl, HB1.out, below_setRow (hB.alloc hB.size _) (hB.size) _⟩

theorem right_none (C : Array Value) (kind : Int) (w : World) (h : kind < 1 ∨ 6 < kind) :
    Calls Try.prog 6 #[.int .i64 kind, .agg C] w fun e w' => e = .returned (.bool false) ∧ Below w.heap.size w w' := by
  have e1 : (kind == 1) = false := by simp; omega
  have e2 : (kind == 2) = false := by simp; omega
  have e3 : (kind == 3) = false := by simp; omega
  have e4 : (kind == 4) = false := by simp; omega
  have e5 : (kind == 5) = false := by simp; omega
  have e6 : (kind == 6) = false := by simp; omega
  clear h
  go_enter Try.func6, Try.ntmps6
  go_wp2
  go_ret
  exact ⟨rfl, by go_grown⟩

/-- A tally's words. -/
def tallyOk (z : Nat → Int) : Prop := z 0 ≤ 4294967295 ∧ ∀ i, i < 17 → z i = if i = 0 then z 0 else 0
theorem sizeU1 (w : World) : (sizeOf 22).run Try.prog w = .ok 1 w := by kernel_rfl

set_option maxRecDepth 100000 in
set_option maxHeartbeats 2000000 in
theorem right_tally (C : Array Value) (z : Nat → Int) (r : Bool) (w : World) (h : U64s C 17 z) (hr : r = true ↔ tallyOk z) :
    Calls Try.prog 6 #[.int .i64 6, .agg C] w fun e w' => e = .returned (.bool r) ∧ Below w.heap.size w w' := by
  have HIE : Hid ((Try.prog.info? 24).map (·.size) = some C.size) := by show _ = _; rw [infoOC, h.size]
  have HBK : Hid (Blk (w.alloc (.cells C 24)) w.heap.size 24 C) := Blk.new _ _ _
  have c0 := h.get 0 (by omega)
  obtain ⟨n, hn⟩ : ∃ n, z 0 = n := ⟨_, rfl⟩
  have hU := ((U64s.zero 17).set_ (k := 0) (v := n) (by rw [← hn]; exact h.bd 0 (by omega)))
  have e : (Array.replicate 17 (Value.int .u64 0)).setIfInBounds 0 (.int .u64 n) = #[.int .u64 n, .int .u64 0, .int .u64 0, .int .u64 0, .int .u64 0, .int .u64 0, .int .u64 0, .int .u64 0, .int .u64 0, .int .u64 0, .int .u64 0, .int .u64 0, .int .u64 0, .int .u64 0, .int .u64 0, .int .u64 0, .int .u64 0] := rfl
  rw [e] at hU
  obtain ⟨b, hb, heq⟩ : ∃ b : Bool, (b = true ↔ ∀ i, i < 17 → z i = if i = 0 then n else 0) ∧ ∀ w : World, (Op.equalIn 10000 24 (.agg C) (.agg #[.int .u64 n, .int .u64 0, .int .u64 0, .int .u64 0, .int .u64 0, .int .u64 0, .int .u64 0, .int .u64 0, .int .u64 0, .int .u64 0, .int .u64 0, .int .u64 0, .int .u64 0, .int .u64 0, .int .u64 0, .int .u64 0, .int .u64 0])).run Try.prog w = .ok b w :=
    ⟨_, decide_eq_true_iff, fun w => run_equalIn_ints w 9998 17 Try.underlying24 Try.underlying22 sizeU1 h.get hU.get⟩
  rw [hn] at c0
  clear hU e
  by_cases h4 : n ≤ 4294967295
  · have d1 : decide (n ≤ 4294967295) = true := by simpa using h4
    obtain rfl : r = b := by
      rw [Bool.eq_iff_iff, hr, hb]
      unfold tallyOk
      rw [hn]
      exact ⟨fun h => h.2, fun h => ⟨h4, h⟩⟩
    clear h hr hb hn
    go_enter Try.func6, Try.ntmps6
    go_wp2_with (refine wpList_load_row_g rfl 24 _ rfl w.heap.size rfl 24 C (0, 0) _ HBK.out Try.underlying24 rfl HIE.out ?_)
    go_ret
    exact ⟨rfl, by go_grown⟩
  · have d1 : decide (n ≤ 4294967295) = false := by simpa using h4
    obtain rfl : r = false := by
      rw [Bool.eq_false_iff]
      intro h1
      have := (hr.1 h1).1
      rw [hn] at this
      exact h4 this
    clear h hr hb hn
    go_enter Try.func6, Try.ntmps6
    go_wp2
    go_ret
    exact ⟨rfl, by go_grown⟩
end Go.Proofs.Ytahobohfknnhhaa
