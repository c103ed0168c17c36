/-
  Kind, Object and Toggle return what the reference returns, for every Record and every thread. No condition.
-/
import Derived.Test.YtfpfhiogfjlpaaaRows
import Derived.Test.YtfpfhiogfjlpaaaFrame
import Derived.Test.YtfpfhiogfjlpaaaOpen
import Derived.Test.YtfpfhiogfjlpaaaRecA
import Derived.Test.YtfpfhiogfjlpaaaEqArr
namespace Go.Proofs.Ytfpfhiogfjlpaaa.lawRecordReads
open Go.RowKit Go.ChangeShapes Go.WideShapes Go.ChangeAt Go.Joins

attribute [local go_sem ↓] Go.wp_at_zero Go.wp_at_succ

theorem info31 : (Try.prog.info? 31).map (·.size) = some 32 := by kernel_rfl
theorem size1 (w : World) : (sizeOf 25).run Try.prog w = .ok 1 w := by kernel_rfl

set_option maxRecDepth 100000 in
set_option maxHeartbeats 1000000 in
theorem out_lo (C : Array Value) (z : Nat → Int) (t : Int) (w : World) (h : U64s C 32 z) (hlo : z 0 < 4294967296) (hK : ∀ W : World, Calls Try.prog 25 #[.agg C] W fun e w' => e = .returned (.int .i64 (z 0)) ∧ Below W.heap.size W w') (ho : t < 0 ∨ (0 ≤ t ∧ 4 ≤ t)) (ht : togN (z 26).toNat t = 0) :
    Calls Try.prog 6 #[.agg C, .int .i64 t] w fun e w' => e = .returned (.bool true) ∧ Below w.heap.size w w' := by
  have h0 := h.get 0 (by decide)
  have h26 := h.get 26 (by decide)
  have b0 := (h.bd 0 (by decide)).1
  have hz2 : (Try.prog.info? 31).map (·.size) = some C.size := by rw [h.size]; exact info31
  have HZ := Lib.hid hz2
  clear hz2
  have H := Lib.hid h
  clear h
  have hbk0 : Blk (w.alloc (.cells C 31)) w.heap.size 31 C := Blk.new _ _ _
  have HT := Lib.hid ht
  clear ht
  have HK := Lib.hid hK
  clear hK
  obtain ⟨D, hD⟩ : ∃ D, D = C.extract 1 18 := ⟨_, rfl⟩
  have hDU : U64s D 17 (fun i => z (1 + i)) := by rw [hD]; exact H.out.cut 1 17 (by decide)
  have heq : ∀ w : World, (Op.equalIn 10000 34 (.agg D) (.agg D)).run Try.prog w = .ok true w := fun w => by
    rw [run_equalIn_ints w 9998 17 Try.underlying34 Try.underlying25 size1 hDU.get hDU.get]
    simp
  have HD := Lib.hid hD
  clear hD
  have HDU := Lib.hid hDU
  clear hDU
  have hW0 : Below w.heap.size w (w.alloc (.cells C 31)) := by go_grown
  rcases ho with ho | ⟨ho1, ho2⟩
  all_goals
    go_enter Try.func6, Try.ntmps6
    go_wp2_with fail
    generalize w.alloc (.cells C 31) = W0 at *
    refine wp_region_below (by kernel_rfl) (by kernel_rfl) ?_
    repeat (
      refine wpQuiet_step (fun K hK => ?_)
      first
      | (refine ite_yes ?_ ?_
         · (go_simp; done)
         apply Exists.intro
         refine ⟨fun w1 hw1 => ?_, hK _ ?_⟩
         · first
           | exact quietAt_load_row 31 _ rfl w.heap.size rfl 31 C _ (hbk0.below hw1 hbk0.lt) Try.underlying31 rfl HZ.out
           | (go_simp; first
              | (go_at_call 25; refine (HK.out _).mono ?_; rintro e w2 ⟨rfl, hb⟩; exact ⟨rfl, hw1.trans (hb.mono hw1.size)⟩)
              | (go_at_call 26; refine (object_any C D z _ H.out HD.out).mono ?_; rintro e w2 ⟨rfl, hb⟩; exact ⟨rfl, hw1.trans (hb.mono hw1.size)⟩)
              | (go_at_call 27; refine (cellsOf_any _ 17 31 (fun i => z (1 + i)) _ (SlU.of_blk (hbk0.below hw1 hbk0.lt) H.out (by decide) (by decide) (by decide)) (by decide) D (HDU.out.congr (fun i hi => by rw [if_pos hi]))).mono ?_; rintro e w2 ⟨rfl, hb⟩; exact ⟨rfl, hw1.trans (hb.mono hw1.size)⟩)
              | (go_at_call 28; refine (toggle_any C z t _ H.out).mono ?_; rintro e w2 ⟨rfl, hb⟩; rw [HT.out]; exact ⟨rfl, hw1.trans (hb.mono hw1.size)⟩)
              | rfl)
         clear hK K
         try simp only [Act.put, List.setIfInBounds_toArray, List.set_cons_zero, List.set_cons_succ])
      | (refine ite_no ?_ ?_
         · (go_simp; done)
         refine hK _ ?_
         clear hK K
         try simp only [Act.put, List.setIfInBounds_toArray, List.set_cons_zero, List.set_cons_succ]))
    refine wpQuiet_nil ?_
    intro w9 hw9
    have hB := hW0.trans (hw9.mono hW0.size)
    go_wp2
    go_ret
    exact ⟨rfl, hB⟩

set_option maxRecDepth 100000 in
set_option maxHeartbeats 1000000 in
theorem in_lo (C : Array Value) (z : Nat → Int) (t : Int) (w : World) (h : U64s C 32 z) (hlo : z 0 < 4294967296) (hK : ∀ W : World, Calls Try.prog 25 #[.agg C] W fun e w' => e = .returned (.int .i64 (z 0)) ∧ Below W.heap.size W w') (h1 : 0 ≤ t) (h2 : t < 4) (b : Bool) (x : Nat) (hx : z 26 = (x : Int)) (hb : bitB x t = b) (ht : togN (z 26).toNat t = (if b then 1 else 0)) :
    Calls Try.prog 6 #[.agg C, .int .i64 t] w fun e w' => e = .returned (.bool true) ∧ Below w.heap.size w w' := by
  have hx64 : x < 18446744073709551616 := by have := h.bd 26 (by decide); omega
  have HX64 := Lib.hid hx64
  clear hx64
  have h0 := h.get 0 (by decide)
  have h26 := h.get 26 (by decide)
  have b0 := (h.bd 0 (by decide)).1
  have hz2 : (Try.prog.info? 31).map (·.size) = some C.size := by rw [h.size]; exact info31
  have HZ := Lib.hid hz2
  clear hz2
  have H := Lib.hid h
  clear h
  have hbk0 : Blk (w.alloc (.cells C 31)) w.heap.size 31 C := Blk.new _ _ _
  have HT := Lib.hid ht
  clear ht
  have HK := Lib.hid hK
  clear hK
  obtain ⟨D, hD⟩ : ∃ D, D = C.extract 1 18 := ⟨_, rfl⟩
  have hDU : U64s D 17 (fun i => z (1 + i)) := by rw [hD]; exact H.out.cut 1 17 (by decide)
  have heq : ∀ w : World, (Op.equalIn 10000 34 (.agg D) (.agg D)).run Try.prog w = .ok true w := fun w => by
    rw [run_equalIn_ints w 9998 17 Try.underlying34 Try.underlying25 size1 hDU.get hDU.get]
    simp
  have HD := Lib.hid hD
  clear hD
  have HDU := Lib.hid hDU
  clear hDU
  have hW0 : Below w.heap.size w (w.alloc (.cells C 31)) := by go_grown
  have HX := Lib.hid hx
  rw [hx] at h26
  clear hx
  have HBB := Lib.hid hb
  clear hb
  cases b
  all_goals
    go_enter Try.func6, Try.ntmps6
    go_wp2_with fail
    refine (refBit_any x t _ HX64.out).mono ?_
    rintro e W0 ⟨rfl, hb1⟩
    rw [HBB.out]
    have hbk1 := hbk0.below hb1 (by simp)
    have hW1 := hW0.trans (hb1.mono hW0.size)
    clear hbk0 hW0
    have hbk0 := hbk1
    have hW0 := hW1
    clear hbk1 hW1
    go_wp2_with fail
    refine wp_region_below (by kernel_rfl) (by kernel_rfl) ?_
    repeat (
      refine wpQuiet_step (fun K hK => ?_)
      first
      | (refine ite_yes ?_ ?_
         · (go_simp; done)
         apply Exists.intro
         refine ⟨fun w1 hw1 => ?_, hK _ ?_⟩
         · first
           | exact quietAt_load_row 31 _ rfl w.heap.size rfl 31 C _ (hbk0.below hw1 hbk0.lt) Try.underlying31 rfl HZ.out
           | (go_simp; first
              | (go_at_call 25; refine (HK.out _).mono ?_; rintro e w2 ⟨rfl, hb⟩; exact ⟨rfl, hw1.trans (hb.mono hw1.size)⟩)
              | (go_at_call 26; refine (object_any C D z _ H.out HD.out).mono ?_; rintro e w2 ⟨rfl, hb⟩; exact ⟨rfl, hw1.trans (hb.mono hw1.size)⟩)
              | (go_at_call 27; refine (cellsOf_any _ 17 31 (fun i => z (1 + i)) _ (SlU.of_blk (hbk0.below hw1 hbk0.lt) H.out (by decide) (by decide) (by decide)) (by decide) D (HDU.out.congr (fun i hi => by rw [if_pos hi]))).mono ?_; rintro e w2 ⟨rfl, hb⟩; exact ⟨rfl, hw1.trans (hb.mono hw1.size)⟩)
              | (go_at_call 28; refine (toggle_any C z t _ H.out).mono ?_; rintro e w2 ⟨rfl, hb⟩; rw [HT.out]; exact ⟨rfl, hw1.trans (hb.mono hw1.size)⟩)
              | rfl)
         clear hK K
         try simp only [Act.put, List.setIfInBounds_toArray, List.set_cons_zero, List.set_cons_succ])
      | (refine ite_no ?_ ?_
         · (go_simp; done)
         refine hK _ ?_
         clear hK K
         try simp only [Act.put, List.setIfInBounds_toArray, List.set_cons_zero, List.set_cons_succ]))
    refine wpQuiet_nil ?_
    intro w9 hw9
    have hB := hW0.trans (hw9.mono hW0.size)
    go_wp2
    go_ret
    exact ⟨rfl, hB⟩

set_option maxRecDepth 100000 in
set_option maxHeartbeats 1000000 in
theorem out_hi (C : Array Value) (z : Nat → Int) (t : Int) (w : World) (h : U64s C 32 z) (hhi : 4294967296 ≤ z 0) (hK : ∀ W : World, Calls Try.prog 25 #[.agg C] W fun e w' => e = .returned (.int .i64 4294967296) ∧ Below W.heap.size W w') (ho : t < 0 ∨ (0 ≤ t ∧ 4 ≤ t)) (ht : togN (z 26).toNat t = 0) :
    Calls Try.prog 6 #[.agg C, .int .i64 t] w fun e w' => e = .returned (.bool true) ∧ Below w.heap.size w w' := by
  have h0 := h.get 0 (by decide)
  have h26 := h.get 26 (by decide)
  have b0 := (h.bd 0 (by decide)).1
  have hz2 : (Try.prog.info? 31).map (·.size) = some C.size := by rw [h.size]; exact info31
  have HZ := Lib.hid hz2
  clear hz2
  have H := Lib.hid h
  clear h
  have hbk0 : Blk (w.alloc (.cells C 31)) w.heap.size 31 C := Blk.new _ _ _
  have HT := Lib.hid ht
  clear ht
  have HK := Lib.hid hK
  clear hK
  obtain ⟨D, hD⟩ : ∃ D, D = C.extract 1 18 := ⟨_, rfl⟩
  have hDU : U64s D 17 (fun i => z (1 + i)) := by rw [hD]; exact H.out.cut 1 17 (by decide)
  have heq : ∀ w : World, (Op.equalIn 10000 34 (.agg D) (.agg D)).run Try.prog w = .ok true w := fun w => by
    rw [run_equalIn_ints w 9998 17 Try.underlying34 Try.underlying25 size1 hDU.get hDU.get]
    simp
  have HD := Lib.hid hD
  clear hD
  have HDU := Lib.hid hDU
  clear hDU
  have hW0 : Below w.heap.size w (w.alloc (.cells C 31)) := by go_grown
  rcases ho with ho | ⟨ho1, ho2⟩
  all_goals
    go_enter Try.func6, Try.ntmps6
    go_wp2_with fail
    generalize w.alloc (.cells C 31) = W0 at *
    refine wp_region_below (by kernel_rfl) (by kernel_rfl) ?_
    repeat (
      refine wpQuiet_step (fun K hK => ?_)
      first
      | (refine ite_yes ?_ ?_
         · (go_simp; done)
         apply Exists.intro
         refine ⟨fun w1 hw1 => ?_, hK _ ?_⟩
         · first
           | exact quietAt_load_row 31 _ rfl w.heap.size rfl 31 C _ (hbk0.below hw1 hbk0.lt) Try.underlying31 rfl HZ.out
           | (go_simp; first
              | (go_at_call 25; refine (HK.out _).mono ?_; rintro e w2 ⟨rfl, hb⟩; exact ⟨rfl, hw1.trans (hb.mono hw1.size)⟩)
              | (go_at_call 26; refine (object_any C D z _ H.out HD.out).mono ?_; rintro e w2 ⟨rfl, hb⟩; exact ⟨rfl, hw1.trans (hb.mono hw1.size)⟩)
              | (go_at_call 27; refine (cellsOf_any _ 17 31 (fun i => z (1 + i)) _ (SlU.of_blk (hbk0.below hw1 hbk0.lt) H.out (by decide) (by decide) (by decide)) (by decide) D (HDU.out.congr (fun i hi => by rw [if_pos hi]))).mono ?_; rintro e w2 ⟨rfl, hb⟩; exact ⟨rfl, hw1.trans (hb.mono hw1.size)⟩)
              | (go_at_call 28; refine (toggle_any C z t _ H.out).mono ?_; rintro e w2 ⟨rfl, hb⟩; rw [HT.out]; exact ⟨rfl, hw1.trans (hb.mono hw1.size)⟩)
              | rfl)
         clear hK K
         try simp only [Act.put, List.setIfInBounds_toArray, List.set_cons_zero, List.set_cons_succ])
      | (refine ite_no ?_ ?_
         · (go_simp; done)
         refine hK _ ?_
         clear hK K
         try simp only [Act.put, List.setIfInBounds_toArray, List.set_cons_zero, List.set_cons_succ]))
    refine wpQuiet_nil ?_
    intro w9 hw9
    have hB := hW0.trans (hw9.mono hW0.size)
    go_wp2
    go_ret
    exact ⟨rfl, hB⟩

set_option maxRecDepth 100000 in
set_option maxHeartbeats 1000000 in
theorem in_hi (C : Array Value) (z : Nat → Int) (t : Int) (w : World) (h : U64s C 32 z) (hhi : 4294967296 ≤ z 0) (hK : ∀ W : World, Calls Try.prog 25 #[.agg C] W fun e w' => e = .returned (.int .i64 4294967296) ∧ Below W.heap.size W w') (h1 : 0 ≤ t) (h2 : t < 4) (b : Bool) (x : Nat) (hx : z 26 = (x : Int)) (hb : bitB x t = b) (ht : togN (z 26).toNat t = (if b then 1 else 0)) :
    Calls Try.prog 6 #[.agg C, .int .i64 t] w fun e w' => e = .returned (.bool true) ∧ Below w.heap.size w w' := by
  have hx64 : x < 18446744073709551616 := by have := h.bd 26 (by decide); omega
  have HX64 := Lib.hid hx64
  clear hx64
  have h0 := h.get 0 (by decide)
  have h26 := h.get 26 (by decide)
  have b0 := (h.bd 0 (by decide)).1
  have hz2 : (Try.prog.info? 31).map (·.size) = some C.size := by rw [h.size]; exact info31
  have HZ := Lib.hid hz2
  clear hz2
  have H := Lib.hid h
  clear h
  have hbk0 : Blk (w.alloc (.cells C 31)) w.heap.size 31 C := Blk.new _ _ _
  have HT := Lib.hid ht
  clear ht
  have HK := Lib.hid hK
  clear hK
  obtain ⟨D, hD⟩ : ∃ D, D = C.extract 1 18 := ⟨_, rfl⟩
  have hDU : U64s D 17 (fun i => z (1 + i)) := by rw [hD]; exact H.out.cut 1 17 (by decide)
  have heq : ∀ w : World, (Op.equalIn 10000 34 (.agg D) (.agg D)).run Try.prog w = .ok true w := fun w => by
    rw [run_equalIn_ints w 9998 17 Try.underlying34 Try.underlying25 size1 hDU.get hDU.get]
    simp
  have HD := Lib.hid hD
  clear hD
  have HDU := Lib.hid hDU
  clear hDU
  have hW0 : Below w.heap.size w (w.alloc (.cells C 31)) := by go_grown
  have HX := Lib.hid hx
  rw [hx] at h26
  clear hx
  have HBB := Lib.hid hb
  clear hb
  cases b
  all_goals
    go_enter Try.func6, Try.ntmps6
    go_wp2_with fail
    refine (refBit_any x t _ HX64.out).mono ?_
    rintro e W0 ⟨rfl, hb1⟩
    rw [HBB.out]
    have hbk1 := hbk0.below hb1 (by simp)
    have hW1 := hW0.trans (hb1.mono hW0.size)
    clear hbk0 hW0
    have hbk0 := hbk1
    have hW0 := hW1
    clear hbk1 hW1
    go_wp2_with fail
    refine wp_region_below (by kernel_rfl) (by kernel_rfl) ?_
    repeat (
      refine wpQuiet_step (fun K hK => ?_)
      first
      | (refine ite_yes ?_ ?_
         · (go_simp; done)
         apply Exists.intro
         refine ⟨fun w1 hw1 => ?_, hK _ ?_⟩
         · first
           | exact quietAt_load_row 31 _ rfl w.heap.size rfl 31 C _ (hbk0.below hw1 hbk0.lt) Try.underlying31 rfl HZ.out
           | (go_simp; first
              | (go_at_call 25; refine (HK.out _).mono ?_; rintro e w2 ⟨rfl, hb⟩; exact ⟨rfl, hw1.trans (hb.mono hw1.size)⟩)
              | (go_at_call 26; refine (object_any C D z _ H.out HD.out).mono ?_; rintro e w2 ⟨rfl, hb⟩; exact ⟨rfl, hw1.trans (hb.mono hw1.size)⟩)
              | (go_at_call 27; refine (cellsOf_any _ 17 31 (fun i => z (1 + i)) _ (SlU.of_blk (hbk0.below hw1 hbk0.lt) H.out (by decide) (by decide) (by decide)) (by decide) D (HDU.out.congr (fun i hi => by rw [if_pos hi]))).mono ?_; rintro e w2 ⟨rfl, hb⟩; exact ⟨rfl, hw1.trans (hb.mono hw1.size)⟩)
              | (go_at_call 28; refine (toggle_any C z t _ H.out).mono ?_; rintro e w2 ⟨rfl, hb⟩; rw [HT.out]; exact ⟨rfl, hw1.trans (hb.mono hw1.size)⟩)
              | rfl)
         clear hK K
         try simp only [Act.put, List.setIfInBounds_toArray, List.set_cons_zero, List.set_cons_succ])
      | (refine ite_no ?_ ?_
         · (go_simp; done)
         refine hK _ ?_
         clear hK K
         try simp only [Act.put, List.setIfInBounds_toArray, List.set_cons_zero, List.set_cons_succ]))
    refine wpQuiet_nil ?_
    intro w9 hw9
    have hB := hW0.trans (hw9.mono hW0.size)
    go_wp2
    go_ret
    exact ⟨rfl, hB⟩

theorem walk (C : Array Value) (z : Nat → Int) (t : Int) (w : World) (h : U64s C 32 z) :
    Calls Try.prog 6 #[.agg C, .int .i64 t] w fun e w' => e = .returned (.bool true) ∧ Below w.heap.size w w' := by
  obtain ⟨x, hx⟩ := Int.eq_ofNat_of_zero_le (h.bd 26 (by decide)).1
  have hk : ∀ kv : Int, (if z 0 ≤ 4294967296 then z 0 else 4294967296) = kv → ∀ W : World, Calls Try.prog 25 #[.agg C] W fun e w' => e = .returned (.int .i64 kv) ∧ Below W.heap.size W w' :=
    fun kv hkv W => (kind_any C z W h).mono fun _ _ ⟨he, hb⟩ => ⟨by rw [he, hkv], hb⟩
  by_cases ht : 0 ≤ t ∧ t < 4
  · have htg : togN (z 26).toNat t = (if bitB x t then 1 else 0) := by
      unfold togN
      rw [hx, Int.toNat_natCast]
      by_cases hb : bitB x t = true
      · rw [if_pos ⟨ht.1, ht.2, hb⟩, if_pos hb]
      · rw [if_neg (fun h => hb h.2.2), if_neg hb]
    by_cases hlo : z 0 < 4294967296
    · exact in_lo C z t w h hlo (hk _ (by rw [if_pos (by omega)])) ht.1 ht.2 _ x hx rfl htg
    · exact in_hi C z t w h (by omega) (hk _ (by split <;> omega)) ht.1 ht.2 _ x hx rfl htg
  · have htg : togN (z 26).toNat t = 0 := by unfold togN; rw [if_neg (fun h => ht ⟨h.1, h.2.1⟩)]
    by_cases hlo : z 0 < 4294967296
    · exact out_lo C z t w h hlo (hk _ (by rw [if_pos (by omega)])) (by omega) htg
    · exact out_hi C z t w h (by omega) (hk _ (by split <;> omega)) (by omega) htg

theorem own : ownKnob Try.prog.godebug = none := by kernel_rfl

set_option maxRecDepth 100000 in
theorem lifted (os : Os) (started : os.Started) (H : Type) (enc : TypeId × Value → H) :
    ReturnsInHanded {} Try.checked os 6 .any (Rows.recordReadsSpec.pre6 enc Try.prog Try.f6 Rows.recordReadsRow.domain false) (Rows.recordReadsSpec.post enc Try.prog Try.f6 false true false false) := by
  refine law_lifted (C := Try.checked) own started (by kernel_rfl) Try.func6
    (ChangeSpec.witness6 (enc := enc) (C := Try.checked) false ⟨#[], #[.agg #[.int .u64 0, .int .u64 0, .int .u64 0, .int .u64 0, .int .u64 0, .int .u64 0, .int .u64 0, .int .u64 0, .int .u64 0, .int .u64 0, .int .u64 0, .int .u64 0, .int .u64 0, .int .u64 0, .int .u64 0, .int .u64 0, .int .u64 0, .int .u64 0, .int .u64 0, .int .u64 0, .int .u64 0, .int .u64 0, .int .u64 0, .int .u64 0, .int .u64 0, .int .u64 0, .int .u64 0, .int .u64 0, .int .u64 0, .int .u64 0, .int .u64 0, .int .u64 0], .int .i64 0], []⟩ 8 (by kernel_rfl) (by kernel_rfl) (by kernel_rfl) (by kernel_rfl))
    (by kernel_rfl) (by kernel_rfl) rfl rfl Try.underlying4 ?_
  intro W base args ds ps hval0 hA0 hsz0
  have hval : ∀ (j : Nat) t v, Try.f6.params[j]? = some t → args[j]? = some v → Value.okWide Try.prog W .any base t v := hval0
  have hA : DataW.TrodAll enc Try.prog W 0 (fun _ => true) true Try.f6.params.toList args.toList ds ps := hA0
  rw [Try.params6] at hA hval
  obtain ⟨v0, v1, d0, d1, p0, p1, rfl, rfl, rfl, h0, h1⟩ := trodAll_two hA
  obtain ⟨r, rfl, wr⟩ := open_flat 4 (K := List.replicate 32 .u64) (by kernel_rfl) (by kernel_rfl) (by kernel_rfl) (hval 0 31 v0 rfl rfl) h0
  obtain ⟨t, rfl, rfl, rfl, wt⟩ := open_int Try.underlying3 (hval 1 3 v1 rfl rfl) h1
  have hU := flatU 32 wr
  exact ⟨rfl, walk _ r t W hU⟩

theorem holds : Rows.RecordReadsSaid :=
  OpenClaim.holds_of_wide 6 Try.f6 rfl rfl rfl rfl rfl rfl rfl ⟨rfl, rfl, rfl, rfl, rfl⟩ rfl rfl rfl rfl rfl (by kernel_rfl) Try.func6 (by kernel_rfl)
    (of_decide_eq_true (by kernel_rfl)) (by unfold Func.isWrapper; first | (rw [if_pos (by decide +kernel)]; kernel_rfl) | (rw [if_neg (by decide +kernel)]; exact ⟨rfl, rfl⟩))
    (fun os started H enc _ => lifted os started H enc)
#print axioms holds
end Go.Proofs.Ytfpfhiogfjlpaaa.lawRecordReads
