/-
  What table.Right returns. For every table.
-/
import Derived.Test.YtahobohfknnhhaaTabL
namespace Go.Proofs.Ytahobohfknnhhaa
set_option linter.unusedSimpArgs false
set_option linter.unusedVariables false
set_option linter.unusedSectionVars false
open Go.RowKit
attribute [local go_sem ↓] Go.wp_at_zero Go.wp_at_succ

def slotOk (z : Nat → Int) (i : Nat) : Bool := decide (0 ≤ z (2 * i) ∧ z (2 * i) ≤ 1000 ∧ 0 ≤ z (2 * i + 1) ∧ z (2 * i + 1) ≤ 4294967295 ∧ (z (2 * i) = 0 → z (2 * i + 1) = 0) ∧ (z (2 * i) ≠ 0 → atT z (z (2 * i)).toNat = i))
def rightT (z : Nat → Int) : Bool := decide (lenT z 8 ≤ 6) && (List.range 8).all (slotOk z)
theorem rightT_no {z : Nat → Int} {k : Nat} (hk : k < 8) (h : slotOk z k = false) : rightT z = false := by
  unfold rightT
  rw [Bool.and_eq_false_iff]
  right
  rw [List.all_eq_false]
  exact ⟨k, by simpa using hk, by simp [h]⟩
theorem rightT_end {z : Nat → Int} (hl : lenT z 8 ≤ 6) (h : ∀ i, i < 8 → slotOk z i = true) : rightT z = true := by
  unfold rightT
  rw [Bool.and_eq_true]
  exact ⟨by simpa using hl, by rw [List.all_eq_true]; intro x hx; exact h x (by simpa using hx)⟩

set_option maxRecDepth 100000 in
set_option maxHeartbeats 2000000 in
theorem right_any (C : Array Value) (z : Nat → Int) (w : World) (h : I64s C 16 z) :
    Calls Try.prog 25 #[.agg C] w fun e w' => e = .returned (.bool (rightT z)) ∧ Below w.heap.size w w' := by
  have H := Lib.hid h
  have hs := h.size
  have hi : (Try.prog.info? 58).map (·.size) = some C.size := by rw [hs]; kernel_rfl
  have HI := Lib.hid hi
  clear hi hs h
  have hu := Try.underlying58
  have HU := Lib.hid hu
  clear hu
  have hlb := lenT_bd z 8
  obtain ⟨l, hl⟩ : ∃ l, lenT z 8 = l := ⟨_, rfl⟩
  rw [hl] at hlb
  have HL := Lib.hid hl
  clear hl
  have hbk : Blk (w.alloc (.cells C 58)) w.heap.size 58 C := Blk.new _ _ _
  have HBK := Lib.hid hbk
  clear hbk
  go_enter Try.func25, Try.ntmps25
  go_wp2_with (first
    | (refine wpList_load_row rfl 58 _ rfl w.heap.size rfl 58 C (0, 0) _ ?_ HU.out rfl ?_ ?_; (first | exact HBK.out | exact HBK.out.below hb1 (by simp)); (exact HI.out))
    | (go_at_call 32; refine (len_any C z _ H.out).mono ?_; rintro e w1 ⟨rfl, hb1⟩; rw [HL.out]))
  · go_ret
    have hgt : 6 < l := by assumption
    exact ⟨ret_bool (by
      have e : rightT z = false := by
        unfold rightT
        rw [Bool.and_eq_false_iff]
        left
        rw [HL.out]
        simp; omega
      rw [e]), Below.trans (by go_grown) (hb1.mono (by simp))⟩
  · have hle : l ≤ 6 := by assumption
    have HBK1 := Lib.hid (HBK.out.below hb1 (by simp))
    have hB : Below w.heap.size w w1 := Below.trans (by go_grown) (hb1.mono (by simp))
    have hz1 := hb1.size
    simp only [World.size_alloc] at hz1
    clear hb1
    go_loopw [9] (fun i wr => ∃ k : Nat, k ≤ 8 ∧ i = .int .i64 k ∧ Below w1.heap.size w1 wr ∧ Hid (∀ j, j < k → slotOk z j = true)) (fun i _ => 8 - (intOf i).toNat)
    case atStart => exact ⟨0, by omega, rfl, Below.refl _ _, fun j hj => absurd hj (by omega)⟩
    case round =>
      obtain ⟨k, hk, rfl, hb, hall⟩ := hrel
      have hsz := hb.size
      by_cases hk8 : k < 8
      · have b1 : (k : Int) < 8 := by omega
        have hix := run_index_slot H.out k hk8
        have HBKr := Lib.hid ((HBK1.out.below hb (by omega)).alloc (.cells #[.int .i64 (z (2 * k)), .int .i64 (z (2 * k + 1))] 56))
        have hbd := H.out.bd (2 * k) (by omega)
        have HS : Hid (slotOk z k = decide (0 ≤ z (2 * k) ∧ z (2 * k) ≤ 1000 ∧ 0 ≤ z (2 * k + 1) ∧ z (2 * k + 1) ≤ 4294967295 ∧ (z (2 * k) = 0 → z (2 * k + 1) = 0) ∧ (z (2 * k) ≠ 0 → atT z (z (2 * k)).toNat = k))) := rfl
        generalize hy : z (2 * k) = y at *
        generalize hv : z (2 * k + 1) = v at *
        clear hy hv
        have HNO : Hid (slotOk z k = false → rightT z = false) := fun h => rightT_no hk8 h
        go_wp2_with (go_at_call 33; refine (at_int C z w.heap.size y _ H.out HBKr.out (by assumption) (by assumption)).mono ?_; rintro e w3 ⟨rfl, hb3⟩)
        all_goals first
          | (go_ret
             refine ⟨ret_bool (by
               rw [HNO.out (by rw [HS.out]; simp only [bne_iff_ne, ne_eq, decide_eq_false_iff_not] at *; omega)]), ?_⟩
             first
             | exact hB.trans ((hb.alloc (by omega) _).mono (by omega))
             | exact hB.trans (((hb.alloc (by omega) _).trans (hb3.mono (by simp; omega))).mono (by omega)))
          | (refine ⟨⟨k + 1, by omega, by go_num, ?_, Lib.hid fun j hj => ?_⟩, by simp [intOf]; omega⟩
             · first
               | exact hb.alloc (by omega) _
               | exact (hb.alloc (by omega) _).trans (hb3.mono (by simp; omega))
             · rcases Nat.lt_or_ge j k with h | h
               · exact hall.out j h
               · obtain rfl : j = k := by omega
                 rw [HS.out]
                 simp only [bne_eq_false_iff_eq, decide_eq_true_eq] at *
                 omega)
      · obtain rfl : k = 8 := by omega
        go_wp2
        go_ret
        exact ⟨ret_bool (by rw [rightT_end (by rw [HL.out]; exact hle) hall.out]), hB.trans (hb.mono (by omega))⟩
end Go.Proofs.Ytahobohfknnhhaa
