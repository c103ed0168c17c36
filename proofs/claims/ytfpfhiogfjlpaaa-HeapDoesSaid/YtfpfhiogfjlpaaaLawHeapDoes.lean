/-
  For any heap and operation the result of Do is that of the reference. No condition.
-/
import Derived.Test.YtfpfhiogfjlpaaaRows
import Derived.Test.YtfpfhiogfjlpaaaFrame
import Derived.Test.YtfpfhiogfjlpaaaOpen
import Derived.Test.YtfpfhiogfjlpaaaRHeapA
import Derived.Test.YtfpfhiogfjlpaaaHeapR
namespace Go.Proofs.Ytfpfhiogfjlpaaa.lawHeapDoes
open Go.RowKit Go.ChangeShapes Go.WideShapes Go.ChangeAt Go.Joins

attribute [local go_sem ↓] Go.wp_at_zero Go.wp_at_succ
set_option linter.unusedSimpArgs false
set_option linter.unusedVariables false

theorem walk (A : Option Addr) (n c : Nat) (xs : List Int) (a k v : Int) (w : World) (h : SlI w A n c xs) (hv : -9223372036854775808 ≤ v ∧ v ≤ 9223372036854775807) :
    Calls Try.prog 12 #[.slice A n c, .agg #[.int .i64 a, .int .i64 k, .int .i64 v]] w fun e w' => e = .returned (.bool true) ∧ Below w.heap.size w w' := by
  have H := Lib.hid h
  clear h
  by_cases hn : n ≤ 60
  · have hd : decide (60 < (n : Int)) = false := by simp; omega
    obtain ⟨hr, hhr⟩ : ∃ b, heapR xs = b := ⟨_, rfl⟩
    have HHR := Lib.hid hhr
    clear hhr
    go_enter Try.func12, Try.ntmps12
    go_wp2_with (go_at_call 24; refine (refHeapRight_any A n c xs _ (H.out.below (by go_grown)) hn).mono ?_; rintro e w0 ⟨rfl, hb0⟩; rw [HHR.out]; obtain ⟨hc0, hf0⟩ := bcell hb0; have hz0 := hb0.size; simp only [World.size_alloc] at hz0; have q0 : w.heap.size < w0.heap.size := (by omega); have hB0 : Below w.heap.size w w0 := Below.trans (by go_grown) (hb0.mono (by simp)))
    · go_ret
      exact ⟨rfl, hB0⟩
    · go_wp2_with fail
      have HS0 := Lib.hid (H.out.below hB0)
      refine (refHeap_any A n c xs a k v _ HS0.out hn hv).mono ?_
      rintro e w1 ⟨A1, n1, c1, rfl, hs1, hb1⟩
      have HS1 := Lib.hid hs1.sli
      clear hs1
      obtain ⟨hc, hf⟩ := bcell hb1
      have hz : w.heap.size < w1.heap.size := by have := hb1.size; omega
      have hB : Below w.heap.size w w1 := hB0.trans (hb1.mono hB0.size)
      have hB' : Below w.heap.size w (w1.alloc (.cells #[.int .i64 (heapC xs a), .int .i64 (heapV xs a)] 41)) := by go_grown
      go_wp2_with fail
      refine (heap_any A n c xs a k v _ (H.out.below hB') hn hv).mono ?_
      rintro e w2 ⟨A2, n2, c2, rfl, hs2, hb2⟩
      have HS2 := Lib.hid hs2.sli
      clear hs2
      obtain ⟨hc2, hf2⟩ := bcell hb2
      have hz2 : w1.heap.size < w2.heap.size := by have := hb2.size; simp at this; omega
      have hB2 : Below w1.heap.size w1 w2 := Below.trans (by go_grown) (hb2.mono (by simp))
      have HS3 := Lib.hid (HS1.out.below hB2)
      have hB3 := hB.trans (hB2.mono hB.size)
      go_wp2_with (go_at_call 33; refine (sameInts_any A1 A2 n1 c1 n2 c2 (heapY xs a v) (heapY xs a v) _ (HS3.out.below (by go_grown)) (HS2.out.below (by go_grown))).mono ?_; rintro e w3 ⟨rfl, hb3⟩; obtain ⟨hc3, hf3⟩ := bcell hb3)
      go_ret
      exact ⟨rfl, by have h3 := hb3.size; simp at h3; exact hB3.trans (Below.trans (by go_grown) (hb3.mono (by simp; omega)))⟩
  · have hd : decide (60 < (n : Int)) = true := by simp; omega
    go_enter Try.func12, Try.ntmps12
    go_wp2
    go_ret
    exact ⟨rfl, by go_grown⟩

theorem own : ownKnob Try.prog.godebug = none := by kernel_rfl
theorem cellsInt : Try.prog.cellsOf 3 = 1 := by kernel_rfl

set_option maxRecDepth 100000 in
theorem lifted (os : Os) (started : os.Started) (H : Type) (enc : TypeId × Value → H) :
    ReturnsInHanded {} Try.checked os 12 .any (Rows.heapDoesSpec.pre6 enc Try.prog Try.f12 Rows.heapDoesRow.domain false) (Rows.heapDoesSpec.post enc Try.prog Try.f12 false true false false) := by
  refine law_lifted (C := Try.checked) own started (by kernel_rfl) Try.func12
    (ChangeSpec.witness6 (enc := enc) (C := Try.checked) false ⟨#[], #[.slice none 0 0, .agg #[.int .i64 0, .int .i64 0, .int .i64 0]], []⟩ 8 (by kernel_rfl) (by kernel_rfl) (by kernel_rfl) (by kernel_rfl))
    (by kernel_rfl) (by kernel_rfl) rfl rfl Try.underlying4 ?_
  intro W base args ds ps hval0 hA0 hsz0
  have hval : ∀ (j : Nat) t v, Try.f12.params[j]? = some t → args[j]? = some v → Value.okWide Try.prog W .any base t v := hval0
  have hA : DataW.TrodAll enc Try.prog W 0 (fun _ => true) true Try.f12.params.toList args.toList ds ps := hA0
  rw [Try.params12] at hA hval
  obtain ⟨v0, v1, d0, d1, p0, p1, rfl, rfl, rfl, h0, h1⟩ := trodAll_two hA
  obtain ⟨lA, ln, lc, l, rfl, lh⟩ := open_slI Try.underlying28 Try.underlying3 cellsInt (hval 0 28 v0 rfl rfl) h0
  obtain ⟨o, rfl, wo⟩ := open_flat 4 (K := [.i64, .i64, .i64]) (by kernel_rfl) (by kernel_rfl) (by kernel_rfl) (hval 1 23 v1 rfl rfl) h1
  exact ⟨rfl, walk lA ln lc l (o 0) (o 1) (o 2) W lh (bounds_i64 (wo 2 (by decide)))⟩

theorem holds : Rows.HeapDoesSaid :=
  OpenClaim.holds_of_wide 12 Try.f12 rfl rfl rfl rfl rfl rfl rfl ⟨rfl, rfl, rfl, rfl, rfl⟩ rfl rfl rfl rfl rfl (by kernel_rfl) Try.func12 (by kernel_rfl)
    (of_decide_eq_true (by kernel_rfl)) (by unfold Func.isWrapper; first | (rw [if_pos (by decide +kernel)]; kernel_rfl) | (rw [if_neg (by decide +kernel)]; exact ⟨rfl, rfl⟩))
    (fun os started H enc _ => lifted os started H enc)
#print axioms holds
end Go.Proofs.Ytfpfhiogfjlpaaa.lawHeapDoes
