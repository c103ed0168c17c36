/-
  For any deque and operation the result of Do is that of the reference. No condition.
-/
import Derived.Test.YtfpfhiogfjlpaaaRows
import Derived.Test.YtfpfhiogfjlpaaaFrame
import Derived.Test.YtfpfhiogfjlpaaaOpen
import Derived.Test.YtfpfhiogfjlpaaaDequeD
import Derived.Test.YtfpfhiogfjlpaaaRDeque
namespace Go.Proofs.Ytfpfhiogfjlpaaa.lawDequeDoes
open Go.RowKit Go.ChangeShapes Go.WideShapes Go.ChangeAt Go.Joins

attribute [local go_sem ↓] Go.wp_at_zero Go.wp_at_succ

theorem deque_eq (xs : List Int) (a v : Int) : rdqY xs a v = dqY xs a v ∧ rdqC xs a = dqC xs a ∧ rdqV xs a = dqV xs a := by
  have h3 : decide (a = 3) = true ↔ a = 3 := by simp
  refine ⟨?_, ?_, ?_⟩
  · simp only [rdqY, rdqP, endsY, dqY, h3]
    (repeat' split) <;> first | rfl | (exfalso; omega) | (simp_all; done) | skip
    all_goals (have : xs = [] := List.eq_nil_of_length_eq_zero (by omega); subst this; simp)
  · simp only [rdqC, endsC, dqC]
    (repeat' split) <;> first | rfl | (exfalso; omega) | (simp_all; done) | skip
  · simp only [rdqV, rdqP, endsV, dqV]
    (repeat' split) <;> first | rfl | (exfalso; omega) | (simp_all; done) | skip

theorem walk (A : Option Addr) (n c : Nat) (xs : List Int) (a k v : Int) (w : World) (h : SlI w A n c xs) (hv : -9223372036854775808 ≤ v ∧ v ≤ 9223372036854775807) :
    Calls Try.prog 16 #[.slice A n c, .agg #[.int .i64 a, .int .i64 k, .int .i64 v]] w fun e w' => e = .returned (.bool true) ∧ Below w.heap.size w w' := by
  have hl := h.len
  have H := Lib.hid h
  clear h
  by_cases hn : n ≤ 60
  · obtain ⟨e1, e2, e3⟩ := deque_eq xs a v
    have hd : decide (60 < (n : Int)) = false := by simp; omega
    have E1 := Lib.hid e1
    have E2 := Lib.hid e2
    have E3 := Lib.hid e3
    clear e1 e2 e3 hl
    go_enter Try.func16, Try.ntmps16
    go_wp2_with fail
    refine (refDeque_any A n c xs a k v _ (H.out.below (by go_grown)) hn hv).mono ?_
    rintro e w1 ⟨A1, n1, c1, rfl, hs1, hb1⟩
    rw [E1.out] at hs1
    rw [E2.out, E3.out]
    have HS1 := Lib.hid hs1
    clear hs1
    obtain ⟨hc, hf⟩ := bcell hb1
    have hz : w.heap.size < w1.heap.size := by have := hb1.size; simp at this; omega
    have hB : Below w.heap.size w w1 := Below.trans (by go_grown) (hb1.mono (by simp))
    go_wp2_with fail
    refine (deque_any A n c xs a k v _ (H.out.below (by go_grown)) hn hv).mono ?_
    rintro e w2 ⟨A2, n2, c2, rfl, hs2, hb2⟩
    have HS2 := Lib.hid hs2.sli
    clear hs2
    obtain ⟨hc2, hf2⟩ := bcell hb2
    have hz2 : w1.heap.size < w2.heap.size := by have := hb2.size; simp at this; omega
    have hB2 : Below w1.heap.size w1 w2 := Below.trans (by go_grown) (hb2.mono (by simp))
    have HS3 := Lib.hid (HS1.out.below hB2)
    have hB3 := hB.trans (hB2.mono hB.size)
    go_wp2_with (go_at_call 33; refine (sameInts_any A1 A2 n1 c1 n2 c2 (dqY xs a v) (dqY xs a v) _ (HS3.out.below (by go_grown)) (HS2.out.below (by go_grown))).mono ?_; rintro e w3 ⟨rfl, hb3⟩; obtain ⟨hc3, hf3⟩ := bcell hb3)
    go_ret
    exact ⟨rfl, by have h3 := hb3.size; simp at h3; exact hB3.trans (Below.trans (by go_grown) (hb3.mono (by simp; omega)))⟩
  · have hd : decide (60 < (n : Int)) = true := by simp; omega
    go_enter Try.func16, Try.ntmps16
    go_wp2
    go_ret
    exact ⟨rfl, by go_grown⟩

theorem own : ownKnob Try.prog.godebug = none := by kernel_rfl
theorem cellsInt : Try.prog.cellsOf 3 = 1 := by kernel_rfl

set_option maxRecDepth 100000 in
theorem lifted (os : Os) (started : os.Started) (H : Type) (enc : TypeId × Value → H) :
    ReturnsInHanded {} Try.checked os 16 .any (Rows.dequeDoesSpec.pre6 enc Try.prog Try.f16 Rows.dequeDoesRow.domain false) (Rows.dequeDoesSpec.post enc Try.prog Try.f16 false true false false) := by
  refine law_lifted (C := Try.checked) own started (by kernel_rfl) Try.func16
    (ChangeSpec.witness6 (enc := enc) (C := Try.checked) false ⟨#[], #[.slice none 0 0, .agg #[.int .i64 0, .int .i64 0, .int .i64 0]], []⟩ 8 (by kernel_rfl) (by kernel_rfl) (by kernel_rfl) (by kernel_rfl))
    (by kernel_rfl) (by kernel_rfl) rfl rfl Try.underlying4 ?_
  intro W base args ds ps hval0 hA0 hsz0
  have hval : ∀ (j : Nat) t v, Try.f16.params[j]? = some t → args[j]? = some v → Value.okWide Try.prog W .any base t v := hval0
  have hA : DataW.TrodAll enc Try.prog W 0 (fun _ => true) true Try.f16.params.toList args.toList ds ps := hA0
  rw [Try.params16] at hA hval
  obtain ⟨v0, v1, d0, d1, p0, p1, rfl, rfl, rfl, h0, h1⟩ := trodAll_two hA
  obtain ⟨lA, ln, lc, l, rfl, lh⟩ := open_slI Try.underlying28 Try.underlying3 cellsInt (hval 0 28 v0 rfl rfl) h0
  obtain ⟨o, rfl, wo⟩ := open_flat 4 (K := [.i64, .i64, .i64]) (by kernel_rfl) (by kernel_rfl) (by kernel_rfl) (hval 1 23 v1 rfl rfl) h1
  exact ⟨rfl, walk lA ln lc l (o 0) (o 1) (o 2) W lh (bounds_i64 (wo 2 (by decide)))⟩

theorem holds : Rows.DequeDoesSaid :=
  OpenClaim.holds_of_wide 16 Try.f16 rfl rfl rfl rfl rfl rfl rfl ⟨rfl, rfl, rfl, rfl, rfl⟩ rfl rfl rfl rfl rfl (by kernel_rfl) Try.func16 (by kernel_rfl)
    (of_decide_eq_true (by kernel_rfl)) (by unfold Func.isWrapper; first | (rw [if_pos (by decide +kernel)]; kernel_rfl) | (rw [if_neg (by decide +kernel)]; exact ⟨rfl, rfl⟩))
    (fun os started H enc _ => lifted os started H enc)
#print axioms holds
end Go.Proofs.Ytfpfhiogfjlpaaa.lawDequeDoes
