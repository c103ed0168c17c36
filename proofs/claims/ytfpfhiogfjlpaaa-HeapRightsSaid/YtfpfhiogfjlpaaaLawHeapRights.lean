/-
  Right returns what the reference returns for any list. No condition.
-/
import Derived.Test.YtfpfhiogfjlpaaaRows
import Derived.Test.YtfpfhiogfjlpaaaFrame
import Derived.Test.YtfpfhiogfjlpaaaOpen
import Derived.Test.YtfpfhiogfjlpaaaHeapR
namespace Go.Proofs.Ytfpfhiogfjlpaaa.lawHeapRights
open Go.RowKit Go.ChangeShapes Go.WideShapes Go.ChangeAt Go.Joins

attribute [local go_sem ↓] Go.wp_at_zero Go.wp_at_succ

theorem walk (A : Option Addr) (n c : Nat) (xs : List Int) (w : World) (h : SlI w A n c xs) :
    Calls Try.prog 5 #[.slice A n c] w fun e w' => e = .returned (.bool true) ∧ Below w.heap.size w w' := by
  by_cases hn : n ≤ 60
  · have hd : decide (60 < (n : Int)) = false := by simp; omega
    go_enter Try.func5, Try.ntmps5
    go_wp2_with fail
    refine (heapRight_any _ _ _ _ _ h).mono ?_
    rintro e w1 ⟨rfl, hb⟩
    go_wp2_with fail
    refine (refHeapRight_any _ _ _ _ _ (h.below hb) hn).mono ?_
    rintro e w2 ⟨rfl, hb2⟩
    have hB := hb.trans (hb2.mono hb.size)
    go_wp2
    go_ret
    exact ⟨rfl, hB⟩
  · have hd : decide (60 < (n : Int)) = true := by simp; omega
    go_enter Try.func5, Try.ntmps5
    go_wp2
    go_ret
    exact ⟨rfl, Below.refl _ _⟩

theorem own : ownKnob Try.prog.godebug = none := by kernel_rfl
theorem cellsInt : Try.prog.cellsOf 3 = 1 := by kernel_rfl

set_option maxRecDepth 100000 in
theorem lifted (os : Os) (started : os.Started) (H : Type) (enc : TypeId × Value → H) :
    ReturnsInHanded {} Try.checked os 5 .any (Rows.heapRightsSpec.pre6 enc Try.prog Try.f5 Rows.heapRightsRow.domain false) (Rows.heapRightsSpec.post enc Try.prog Try.f5 false true false false) := by
  refine law_lifted (C := Try.checked) own started (by kernel_rfl) Try.func5
    (ChangeSpec.witness6 (enc := enc) (C := Try.checked) false ⟨#[], #[.slice none 0 0], []⟩ 8 (by kernel_rfl) (by kernel_rfl) (by kernel_rfl) (by kernel_rfl))
    (by kernel_rfl) (by kernel_rfl) rfl rfl Try.underlying4 ?_
  intro W base args ds ps hval0 hA0 hsz0
  have hval : ∀ (j : Nat) t v, Try.f5.params[j]? = some t → args[j]? = some v → Value.okWide Try.prog W .any base t v := hval0
  have hA : DataW.TrodAll enc Try.prog W 0 (fun _ => true) true Try.f5.params.toList args.toList ds ps := hA0
  rw [Try.params5] at hA hval
  obtain ⟨v0, d0, rfl, rfl, h0⟩ := trodAll_one hA
  obtain ⟨lA, ln, lc, l, rfl, lh⟩ := open_slI Try.underlying28 Try.underlying3 cellsInt (hval 0 28 v0 rfl rfl) h0
  exact ⟨rfl, walk lA ln lc l W lh⟩

theorem holds : Rows.HeapRightsSaid :=
  OpenClaim.holds_of_wide 5 Try.f5 rfl rfl rfl rfl rfl rfl rfl ⟨rfl, rfl, rfl, rfl, rfl⟩ rfl rfl rfl rfl rfl (by kernel_rfl) Try.func5 (by kernel_rfl)
    (of_decide_eq_true (by kernel_rfl)) (by unfold Func.isWrapper; first | (rw [if_pos (by decide +kernel)]; kernel_rfl) | (rw [if_neg (by decide +kernel)]; exact ⟨rfl, rfl⟩))
    (fun os started H enc _ => lifted os started H enc)
#print axioms holds
end Go.Proofs.Ytfpfhiogfjlpaaa.lawHeapRights
