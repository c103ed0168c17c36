/-
  What object.slots returns: for any seventeen words.
  What the two tests for a heap return: heap.Right for every slice; gristmillref.HeapRight for slices of at most 60 numbers.
  What object.Right returns: for any kind and any seventeen words.
  Seventeen words that are an object of a kind. No program in sight.
-/
import Derived.Test.YtkoflhjnpilchaaDoorProg
import Derived.Test.YtkoflhjnpilchaaDoorMBase
import Derived.Test.YtkoflhjnpilchaaDoorMSets
import Derived.Test.YtkoflhjnpilchaaDoorMThing
import Derived.Test.YtkoflhjnpilchaaDoorMTabA
import Derived.Test.YtkoflhjnpilchaaDoorTabD
import Derived.Test.YtkoflhjnpilchaaDoorMWord
namespace Go.Proofs.YtkoflhjnpilchaaDoor
set_option linter.unusedSimpArgs false
set_option linter.unusedVariables false
set_option linter.unusedSectionVars false
open Go.RowKit
set_option linter.unusedSimpArgs false
set_option linter.unusedVariables false
attribute [local go_sem ↓] Go.wp_at_zero Go.wp_at_succ

def pairOk (z : Nat → Int) (i : Nat) : Prop := z (2 * i) ≤ 1000 ∧ z (2 * i + 1) ≤ 4294967295
def slotsOk (z : Nat → Int) : Prop := (∀ i, i < 8 → pairOk z i) ∧ z 16 = 0 ∧ rightT z = true
def SlotsOut (z : Nat → Int) (w : World) (e : Ending) (w' : World) : Prop :=
  Below w.heap.size w w' ∧ ∃ D y b, e = .returned (.tuple #[.agg D, .bool b]) ∧ I64s D 16 y ∧ (b = true ↔ slotsOk z) ∧ (b = true → ∀ i, i < 16 → y i = z i)

theorem slotK_put (z : Nat → Int) (k i : Nat) : slotK (k + 1) z i = if i = k * 2 + 1 then z (2 * k + 1) else if i = k * 2 then z (2 * k) else slotK k z i := by
  unfold slotK
  by_cases h1 : i = k * 2 + 1
  · subst h1
    rw [if_pos (by omega), if_pos rfl, show k * 2 + 1 = 2 * k + 1 by omega]
  · rw [if_neg h1]
    by_cases h2 : i = k * 2
    · subst h2
      rw [if_pos (by omega), if_pos rfl, show k * 2 = 2 * k by omega]
    · rw [if_neg h2]
      by_cases h3 : i < 2 * k
      · rw [if_pos h3, if_pos (by omega)]
      · rw [if_neg h3, if_neg (by omega)]
end Go.Proofs.YtkoflhjnpilchaaDoor

namespace Go.Proofs.YtkoflhjnpilchaaDoor
set_option linter.unusedSimpArgs false
set_option linter.unusedVariables false
set_option linter.unusedSectionVars false
open Go.RowKit
attribute [local go_sem ↓] Go.wp_at_zero Go.wp_at_succ

def heapT (xs : List Int) (k : Nat) : Bool := decide (k = 0 ∨ xs[(k - 1) / 2]?.getD 0 ≤ xs[k]?.getD 0)
def heapR (xs : List Int) : Bool := (List.range xs.length).all (heapT xs) && decide (xs.length ≤ 6)
theorem heapR_no {xs : List Int} {k : Nat} (hk : k < xs.length) (h : heapT xs k = false) : heapR xs = false := by
  unfold heapR
  rw [Bool.and_eq_false_iff]
  left
  rw [List.all_eq_false]
  exact ⟨k, by simpa using hk, by simp [h]⟩
theorem heapR_end {xs : List Int} (h : ∀ i, i < xs.length → heapT xs i = true) : heapR xs = decide (xs.length ≤ 6) := by
  unfold heapR
  have : (List.range xs.length).all (heapT xs) = true := by rw [List.all_eq_true]; intro x hx; exact h x (by simpa using hx)
  rw [this, Bool.true_and]


theorem heapT_child {xs : List Int} {k j : Nat} (hj : j = 2 * k + 1 ∨ j = 2 * k + 2) : heapT xs j = decide (xs[k]?.getD 0 ≤ xs[j]?.getD 0) := by
  have e : (j - 1) / 2 = k := by omega
  have e0 : j ≠ 0 := by omega
  simp [heapT, e, e0]
theorem heapR_of_children {xs : List Int} (h : ∀ k, k < xs.length → ∀ j, (j = 2 * k + 1 ∨ j = 2 * k + 2) → j < xs.length → heapT xs j = true) : heapR xs = decide (xs.length ≤ 6) :=
  heapR_end fun i hi => by
    by_cases h0 : i = 0
    · simp [heapT, h0]
    · exact h ((i - 1) / 2) (by omega) i (by omega) hi

end Go.Proofs.YtkoflhjnpilchaaDoor

namespace Go.Proofs.YtkoflhjnpilchaaDoor
set_option linter.unusedSimpArgs false
set_option linter.unusedVariables false
set_option linter.unusedSectionVars false
open Go.RowKit
set_option linter.unusedSimpArgs false
set_option linter.unusedVariables false
attribute [local go_sem ↓] Go.wp_at_zero Go.wp_at_succ

/-- A tally's words. -/
def tallyOk (z : Nat → Int) : Prop := z 0 ≤ 4294967295 ∧ ∀ i, i < 17 → z i = if i = 0 then z 0 else 0
theorem sizeU1 (w : World) : (sizeOf 31).run Tryd.prog w = .ok 1 w := by kernel_rfl

end Go.Proofs.YtkoflhjnpilchaaDoor

namespace Go.Proofs.YtkoflhjnpilchaaDoor
set_option linter.unusedSimpArgs false
set_option linter.unusedVariables false
set_option linter.unusedSectionVars false

/-- Seventeen words that are an object of a kind. -/
def thingOk (kind : Int) (z : Nat → Int) : Prop :=
  if kind = 5 then slotsOk z else if kind = 6 then tallyOk z else if kind = 4 then listOk z ∧ heapR (upL z (z 0).toNat) = true else 1 ≤ kind ∧ kind ≤ 3 ∧ listOk z
def Wds (z : Nat → Int) : Prop := ∀ i, i < 17 → 0 ≤ z i ∧ z i < 18446744073709551616
def zL (z : Nat → Int) : List Int := upL z (z 0).toNat

end Go.Proofs.YtkoflhjnpilchaaDoor
