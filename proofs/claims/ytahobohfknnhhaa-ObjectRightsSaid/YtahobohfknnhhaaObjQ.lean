/-
  Seventeen words that are an object of a kind. No program in sight.
-/
import Derived.Test.YtahobohfknnhhaaObjR
namespace Go.Proofs.Ytahobohfknnhhaa
set_option linter.unusedSimpArgs false
set_option linter.unusedVariables false
set_option linter.unusedSectionVars false

/-- Seventeen words that are an object of a kind. -/
def thingOk (kind : Int) (z : Nat → Int) : Prop :=
  if kind = 5 then slotsOk z else if kind = 6 then tallyOk z else if kind = 4 then listOk z ∧ heapR (upL z (z 0).toNat) = true else 1 ≤ kind ∧ kind ≤ 3 ∧ listOk z
def Wds (z : Nat → Int) : Prop := ∀ i, i < 17 → 0 ≤ z i ∧ z i < 18446744073709551616
def zL (z : Nat → Int) : List Int := upL z (z 0).toNat

end Go.Proofs.Ytahobohfknnhhaa
