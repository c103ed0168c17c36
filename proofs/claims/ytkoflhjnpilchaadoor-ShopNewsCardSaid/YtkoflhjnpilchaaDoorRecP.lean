/-
  Thirty-two words that are a record. No program in sight.
-/
import Derived.Test.YtkoflhjnpilchaaDoorMObjR
import Derived.Test.YtkoflhjnpilchaaDoorOf
namespace Go.Proofs.YtkoflhjnpilchaaDoor
set_option linter.unusedSimpArgs false
set_option linter.unusedVariables false
set_option linter.unusedSectionVars false

/-- A word is an answer's. -/
def wOk (x : Int) : Bool := fitsB (x / 4294967296) (x % 4294967296)
/-- The object's words. -/
def oz (z : Nat → Int) : Nat → Int := fun i => z (1 + i)
def kindR (z : Nat → Int) : Int := if z 0 ≤ 4294967296 then z 0 else 4294967296
def headOk (z : Nat → Int) : Prop := thingOk (kindR z) (oz z) ∧ z 26 < 16 ∧ z 28 ≤ 1099511627776 ∧ z 27 ≤ 1099511627776
/-- A thread's answer and deed. -/
def thrA (z : Nat → Int) (t : Nat) : Prop := (wOk (z (18 + t)) = true ∨ z (18 + t) = 0) ∧ z (22 + t) ≤ z 28 ∧ (z (18 + t) = 0 ↔ z (22 + t) = 0)
def thrOk (z : Nat → Int) (t : Nat) : Prop := thrA z t ∧ ∀ u, u < t → z (22 + t) ≠ 0 → z (22 + u) ≠ z (22 + t)
def recOk (z : Nat → Int) : Prop := headOk z ∧ (∀ t, t < 4 → thrOk z t) ∧ z 29 = 0 ∧ z 30 = 0 ∧ z 31 = 0
end Go.Proofs.YtkoflhjnpilchaaDoor
