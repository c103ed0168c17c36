/-
  What gristmillref.Deque returns: for lists of at most 60 numbers.
-/
import Derived.Test.YtahobohfknnhhaaLists
namespace Go.Proofs.Ytahobohfknnhhaa
set_option linter.unusedSimpArgs false
set_option linter.unusedVariables false
set_option linter.unusedSectionVars false
open Go.RowKit
attribute [local go_sem ↓] Go.wp_at_zero Go.wp_at_succ

def rdqP (n : Nat) (a : Int) : Nat := if a = 4 then n - 1 else 0
def rdqY (xs : List Int) (a v : Int) : List Int := if 1 ≤ a ∧ a ≤ 6 then endsY xs a v (decide (a = 3)) (rdqP xs.length a) else xs
def rdqC (xs : List Int) (a : Int) : Int := if 1 ≤ a ∧ a ≤ 6 then endsC xs a else 5
def rdqV (xs : List Int) (a : Int) : Int := if 1 ≤ a ∧ a ≤ 6 then endsV xs a (rdqP xs.length a) else 0

end Go.Proofs.Ytahobohfknnhhaa
