/-
  What queue.Do returns: for lists of at most 60 numbers.
-/
import Derived.Test.YtahobohfknnhhaaMWord
namespace Go.Proofs.Ytahobohfknnhhaa
set_option linter.unusedSimpArgs false
set_option linter.unusedVariables false
set_option linter.unusedSectionVars false
open Go.RowKit
attribute [local go_sem ↓] Go.wp_at_zero Go.wp_at_succ

def queueY (xs : List Int) (a v : Int) : List Int := if a = 1 then (if xs.length < 6 then xs ++ [v] else xs) else if a = 2 then xs.tail else xs
def queueC (xs : List Int) (a : Int) : Int := if a = 1 then (if xs.length < 6 then 1 else 3) else if a = 2 ∨ a = 5 then (if xs.length = 0 then 2 else 1) else if a = 6 then 1 else 5
def queueV (xs : List Int) (a : Int) : Int := if a = 2 ∨ a = 5 then xs[0]?.getD 0 else if a = 6 then xs.length else 0

end Go.Proofs.Ytahobohfknnhhaa
