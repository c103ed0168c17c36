/-
  What gristmillref.ends returns: for lists of at most 60 numbers, out a place of the list.
-/
import Derived.Test.YtahobohfknnhhaaMBase
import Derived.Test.YtahobohfknnhhaaMWord
namespace Go.Proofs.Ytahobohfknnhhaa
set_option linter.unusedSimpArgs false
set_option linter.unusedVariables false
set_option linter.unusedSectionVars false
open Go.RowKit
attribute [local go_sem ↓] Go.wp_at_zero Go.wp_at_succ

def endsY (xs : List Int) (a v : Int) (fr : Bool) (k : Nat) : List Int := if a = 6 then xs else if a = 1 ∨ a = 3 then (if xs.length < 6 then (if fr then v :: xs else xs ++ [v]) else xs) else if a = 5 ∨ xs.length = 0 then xs else xs.take k ++ xs.drop (k + 1)
def endsC (xs : List Int) (a : Int) : Int := if a = 6 then 1 else if a = 1 ∨ a = 3 then (if xs.length < 6 then 1 else 3) else if xs.length = 0 then 2 else 1
def endsV (xs : List Int) (a : Int) (k : Nat) : Int := if a = 6 then xs.length else if a = 1 ∨ a = 3 then 0 else if xs.length = 0 then 0 else xs[k]?.getD 0

end Go.Proofs.Ytahobohfknnhhaa
