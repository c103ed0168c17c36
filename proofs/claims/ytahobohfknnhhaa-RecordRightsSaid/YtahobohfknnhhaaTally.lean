/-
  What tally.Do and gristmillref.Tally return, where the tally and the value lie between 0 and 4294967295.
-/
import Derived.Test.YtahobohfknnhhaaMBase
namespace Go.Proofs.Ytahobohfknnhhaa
set_option linter.unusedSimpArgs false
set_option linter.unusedVariables false
set_option linter.unusedSectionVars false
open Go.RowKit
attribute [local go_sem ↓] Go.wp_at_zero Go.wp_at_succ

def tallyN (n a v : Int) : Int := if a = 1 then (if n + v ≤ 4294967295 then n + v else n) else if a = 2 then (if v ≤ n then n - v else n) else n
def tallyC (n a v : Int) : Int := if a = 1 then (if n + v ≤ 4294967295 then 1 else 3) else if a = 2 then (if v ≤ n then 1 else 2) else if a = 5 ∨ a = 6 then 1 else 5
def tallyV (n a v : Int) : Int := if a = 1 then (if n + v ≤ 4294967295 then n else 0) else if a = 2 then (if v ≤ n then n else 0) else if a = 5 ∨ a = 6 then n else 0
def tallyR (n a v : Int) : Ending := .returned (.tuple #[.int .i64 (tallyN n a v), .agg #[.int .i64 (tallyC n a v), .int .i64 (tallyV n a v)]])
end Go.Proofs.Ytahobohfknnhhaa
