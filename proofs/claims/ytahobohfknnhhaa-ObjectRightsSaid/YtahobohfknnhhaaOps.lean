/-
  What the tests of operations return: op.Right, gristmillref.OpRight, gristmillref.within. For every input.
-/
import Derived.Test.YtahobohfknnhhaaProg
import Derived.Test.YtahobohfknnhhaaKit
namespace Go.Proofs.Ytahobohfknnhhaa
set_option linter.unusedSimpArgs false
set_option linter.unusedVariables false
set_option linter.unusedSectionVars false
open Go.RowKit

def opRightB (a k v : Int) : Bool := decide (1 ≤ a ∧ a ≤ 6 ∧ 0 ≤ k ∧ k ≤ 1000 ∧ 0 ≤ v ∧ v ≤ 4294967295)
def withinB (n lo hi : Int) : Bool := decide (lo ≤ n ∧ n ≤ hi)

theorem within_any (n lo hi : Int) (w : World) : Calls Try.prog 9 #[.int .i64 n, .int .i64 lo, .int .i64 hi] w fun e w' => e = .returned (.bool (withinB n lo hi)) ∧ w = w' := by
  go_enter Try.func9, Try.ntmps9
  go_wp2
  all_goals (go_ret; refine ⟨ret_bool ?_, rfl⟩; simp [withinB]; try omega)

end Go.Proofs.Ytahobohfknnhhaa
