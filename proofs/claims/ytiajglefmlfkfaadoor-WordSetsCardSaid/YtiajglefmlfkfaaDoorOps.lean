/-
  What the tests of operations return: op.Right, gristmillref.OpRight, gristmillref.within. For every input.
-/
import Derived.Test.YtiajglefmlfkfaaDoorProg
import Derived.Test.YtiajglefmlfkfaaDoorKit
namespace Go.Proofs.YtiajglefmlfkfaaDoor
open Go.RowKit

def opRightB (a k v : Int) : Bool := decide (1 ≤ a ∧ a ≤ 6 ∧ 0 ≤ k ∧ k ≤ 1000 ∧ 0 ≤ v ∧ v ≤ 4294967295)
def withinB (n lo hi : Int) : Bool := decide (lo ≤ n ∧ n ≤ hi)

theorem within_any (n lo hi : Int) (w : World) : Calls Tryd.prog 73 #[.int .i64 n, .int .i64 lo, .int .i64 hi] w fun e w' => e = .returned (.bool (withinB n lo hi)) ∧ w = w' := by
  go_enter Tryd.func73, Tryd.ntmps73
  go_wp2
  all_goals (go_ret; refine ⟨ret_bool ?_, rfl⟩; simp [withinB]; try omega)

theorem opRight_any (a k v : Int) (w : World) : Calls Tryd.prog 71 #[.agg #[.int .i64 a, .int .i64 k, .int .i64 v]] w fun e w' => e = .returned (.bool (opRightB a k v)) ∧ Below w.heap.size w w' := by
  go_enter Tryd.func71, Tryd.ntmps71
  go_wp2
  all_goals (go_ret; refine ⟨ret_bool ?_, by go_grown⟩; simp [opRightB]; try omega)

theorem refOpRight_any (a k v : Int) (w : World) : Calls Tryd.prog 59 #[.agg #[.int .i64 a, .int .i64 k, .int .i64 v]] w fun e w' => e = .returned (.bool (opRightB a k v)) ∧ Below w.heap.size w w' := by
  go_enter Tryd.func59, Tryd.ntmps59
  go_wp2_with (go_at_call 73; refine (within_any _ _ _ _).mono ?_; rintro e w' ⟨rfl, rfl⟩)
  all_goals (go_ret; refine ⟨ret_bool ?_, by go_grown⟩; simp_all [opRightB, withinB]; try omega)

end Go.Proofs.YtiajglefmlfkfaaDoor
