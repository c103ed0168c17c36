/-
  What the tests of operations return: op.Right, gristmillref.OpRight, gristmillref.within. For every input.
-/
import Derived.Test.YtfpfhiogfjlpaaaProg
import Derived.Test.YtfpfhiogfjlpaaaKit
namespace Go.Proofs.Ytfpfhiogfjlpaaa
open Go.RowKit

def opRightB (a k v : Int) : Bool := decide (1 ≤ a ∧ a ≤ 6 ∧ 0 ≤ k ∧ k ≤ 1000 ∧ 0 ≤ v ∧ v ≤ 4294967295)
def withinB (n lo hi : Int) : Bool := decide (lo ≤ n ∧ n ≤ hi)

theorem within_any (n lo hi : Int) (w : World) : Calls Try.prog 53 #[.int .i64 n, .int .i64 lo, .int .i64 hi] w fun e w' => e = .returned (.bool (withinB n lo hi)) ∧ w = w' := by
  go_enter Try.func53, Try.ntmps53
  go_wp2
  all_goals (go_ret; refine ⟨ret_bool ?_, rfl⟩; simp [withinB]; try omega)

theorem opRight_any (a k v : Int) (w : World) : Calls Try.prog 17 #[.agg #[.int .i64 a, .int .i64 k, .int .i64 v]] w fun e w' => e = .returned (.bool (opRightB a k v)) ∧ Below w.heap.size w w' := by
  go_enter Try.func17, Try.ntmps17
  go_wp2
  all_goals (go_ret; refine ⟨ret_bool ?_, by go_grown⟩; simp [opRightB]; try omega)

theorem refOpRight_any (a k v : Int) (w : World) : Calls Try.prog 18 #[.agg #[.int .i64 a, .int .i64 k, .int .i64 v]] w fun e w' => e = .returned (.bool (opRightB a k v)) ∧ Below w.heap.size w w' := by
  go_enter Try.func18, Try.ntmps18
  go_wp2_with (go_at_call 53; refine (within_any _ _ _ _).mono ?_; rintro e w' ⟨rfl, rfl⟩)
  all_goals (go_ret; refine ⟨ret_bool ?_, by go_grown⟩; simp_all [opRightB, withinB]; try omega)

end Go.Proofs.Ytfpfhiogfjlpaaa
