/-
  What tally.Do and gristmillref.Tally return, where the tally and the value lie between 0 and 4294967295.
-/
import Derived.Test.YtkoflhjnpilchaaGreatDoorMBase
namespace Go.Proofs.YtkoflhjnpilchaaGreatDoor
set_option linter.unusedSimpArgs false
set_option linter.unusedVariables false
set_option linter.unusedSectionVars false
open Go.RowKit
attribute [local go_sem ↓] Go.wp_at_zero Go.wp_at_succ

def tallyN (n a v : Int) : Int := if a = 1 then (if n + v ≤ 4294967295 then n + v else n) else if a = 2 then (if v ≤ n then n - v else n) else n
def tallyC (n a v : Int) : Int := if a = 1 then (if n + v ≤ 4294967295 then 1 else 3) else if a = 2 then (if v ≤ n then 1 else 2) else if a = 5 ∨ a = 6 then 1 else 5
def tallyV (n a v : Int) : Int := if a = 1 then (if n + v ≤ 4294967295 then n else 0) else if a = 2 then (if v ≤ n then n else 0) else if a = 5 ∨ a = 6 then n else 0
def tallyR (n a v : Int) : Ending := .returned (.tuple #[.int .i64 (tallyN n a v), .agg #[.int .i64 (tallyC n a v), .int .i64 (tallyV n a v)]])
theorem tally_any (n a k v : Int) (w : World) (h0 : 0 ≤ n) (h1 : n ≤ 4294967295) (h2 : 0 ≤ v) (h3 : v ≤ 4294967295) :
    Calls Tryz.prog 63 #[.int .i64 n, .agg #[.int .i64 a, .int .i64 k, .int .i64 v]] w fun e w' => e = tallyR n a v ∧ Below w.heap.size w w' := by
  go_enter Tryz.func63, Tryz.ntmps63
  go_wp2
  all_goals (go_returns; refine ⟨?_, by go_grown⟩; simp only [beq_iff_eq, beq_eq_false_iff_ne, ne_eq] at *; simp only [tallyR, tallyN, tallyC, tallyV])
  all_goals ((repeat' split) <;> first | rfl | (exfalso; omega))
theorem refTally_any (n a k v : Int) (w : World) (h0 : 0 ≤ n) (h1 : n ≤ 4294967295) (h2 : 0 ≤ v) (h3 : v ≤ 4294967295) :
    Calls Tryz.prog 49 #[.int .i64 n, .agg #[.int .i64 a, .int .i64 k, .int .i64 v]] w fun e w' => e = tallyR n a v ∧ Below w.heap.size w w' := by
  go_enter Tryz.func49, Tryz.ntmps49
  go_wp2
  all_goals try (go_region_held3 (fun w' => w'.cell? ⟨w.heap.size, 2, none⟩ = some (.int .i64 v)) (go_keep)
    (first | (go_at_call 71; refine (said_any _ _ _).mono ?_; rintro e w2 ⟨rfl, rfl⟩)); go_wp2)
  all_goals (go_returns; refine ⟨?_, by go_grown⟩; simp only [beq_iff_eq, beq_eq_false_iff_ne, ne_eq] at *; simp only [tallyR, tallyN, tallyC, tallyV])
  all_goals ((repeat' split) <;> first | rfl | (exfalso; omega) | (rw [IntWalk.i64_in _ (by omega)]))

end Go.Proofs.YtkoflhjnpilchaaGreatDoor
