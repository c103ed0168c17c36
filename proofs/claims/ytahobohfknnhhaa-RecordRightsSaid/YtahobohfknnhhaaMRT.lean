/-
  What gristmillref.place returns. For every table.
  What gristmillref.Table returns. For every table that is one.
  What gristmillref.Table returns. For every table that is one.
-/
import Derived.Test.YtahobohfknnhhaaMThing
import Derived.Test.YtahobohfknnhhaaTabD
import Derived.Test.YtahobohfknnhhaaEnds
namespace Go.Proofs.Ytahobohfknnhhaa
set_option linter.unusedSimpArgs false
set_option linter.unusedVariables false
set_option linter.unusedSectionVars false
open Go.RowKit
set_option linter.unusedSimpArgs false
set_option linter.unusedVariables false
attribute [local go_sem ↓] Go.wp_at_zero Go.wp_at_succ

end Go.Proofs.Ytahobohfknnhhaa

namespace Go.Proofs.Ytahobohfknnhhaa
set_option linter.unusedSimpArgs false
set_option linter.unusedVariables false
set_option linter.unusedSectionVars false
open Go.RowKit
set_option linter.unusedSimpArgs false
set_option linter.unusedVariables false
attribute [local go_sem ↓] Go.wp_at_zero Go.wp_at_succ

theorem infoRS : (Try.prog.info? 29).map (·.size) = some 16 := by kernel_rfl

end Go.Proofs.Ytahobohfknnhhaa

namespace Go.Proofs.Ytahobohfknnhhaa
set_option linter.unusedSimpArgs false
set_option linter.unusedVariables false
set_option linter.unusedSectionVars false
open Go.RowKit
set_option linter.unusedSimpArgs false
set_option linter.unusedVariables false
attribute [local go_sem ↓] Go.wp_at_zero Go.wp_at_succ

def behL (i n : Nat) : List Int := (List.range n).map fun x => ((kk i x : Nat) : Int)
theorem behL_succ (i n : Nat) : behL i (n + 1) = behL i n ++ [((kk i n : Nat) : Int)] := by
  unfold behL
  rw [List.range_succ, List.map_append]
  rfl
theorem behL_get (i n j : Nat) (hj : j < n) : (behL i n)[j]?.getD 0 = kk i j := by
  unfold behL
  rw [List.getElem?_map, List.getElem?_range hj]
  rfl
theorem behL_bd (i n : Nat) : IBd (behL i n) := fun j => by
  rcases Nat.lt_or_ge j n with h | h
  · rw [behL_get i n j h]
    have := kk_lt i j
    omega
  · rw [List.getElem?_eq_none (by simp [behL]; omega)]
    decide

end Go.Proofs.Ytahobohfknnhhaa
