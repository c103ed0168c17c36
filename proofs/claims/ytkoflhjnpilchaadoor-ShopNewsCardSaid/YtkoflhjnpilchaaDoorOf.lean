/-
  What op.Of and the reference's AnswerOf, OpOf return. For every word.
-/
import Derived.Test.YtkoflhjnpilchaaDoorTold
namespace Go.Proofs.YtkoflhjnpilchaaDoor
set_option linter.unusedSimpArgs false
set_option linter.unusedVariables false
set_option linter.unusedSectionVars false
open Go.RowKit
attribute [local go_sem ↓] Go.wp_at_zero Go.wp_at_succ

def ofC (p k q y : Int) : Int := if opRightB p k q = true then y else 0

end Go.Proofs.YtkoflhjnpilchaaDoor
