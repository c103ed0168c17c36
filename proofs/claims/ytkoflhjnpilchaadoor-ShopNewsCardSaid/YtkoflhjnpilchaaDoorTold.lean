/-
  What op.Told, op.Of and the reference's AnswerOf, OpOf return. For every word.
-/
import Derived.Test.YtkoflhjnpilchaaDoorGet
namespace Go.Proofs.YtkoflhjnpilchaaDoor
set_option linter.unusedSimpArgs false
set_option linter.unusedVariables false
set_option linter.unusedSectionVars false
open Go.RowKit
attribute [local go_sem ↓] Go.wp_at_zero Go.wp_at_succ

def toldC (p q : Int) : Int := if fitsB p q = true then p else 0
def toldV (p q : Int) : Int := if fitsB p q = true then q else 0

end Go.Proofs.YtkoflhjnpilchaaDoor
