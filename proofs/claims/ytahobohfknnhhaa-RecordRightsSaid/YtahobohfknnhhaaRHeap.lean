/-
  What gristmillref.Heap returns: for lists of at most 60 numbers.
-/
import Derived.Test.YtahobohfknnhhaaMHeap
import Derived.Test.YtahobohfknnhhaaEnds
import Derived.Test.YtahobohfknnhhaaMBase
namespace Go.Proofs.Ytahobohfknnhhaa
set_option linter.unusedSimpArgs false
set_option linter.unusedVariables false
set_option linter.unusedSectionVars false
open Go.RowKit
attribute [local go_sem ↓] Go.wp_at_zero Go.wp_at_succ

end Go.Proofs.Ytahobohfknnhhaa
