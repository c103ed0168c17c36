/-
  A load of a whole row at a step of a drawn region. No condition.
-/
import Derived.Test.YtkoflhjnpilchaaDoorMBase
namespace Go.Proofs.YtkoflhjnpilchaaDoor
set_option linter.unusedSimpArgs false
set_option linter.unusedVariables false
set_option linter.unusedSectionVars false
open Go.RowKit
theorem relyAt_load_rowB {P : Program} {o : Oper} {a : Act} {w : World} {T : Value → World → Prop} (ty : TypeId) (x : Operand) (ho : o.op = .load ty x) (g : Nat) (hx : a.eval x = .pointer (some ⟨g, 0, none⟩))
    (t : TypeId) (cs : Array Value) (d : TypeDesc) (hg : Blk w g t cs) (hu : P.underlying ty = some d) (hd : (match d with | .struct _ | .array _ _ => true | _ => false) = true) (hi : (P.info? ty).map (·.size) = some cs.size)
    (hT : T (.agg cs) w) : relyAt P o a w T := by
  refine relyAt_value (u := .agg cs) ?_ hT
  unfold execOp
  simp only [ho, hx, Instr.loadAt, Instr.sureAddr, Sem.run_bind, Sem.run_pure, Result.andThen_ok, run_loadVar_row w g t ty cs (0, 0) d hg hu hd hi]
end Go.Proofs.YtkoflhjnpilchaaDoor
