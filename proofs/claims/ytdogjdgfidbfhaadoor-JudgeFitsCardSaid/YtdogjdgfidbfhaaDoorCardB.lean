/-
  For rows that list errors.errorType: what the condition gives a walk, and a world that meets it. No condition.
-/
import Derived.Test.YtdogjdgfidbfhaaDoorRows
import Derived.Test.YtdogjdgfidbfhaaDoorMErr
import Derived.Test.YtdogjdgfidbfhaaDoorMBase
import Derived.LaidHandle
import Derived.LaidLaws
import Derived.Handed
import Derived.ChangeVars
import Derived.JoinedOf
import Derived.RowKitTokens
import Derived.Stop.Joined
import Derived.SevenTiedAt
namespace Go.Proofs.YtdogjdgfidbfhaaDoor
set_option linter.unusedSimpArgs false
set_option linter.unusedVariables false
set_option linter.unusedSectionVars false
open Go.RowKit Go.ChangeShapes Go.WideShapes

def laidE : List (String × DataW Unit) := [("errors.errorType", Rows.laid_errors_errorType)]
theorem ownNone : ownKnob Tryd.prog.godebug = none := by kernel_rfl
theorem etNamed : Tryd.prog.globalNamed "errors.errorType" = some 0 := by kernel_rfl
theorem rtCut : (Tryd.prog.cutTypes.find? (·.1 == "internal/reflectlite.rtype")).map (·.2) = some 87 := by kernel_rfl
theorem typesN : Tryd.prog.types.size = 128 := by kernel_rfl
theorem oneRow : ((List.range 128).filter fun t => Tryd.prog.rowNamed t [101, 114, 114, 111, 114]) = [26] := by kernel_rfl

theorem errT_of_laid {W : World} (h : laidMetH Tryd.prog laidE W) : ErrT W := by
  have h' : laidMet Tryd.prog [] W ∧ handlesMet Tryd.prog laidE W := h
  obtain ⟨name, u, ty, e1, e2, e3, e4, e5⟩ := h'.2 _ (List.mem_singleton.2 rfl)
  have en : name = [101, 114, 114, 111, 114] := (Option.some.inj e1).symm
  subst en
  obtain rfl := Option.some.inj (rtCut.symm.trans e2)
  have hm : ty ∈ (List.range 128).filter fun t => Tryd.prog.rowNamed t [101, 114, 114, 111, 114] := List.mem_filter.2 ⟨List.mem_range.2 (by rw [← typesN]; exact e3), e4⟩
  rw [oneRow] at hm
  obtain rfl := List.mem_singleton.1 hm
  have hh : typeHandle Tryd.prog 26 = .pointer (some ⟨1, 26, none⟩) := by kernel_rfl
  rw [hh] at e5
  simpa [ErrT] using World.var?_cell etNamed e5 0

noncomputable def laidWorld (os : Os) : World :=
  let w0 := World.holding Tryd.prog os ⟨#[], #[], []⟩
  { w0 with heap := w0.heap.modify 0 fun
      | .cells _ t frozen => .cells #[.iface 87 (.agg #[.pointer (some ⟨1, 26, none⟩)])] t frozen
      | o => o }
theorem laidWorld_met (os : Os) (args : Array Value) : laidMetH Tryd.prog laidE ((laidWorld os).forCall (fun _ _ => 0) ⟨#[], args, []⟩).memory :=
  laidMetH_of_parts (laidMet_nil _ _) (by kernel_rfl)
theorem laidOutP : laidOutB Tryd.pinned.checked.prog = true := by kernel_rfl
theorem mapsRowedP : mapsRowed Tryd.pinned.checked.prog = true := by kernel_rfl
theorem looksP : true = Tryd.pinned.checked.prog.looks [] := by kernel_rfl
end Go.Proofs.YtdogjdgfidbfhaaDoor
