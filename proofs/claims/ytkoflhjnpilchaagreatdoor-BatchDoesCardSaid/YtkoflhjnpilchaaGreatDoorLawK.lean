/-
  Small words for the laws on objects and records.
-/
import Derived.Test.YtkoflhjnpilchaaGreatDoorObjD
import Derived.Test.YtkoflhjnpilchaaGreatDoorMBase
import Derived.Test.YtkoflhjnpilchaaGreatDoorMErr
namespace Go.Proofs.YtkoflhjnpilchaaGreatDoor
set_option linter.unusedSimpArgs false
set_option linter.unusedVariables false
set_option linter.unusedSectionVars false
open Go.RowKit

theorem U64s.ex (y : Nat → Int) (n : Nat) (hb : ∀ i, i < n → 0 ≤ y i ∧ y i < 18446744073709551616) : ∃ D, U64s D n y :=
  ⟨((List.range n).map fun i => Value.int .u64 (y i)).toArray, by simp, fun i hi => by simp [hi], hb⟩
theorem sizeU64 (w : World) : (sizeOf 22).run Tryz.prog w = .ok 1 w := by kernel_rfl
theorem eq_cells {D : Array Value} {z : Nat → Int} (h : U64s D 17 z) (w : World) : (Op.equalIn 10000 100 (.agg D) (.agg D)).run Tryz.prog w = .ok true w := by
  rw [run_equalIn_ints w 9998 17 Tryz.underlying100 Tryz.underlying22 sizeU64 h.get h.get]
  simp
def IsC17 (x : Value) : Prop := ∃ g, x = .slice (some ⟨g, 0, none⟩) 17 17
def Ic17 (z : Nat → Int) (x : Value) (w : World) : Prop := ∃ g D, x = .slice (some ⟨g, 0, none⟩) 17 17 ∧ Blk w g 22 D ∧ U64s D 17 z
end Go.Proofs.YtkoflhjnpilchaaGreatDoor
