/-
  Small words for the laws on objects and records.
-/
import Derived.Test.YtmfjmmplcbpokaaDoorObjD
import Derived.Test.YtmfjmmplcbpokaaDoorMBase
import Derived.Test.YtmfjmmplcbpokaaDoorMErr
namespace Go.Proofs.YtmfjmmplcbpokaaDoor
set_option linter.unusedSimpArgs false
set_option linter.unusedVariables false
set_option linter.unusedSectionVars false
open Go.RowKit

theorem U64s.ex (y : Nat → Int) (n : Nat) (hb : ∀ i, i < n → 0 ≤ y i ∧ y i < 18446744073709551616) : ∃ D, U64s D n y :=
  ⟨((List.range n).map fun i => Value.int .u64 (y i)).toArray, by simp, fun i hi => by simp [hi], hb⟩
theorem sizeU64 (w : World) : (sizeOf 31).run Tryd.prog w = .ok 1 w := by kernel_rfl
theorem eq_cells {D : Array Value} {z : Nat → Int} (h : U64s D 17 z) (w : World) : (Op.equalIn 10000 98 (.agg D) (.agg D)).run Tryd.prog w = .ok true w := by
  rw [run_equalIn_ints w 9998 17 Tryd.underlying98 Tryd.underlying31 sizeU64 h.get h.get]
  simp
theorem bare_eq (e : Int) (w : World) (hg : ErrT w) : Calls Tryd.prog 13 #[errV e, .int .i64 e] w fun e' w' => e' = .returned (.bool true) ∧ Below w.heap.size w w' :=
  (bare_any e e w hg).mono fun _ _ ⟨h, hb⟩ => ⟨by rw [h]; simp, hb⟩
theorem bare1 (w : World) (hg : ErrT w) : Calls Tryd.prog 13 #[.iface 39 (.int .i64 1), .int .i64 1] w fun e' w' => e' = .returned (.bool true) ∧ Below w.heap.size w w' := by
  have h := bare_eq 1 w hg
  have e2 : errV 1 = .iface 39 (.int .i64 1) := by simp [errV]
  rwa [e2] at h
theorem bare2 (w : World) (hg : ErrT w) : Calls Tryd.prog 13 #[.iface 39 (.int .i64 2), .int .i64 2] w fun e' w' => e' = .returned (.bool true) ∧ Below w.heap.size w w' := by
  have h := bare_eq 2 w hg
  have e2 : errV 2 = .iface 39 (.int .i64 2) := by simp [errV]
  rwa [e2] at h
def IsC17 (x : Value) : Prop := ∃ g, x = .slice (some ⟨g, 0, none⟩) 17 17
def Ic17 (z : Nat → Int) (x : Value) (w : World) : Prop := ∃ g D, x = .slice (some ⟨g, 0, none⟩) 17 17 ∧ Blk w g 31 D ∧ U64s D 17 z
end Go.Proofs.YtmfjmmplcbpokaaDoor
