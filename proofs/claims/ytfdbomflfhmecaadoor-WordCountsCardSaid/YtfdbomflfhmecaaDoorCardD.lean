/-
  For a row that lists math/bits.deBruijn64tab: what the condition gives a walk, and a world that meets it. No condition.
-/
import Derived.Test.YtfdbomflfhmecaaDoorRows
import Derived.Test.YtfdbomflfhmecaaDoorMBase
import Derived.Lib.TrailingZeros
import Derived.MakeChecks
import Derived.Lay
import Derived.LaidLaws
import Derived.LaidHandle
import Derived.Handed
import Derived.ChangeVars
import Derived.JoinedOf
import Derived.RowKitTokens
import Derived.Stop.Joined
import Derived.SevenTiedAt
namespace Go.Proofs.YtfdbomflfhmecaaDoor
set_option linter.unusedSimpArgs false
set_option linter.unusedVariables false
set_option linter.unusedSectionVars false
open Go.RowKit Go.ChangeShapes Go.WideShapes

/-- The table in its variable. -/
def TabT (w : World) : Prop := ∀ j, j < 64 → w.cell? ⟨0, j, none⟩ = some (.int .u8 (Lib.deBruijn64tab.getD j 0))
theorem TabT.below {w w' : World} (h : TabT w) (hs : 0 < w.heap.size) (hb : Below w.heap.size w w') : TabT w' := fun j hj => (hb.cell (p := ⟨0, j, none⟩) hs).trans (h j hj)
def laidE : List (String × DataW Unit) := [("math/bits.deBruijn64tab", Rows.laid_math_bits_deBruijn64tab)]
theorem ownNone : ownKnob Tryd.prog.godebug = none := by kernel_rfl
theorem tabNamed : Tryd.prog.globalNamed "math/bits.deBruijn64tab" = some 0 := by kernel_rfl
theorem tabType : (Tryd.prog.globals[0]?).map (·.type) = some 28 := by kernel_rfl
theorem tabDatum : (Rows.laid_math_bits_deBruijn64tab : DataW Unit) = .agg (Lib.deBruijn64tab.map fun k => .lit (.int .u8 (k : Nat))) := rfl
theorem tabSize : Lib.deBruijn64tab.length = 64 := rfl
theorem cells1 : Tryd.prog.cellsOf 5 = 1 := by kernel_rfl

theorem tabT_of_laid {W : World} (h : laidMetH Tryd.prog laidE W) : TabT W := by
  rw [MakeChecks.laidMetH_plain _ _ _ (by kernel_rfl)] at h
  obtain ⟨ps, ⟨g0, t0, cs0, f0, p0, q0, hg0, ht0, hv0, hd0, _, _⟩, _, _⟩ := h
  obtain rfl := Option.some.inj (tabNamed.symm.trans hg0)
  obtain rfl := Option.some.inj (tabType.symm.trans ht0)
  intro j hj
  rw [World.var?_cell hg0 hv0 j]
  obtain ⟨xs, m1, rfl, hx1, hlen, hn, hel⟩ := DataW.trod_array Tryd.underlying28 hd0
  rw [tabDatum] at hx1
  simp only [Prod.mk.injEq, DataW.agg.injEq] at hx1
  have hj0 := hel j hj
  rw [List.getElem?_eq_getElem (by omega)] at hj0
  obtain ⟨k, e1, e2, _⟩ := DataW.trod_int Tryd.underlying5 hj0
  rw [cells1, Nat.mul_one] at e1
  have e3 : (Lib.deBruijn64tab.map fun k : Nat => (DataW.lit (.int .u8 (k : Int)) : DataW Unit))[j]? = (xs.map (·.1))[j]? := by rw [hx1.1]
  rw [List.getElem?_map, List.getElem?_map, List.getElem?_eq_getElem (by rw [tabSize]; exact hj), List.getElem?_eq_getElem (by omega), Option.map_some, Option.map_some, e2] at e3
  have e4 : k = ((Lib.deBruijn64tab[j]'(by rw [tabSize]; exact hj) : Nat) : Int) := by simpa using e3.symm
  have e5 : cs0.toList[j]? = some (.int .u8 k) := by
    have := congrArg (fun l : List Value => l[0]?) e1
    simpa [List.getElem?_take] using this
  rw [show cs0[j]? = cs0.toList[j]? by simp, e5, e4]
  congr 2
  rw [List.getD_eq_getElem?_getD, List.getElem?_eq_getElem (by rw [tabSize]; exact hj)]
  simp

noncomputable def laidWorld (os : Os) : World := World.laidAll Tryd.prog os laidE
theorem laidWorld_met (os : Os) (args : Array Value) : laidMetH Tryd.prog laidE ((laidWorld os).forCall (fun _ _ => 0) ⟨#[], args, []⟩).memory := by
  rw [MakeChecks.laidMetH_plain _ _ _ (by kernel_rfl)]
  exact laidMet_laidAll _ (by kernel_rfl) (by kernel_rfl)
theorem laidOutP : laidOutB Tryd.pinned.checked.prog = true := by kernel_rfl
theorem mapsRowedP : mapsRowed Tryd.pinned.checked.prog = true := by kernel_rfl
theorem looksP : false = Tryd.pinned.checked.prog.looks [] := by kernel_rfl
end Go.Proofs.YtfdbomflfhmecaaDoor
