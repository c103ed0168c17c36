/-
  For rows that list strings.asciiSpace, internal/strconv.uint64pow10, op.names, op.codes (and errors.errorType): what the condition gives a walk. No condition.
-/
import Derived.Test.YtkoflhjnpilchaaDoorRows
import Derived.Test.YtkoflhjnpilchaaDoorMErr
import Derived.Test.YtkoflhjnpilchaaDoorMBase
import Derived.MakeChecks
import Derived.Lay
import Derived.LaidLaws
import Derived.LaidHandle
import Derived.LaidSub
import Derived.Lib.AppendIntMem
import Derived.Lib.Fields
import Derived.Shelf.Strings.SplitShaped
import Derived.Handed
import Derived.ChangeVars
import Derived.JoinedOf
import Derived.RowKitTokens
import Derived.Stop.Joined
import Derived.SevenTiedAt
namespace Go.Proofs.YtkoflhjnpilchaaDoor
set_option linter.unusedSimpArgs false
set_option linter.unusedVariables false
set_option linter.unusedSectionVars false
open Go.RowKit Go.ChangeShapes Go.WideShapes

/-- One listed variable's reading. -/
def Reads (w : World) (n : String) (d : DataW Unit) : Prop :=
  ∃ g t cs fuel p, Tryd.prog.globalNamed n = some g ∧ (Tryd.prog.globals[g]?).map (·.type) = some t ∧ w.var? Tryd.prog n = some cs ∧ DataW.trod (fun _ => ()) Tryd.prog w 0 (fun _ => true) false fuel t cs.toList = some (d, p)
theorem reads_of {w : World} : ∀ {l : List (String × DataW Unit)} {ps : List MemPlace}, DataW.LaidVars Tryd.prog w l ps → ∀ n d, (n, d) ∈ l → Reads w n d
  | [], _, _, _, _, hm => by cases hm
  | (n', d') :: r, ps, h, n, d, hm => by
    obtain ⟨g, t, cs, fuel, p, q, h1, h2, h3, h4, h5, _⟩ := h
    rcases List.mem_cons.1 hm with e | e
    · cases e
      exact ⟨g, t, cs, fuel, p, h1, h2, h3, h4⟩
    · exact reads_of h5 n d e
theorem reads_laid {l : List (String × DataW Unit)} {W : World} (h : laidMetH Tryd.prog l W) {n : String} {d : DataW Unit} (hm : (n, d) ∈ l) (hd : d.handleName? = none) : Reads W n d := by
  obtain ⟨⟨_, hv, _⟩, _⟩ := laidMetH_iff.1 h
  exact reads_of hv n d (List.mem_filter.2 ⟨hm, by simp [hd]⟩)

theorem spNamed : Tryd.prog.globalNamed "strings.asciiSpace" = some 0 := by kernel_rfl
theorem spType : (Tryd.prog.globals[0]?).map (·.type) = some 100 := by kernel_rfl
theorem spDatum : (Rows.laid_strings_asciiSpace : DataW Unit) = Lib.tabData .u8 Lib.asciiSpaceTab := by kernel_rfl
/-- strings.asciiSpace, held below B. -/
def SpT (B : Nat) (w : World) : Prop := Lib.TabBelow Tryd.prog B w "strings.asciiSpace" .u8 Lib.asciiSpaceTab
def TenT (B : Nat) (w : World) : Prop := Lib.TabBelow Tryd.prog B w "internal/strconv.uint64pow10" .u64 Lib.pow10Tab
theorem sp_of {w : World} (h : Reads w "strings.asciiSpace" Rows.laid_strings_asciiSpace) : SpT w.heap.size w := by
  obtain ⟨g0, t0, cs, f, p, hg, ht, hv, hd⟩ := h
  obtain rfl := Option.some.inj (spNamed.symm.trans hg)
  obtain rfl := Option.some.inj (spType.symm.trans ht)
  rw [spDatum] at hd
  refine Lib.tabBelow_of_tabIs ?_
  unfold Lib.TabIs
  rw [hv, ← Lib.cells_of_tab Tryd.underlying100 Tryd.underlying5 (by kernel_rfl) (by kernel_rfl) hd]
/-- A table of strings in a variable. -/
def StrT (w : World) (g : Nat) (xs : List (List UInt8)) : Prop := ∀ j, j < xs.length → w.cell? ⟨g, j, none⟩ = some (.string ⟨(xs.getD j []).toArray⟩)
theorem StrT.below {w w' : World} {g : Nat} {xs : List (List UInt8)} (h : StrT w g xs) (hn : 0 < xs.length) (hb : Below w.heap.size w w') : StrT w' g xs := fun j hj => by
  have hs : g < w.heap.size := World.block_lt_of_cell? w _ (h 0 hn)
  exact (hb.cell (p := ⟨g, j, none⟩) hs).trans (h j hj)
theorem strT_of {w : World} {name : String} {g t e n : Nat} {xs : List (List UInt8)} (hg : Tryd.prog.globalNamed name = some g) (hty : (Tryd.prog.globals[g]?).map (·.type) = some t) (ht : Tryd.prog.underlying t = some (.array n e))
    (he : Tryd.prog.underlying e = some .string) (hce : Tryd.prog.cellsOf e = 1) (hn : xs.length = n) (h : Reads w name (.agg (xs.map fun x => .lit (.string x)))) : StrT w g xs := by
  obtain ⟨g0, t0, cs0, f, p, hg0, ht0, hv0, hd0⟩ := h
  obtain rfl := Option.some.inj (hg.symm.trans hg0)
  obtain rfl := Option.some.inj (hty.symm.trans ht0)
  intro j hj
  rw [World.var?_cell hg0 hv0 j]
  obtain ⟨ys, m1, rfl, hx1, hlen, hn1, hel⟩ := DataW.trod_array ht hd0
  simp only [Prod.mk.injEq, DataW.agg.injEq] at hx1
  have hj0 := hel j (by omega)
  rw [List.getElem?_eq_getElem (by omega)] at hj0
  obtain ⟨s, e1, e2, _⟩ := DataW.trod_string he hj0
  rw [hce, Nat.mul_one] at e1
  have e3 : (xs.map fun x => (DataW.lit (.string x) : DataW Unit))[j]? = (ys.map (·.1))[j]? := by rw [hx1.1]
  rw [List.getElem?_map, List.getElem?_map, List.getElem?_eq_getElem hj, List.getElem?_eq_getElem (by omega), Option.map_some, Option.map_some, e2] at e3
  have e4 : s.data.toList = xs[j] := by simpa using e3.symm
  have e5 : cs0.toList[j]? = some (.string s) := by
    have := congrArg (fun l : List Value => l[0]?) e1
    simpa [List.getElem?_take] using this
  rw [show cs0[j]? = cs0.toList[j]? by simp, e5, List.getD_eq_getElem?_getD, List.getElem?_eq_getElem hj, Option.getD_some, ← e4]

/-- The names of the operations, of the codes, of the kinds. -/
def opL : List (List UInt8) := [[112, 117, 116], [116, 97, 107, 101], [102, 114, 111, 110, 116], [98, 97, 99, 107], [112, 101, 101, 107], [99, 111, 117, 110, 116]]
def codeL : List (List UInt8) := [[100, 111, 110, 101], [101, 109, 112, 116, 121], [102, 117, 108, 108], [97, 98, 115, 101, 110, 116], [119, 114, 111, 110, 103]]
theorem rtCut : (Tryd.prog.cutTypes.find? (·.1 == "internal/reflectlite.rtype")).map (·.2) = some 150 := by kernel_rfl
theorem typesN : Tryd.prog.types.size = 193 := by kernel_rfl
theorem oneRow : ((List.range 193).filter fun t => Tryd.prog.rowNamed t [101, 114, 114, 111, 114]) = [24] := by kernel_rfl
theorem etNamed : Tryd.prog.globalNamed "errors.errorType" = some 2 := by kernel_rfl
theorem errT_of {l : List (String × DataW Unit)} {W : World} (h : laidMetH Tryd.prog l W) (hm : ("errors.errorType", (Rows.laid_errors_errorType : DataW Unit)) ∈ l) : ErrT W := by
  obtain ⟨name, u, ty, e1, e2, e3, e4, e5⟩ := (laidMetH_iff.1 h).2 _ (List.mem_filter.2 ⟨hm, rfl⟩)
  have en : name = [101, 114, 114, 111, 114] := (Option.some.inj e1).symm
  subst en
  obtain rfl := Option.some.inj (rtCut.symm.trans e2)
  have hm : ty ∈ (List.range 193).filter fun t => Tryd.prog.rowNamed t [101, 114, 114, 111, 114] := List.mem_filter.2 ⟨List.mem_range.2 (by rw [← typesN]; exact e3), e4⟩
  rw [oneRow] at hm
  obtain rfl := List.mem_singleton.1 hm
  have hh : typeHandle Tryd.prog 24 = .pointer (some ⟨4, 24, none⟩) := by kernel_rfl
  rw [hh] at e5
  simpa [ErrT] using World.var?_cell etNamed e5 0

/-- The listed variables laid over any world. -/
theorem met_layVars {w0 : World} {l : List (String × DataW Unit)} (hf : w0.layFits Tryd.prog l [] = true) (hi : w0.layIfaces Tryd.prog l (w0.layVars Tryd.prog l) = true) : laidMet Tryd.prog l (w0.layVars Tryd.prog l) := by
  have e1 : (l.filter fun x => (l.map (·.1)).contains x.1) = l := List.filter_eq_self.2 fun x hx => List.contains_iff_mem.2 (List.mem_map.2 ⟨x, hx, rfl⟩)
  have e2 : (l.filter fun x => !(l.map (·.1)).contains x.1) = [] := List.filter_eq_nil_iff.2 fun x hx => by rw [List.contains_iff_mem.2 (List.mem_map.2 ⟨x, hx, rfl⟩)]; simp
  exact laidMet_layVars (w0 := w0) (l.map (·.1)) [] (by rw [e1]) (by rw [e1]; exact hf) (by rw [e1]; exact hi) (by rw [e2]; exact LaidIn.none)

theorem laidOutP : laidOutB Tryd.pinned.checked.prog = true := by kernel_rfl
theorem mapsRowedP : mapsRowed Tryd.pinned.checked.prog = true := by kernel_rfl
theorem looksP : true = Tryd.pinned.checked.prog.looks [] := by kernel_rfl
end Go.Proofs.YtkoflhjnpilchaaDoor
