/-
  For rows that list strconv.ErrSyntax and strconv.ErrRange: what the condition gives a walk. No condition.
-/
import Derived.Test.YtagdjpcbgnppnaaDoorCardC
namespace Go.Proofs.YtagdjpcbgnppnaaDoor
set_option linter.unusedSimpArgs false
set_option linter.unusedVariables false
set_option linter.unusedSectionVars false
open Go.RowKit Go.ChangeShapes Go.WideShapes

/-- An error's variable: some error. -/
def ErrVar (w : World) (n : String) : Prop := ∃ tp p, w.var? Tryd.prog n = some #[.iface tp p]
theorem errVar_of {w : World} {n tn : String} {d : DataW Unit} {g t : Nat} (hg : Tryd.prog.globalNamed n = some g) (hty : (Tryd.prog.globals[g]?).map (·.type) = some t) {ms : Array (String × TypeId)} (ht : Tryd.prog.underlying t = some (.interface ms)) (h : Reads w n (.iface tn d)) : ErrVar w n := by
  obtain ⟨g0, t0, cs, f, p, hg0, ht0, hv, hd⟩ := h
  obtain rfl := Option.some.inj (hg.symm.trans hg0)
  obtain rfl := Option.some.inj (hty.symm.trans ht0)
  obtain ⟨_, u, v, hcs, _, _⟩ := iface_of_trod ht hd
  refine ⟨u, v, ?_⟩
  obtain ⟨l⟩ := cs
  have hl : l = [.iface u v] := hcs
  rw [hv, hl]
theorem syn_of {w : World} (h : Reads w "strconv.ErrSyntax" Rows.laid_strconv_ErrSyntax) : ErrVar w "strconv.ErrSyntax" := errVar_of (g := 5) (t := 28) (by kernel_rfl) (by kernel_rfl) Tryd.underlying28 h
theorem rng_of {w : World} (h : Reads w "strconv.ErrRange" Rows.laid_strconv_ErrRange) : ErrVar w "strconv.ErrRange" := errVar_of (g := 6) (t := 28) (by kernel_rfl) (by kernel_rfl) Tryd.underlying28 h
theorem ErrVar.below {w w' : World} {n : String} (h : ErrVar w n) (hb : Below w.heap.size w w') : ErrVar w' n := by
  obtain ⟨tp, p, h⟩ := h
  refine ⟨tp, p, ?_⟩
  unfold World.var? at h ⊢
  cases hg : Tryd.prog.globalNamed n with
  | none => rw [hg] at h; cases h
  | some g =>
    rw [hg] at h
    simp only [Option.bind_some] at h ⊢
    have hlt : g < w.heap.size := by
      rcases Nat.lt_or_ge g w.heap.size with h' | h'
      · exact h'
      · rw [Array.getElem?_eq_none h'] at h; cases h
    rw [hb.block g hlt]
    exact h
end Go.Proofs.YtagdjpcbgnppnaaDoor
