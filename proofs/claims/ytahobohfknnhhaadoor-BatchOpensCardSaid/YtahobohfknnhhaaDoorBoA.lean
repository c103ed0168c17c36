/-
  BatchOpens: what the three cases share.
-/
import Derived.Test.YtahobohfknnhhaaDoorBOpen
import Derived.Test.YtahobohfknnhhaaDoorMBase
namespace Go.Proofs.YtahobohfknnhhaaDoor.lawBatchOpens
set_option linter.unusedSimpArgs false
set_option linter.unusedVariables false
set_option linter.unusedSectionVars false
open Go.RowKit Go.ChangeShapes Go.WideShapes Go.ChangeAt Go.Joins
attribute [local go_sem ↓] Go.wp_at_zero Go.wp_at_succ
set_option linter.unusedSimpArgs false
set_option linter.unusedVariables false

def Lies5 (w : World) (g : Nat) (x0 x1 x2 x3 x4 : Int) : Prop := g < w.heap.size ∧ ∀ j u, [Value.int .i64 x0, .int .i64 x1, .int .i64 x2, .int .i64 x3, .int .i64 x4][j]? = some u → w.cell? ⟨g, j, none⟩ = some u
theorem Lies5.below {w w' : World} {g : Nat} {x0 x1 x2 x3 x4 : Int} (h : Lies5 w g x0 x1 x2 x3 x4) (hb : Below w.heap.size w w') : Lies5 w' g x0 x1 x2 x3 x4 :=
  ⟨Nat.lt_of_lt_of_le h.1 hb.size, fun j u hj => (hb.cell (p := ⟨g, j, none⟩) h.1).trans (h.2 j u hj)⟩
def IsSl1 (v : Value) : Prop := ∃ g, v = .slice (some ⟨g, 0, none⟩) 1 1
def Sl1 (x0 x1 x2 x3 x4 : Int) (v : Value) (w' : World) : Prop := ∃ g, v = .slice (some ⟨g, 0, none⟩) 1 1 ∧ Blk w' g 28 #[.int .i64 x0, .int .i64 x1, .int .i64 x2, .int .i64 x3, .int .i64 x4]
def IsSlc (v : Value) : Prop := ∃ g c, v = .slice (some ⟨g, 0, none⟩) 1 c
def Slc (x0 x1 x2 x3 x4 : Int) (v : Value) (w' : World) : Prop := ∃ g c, v = .slice (some ⟨g, 0, none⟩) 1 c ∧ Lies5 w' g x0 x1 x2 x3 x4
def IsPt (v : Value) : Prop := ∃ g, v = .pointer (some ⟨g, 0, none⟩)
def Pt (x0 x1 x2 x3 x4 : Int) (v : Value) (w' : World) : Prop := ∃ g, v = .pointer (some ⟨g, 0, none⟩) ∧ Lies5 w' g x0 x1 x2 x3 x4
theorem asks1 (g : Nat) (x0 x1 x2 x3 x4 : Int) (w : World) (hb : Blk w g 28 #[.int .i64 x0, .int .i64 x1, .int .i64 x2, .int .i64 x3, .int .i64 x4]) (hwf : ∀ y, y = x0 ∨ y = x1 ∨ y = x2 ∨ y = x3 ∨ y = x4 → (Lit.int .i64 y).wf = true) :
    Calls Tryd.prog 14 #[.slice (some ⟨g, 0, none⟩) 1 1] w fun e w' => (∃ g' c', e = .returned (.slice (some ⟨g', 0, none⟩) 1 c') ∧ Lies5 w' g' x0 x1 x2 x3 x4) ∧ Below w.heap.size w w' := by
  have hs : SlF K5 w (some ⟨g, 0, none⟩) 1 1 (fun _ j => match j with | 0 => x0 | 1 => x1 | 2 => x2 | 3 => x3 | _ => x4) := by
    refine ⟨Nat.le_refl _, by decide, fun i j hi hj => ?_, fun _ => ⟨g, 0, rfl, hb.lt, fun i j hi hj => ?_⟩⟩
    · have hj5 : j < 5 := hj
      rcases j with _ | _ | _ | _ | _ | j
      · exact hwf x0 (by simp)
      · exact hwf x1 (by simp)
      · exact hwf x2 (by simp)
      · exact hwf x3 (by simp)
      · exact hwf x4 (by simp)
      · omega
    · have hj5 : j < 5 := hj
      obtain rfl : i = 0 := by omega
      rw [hb.cell]
      rcases j with _ | _ | _ | _ | _ | j
      · rfl
      · rfl
      · rfl
      · rfl
      · rfl
      · omega
  refine (asksOf_one _ _ _ _ w hs rfl).mono ?_
  rintro e w' ⟨⟨A', c', rfl, hown⟩, hbb⟩
  refine ⟨?_, hbb⟩
  obtain ⟨g', cap, hv, _, hlt⟩ := World.ownsRow.form hown (by decide)
  simp only [Value.slice.injEq] at hv
  obtain ⟨rfl, _, rfl⟩ := hv
  refine ⟨g', c', rfl, hlt, fun j v hj => ?_⟩
  have := World.ownsRow.cells hown (g := g') rfl j v (by simpa [askRows, askRow] using hj)
  simpa [Addr.add_lit] using this

theorem bare_same (e : Int) (w : World) (hg : ErrT w) : Calls Tryd.prog 15 #[errV e, .int .i64 e] w fun e' w' => e' = .returned (.bool true) ∧ Below w.heap.size w w' :=
  (bare_any e e w hg).mono fun _ _ ⟨h, hb⟩ => ⟨by rw [h]; simp, hb⟩
theorem bare2 (w : World) (hg : ErrT w) : Calls Tryd.prog 15 #[.iface 38 (.int .i64 2), .int .i64 2] w fun e' w' => e' = .returned (.bool true) ∧ Below w.heap.size w w' := by
  have h := bare_same 2 w hg
  have e2 : errV 2 = .iface 38 (.int .i64 2) := by simp [errV]
  rwa [e2] at h
theorem bare1 (w : World) (hg : ErrT w) : Calls Tryd.prog 15 #[.iface 38 (.int .i64 1), .int .i64 1] w fun e' w' => e' = .returned (.bool true) ∧ Below w.heap.size w w' := by
  have h := bare_same 1 w hg
  have e2 : errV 1 = .iface 38 (.int .i64 1) := by simp [errV]
  rwa [e2] at h

end Go.Proofs.YtahobohfknnhhaaDoor.lawBatchOpens
