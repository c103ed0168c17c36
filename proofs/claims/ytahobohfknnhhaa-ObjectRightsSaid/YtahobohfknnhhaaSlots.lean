/-
  What gristmilllaw.slotsOf returns: the same slots. For every table.
-/
import Derived.Test.YtahobohfknnhhaaRTab
import Derived.Test.YtahobohfknnhhaaOpen
namespace Go.Proofs.Ytahobohfknnhhaa
set_option linter.unusedSimpArgs false
set_option linter.unusedVariables false
set_option linter.unusedSectionVars false
open Go.RowKit
attribute [local go_sem ↓] Go.wp_at_zero Go.wp_at_succ

theorem relyAt_load_row {P : Program} {o : Oper} {a : Act} {w : World} {T : Value → World → Prop} (ty : TypeId) (x : Operand) (ho : o.op = .load ty x) (g : Nat) (hx : a.eval x = .pointer (some ⟨g, 0, none⟩))
    (t : TypeId) (cs : Array Value) (d : TypeDesc) (hg : Blk w g t cs) (hu : P.underlying ty = some d) (hd : (match d with | .struct _ | .array _ _ => true | _ => false) = true) (hi : (P.info? ty).map (·.size) = some cs.size)
    (hT : T (.agg cs) w) : relyAt P o a w T := by
  refine relyAt_value (u := .agg cs) ?_ hT
  unfold execOp
  simp only [ho, hx, Instr.loadAt, Instr.sureAddr, Sem.run_bind, Sem.run_pure, Result.andThen_ok, run_loadVar_row w g t ty cs (0, 0) d hg hu hd hi]

theorem I64s.congr {C : Array Value} {n : Nat} {z z' : Nat → Int} (h : I64s C n z) (e : ∀ i, i < n → z' i = z i) : I64s C n z' :=
  ⟨h.size, fun i hi => by rw [e i hi]; exact h.get i hi, fun i hi => by rw [e i hi]; exact h.bd i hi⟩
theorem I64s.set_ {C : Array Value} {n k : Nat} {z : Nat → Int} (h : I64s C n z) {v : Int} (hv : -9223372036854775808 ≤ v ∧ v ≤ 9223372036854775807) : I64s (C.setIfInBounds k (.int .i64 v)) n (fun i => if i = k then v else z i) :=
  ⟨by simp [h.size], fun i hi => by
    rw [Array.getElem?_setIfInBounds]
    by_cases hk : k = i
    · subst hk
      rw [if_pos rfl, if_pos (by rw [h.size]; exact hi), if_pos rfl]
    · rw [if_neg hk, if_neg (fun e => hk e.symm)]
      exact h.get i hi, fun i hi => by
    by_cases hk : i = k
    · rw [if_pos hk]; exact hv
    · rw [if_neg hk]; exact h.bd i hi⟩
theorem I64s.zero (n : Nat) : I64s (Array.replicate n (.int .i64 0)) n (fun _ => 0) :=
  ⟨by simp, fun i hi => by simp [hi], fun _ _ => by decide⟩
theorem I64s.ext {C D : Array Value} {n : Nat} {z : Nat → Int} (h : I64s C n z) (k : I64s D n z) : C = D := by
  apply Array.ext_getElem?
  intro i
  by_cases hi : i < n
  · rw [h.get i hi, k.get i hi]
  · rw [Array.getElem?_eq_none (by rw [h.size]; omega), Array.getElem?_eq_none (by rw [k.size]; omega)]

theorem flatI (n : Nat) {z : Nat → Int} (h : ∀ i, i < (List.replicate n IntKind.i64).length → (Lit.int ((List.replicate n IntKind.i64).getD i .i64) (z i)).wf = true) :
    I64s (cellsK (List.replicate n .i64) z).toArray n z := by
  have hk : ∀ i, i < n → (List.replicate n IntKind.i64).getD i .i64 = .i64 := fun i hi => by simp [hi]
  refine ⟨by simp [cellsK], fun i hi => ?_, fun i hi => ?_⟩
  · simp [cellsK, hi]
  · have h1 := h i (by simpa using hi)
    rw [hk i hi] at h1
    exact bounds_i64 h1

theorem infoT : (Try.prog.info? 58).map (·.size) = some 16 := by kernel_rfl

end Go.Proofs.Ytahobohfknnhhaa
