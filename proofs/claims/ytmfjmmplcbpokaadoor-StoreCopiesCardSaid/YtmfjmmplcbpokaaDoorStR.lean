/-
  What the methods of the reference's Store do; its wishes as a map. For every store.
-/
import Derived.Test.YtmfjmmplcbpokaaDoorStW
import Derived.Maps.OwnSet
import Derived.Maps.Keyed
import Derived.DeepKeys4
namespace Go.Proofs.YtmfjmmplcbpokaaDoor
set_option linter.unusedSimpArgs false
set_option linter.unusedVariables false
set_option linter.unusedSectionVars false
open Go.RowKit Go.Maps
attribute [local go_sem ↓] Go.wp_at_zero Go.wp_at_succ

theorem laidOutQ : laidOutB Tryd.prog = true := by kernel_rfl
theorem keyA : Keyed Tryd.prog 109 := Keyed.of_law (deep_law_laid laidOutQ (m := 2) (by decide) (of_decide_eq_true (by kernel_rfl)) (by kernel_rfl) (by kernel_rfl))
def klA (t l : Nat) : Lit := .string (keyBytes [.int .i64 t, .int .i64 l])
theorem keyLitsA : ((List.range 4).all fun t => (List.range 9).all fun l => ((Tryd.prog.keyLits (Tryd.prog.types.size + 1) 109 [.int .i64 (t : Nat), .int .i64 (l : Nat)]).map keyBytes) == some (keyBytes [.int .i64 (t : Nat), .int .i64 (l : Nat)])) = true := by kernel_rfl
theorem keyTypeA : Tryd.prog.keyType 109 = true := by kernel_rfl
theorem formedA : ((List.range 4).all fun t => (List.range 9).all fun l => (Value.agg #[.int .i64 (t : Nat), .int .i64 (l : Nat)]).formed Tryd.prog 109) = true := by kernel_rfl
theorem keyOfA {t l : Nat} (ht : t < 4) (hl : l < 9) : keyOf Tryd.prog 109 (.agg #[.int .i64 t, .int .i64 l]) = some (klA t l) := by
  have h := List.all_eq_true.1 (List.all_eq_true.1 formedA t (List.mem_range.2 ht)) l (List.mem_range.2 hl)
  unfold keyOf
  rw [Tryd.underlying109]
  simp only [keyTypeA, h, Bool.and_self, if_true]
  rw [show (Value.agg #[.int .i64 (t : Int), .int .i64 (l : Int)]).cells.toList = [.int .i64 (t : Int), .int .i64 (l : Int)] from rfl]
  have h2 := List.all_eq_true.1 (List.all_eq_true.1 keyLitsA t (List.mem_range.2 ht)) l (List.mem_range.2 hl)
  rw [beq_iff_eq, Option.map_eq_some_iff] at h2
  obtain ⟨ls, e1, e2⟩ := h2
  rw [e1, Option.map_some, e2]
  rfl
theorem klA_all : ((List.range 4).all fun t => (List.range 9).all fun l => (List.range 4).all fun t' => (List.range 9).all fun l' =>
    (keyBytes [.int .i64 (t : Nat), .int .i64 (l : Nat)] != keyBytes [.int .i64 (t' : Nat), .int .i64 (l' : Nat)]) || (t == t' && l == l')) = true := by decide +kernel
theorem klA_ne (t : Nat) (ht : t < 4) (l : Nat) (hl : l < 9) (t' : Nat) (ht' : t' < 4) (l' : Nat) (hl' : l' < 9) (h : keyBytes [.int .i64 (t : Nat), .int .i64 (l : Nat)] = keyBytes [.int .i64 (t' : Nat), .int .i64 (l' : Nat)]) : t = t' ∧ l = l' := by
  have h1 := List.all_eq_true.1 (List.all_eq_true.1 (List.all_eq_true.1 (List.all_eq_true.1 klA_all t (List.mem_range.2 ht)) l (List.mem_range.2 hl)) t' (List.mem_range.2 ht')) l' (List.mem_range.2 hl')
  rw [h] at h1
  simpa using h1
theorem klA_inj {t l t' l' : Nat} (ht : t < 4) (hl : l < 9) (ht' : t' < 4) (hl' : l' < 9) (h : klA t l = klA t' l') : t = t' ∧ l = l' :=
  klA_ne t ht l hl t' ht' l' hl' (by unfold klA at h; exact Lit.string.inj h)
theorem isKeyA (t l : Nat) : WideAt.IsKeyLit (klA t l) := by
  unfold klA
  first | exact trivial | (unfold WideAt.IsKeyLit; trivial) | (simp [WideAt.IsKeyLit])
theorem zeroBo (w : World) : (zeroValue 4).run Tryd.prog w = .ok (.bool false) w := by kernel_rfl
/-- The map gm holds the wishes f; it was turned at most n times. -/
def WantM (f : Nat → Nat → Bool) (gm n : Nat) (w : World) : Prop :=
  ∃ D : DataW Unit, w.ownsMap Tryd.prog 109 (plainElem Tryd.prog 4) gm n D ∧ ∀ t l, t < 4 → l < 9 → D.atKey (klA t l) (.lit (.bool false)) = .lit (.bool (f t l))
theorem WantM.lt {f : Nat → Nat → Bool} {gm n : Nat} {w : World} (h : WantM f gm n w) : gm < w.heap.size := by
  obtain ⟨D, ho, _⟩ := h
  exact ho.lt
theorem WantM.mono {f : Nat → Nat → Bool} {gm n n' : Nat} {w : World} (h : WantM f gm n w) (hn : n ≤ n') : WantM f gm n' w := by
  obtain ⟨D, ho, hD⟩ := h
  exact ⟨D, ho.mono hn, hD⟩
theorem WantM.congr {f f' : Nat → Nat → Bool} {gm n : Nat} {w : World} (h : WantM f gm n w) (e : ∀ t l, t < 4 → l < 9 → f' t l = f t l) : WantM f' gm n w := by
  obtain ⟨D, ho, hD⟩ := h
  exact ⟨D, ho, fun t l ht hl => by rw [hD t l ht hl, e t l ht hl]⟩
set_option maxRecDepth 100000 in
theorem WantM.look {f : Nat → Nat → Bool} {gm n : Nat} {w : World} (h : WantM f gm n w) {t l : Nat} (ht : t < 4) (hl : l < 9) :
    (Instr.lookup 41 (.map (some gm)) (.agg #[.int .i64 t, .int .i64 l]) false).run Tryd.prog w = .ok (.bool (f t l)) w := by
  obtain ⟨D, ho, hD⟩ := h
  obtain ⟨v, ps, hr, hv⟩ := ho.lookup keyA Tryd.underlying41 (zeroBo w) (plainElem_bool Tryd.underlying4 false) (keyOfA ht hl)
  rw [hD t l ht hl] at hv
  unfold plainElem at hv
  rw [Tryd.underlying4] at hv
  cases v <;> simp at hv
  rw [hr, hv.1]
theorem WantM.kept {f : Nat → Nat → Bool} {gm n : Nat} {w w' : World} {S : Nat → Prop} (h : WantM f gm n w) (hk : Keeps S w w') (hS : ¬ S gm) : WantM f gm n w' := by
  obtain ⟨D, ho, hD⟩ := h
  have hb := hk.block gm ho.lt hS
  obtain ⟨es, clock, h1, h2, h3, h4⟩ := ho
  exact ⟨D, ⟨es, clock, hb.trans h1, h2, h3, h4⟩, hD⟩
theorem WantM.start (w : World) : WantM (fun _ _ => false) w.heap.size 0 (w.alloc (.map #[] 0)) :=
  ⟨.map [], World.ownsMap_made w _ _ _, fun t l _ _ => by simp [DataW.atKey]⟩
theorem mapTurned_keeps {w w' : World} {b : Nat} (h : w.mapTurned w' b) : Keeps (Only b) w w' := by
  have hg := h.grown
  exact ⟨hg.os, hg.tape, hg.output, hg.size, fun k hk hn => hg.block k hk (fun e => hn (Option.some.inj e))⟩
end Go.Proofs.YtmfjmmplcbpokaaDoor
