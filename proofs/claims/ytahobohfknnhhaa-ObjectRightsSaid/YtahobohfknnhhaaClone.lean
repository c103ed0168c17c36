/-
  What slices.Clone at []int and sameInts return: for lists of at most 60 numbers (Clone), for any two lists (sameInts).
-/
import Derived.Test.YtahobohfknnhhaaProg
import Derived.Test.YtahobohfknnhhaaKit
import Derived.Deep.Onto
namespace Go.Proofs.Ytahobohfknnhhaa
set_option linter.unusedSimpArgs false
set_option linter.unusedVariables false
set_option linter.unusedSectionVars false
open Go.RowKit
attribute [local go_sem ↓] Go.wp_at_zero Go.wp_at_succ

theorem infoInt : (Try.prog.info? 3).map (fun i => (i.zero, i.size, i.bytes)) = some (some (.int .i64 0), 1, 8) := by kernel_rfl

/-- The result is a slice of the call's own, with the numbers xs. -/
def OwnI (xs : List Int) (w : World) (e : Ending) (w' : World) : Prop :=
  ∃ v', e = .returned v' ∧ w'.ownsRow w.heap.size 3 1 v' xs.length (xs.map (Value.int .i64)) ∧ Below w.heap.size w w'

theorem own_form {w : World} {B : Nat} {e : TypeId} {v : Value} {n : Nat} {xs : List Value} (h : w.ownsRow B e 1 v n xs) : ∃ A c, v = .slice A n c ∧ n ≤ c ∧ c ≤ maxLen ∧ (0 < n → ∃ g, A = some ⟨g, 0, none⟩ ∧ B ≤ g ∧ g < w.heap.size) := by
  rcases h.2 with ⟨rfl, rfl⟩ | ⟨g, cap, cur, rfl, hb, hg, hc, hm, _⟩
  · exact ⟨none, 0, rfl, Nat.le_refl _, Nat.zero_le _, fun h => absurd h (by omega)⟩
  · exact ⟨_, cap, rfl, hc, hm, fun _ => ⟨g, rfl, hb, (Array.getElem?_eq_some_iff.1 hg).1⟩⟩

theorem SlI.of_own {w : World} {B : Nat} {e : TypeId} {A : Option Addr} {c n : Nat} {xs : List Int} (h : w.ownsRow B e 1 (.slice A n c) n (xs.map (Value.int .i64))) (bd : ∀ i : Nat, -9223372036854775808 ≤ xs[i]?.getD 0 ∧ xs[i]?.getD 0 ≤ 9223372036854775807) :
    SlI w A n c xs := by
  have hlen : xs.length = n := by have := h.1; simpa using this
  obtain ⟨A', c', hv, hc, hm, hp⟩ := own_form h
  simp only [Value.slice.injEq, true_and] at hv
  obtain ⟨rfl, rfl⟩ := hv
  refine ⟨hlen, hc, by unfold maxLen at hm; omega, bd, fun hn => ?_⟩
  obtain ⟨g, rfl, _, hlt⟩ := hp hn
  refine ⟨g, 0, rfl, hlt, fun i hi => ?_⟩
  have := h.cells (g := g) rfl i (.int .i64 (xs[i]?.getD 0)) (by rw [List.getElem?_map, List.getElem?_eq_getElem (by omega)]; rfl)
  rw [Nat.zero_add]
  simpa [Addr.add_lit] using this

/-- A slice of the call's own (block B or later), with the numbers xs. -/
def Own (w : World) (B : Nat) (A : Option Addr) (n c : Nat) (xs : List Int) : Prop := w.ownsRow B 3 1 (.slice A n c) n (xs.map (Value.int .i64))
theorem Own.alloc {w : World} {B : Nat} {A : Option Addr} {n c : Nat} {xs : List Int} (h : Own w B A n c xs) (o : Obj) : Own (w.alloc o) B A n c xs := World.ownsRow.alloc h o
theorem Own.mono {w : World} {B B' : Nat} {A : Option Addr} {n c : Nat} {xs : List Int} (h : Own w B A n c xs) (hb : B' ≤ B) : Own w B' A n c xs := World.ownsRow.mono h hb
theorem Own.len {w : World} {B : Nat} {A : Option Addr} {n c : Nat} {xs : List Int} (h : Own w B A n c xs) : xs.length = n := by have := h.1; simpa using this
theorem Own.far {w : World} {B : Nat} {A : Option Addr} {n c : Nat} {xs : List Int} (h : Own w B A n c xs) {p : Addr} (hp : p.block < B) (u : Value) : Own (w.setCell p u) B A n c xs := by
  refine World.ownsRow.kept (row := some p.block) h ⟨rfl, rfl, rfl, by simp, fun k hk hne => Below.heap_setCell w p u k (fun e => hne (by rw [e]))⟩ ?_
  cases ho : (Value.slice A n c).ownBlock with
  | none => exact .inl rfl
  | some k =>
    refine .inr fun e => ?_
    have h1 := (World.ownsRow.lt h k ho).1
    have h2 : k = p.block := Option.some.inj e
    omega
theorem Own.drewN {w : World} {B : Nat} {A : Option Addr} {n c : Nat} {xs : List Int} (h : Own w B A n c xs) (k : Nat) : Own (w.drewN k) B A n c xs := h
theorem Own.drew {w : World} {B : Nat} {A : Option Addr} {n c : Nat} {xs : List Int} (h : Own w B A n c xs) : Own w.drew B A n c xs := h
theorem Own.sli {w : World} {B : Nat} {A : Option Addr} {n c : Nat} {xs : List Int} (h : Own w B A n c xs) (bd : ∀ i : Nat, -9223372036854775808 ≤ xs[i]?.getD 0 ∧ xs[i]?.getD 0 ≤ 9223372036854775807) : SlI w A n c xs := SlI.of_own h bd
theorem cell_alloc_lt {w : World} {o : Obj} {b i : Nat} (h : b < w.heap.size) : (w.alloc o).cell? ⟨b, i, none⟩ = w.cell? ⟨b, i, none⟩ := World.cell?_alloc_lt _ _ _ h
theorem frozen_alloc_lt {w : World} {o : Obj} {b i : Nat} (h : b < w.heap.size) : (w.alloc o).frozen? ⟨b, i, none⟩ = w.frozen? ⟨b, i, none⟩ := World.frozen?_of_block (Below.heap_alloc w o b h)
/-- What stands behind the first. -/
theorem SlI.tail {w : World} {b off n c : Nat} {xs : List Int} (h : SlI w (some ⟨b, off, none⟩) n c xs) (hn : 0 < n) : SlI w (some ⟨b, off + 1, none⟩) (n - 1) (c - 1) xs.tail :=
  ⟨by simp [h.len], by have := h.cap; omega, by have := h.cap63; omega, fun i => by rw [List.getElem?_tail]; exact h.bd (i + 1), fun _ => by
    obtain ⟨b', off', hA, hlt, hc⟩ := h.at_ hn
    cases hA
    refine ⟨b, off + 1, rfl, hlt, fun i hi => ?_⟩
    rw [List.getElem?_tail, Nat.add_assoc, Nat.add_comm 1 i]
    exact hc (i + 1) (by omega)⟩
theorem SlI.tailIf {w : World} {b off n c : Nat} {xs : List Int} (h : SlI w (some ⟨b, off, none⟩) n c xs) (hn : 0 < n) : SlI w (if c = 1 then some ⟨b, off, none⟩ else some ⟨b, off + 1, none⟩) (n - 1) (c - 1) xs.tail := by
  by_cases hc : c = 1
  · have h1 := h.cap
    have h2 := h.tail hn
    exact ⟨h2.len, h2.cap, h2.cap63, h2.bd, fun k => by omega⟩
  · rw [if_neg hc]; exact h.tail hn
theorem Own.nil (w : World) (B : Nat) : Own w B none 0 0 [] := World.ownsRow_nil _ _ _ _
/-- The cells of it. -/
theorem Own.at_ {w : World} {B : Nat} {A : Option Addr} {n c : Nat} {xs : List Int} (h : Own w B A n c xs) (hn : 0 < n) : ∃ g, A = some ⟨g, 0, none⟩ ∧ B ≤ g ∧ g < w.heap.size ∧ ∀ i : Nat, i < n → w.cell? ⟨g, i, none⟩ = some (.int .i64 (xs[i]?.getD 0)) := by
  obtain ⟨A', c', hv, hc, hm, hp⟩ := own_form h
  simp only [Value.slice.injEq, true_and] at hv
  obtain ⟨rfl, rfl⟩ := hv
  obtain ⟨g, rfl, hb, hlt⟩ := hp hn
  refine ⟨g, rfl, hb, hlt, fun i hi => ?_⟩
  have hl := h.len
  have := World.ownsRow.cells h (g := g) rfl i (.int .i64 (xs[i]?.getD 0)) (by rw [List.getElem?_map, List.getElem?_eq_getElem (by omega)]; rfl)
  simpa [Addr.add_lit] using this

/-- append of one number onto a slice of the call's own, at a step of a region that draws. -/
theorem own_append {w : World} {B : Nat} {A : Option Addr} {n c : Nat} {xs : List Int} (hown : Own w B A n c xs) {g : Nat} {v : Int} (hv : w.cell? ⟨g, 0, none⟩ = some (.int .i64 v)) (hn : n ≤ 1000) (hB : B ≤ w.heap.size) (ty : TypeId) (c' : Nat) :
    ∃ g' cap w', (Builtin.append_ #[25, 25] ty #[.slice A n c, .slice (some ⟨g, 0, none⟩) 1 c']).run Try.prog w = .ok (.slice (some ⟨g', 0, none⟩) (n + 1) cap) w' ∧ Own w' B (some ⟨g', 0, none⟩) (n + 1) cap (xs ++ [v]) ∧ Below B w w' := by
  obtain ⟨i0, hi, hz0, hz1, hz2⟩ := info_parts infoInt
  obtain ⟨g', cap, w', hr, ho, hg, hat, hlt⟩ := run_append_lies (P := Try.prog) w 25 ty B 3 i0 (.int .i64 0) 1 8 Try.underlying25 hi hz0 hz1 hz2 rfl (by decide) (.slice A n c) n _ hown ⟨g, 0, none⟩ 1 c' [.int .i64 v] rfl
    (by intro j u hj
        have hj0 : j = 0 := by have := (List.getElem?_eq_some_iff.1 hj).1; simp at this; exact this
        subst hj0
        simp only [List.getElem?_cons_zero, Option.some.injEq] at hj
        subst hj
        simpa [Addr.add_lit] using hv) (by intro u hu; simp at hu; subst hu; rfl) (by decide) (by unfold maxLen; omega) (by omega) hB _ rfl
  refine ⟨g', cap, w', hr, by unfold Own; simpa using ho, ⟨hg.os, hg.tape, hg.output, hg.size, fun k hk => hg.block k (by omega) ?_⟩⟩
  intro e
  have := (World.ownsRow.lt hown k e.symm).1
  omega
theorem step_append1 {ops : Array Oper} {o : Oper} {a : Act} {w : World} {K : Act → World → Prop} {Q : Exit → Act → World → Prop} {E : Prop} (hgd : o.guard = none) (s x : Operand)
    (ho : o.op = .call { callee := .builtin .append, args := #[s, x], argTypes := #[25, 25] }) {B : Nat} {A : Option Addr} {n c : Nat} {xs : List Int} (hs : a.eval s = .slice A n c) (hown : Own w B A n c xs) {g : Nat} {v : Int} {c' : Nat}
    (hx : a.eval x = .slice (some ⟨g, 0, none⟩) 1 c') (hv : w.cell? ⟨g, 0, none⟩ = some (.int .i64 v)) (hn : n ≤ 1000) (hB : B ≤ w.heap.size)
    (h : ∀ g' cap w', Own w' B (some ⟨g', 0, none⟩) (n + 1) cap (xs ++ [v]) → Below B w w' → K (a.put o.dst (.slice (some ⟨g', 0, none⟩) (n + 1) cap)) w') :
    if Region.wanted o (yielded ops a.tmps) = true then Oper.wp Try.prog o a w K Q else E := by
  have hw : Region.wanted o (yielded ops a.tmps) = true := by simp [Region.wanted, hgd]
  rw [if_pos hw]
  obtain ⟨g', cap, w', hr, h2, h3⟩ := own_append hown hv hn hB o.type c'
  unfold Oper.wp execOp
  simp only [ho, resolve, invoke, builtin, Sem.run_bind, Sem.run_pure, Result.andThen_ok, List.map_toArray, List.map_cons, List.map_nil, hs, hx, hr]
  exact h g' cap w' h2 h3
theorem wpList_append1 {ops : Array Oper} {rest : List Oper} {o : Oper} {a : Act} {w : World} {Q : Exit → Act → World → Prop} (hgd : o.guard = none) (s x : Operand)
    (ho : o.op = .call { callee := .builtin .append, args := #[s, x], argTypes := #[25, 25] }) {B : Nat} {A : Option Addr} {n c : Nat} {xs : List Int} (hs : a.eval s = .slice A n c) (hown : Own w B A n c xs) {g : Nat} {v : Int} {c' : Nat}
    (hx : a.eval x = .slice (some ⟨g, 0, none⟩) 1 c') (hv : w.cell? ⟨g, 0, none⟩ = some (.int .i64 v)) (hn : n ≤ 1000) (hB : B ≤ w.heap.size)
    (h : ∀ g' cap w', Own w' B (some ⟨g', 0, none⟩) (n + 1) cap (xs ++ [v]) → Below B w w' → wpList Try.prog ops Q rest (a.put o.dst (.slice (some ⟨g', 0, none⟩) (n + 1) cap)) w') : wpList Try.prog ops Q (o :: rest) a w :=
  wpList_plain hgd fun _ hK => by
    obtain ⟨g', cap, w', hr, h2, h3⟩ := own_append hown hv hn hB o.type c'
    unfold Oper.wp execOp
    simp only [ho, resolve, invoke, builtin, Sem.run_bind, Sem.run_pure, Result.andThen_ok, List.map_toArray, List.map_cons, List.map_nil, hs, hx, hr]
    exact hK _ _ (h g' cap w' h2 h3)

/-- The same, said of a world that is grown over another, with the value written out. -/
def CloneAt (xs : List Int) (n : Nat) (w W : World) (e : Ending) (w1 : World) : Prop :=
  ∃ A c, e = .returned (.slice A n c) ∧ Own w1 W.heap.size A n c xs ∧ Below W.heap.size W w1 ∧ Below w.heap.size w w1
end Go.Proofs.Ytahobohfknnhhaa
