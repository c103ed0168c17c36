/-
  Stores of rows into the middle of a block that is known whole. No condition.
  What the reference's Queue, Stack, Deque and Heap return, and the program's, in one wording by kinds: for lists of at most 60 numbers.
  What gristmillref.Thing's Do returns: for a thing that is one, and any operation that is right.
  What gristmillref.Thing's Do returns, at any kind: for a thing that is one, and an operation that is right.
-/
import Derived.Test.YtahobohfknnhhaaMBase
import Derived.Test.YtahobohfknnhhaaMKeep
import Derived.Test.YtahobohfknnhhaaLists
import Derived.Test.YtahobohfknnhhaaRDeque
import Derived.Test.YtahobohfknnhhaaRHeapA
import Derived.Test.YtahobohfknnhhaaMTh
import Derived.Test.YtahobohfknnhhaaMRT
namespace Go.Proofs.Ytahobohfknnhhaa
set_option linter.unusedSimpArgs false
set_option linter.unusedVariables false
set_option linter.unusedSectionVars false
open Go.RowKit

/-- A row of cells over which others are laid from place o on. -/
def setsA (cs : Array Value) : Nat → List Value → Array Value
  | _, [] => cs
  | o, v :: r => setsA (cs.setIfInBounds o v) (o + 1) r
theorem setsA_size : ∀ (vs : List Value) (o : Nat) (cs : Array Value), (setsA cs o vs).size = cs.size
  | [], _, _ => rfl
  | v :: r, o, cs => by rw [setsA, setsA_size r]; simp
theorem setsA_get : ∀ (vs : List Value) (o : Nat) (cs : Array Value) (i : Nat), i < cs.size → (setsA cs o vs)[i]? = if o ≤ i ∧ i < o + vs.length then vs[i - o]? else cs[i]?
  | [], o, cs, i, _ => by rw [setsA, if_neg (by simp only [List.length_nil]; omega)]
  | v :: r, o, cs, i, hi => by
    rw [setsA, setsA_get r (o + 1) _ i (by simpa using hi), Array.getElem?_setIfInBounds]
    by_cases h : o = i
    · subst h
      rw [if_neg (by omega), if_pos rfl, if_pos hi, if_pos (by simp), Nat.sub_self]; try rfl
    · rw [if_neg h]
      by_cases h2 : o + 1 ≤ i ∧ i < o + 1 + r.length
      · rw [if_pos h2, if_pos (by simp only [List.length_cons]; omega), show i - o = (i - (o + 1)) + 1 by omega]; try rfl
      · rw [if_neg h2, if_neg (by simp only [List.length_cons]; omega)]
theorem setsA_in {vs : List Value} {o i : Nat} {cs : Array Value} (hi : i < vs.length) (h : o + vs.length ≤ cs.size) : (setsA cs o vs)[o + i]? = vs[i]? := by
  rw [setsA_get vs o cs _ (by omega), if_pos (by omega), Nat.add_sub_cancel_left]
theorem setsA_out {vs : List Value} {o i : Nat} {cs : Array Value} (hi : i < o ∨ o + vs.length ≤ i) : (setsA cs o vs)[i]? = cs[i]? := by
  rcases Nat.lt_or_ge i cs.size with h | h
  · rw [setsA_get vs o cs _ h, if_neg (by omega)]
  · rw [Array.getElem?_eq_none (by rw [setsA_size]; exact h), Array.getElem?_eq_none h]
theorem setsA_one {vs : List Value} {o : Nat} {cs : Array Value} (hc : cs.all (·.oneCell') = true) (hv : ∀ v ∈ vs, v.oneCell' = true) : (setsA cs o vs).all (·.oneCell') = true := by
  rw [Array.all_eq_true] at hc ⊢
  intro i hi
  have hi' : i < cs.size := by rwa [setsA_size] at hi
  have e := setsA_get vs o cs i hi'
  rw [Array.getElem?_eq_getElem hi] at e
  by_cases h : o ≤ i ∧ i < o + vs.length
  · rw [if_pos h, List.getElem?_eq_getElem (by omega)] at e
    rw [Option.some.inj e]
    exact hv _ (List.getElem_mem _)
  · rw [if_neg h, Array.getElem?_eq_getElem hi'] at e
    rw [Option.some.inj e]
    exact hc i hi'
theorem Blk.setCells {g : Nat} {t : TypeId} : ∀ {vs : List Value} {o : Nat} {w : World} {cs : Array Value}, Blk w g t cs → Blk (w.setCells g o vs) g t (setsA cs o vs)
  | [], _, _, _, h => h
  | v :: r, o, w, cs, h => by
    rw [World.setCells, setsA]
    exact Blk.setCells (h.set_ o v)
theorem heap_setCells (g : Nat) : ∀ (vs : List Value) (o : Nat) (w : World) (k : Nat), k ≠ g → (w.setCells g o vs).heap[k]? = w.heap[k]?
  | [], _, _, _, _ => rfl
  | v :: r, o, w, k, h => by
    rw [World.setCells, heap_setCells g r _ _ k h]
    exact Below.heap_setCell w _ v k h
theorem size_setCells_ (g : Nat) : ∀ (vs : List Value) (o : Nat) (w : World), (w.setCells g o vs).heap.size = w.heap.size
  | [], _, _ => rfl
  | v :: r, o, w => by rw [World.setCells, size_setCells_ g r]; simp
theorem rest_setCells (g : Nat) : ∀ (vs : List Value) (o : Nat) (w : World), (w.setCells g o vs).os = w.os ∧ (w.setCells g o vs).tape = w.tape ∧ (w.setCells g o vs).output = w.output
  | [], _, _ => ⟨rfl, rfl, rfl⟩
  | v :: r, o, w => by
    obtain ⟨a, b, c⟩ := rest_setCells g r (o + 1) (w.setCell ⟨g, o, none⟩ v)
    exact ⟨a, b, c⟩
theorem Blk.far_cells {w : World} {g g' : Nat} {t : TypeId} {cs : Array Value} (h : Blk w g' t cs) (hg : g' ≠ g) (o : Nat) (vs : List Value) : Blk (w.setCells g o vs) g' t cs := (heap_setCells g vs o w g' hg).trans h
theorem keeps_setCells {S : Nat → Prop} {w : World} {g : Nat} (h : S g ∨ w.heap.size ≤ g) (o : Nat) (vs : List Value) : Keeps S w (w.setCells g o vs) := by
  obtain ⟨a, b, c⟩ := rest_setCells g vs o w
  refine ⟨a, b, c, by rw [size_setCells_]; exact Nat.le_refl _, fun k hk hn => heap_setCells g vs o w k (fun e => ?_)⟩
  subst e
  rcases h with h | h
  · exact hn h
  · omega
theorem below_setCells_ {B g : Nat} {a w : World} (h : Below B a w) (hg : B ≤ g) (o : Nat) (vs : List Value) : Below B a (w.setCells g o vs) := by
  obtain ⟨x, y, z⟩ := rest_setCells g vs o w
  exact h.trans ⟨x, y, z, by rw [size_setCells_]; exact Nat.le_refl _, fun k hk => heap_setCells g vs o w k (by omega)⟩
theorem relyAt_store_mid {P : Program} {o : Oper} {a : Act} {w : World} {T : Value → World → Prop} (ty : TypeId) (x y : Operand) (ho : o.op = .store ty x y) (b off : Nat) (cells : Array Value) (hx : a.eval x = .pointer (some ⟨b, off, none⟩)) (hy : a.eval y = .agg cells)
    (ht : w.there b off cells.size) (hi : (P.info? ty).map (·.size) = some cells.size) (h1 : cells.all (·.oneCell') = true) (hT : T undef (w.setCells b off cells.toList)) : relyAt P o a w T := by
  unfold relyAt execOp
  simp only [ho, hx, hy, Instr.storeAt, Instr.sureAddr, Sem.run_bind, Sem.run_pure, Result.andThen_ok, run_storeVar_mid w b off ty cells ht hi h1]
  exact hT
theorem Blk.there {w : World} {g : Nat} {t : TypeId} {cs : Array Value} (h : Blk w g t cs) {o n : Nat} (hn : o + n ≤ cs.size) : w.there g o n := fun j hj =>
  ⟨by rw [h.cell, Array.getElem?_eq_getElem (by omega)]; rfl, h.frozen _⟩
/-- The region law, the order of the operations behind a name: what must have come up ahead is asked for one by one ('by rw [HA.out]; kernel_rfl'). -/
theorem wp_region_relyA {P : Program} {id : Nat} {l : List Oper} {Q : Exit → Act → World → Prop} {a : Act} {w : World} (m : Nat) (S : Nat → Prop) (wl : List Nat) (hm : P.follows .mixedOrders = true) (hB : Rely.okB l.toArray m = true)
    (h : ∀ anc : Nat → Nat → Bool, Hid (anc = ancB (masks l.toArray l.toArray.size)) → wpRely P l.toArray w S wl anc (fun a w => wpList P l.toArray Q (l.drop m) a w) (l.take m) 0 [] [] a (fun _ => undef)) : (Code.region id l.toArray true).wp P Q a w :=
  wp_region_rely m S wl hm hB (h _ (Lib.hid rfl))
end Go.Proofs.Ytahobohfknnhhaa

namespace Go.Proofs.Ytahobohfknnhhaa
set_option linter.unusedSimpArgs false
set_option linter.unusedVariables false
set_option linter.unusedSectionVars false
open Go.RowKit

theorem queue_eq (xs : List Int) (a v : Int) : qsY xs a v 0 = queueY xs a v ∧ qsC xs a = queueC xs a ∧ qsV xs a 0 = queueV xs a := by
  refine ⟨?_, ?_, ?_⟩
  · simp only [qsY, endsY, queueY]
    (repeat' split) <;> first | rfl | (exfalso; omega) | (simp_all; done) | skip
  · simp only [qsC, endsC, queueC]
    (repeat' split) <;> first | rfl | (exfalso; omega) | (simp_all; done) | skip
  · simp only [qsV, endsV, queueV]
    (repeat' split) <;> first | rfl | (exfalso; omega) | (simp_all; done) | skip
theorem stack_eq (xs : List Int) (a v : Int) : qsY xs a v (xs.length - 1) = stackY xs a v ∧ qsC xs a = stackC xs a ∧ qsV xs a (xs.length - 1) = stackV xs a := by
  refine ⟨?_, ?_, ?_⟩
  · simp only [qsY, endsY, stackY]
    (repeat' split) <;> first | rfl | (exfalso; omega) | (simp_all; done) | skip
    · rename_i h1 h2 h3 h4 h5 h6
      have : xs.length - 1 + 1 = xs.length := by omega
      rw [this, List.drop_length, List.append_nil]
    all_goals (have : xs = [] := List.eq_nil_of_length_eq_zero (by omega); subst this; simp)
  · simp only [qsC, endsC, stackC]
    (repeat' split) <;> first | rfl | (exfalso; omega) | (simp_all; done) | skip
  · simp only [qsV, endsV, stackV]
    (repeat' split) <;> first | rfl | (exfalso; omega) | (simp_all; done) | skip
theorem deque_eq (xs : List Int) (a v : Int) : rdqY xs a v = dqY xs a v ∧ rdqC xs a = dqC xs a ∧ rdqV xs a = dqV xs a := by
  have h3 : decide (a = 3) = true ↔ a = 3 := by simp
  refine ⟨?_, ?_, ?_⟩
  · simp only [rdqY, rdqP, endsY, dqY, h3]
    (repeat' split) <;> first | rfl | (exfalso; omega) | (simp_all; done) | skip
    all_goals (have : xs = [] := List.eq_nil_of_length_eq_zero (by omega); subst this; simp)
  · simp only [rdqC, endsC, dqC]
    (repeat' split) <;> first | rfl | (exfalso; omega) | (simp_all; done) | skip
  · simp only [rdqV, rdqP, endsV, dqV]
    (repeat' split) <;> first | rfl | (exfalso; omega) | (simp_all; done) | skip

theorem l1 (xs : List Int) (a v : Int) : lY 1 xs a v = queueY xs a v ∧ lC 1 xs a = queueC xs a ∧ lV 1 xs a = queueV xs a := ⟨rfl, rfl, rfl⟩
theorem l2 (xs : List Int) (a v : Int) : lY 2 xs a v = stackY xs a v ∧ lC 2 xs a = stackC xs a ∧ lV 2 xs a = stackV xs a := ⟨rfl, rfl, rfl⟩
theorem l3 (xs : List Int) (a v : Int) : lY 3 xs a v = dqY xs a v ∧ lC 3 xs a = dqC xs a ∧ lV 3 xs a = dqV xs a := ⟨rfl, rfl, rfl⟩
theorem l4 (xs : List Int) (a v : Int) : lY 4 xs a v = heapY xs a v ∧ lC 4 xs a = heapC xs a ∧ lV 4 xs a = heapV xs a := ⟨rfl, rfl, rfl⟩

section
variable (A : Option Addr) (n c : Nat) (xs : List Int) (a k v : Int) (w : World)
end
end Go.Proofs.Ytahobohfknnhhaa

namespace Go.Proofs.Ytahobohfknnhhaa
set_option linter.unusedSimpArgs false
set_option linter.unusedVariables false
set_option linter.unusedSectionVars false
open Go.RowKit
set_option linter.unusedSimpArgs false
set_option linter.unusedVariables false
attribute [local go_sem ↓] Go.wp_at_zero Go.wp_at_succ

/-- A thing and an answer. -/
def DoOut (T : Array Value → World → Prop) (code val : Int) (w : World) (e : Ending) (w' : World) : Prop :=
  Below w.heap.size w w' ∧ ∃ C, C.size = 19 ∧ C.all (·.oneCell') = true ∧ e = .returned (.tuple #[.agg C, .agg #[.int .i64 code, .int .i64 val]]) ∧ T C w'
theorem two_one (c x : Int) : (#[Value.int .i64 c, Value.int .i64 x] : Array Value).all (·.oneCell') = true := by kernel_rfl
theorem infoAn : (Try.prog.info? 39).map (·.size) = some 2 := by kernel_rfl
theorem SlI.farc {w : World} {A : Option Addr} {n c : Nat} {xs : List Int} (h : SlI w A n c xs) {p : Addr} (hp : 0 < n → ∀ b, A = some b → b.block ≠ p.block) (u : Value) : SlI (w.setCell p u) A n c xs :=
  ⟨h.len, h.cap, h.cap63, h.bd, fun hn => by
    obtain ⟨b, off, rfl, hlt, hc⟩ := h.at_ hn
    refine ⟨b, off, rfl, by simpa using hlt, fun i hi => ?_⟩
    rw [World.cell?_setCell_far _ _ _ _ (show p.block ≠ b from fun e => hp hn _ rfl e.symm)]
    exact hc i hi⟩
theorem sli_keeps {S : Nat → Prop} {w w' : World} {A : Option Addr} {n c : Nat} {xs : List Int} (h : SlI w A n c xs) (hk : Keeps S w w') (hS : 0 < n → ∀ b, A = some b → ¬ S b.block) : SlI w' A n c xs :=
  ⟨h.len, h.cap, h.cap63, h.bd, fun hn => by
    obtain ⟨b, off, rfl, hlt, hc⟩ := h.at_ hn
    exact ⟨b, off, rfl, Nat.lt_of_lt_of_le hlt hk.size, fun i hi => (hk.cell (p := ⟨b, off + i, none⟩) hlt (hS hn ⟨b, off, none⟩ rfl)).trans (hc i hi)⟩⟩
theorem I64s.ex (y : Nat → Int) (n : Nat) (hb : ∀ i, i < n → -9223372036854775808 ≤ y i ∧ y i ≤ 9223372036854775807) : ∃ D, I64s D n y :=
  ⟨((List.range n).map fun i => Value.int .i64 (y i)).toArray, by simp, fun i hi => by simp [hi], hb⟩
theorem ThR.setS {C D : Array Value} {y d : Nat → Int} (h : ThR C 5 none 0 0 d 0) (hD : I64s D 16 y) : ThR (setsA C 2 D.toList) 5 none 0 0 y 0 := by
  have hs := h.size
  have hl : D.toList.length = 16 := by rw [Array.length_toList, hD.size]
  refine ⟨by rw [setsA_size]; exact hs, ?_, ?_, fun i hi => ?_, ?_⟩
  · rw [setsA_out (.inl (by omega))]; exact h.kind_
  · rw [setsA_out (.inl (by omega))]; exact h.list
  · rw [setsA_in (by omega) (by omega), Array.getElem?_toList]; exact hD.get i hi
  · rw [setsA_out (.inr (by omega))]; exact h.num
end Go.Proofs.Ytahobohfknnhhaa

namespace Go.Proofs.Ytahobohfknnhhaa
set_option linter.unusedSimpArgs false
set_option linter.unusedVariables false
set_option linter.unusedSectionVars false
open Go.RowKit

end Go.Proofs.Ytahobohfknnhhaa
