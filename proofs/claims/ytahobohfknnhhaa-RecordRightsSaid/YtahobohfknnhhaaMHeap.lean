/-
  The plain mathematics of the heap: how the last one rises and the first one sinks. No program in sight.
  What heap.up and heap.down do with a row of numbers of the call's own: the last one rises, the first one sinks. For rows of at most 100 numbers.
  What heap.Do returns: for lists of at most 60 numbers.
-/
import Derived.Test.YtahobohfknnhhaaMBase
import Derived.Test.YtahobohfknnhhaaMWord
import Derived.BigRegion
namespace Go.Proofs.Ytahobohfknnhhaa
set_option linter.unusedSimpArgs false
set_option linter.unusedVariables false
set_option linter.unusedSectionVars false

def gI (xs : List Int) (i : Nat) : Int := xs[i]?.getD 0
theorem gI_set {xs : List Int} {i j : Nat} {v : Int} (hi : i < xs.length) : gI (xs.set i v) j = if j = i then v else gI xs j := by
  unfold gI
  rw [List.getElem?_set]
  by_cases h : i = j
  · subst h; simp [hi]
  · rw [if_neg h, if_neg (fun e => h e.symm)]
theorem gI_take {xs : List Int} {n i : Nat} (h : i < n) : gI (xs.take n) i = gI xs i := by
  unfold gI; rw [List.getElem?_take, if_pos h]
theorem gI_app_lt {xs ys : List Int} {i : Nat} (h : i < xs.length) : gI (xs ++ ys) i = gI xs i := by
  unfold gI; rw [List.getElem?_append_left h]

/-- Where the lesser child stands. -/
def child (xs : List Int) (i : Nat) : Nat := if 2 * i + 2 < xs.length ∧ gI xs (2 * i + 2) < gI xs (2 * i + 1) then 2 * i + 2 else 2 * i + 1
theorem child_or (xs : List Int) (i : Nat) : (child xs i = 2 * i + 2 ∧ 2 * i + 2 < xs.length ∧ gI xs (2 * i + 2) < gI xs (2 * i + 1)) ∨ (child xs i = 2 * i + 1 ∧ ¬ (2 * i + 2 < xs.length ∧ gI xs (2 * i + 2) < gI xs (2 * i + 1))) := by
  unfold child
  by_cases h : 2 * i + 2 < xs.length ∧ gI xs (2 * i + 2) < gI xs (2 * i + 1)
  · rw [if_pos h]; exact .inl ⟨rfl, h.1, h.2⟩
  · rw [if_neg h]; exact .inr ⟨rfl, h⟩

def sink (xs : List Int) (i : Nat) (v : Int) : List Int :=
  if h : child xs i < xs.length ∧ gI xs (child xs i) < v then sink (xs.set i (gI xs (child xs i))) (child xs i) v else xs.set i v
termination_by xs.length - i
decreasing_by
  have := child_or xs i
  rw [List.length_set]
  omega
theorem sink_step {xs : List Int} {i : Nat} {v : Int} (h : child xs i < xs.length ∧ gI xs (child xs i) < v) : sink xs i v = sink (xs.set i (gI xs (child xs i))) (child xs i) v := by
  rw [sink, dif_pos h]
theorem sink_end {xs : List Int} {i : Nat} {v : Int} (h : ¬ (child xs i < xs.length ∧ gI xs (child xs i) < v)) : sink xs i v = xs.set i v := by
  rw [sink, dif_neg h]
theorem sink_nil (i : Nat) (v : Int) : sink [] i v = [] := by rw [sink_end (by simp)]; rfl

def rise (xs : List Int) (i : Nat) : List Int :=
  if h : 0 < i ∧ gI xs i < gI xs ((i - 1) / 2) then rise ((xs.set i (gI xs ((i - 1) / 2))).set ((i - 1) / 2) (gI xs i)) ((i - 1) / 2) else xs
termination_by i
decreasing_by omega
theorem rise_step {xs : List Int} {i : Nat} (h : 0 < i ∧ gI xs i < gI xs ((i - 1) / 2)) : rise xs i = rise ((xs.set i (gI xs ((i - 1) / 2))).set ((i - 1) / 2) (gI xs i)) ((i - 1) / 2) := by
  rw [rise, dif_pos h]
theorem rise_end {xs : List Int} {i : Nat} (h : ¬ (0 < i ∧ gI xs i < gI xs ((i - 1) / 2))) : rise xs i = xs := by
  rw [rise, dif_neg h]

/-- The program's list is the reference's with what sinks at place i: a swap is a step of both. -/
theorem swap_set (xs : List Int) (i k : Nat) (a v : Int) (hik : i ≠ k) : ((xs.set i v).set i a).set k v = (xs.set i a).set k v := by
  rw [List.set_set]

end Go.Proofs.Ytahobohfknnhhaa

namespace Go.Proofs.Ytahobohfknnhhaa
open Go.RowKit
attribute [local go_sem ↓] Go.wp_at_zero Go.wp_at_succ

/-- The first n cells of block g are the numbers xs. -/
structure RowI (w : World) (g n : Nat) (xs : List Int) : Prop where
  len : xs.length = n
  bd : IBd xs
  blk : ∃ cs, Blk w g 3 cs ∧ ∀ i, i < n → cs[i]? = some (.int .i64 (gI xs i))
section
variable {w w' : World} {g n : Nat} {xs : List Int}
theorem RowI.lt (h : RowI w g n xs) : g < w.heap.size := by obtain ⟨cs, hb, _⟩ := h.blk; exact hb.lt
theorem RowI.cell (h : RowI w g n xs) {i : Nat} (hi : i < n) : w.cell? ⟨g, i, none⟩ = some (.int .i64 (gI xs i)) := by
  obtain ⟨cs, hb, hc⟩ := h.blk; rw [hb.cell]; exact hc i hi
theorem RowI.frozen (h : RowI w g n xs) (i : Nat) : w.frozen? ⟨g, i, none⟩ = false := by obtain ⟨cs, hb, _⟩ := h.blk; exact hb.frozen i
theorem IBd.gI {xs : List Int} (h : IBd xs) (i : Nat) : -9223372036854775808 ≤ gI xs i ∧ gI xs i ≤ 9223372036854775807 := h i
theorem IBd.set {xs : List Int} (h : IBd xs) {i : Nat} {v : Int} (hv : -9223372036854775808 ≤ v ∧ v ≤ 9223372036854775807) : IBd (xs.set i v) := fun j => by
  rw [List.getElem?_set]
  split
  · split
    · exact hv
    · decide
  · exact h j
theorem IBd.take {xs : List Int} (h : IBd xs) (k : Nat) : IBd (xs.take k) := fun j => by
  rw [List.getElem?_take]
  split
  · exact h j
  · decide
theorem RowI.set (h : RowI w g n xs) {i : Nat} {v : Int} (hv : -9223372036854775808 ≤ v ∧ v ≤ 9223372036854775807) (hi : i < n) : RowI (w.setCell ⟨g, i, none⟩ (.int .i64 v)) g n (xs.set i v) := by
  obtain ⟨cs, hb, hc⟩ := h.blk
  have hl := h.len
  refine ⟨by rw [List.length_set]; exact hl, h.bd.set hv, _, hb.set_ i _, fun j hj => ?_⟩
  rw [Array.getElem?_setIfInBounds, gI_set (by omega)]
  have hsz : i < cs.size := by
    have := hc i hi
    rcases Nat.lt_or_ge i cs.size with h | h
    · exact h
    · rw [Array.getElem?_eq_none h] at this; cases this
  by_cases hij : i = j
  · subst hij; rw [if_pos rfl, if_pos hsz, if_pos rfl]
  · rw [if_neg hij, if_neg (fun e => hij e.symm)]; exact hc j hj
theorem RowI.keeps {S : Nat → Prop} (h : RowI w g n xs) (hk : Keeps S w w') (hS : ¬ S g) : RowI w' g n xs := by
  obtain ⟨cs, hb, hc⟩ := h.blk
  exact ⟨h.len, h.bd, cs, (hk.block g hb.lt hS).trans hb, hc⟩
theorem RowI.below {B : Nat} (h : RowI w g n xs) (hb : Below B w w') (hg : g < B) : RowI w' g n xs := by
  obtain ⟨cs, hk, hc⟩ := h.blk
  exact ⟨h.len, h.bd, cs, hk.below hb hg, hc⟩
theorem RowI.far (h : RowI w g n xs) {p : Addr} (hp : g ≠ p.block) (u : Value) : RowI (w.setCell p u) g n xs := by
  obtain ⟨cs, hk, hc⟩ := h.blk
  exact ⟨h.len, h.bd, cs, hk.far hp u, hc⟩
theorem RowI.alloc (h : RowI w g n xs) (o : Obj) : RowI (w.alloc o) g n xs := by
  obtain ⟨cs, hk, hc⟩ := h.blk
  exact ⟨h.len, h.bd, cs, hk.alloc o, hc⟩
theorem RowI.drew (h : RowI w g n xs) : RowI w.drew g n xs := ⟨h.len, h.bd, h.blk⟩
theorem RowI.drewN (h : RowI w g n xs) (k : Nat) : RowI (w.drewN k) g n xs := ⟨h.len, h.bd, h.blk⟩
theorem RowI.take (h : RowI w g n xs) {k : Nat} (hk : k ≤ n) : RowI w g k (xs.take k) := by
  obtain ⟨cs, hb, hc⟩ := h.blk
  exact ⟨by rw [List.length_take, h.len]; omega, h.bd.take k, cs, hb, fun i hi => by rw [gI_take hi]; exact hc i (by omega)⟩
theorem RowI.slo (h : RowI w g n xs) {B c : Nat} (hg : B ≤ g) (hc : n ≤ c) (h63 : c ≤ 9223372036854775807) : SlO w B (some ⟨g, 0, none⟩) n c xs :=
  ⟨⟨h.len, hc, h63, h.bd, fun _ => ⟨g, 0, rfl, h.lt, fun i hi => by rw [Nat.zero_add]; exact h.cell hi⟩⟩, fun _ b hb => by cases hb; exact hg⟩
end
theorem Own.row {w : World} {B : Nat} {A : Option Addr} {n c : Nat} {xs : List Int} (h : Own w B A n c xs) (bd : IBd xs) (hn : 0 < n) : ∃ g, A = some ⟨g, 0, none⟩ ∧ B ≤ g ∧ RowI w g n xs := by
  have hl := h.len
  rcases h.2 with ⟨hv, h0⟩ | ⟨g, cap, cur, hv, hb, hg, hc, hm, hs, ht⟩
  · omega
  · simp only [Value.slice.injEq, true_and] at hv
    obtain ⟨rfl, rfl⟩ := hv
    refine ⟨g, rfl, hb, hl, bd, cur, hg, fun i hi => ?_⟩
    have e : (cur.toList.take (n * 1))[i]? = (xs.map (Value.int .i64))[i]? := by rw [ht]
    rw [List.getElem?_take, if_pos (by omega), List.getElem?_map, List.getElem?_eq_getElem (l := xs) (by omega)] at e
    simpa [gI, List.getElem?_eq_getElem (show i < xs.length by omega)] using e

theorem Keeps.set_ {g : Nat} {w w' : World} (h : Keeps (fun b => b = g) w w') (i : Nat) (u : Value) : Keeps (fun b => b = g) w (w'.setCell ⟨g, i, none⟩ u) := h.setCell (.inl rfl) u

end Go.Proofs.Ytahobohfknnhhaa

namespace Go.Proofs.Ytahobohfknnhhaa
open Go.RowKit
attribute [local go_sem ↓] Go.wp_at_zero Go.wp_at_succ

def heapY (xs : List Int) (a v : Int) : List Int := if a = 1 then (if xs.length < 6 then rise (xs ++ [v]) xs.length else xs) else if a = 2 then sink (xs.take (xs.length - 1)) 0 (gI xs (xs.length - 1)) else xs
def heapC (xs : List Int) (a : Int) : Int := if a = 1 then (if xs.length < 6 then 1 else 3) else if a = 2 ∨ a = 5 then (if xs.length = 0 then 2 else 1) else if a = 6 then 1 else 5
def heapV (xs : List Int) (a : Int) : Int := if a = 2 ∨ a = 5 then gI xs 0 else if a = 6 then xs.length else 0

theorem frozen_setCell_all (w : World) (p q : Addr) (u : Value) : (w.setCell p u).frozen? q = w.frozen? q := by simp
theorem rowKeepsBelow {w w1 w2 : World} {g : Nat} (hb : Below w.heap.size w w1) (hk : Keeps (fun b => b = g) w1 w2) (hg : w.heap.size ≤ g) : Below w.heap.size w w2 :=
  hb.trans (hk.below hb.size (fun b hlt e => by omega))

end Go.Proofs.Ytahobohfknnhhaa
