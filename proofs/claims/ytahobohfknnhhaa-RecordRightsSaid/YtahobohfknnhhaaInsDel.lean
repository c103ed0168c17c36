/-
  What slices.Insert (of one number, at the front) and slices.Delete (of one number) do with a slice of the call's own, at ints.
-/
import Derived.Test.YtahobohfknnhhaaMWord
import Derived.Test.YtahobohfknnhhaaShelf
namespace Go.Proofs.Ytahobohfknnhhaa
set_option linter.unusedSimpArgs false
set_option linter.unusedVariables false
set_option linter.unusedSectionVars false
open Go.RowKit

theorem size_setCells (b : Nat) : ∀ (vs : List Value) (o : Nat) (w : World), (w.setCells b o vs).heap.size = w.heap.size
  | [], _, _ => rfl
  | v :: r, o, w => (size_setCells b r (o + 1) _).trans (by simp [World.setCell])
theorem below_setCells {B b : Nat} (hb : B ≤ b) {a : World} : ∀ (vs : List Value) (o : Nat) (w : World), Below B a w → Below B a (w.setCells b o vs)
  | [], _, _, h => h
  | v :: r, o, w, h => below_setCells hb r (o + 1) _ (h.setCell (p := ⟨b, o, none⟩) hb v)
theorem IBd.cons {xs : List Int} (h : IBd xs) {v : Int} (hv : -9223372036854775808 ≤ v ∧ v ≤ 9223372036854775807) : IBd (v :: xs) := fun i => by
  cases i with
  | zero => exact hv
  | succ i => simpa using h i
theorem SlO.of_cells {w : World} {B g n c : Nat} {xs : List Int} (hg : B ≤ g) (hlt : g < w.heap.size) (hn : xs.length = n) (hc : n ≤ c) (h63 : c ≤ 9223372036854775807) (bd : IBd xs)
    (h : ∀ i, i < n → w.cell? ⟨g, i, none⟩ = some (.int .i64 (xs[i]?.getD 0))) : SlO w B (some ⟨g, 0, none⟩) n c xs :=
  ⟨⟨hn, hc, h63, bd, fun _ => ⟨g, 0, rfl, hlt, fun i hi => by rw [Nat.zero_add]; exact h i hi⟩⟩, fun _ b hA => by cases hA; exact hg⟩
theorem Own.parts {w : World} {B : Nat} {A : Option Addr} {n c : Nat} {xs : List Int} (h : Own w B A n c xs) : (A = none ∧ n = 0 ∧ c = 0) ∨ ∃ g cur, A = some ⟨g, 0, none⟩ ∧ B ≤ g ∧ Blk w g 3 cur ∧ n ≤ c ∧ c ≤ maxLen ∧ cur.size = c ∧ ∀ i, i < n → cur[i]? = some (.int .i64 (xs[i]?.getD 0)) := by
  have hl := h.len
  rcases h.2 with ⟨hv, hn⟩ | ⟨g, cap, cur, hv, hb, hg, hnc, hm, hs, ht⟩
  · cases hv
    exact .inl ⟨rfl, rfl, rfl⟩
  · cases hv
    refine .inr ⟨g, cur, rfl, hb, hg, hnc, hm, by simpa using hs, fun i hi => ?_⟩
    have : (cur.toList.take (n * 1))[i]? = (xs.map (Value.int .i64))[i]? := by rw [ht]
    rw [List.getElem?_take, if_pos (by omega), List.getElem?_map, List.getElem?_eq_getElem (show i < xs.length by omega)] at this
    rw [List.getElem?_eq_getElem (show i < xs.length by omega)]
    simpa using this
theorem mapInt_get {xs : List Int} {j : Nat} {v : Value} (h : (xs.map (Value.int .i64))[j]? = some v) : j < xs.length ∧ v = .int .i64 (xs[j]?.getD 0) := by
  have hj : j < xs.length := by simpa using (List.getElem?_eq_some_iff.1 h).1
  rw [List.getElem?_map, List.getElem?_eq_getElem hj] at h
  refine ⟨hj, ?_⟩
  rw [List.getElem?_eq_getElem hj]
  simpa using h.symm
theorem mapInt_one {xs : List Int} : ∀ v ∈ xs.map (Value.int .i64), v.oneCell' = true := fun v hv => by obtain ⟨x, _, rfl⟩ := List.mem_map.1 hv; rfl

/-- What an insertion comes to. -/
def GrewTo (w : World) (B m : Nat) (ys : List Int) (e : Ending) (w' : World) : Prop := ∃ A1 c1, e = .returned (.slice A1 m c1) ∧ SlO w' B A1 m c1 ys ∧ Below B w w'

theorem grew_new {w W : World} {B m c1 : Nat} {ys : List Int} {cs : Array Value} (hB : B ≤ w.heap.size) (hW : W = (w.drew.alloc (.cells cs 3))) (hl : ys.length = m) (hc : m ≤ c1) (h63 : c1 ≤ 9223372036854775807) (bd : IBd ys)
    (h : ∀ i, i < m → cs[i]? = some (.int .i64 (ys[i]?.getD 0))) : GrewTo w B m ys (.returned (.slice (some ⟨w.heap.size, 0, none⟩) m c1)) W := by
  subst hW
  refine ⟨_, _, rfl, SlO.of_cells hB (by simp) hl hc h63 bd fun i hi => ?_, ((Below.refl _ _).drew).alloc hB _⟩
  have := (Blk.newAt w.drew 3 cs (n := w.heap.size) rfl).cell i
  rw [this]
  exact h i hi

end Go.Proofs.Ytahobohfknnhhaa
