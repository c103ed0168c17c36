/-
  What gristmillref.Queue, Stack and Deque return: for lists of at most 60 numbers.
-/
import Derived.Test.YtahobohfknnhhaaEnds
import Derived.Test.YtahobohfknnhhaaMBase
namespace Go.Proofs.Ytahobohfknnhhaa
set_option linter.unusedSimpArgs false
set_option linter.unusedVariables false
set_option linter.unusedSectionVars false
open Go.RowKit
attribute [local go_sem ↓] Go.wp_at_zero Go.wp_at_succ

/-- A list, new or the very one that came, and an answer. -/
def RetJ (A0 : Option Addr) (n0 : Nat) (ys : List Int) (code val : Int) (w : World) (e : Ending) (w' : World) : Prop :=
  ∃ A n c, e = .returned (.tuple #[.slice A n c, .agg #[.int .i64 code, .int .i64 val]]) ∧ SlI w' A n c ys ∧ Below w.heap.size w w' ∧ (0 < n → (A = A0 ∧ n = n0) ∨ ∀ b, A = some b → w.heap.size ≤ b.block)
theorem RetL.weakJ {ys : List Int} {code val : Int} {w : World} {e : Ending} {w' : World} (h : RetL ys code val w e w') (A0 : Option Addr) (n0 : Nat) : RetJ A0 n0 ys code val w e w' := by
  obtain ⟨A, n, c, he, hs, hb⟩ := h
  exact ⟨A, n, c, he, hs.sli, hb, fun hn => .inr (hs.up hn)⟩
theorem retJ_old {ys : List Int} {code val co va : Int} {w w' : World} {A : Option Addr} {n c : Nat} (h : SlI w A n c ys) (hb : Below w.heap.size w w') (h1 : co = code) (h2 : va = val) : RetJ A n ys code val w (.returned (.tuple #[.slice A n c, .agg #[.int .i64 co, .int .i64 va]])) w' :=
  ⟨A, n, c, by rw [h1, h2], h.below hb, hb, fun _ => .inl ⟨rfl, rfl⟩⟩
def qsC (xs : List Int) (a : Int) : Int := if a = 1 ∨ a = 2 ∨ a = 5 ∨ a = 6 then endsC xs a else 5
def qsY (xs : List Int) (a v : Int) (p : Nat) : List Int := if a = 1 ∨ a = 2 ∨ a = 5 ∨ a = 6 then endsY xs a v false p else xs
def qsV (xs : List Int) (a : Int) (p : Nat) : Int := if a = 1 ∨ a = 2 ∨ a = 5 ∨ a = 6 then endsV xs a p else 0

end Go.Proofs.Ytahobohfknnhhaa
