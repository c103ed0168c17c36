/-
  What deque.Do and gristmillref.Deque return: for lists of at most 60 numbers.
-/
import Derived.Test.YtahobohfknnhhaaInsDel
import Derived.Test.YtahobohfknnhhaaLists
namespace Go.Proofs.Ytahobohfknnhhaa
set_option linter.unusedSimpArgs false
set_option linter.unusedVariables false
set_option linter.unusedSectionVars false
open Go.RowKit
attribute [local go_sem ↓] Go.wp_at_zero Go.wp_at_succ

def dqY (xs : List Int) (a v : Int) : List Int := if a = 1 then (if xs.length < 6 then xs ++ [v] else xs) else if a = 3 then (if xs.length < 6 then v :: xs else xs) else if a = 2 then xs.take 0 ++ xs.drop (0 + 1) else if a = 4 then xs.take (xs.length - 1) ++ xs.drop (xs.length - 1 + 1) else xs
def dqC (xs : List Int) (a : Int) : Int := if a = 1 ∨ a = 3 then (if xs.length < 6 then 1 else 3) else if a = 2 ∨ a = 4 ∨ a = 5 then (if xs.length = 0 then 2 else 1) else if a = 6 then 1 else 5
def dqV (xs : List Int) (a : Int) : Int := if a = 2 ∨ a = 5 then xs[0]?.getD 0 else if a = 4 then xs[xs.length - 1]?.getD 0 else if a = 6 then xs.length else 0

theorem Own.same {w w' : World} {B : Nat} {A : Option Addr} {n c : Nat} {xs : List Int} (h : Own w B A n c xs) (hb : Below w.heap.size w w') : Own w' B A n c xs :=
  World.ownsRow.kept (row := none) h ⟨hb.os, hb.tape, hb.output, hb.size, fun k hk _ => hb.block k hk⟩ (by
    cases ho : (Value.slice A n c).ownBlock with
    | none => exact .inl rfl
    | some k => exact .inr (fun e => by cases e))
theorem Own.lt {w : World} {B : Nat} {A : Option Addr} {n c : Nat} {xs : List Int} (h : Own w B A n c xs) : ∀ a, A = some a → B ≤ a.block ∧ a.block < w.heap.size := fun a ha => by
  subst ha
  exact World.ownsRow.lt h a.block rfl

end Go.Proofs.Ytahobohfknnhhaa
