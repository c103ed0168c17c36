/-
  What stack.Do returns: for lists of at most 60 numbers.
-/
import Derived.Test.YtahobohfknnhhaaMWord
namespace Go.Proofs.Ytahobohfknnhhaa
set_option linter.unusedSimpArgs false
set_option linter.unusedVariables false
set_option linter.unusedSectionVars false
open Go.RowKit
attribute [local go_sem ↓] Go.wp_at_zero Go.wp_at_succ

/-- The first k, with the room that there was. -/
theorem SlO.takeCap {w : World} {G : Nat} {A : Option Addr} {n c : Nat} {xs : List Int} (h : SlO w G A n c xs) (k : Nat) (hk : k ≤ n) : SlO w G A k c (xs.take k) :=
  ⟨⟨by rw [List.length_take, h.sli.len]; omega, by have := h.sli.cap; omega, h.sli.cap63, (h.take k hk).sli.bd, (h.take k hk).sli.at_⟩, (h.take k hk).up⟩

def stackY (xs : List Int) (a v : Int) : List Int := if a = 1 then (if xs.length < 6 then xs ++ [v] else xs) else if a = 2 then xs.take (xs.length - 1) else xs
def stackC (xs : List Int) (a : Int) : Int := if a = 1 then (if xs.length < 6 then 1 else 3) else if a = 6 then 1 else if a = 2 ∨ a = 5 then (if xs.length = 0 then 2 else 1) else 5
def stackV (xs : List Int) (a : Int) : Int := if a = 6 then xs.length else if a = 2 ∨ a = 5 then xs[xs.length - 1]?.getD 0 else 0

end Go.Proofs.Ytahobohfknnhhaa
