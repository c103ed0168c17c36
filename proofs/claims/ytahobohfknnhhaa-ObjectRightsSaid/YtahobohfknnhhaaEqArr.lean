/-
  '==' on arrays: element by element, whatever the program; arrays of integers, and arrays of structs of two integers. Closed facts on the types are the conditions.
-/
import Derived.Test.YtahobohfknnhhaaKit
namespace Go.Proofs.Ytahobohfknnhhaa
set_option linter.unusedSimpArgs false
set_option linter.unusedVariables false
set_option linter.unusedSectionVars false
open Go.RowKit

def eqElems (d : Nat) (e : TypeId) (m : Nat) (X Y : Array Value) : List Nat → Sem Bool
  | [] => pure true
  | i :: r => do
    let a ← part e X (i * m)
    let b ← part e Y (i * m)
    let q ← Op.equalIn d e a b
    if (!q) = true then pure false else eqElems d e m X Y r

section
variable {P : Program} (w : World)

theorem run_equalIn_array (d n m : Nat) (t e : TypeId) (X Y : Array Value) (ht : P.underlying t = some (.array n e)) (hs : ∀ w : World, (sizeOf e).run P w = .ok m w) :
    (Op.equalIn (d + 1) t (.agg X) (.agg Y)).run P w = (eqElems d e m X Y (List.range n)).run P w := by
  simp only [Op.equalIn, Sem.run_bind, run_underlying ht, Result.andThen_ok, hs]
  rw [Std.Legacy.Range.forIn_eq_forIn_range']
  simp only [Std.Legacy.Range.size]
  rw [show List.range' 0 ((n - 0 + 1 - 1) / 1) 1 = List.range n by rw [List.range_eq_range']; simp]
  generalize List.range n = l
  clear ht
  induction l generalizing w with
  | nil => simp [eqElems]
  | cons i r ih =>
    simp only [List.forIn_cons, eqElems, Sem.run_bind, Sem.run_ite]
    generalize (part e X (i * m)).run P w = r1
    cases r1 with
    | ok a w1 =>
      simp only [Result.andThen_ok]
      generalize (part e Y (i * m)).run P w1 = r2
      cases r2 with
      | ok b w2 =>
        simp only [Result.andThen_ok]
        generalize (Op.equalIn d e a b).run P w2 = r3
        cases r3 with
        | ok q w3 =>
          cases q
          · simp only [Result.andThen_ok, Bool.not_false, if_true, Sem.run_pure]
          · simp only [Result.andThen_ok, Bool.not_true, Bool.false_eq_true, if_false, Sem.run_pure]
            exact ih w3
        | halt x w3 => simp [Result.andThen]
      | halt x w2 => simp [Result.andThen]
    | halt x w1 => simp [Result.andThen]

theorem run_part_int {e : TypeId} {k : IntKind} {X : Array Value} {i : Nat} {v : Value} (he : P.underlying e = some (.int k)) (h : X[i]? = some v) : (part e X i).run P w = .ok v w := by
  simp [part, isAgg, Sem.run_bind, run_underlying he, h]

theorem run_eqElems_int (d : Nat) {e : TypeId} {k : IntKind} {X Y : Array Value} {x y : Nat → Int} (he : P.underlying e = some (.int k)) :
    ∀ l : List Nat, (∀ i ∈ l, X[i]? = some (.int k (x i))) → (∀ i ∈ l, Y[i]? = some (.int k (y i))) → (eqElems (d + 1) e 1 X Y l).run P w = .ok (decide (∀ i ∈ l, x i = y i)) w
  | [], _, _ => by simp [eqElems]
  | i :: r, hX, hY => by
    have ih := run_eqElems_int d he r (fun j hj => hX j (by simp [hj])) (fun j hj => hY j (by simp [hj]))
    simp only [eqElems, Sem.run_bind, Nat.mul_one, run_part_int w he (hX i (by simp)), run_part_int w he (hY i (by simp)), Result.andThen_ok, run_equalIn_int (P := P) w d e k k _ _ he, Sem.run_ite]
    by_cases h : x i = y i
    · have e1 : (x i == y i) = true := by simpa using h
      rw [e1]
      simp only [Bool.not_true, Bool.false_eq_true, if_false, ih]
      simp [h]
    · have e1 : (x i == y i) = false := by simpa using h
      rw [e1]
      simp [h]

/-- Two arrays of integers. -/
theorem run_equalIn_ints (d n : Nat) {t e : TypeId} {k : IntKind} {X Y : Array Value} {x y : Nat → Int} (ht : P.underlying t = some (.array n e)) (he : P.underlying e = some (.int k)) (hs : ∀ w : World, (sizeOf e).run P w = .ok 1 w)
    (hX : ∀ i, i < n → X[i]? = some (.int k (x i))) (hY : ∀ i, i < n → Y[i]? = some (.int k (y i))) :
    (Op.equalIn (d + 2) t (.agg X) (.agg Y)).run P w = .ok (decide (∀ i, i < n → x i = y i)) w := by
  rw [run_equalIn_array w (d + 1) n 1 t e X Y ht hs, run_eqElems_int w d he (List.range n) (fun i hi => hX i (by simpa using hi)) (fun i hi => hY i (by simpa using hi))]
  congr 1
  simp
end

end Go.Proofs.Ytahobohfknnhhaa
