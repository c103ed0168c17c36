/-
  A shop of the program as cells, and a store behind shop.New's Saves and Evicts: plain. No condition.
-/
import Derived.Test.YtkoflhjnpilchaaDoorStM
import Derived.Test.YtkoflhjnpilchaaDoorRowL
namespace Go.Proofs.YtkoflhjnpilchaaDoor
set_option linter.unusedSimpArgs false
set_option linter.unusedVariables false
set_option linter.unusedSectionVars false
open Go.RowKit

def ptr (g : Nat) : Value := .pointer (some ⟨g, 0, none⟩)
/-- The program's shop: two memories, four workers, toggles, steps, history, deeds. -/
def shV (gm gs : Nat) (pw : Nat → Value) (tg : Nat → Int) (st : Int) (H D : Value) (i : Nat) : Value :=
  if i = 0 then ptr gm else if i = 1 then ptr gs else if i < 6 then pw (i - 2) else if i < 10 then .int .i64 (tg (i - 6)) else if i = 10 then .int .i64 st else if i = 11 then H else D
def shA (gm gs : Nat) (pw : Nat → Value) (tg : Nat → Int) (st : Int) (H D : Value) : Array Value := rowF 13 (shV gm gs pw tg st H D)
theorem shA_size (gm gs : Nat) (pw : Nat → Value) (tg : Nat → Int) (st : Int) (H D : Value) : (shA gm gs pw tg st H D).size = 13 := rowF_size
theorem shA_new (gm gs : Nat) : shA gm gs (fun _ => .pointer none) (fun _ => 0) 0 (.slice none 0 0) (.slice none 0 0) =
    #[.pointer (some ⟨gm, 0, none⟩), .pointer (some ⟨gs, 0, none⟩), .pointer none, .pointer none, .pointer none, .pointer none, .int .i64 0, .int .i64 0, .int .i64 0, .int .i64 0, .int .i64 0, .slice none 0 0, .slice none 0 0] := rfl
theorem shA_worker (gm gs : Nat) (pw : Nat → Value) (tg : Nat → Int) (st : Int) (H D : Value) {t : Nat} (ht : t < 4) (v : Value) : (shA gm gs pw tg st H D).setIfInBounds (2 + t) v = shA gm gs (fun i => if i = t then v else pw i) tg st H D :=
  rowF_set fun j hj => by
    unfold shV
    by_cases e : j = 2 + t
    · subst e
      rw [if_pos rfl, if_neg (by omega), if_neg (by omega), if_pos (by omega)]
      dsimp only
      rw [if_pos (by omega)]
    · rw [if_neg e]
      by_cases h0 : j = 0
      · rw [if_pos h0, if_pos h0]
      rw [if_neg h0, if_neg h0]
      by_cases h1 : j = 1
      · rw [if_pos h1, if_pos h1]
      rw [if_neg h1, if_neg h1]
      by_cases h6 : j < 6
      · rw [if_pos h6, if_pos h6]
        dsimp only
        rw [if_neg (by omega)]
      · rw [if_neg h6, if_neg h6]

/-- Words of a record laid into a store from word 8 on: k of them. -/
def stK (z : Nat → Int) (k : Nat) : Sst := ⟨fun i => if 8 ≤ i ∧ i < 8 + k then z (i - 8) else 0, fun _ => 0, fun _ _ => false, 0, 0⟩
/-- And k lines of them stay. -/
def stE (z : Nat → Int) (k : Nat) : Sst := ⟨fun i => if 8 ≤ i ∧ i < 40 then z (i - 8) else 0, fun i => if 8 ≤ i ∧ i < 8 + 8 * k ∧ i < 40 then z (i - 8) else 0, fun _ _ => false, 0, 0⟩
theorem stK_zero (z : Nat → Int) : stK z 0 = Sst.new := by
  unfold stK Sst.new
  congr 1
  funext i
  try dsimp only
  rw [if_neg (by omega)]
theorem stK_succ (z : Nat → Int) (k : Nat) : (stK z k).save (8 + k) (z k) = stK z (k + 1) := by
  unfold stK Sst.save
  congr 1
  funext i
  try dsimp only
  by_cases e : i = 8 + k
  · rw [if_pos e, if_pos (by omega), show i - 8 = k by omega]
  · rw [if_neg e]
    by_cases h : 8 ≤ i ∧ i < 8 + k
    · rw [if_pos h, if_pos (by omega)]
    · rw [if_neg h, if_neg (by omega)]
theorem stE_zero (z : Nat → Int) : stE z 0 = stK z 32 := by
  unfold stE stK
  congr 1
  funext i
  try dsimp only
  rw [if_neg (by omega)]
theorem stE_succ (z : Nat → Int) (k : Nat) (hk : k < 4) : (stE z k).land (1 + k) = stE z (k + 1) := by
  unfold stE Sst.land
  congr 1
  funext i
  try dsimp only
  by_cases e : i / 8 = 1 + k
  · rw [if_pos e, if_pos (by omega), if_pos (by omega)]
  · rw [if_neg e]
    by_cases h : 8 ≤ i ∧ i < 8 + 8 * k ∧ i < 40
    · rw [if_pos h, if_pos (by omega)]
    · rw [if_neg h, if_neg (by omega)]
end Go.Proofs.YtkoflhjnpilchaaDoor
