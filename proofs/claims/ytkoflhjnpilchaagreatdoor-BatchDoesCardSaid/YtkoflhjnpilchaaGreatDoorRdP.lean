/-
  The words behind Done, on the record's side and on the document's: plain. No condition.
-/
import Derived.Test.YtkoflhjnpilchaaGreatDoorRDoneP
import Derived.Test.YtkoflhjnpilchaaGreatDoorRecM
import Derived.Test.YtkoflhjnpilchaaGreatDoorRcOf
namespace Go.Proofs.YtkoflhjnpilchaaGreatDoor
set_option linter.unusedSimpArgs false
set_option linter.unusedVariables false
set_option linter.unusedSectionVars false
open Go.RowKit
set_option linter.unusedSimpArgs false
set_option linter.unusedVariables false

theorem kindR_of {z : Nat → Int} (hr : recOk z) : kindR z = z 0 ∧ 1 ≤ z 0 ∧ z 0 ≤ 6 := by
  have h := thing_kind hr.1.1
  unfold kindR at h ⊢
  split at h <;> rename_i h0
  · rw [if_pos h0]; exact ⟨rfl, h⟩
  · omega
theorem flip16 (b0 b1 b2 b3 : Bool) (t x : Nat) (ht : t < 4) (hx : x = (if b0 then 1 else 0) + (if b1 then 2 else 0) + (if b2 then 4 else 0) + (if b3 then 8 else 0)) :
    flipN x t = (if b0 != (t == 0) then 1 else 0) + (if b1 != (t == 1) then 2 else 0) + (if b2 != (t == 2) then 4 else 0) + (if b3 != (t == 3) then 8 else 0) := by
  rw [flipN_in x t (by omega), hx]
  rcases (by omega : t = 0 ∨ t = 1 ∨ t = 2 ∨ t = 3) with rfl | rfl | rfl | rfl <;> cases b0 <;> cases b1 <;> cases b2 <;> cases b3 <;> rfl
theorem tgW_turn (z : Nat → Int) (t : Nat) (ht : t < 4) (hx : 0 ≤ z 26 ∧ z 26 < 16) : tgW (upd (tgZ z) t (1 - tgZ z t)) 4 = flipN (z 26).toNat t := by
  have h16 : (z 26).toNat % 16 = (z 26).toNat := Nat.mod_eq_of_lt (by omega)
  have h := tgW_mod z
  rw [h16, tgW_bools _ _ _ _ (tgZ z) rfl rfl rfl rfl] at h
  rw [flip16 _ _ _ _ t _ ht h.symm]
  refine tgW_bools _ _ _ _ _ ?_ ?_ ?_ ?_
  all_goals
    rcases (by omega : t = 0 ∨ t = 1 ∨ t = 2 ∨ t = 3) with rfl | rfl | rfl | rfl <;> simp only [upd, tgZ]
  all_goals first
    | (cases bitB (z 26).toNat ((0 : Nat) : Int) <;> rfl)
    | (cases bitB (z 26).toNat ((1 : Nat) : Int) <;> rfl)
    | (cases bitB (z 26).toNat ((2 : Nat) : Int) <;> rfl)
    | (cases bitB (z 26).toNat ((3 : Nat) : Int) <;> rfl)
theorem doneZ_words {z : Nat → Int} (y : Nat → Int) (t : Nat) (co va : Int) (ht : t < 4) (hr : recOk z) (hb : ∀ i, i < 32 → 0 ≤ z i) (i : Nat) (hi : i < 32) :
    wordsZ (z 0) y (upd (acZ z) t co) (upd (avZ z) t va) (upd (whZ z) t (z 28 + 1)) (upd (tgZ z) t (1 - tgZ z t)) (z 27) (z 28 + 1) i = doneZ z y t co va i := by
  obtain ⟨hk, h1, h6⟩ := kindR_of hr
  have hb26 := hb 26 (by decide)
  have hW := (wordsZ_iff (z := z) rfl rfl rfl hb h6 (by rw [← hk]; exact hr.1.1) hr.1.2.2.2 hr.1.2.2.1 hr.2.1).2 hr i hi
  have h26 := hr.1.2.1
  have e29 := hr.2.2
  have hT := tgW_turn z t ht ⟨hb26, h26⟩
  unfold doneZ
  unfold wordsZ wzK at hW ⊢
  by_cases e27 : i = 27
  · subst e27
    rw [if_pos rfl, if_neg (by omega), if_neg (by omega), if_neg (by omega), if_neg (by omega), if_neg (by omega)]
  rw [if_neg e27] at hW ⊢
  by_cases e28 : i = 28
  · subst e28
    rw [if_pos rfl, if_neg (by omega), if_neg (by omega), if_pos rfl]
  rw [if_neg e28] at hW ⊢
  by_cases e0 : i = 0
  · subst e0
    rw [if_pos rfl, if_neg (by omega), if_neg (by omega), if_neg (by omega), if_neg (by omega), if_neg (by omega)]
  rw [if_neg e0] at hW ⊢
  by_cases e18 : i < 18
  · rw [if_pos e18, if_neg (by omega), if_neg (by omega), if_neg e28, if_neg (by omega), if_pos (by omega)]
  rw [if_neg e18] at hW ⊢
  by_cases e22 : i < 22
  · rw [if_pos e22, if_pos (by omega)] at hW ⊢
    rw [if_neg (by omega), if_neg (by omega), if_neg e28]
    by_cases e : i = 18 + t
    · subst e
      rw [if_pos rfl, show 18 + t - 18 = t by omega]
      simp [upd]
    · rw [if_neg e, if_neg (by omega)]
      simp only [upd]
      rw [if_neg (by omega), if_neg (by omega)]
      exact hW
  rw [if_neg e22] at hW ⊢
  by_cases e26 : i < 26
  · rw [if_pos e26, if_pos (by omega)] at hW ⊢
    rw [if_neg (by omega)]
    by_cases e : i = 22 + t
    · subst e
      rw [if_pos rfl, show 22 + t - 22 = t by omega]
      simp [upd]
    · rw [if_neg e, if_neg e28, if_neg (by omega), if_neg (by omega)]
      simp only [upd]
      rw [if_neg (by omega)]
      exact hW
  rw [if_neg e26] at hW ⊢
  by_cases ee : i = 26
  · rw [if_pos ee, if_pos ee, hT]
  · rw [if_neg ee] at hW ⊢
    rw [if_neg ee, if_neg (by omega), if_neg e28, if_neg (by omega), if_neg (by omega)]
    exact hW
theorem sizeR64 (w : World) : (sizeOf 22).run Tryz.prog w = .ok 1 w := by kernel_rfl
theorem eqRecD {C D : Array Value} {z : Nat → Int} (h : U64s C 32 z) (h' : U64s D 32 z) (w : World) : (Op.equalIn 10000 24 (.agg C) (.agg D)).run Tryz.prog w = .ok true w := by
  rw [run_equalIn_ints w 9998 32 Tryz.underlying24 Tryz.underlying22 sizeR64 h.get h'.get]
  simp
end Go.Proofs.YtkoflhjnpilchaaGreatDoor
