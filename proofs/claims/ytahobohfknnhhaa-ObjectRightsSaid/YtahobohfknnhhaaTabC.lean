/-
  What table.closed returns: a table out of which a key is taken. For every table.
-/
import Derived.Test.YtahobohfknnhhaaTabP
import Derived.Test.YtahobohfknnhhaaSlots
namespace Go.Proofs.Ytahobohfknnhhaa
set_option linter.unusedSimpArgs false
set_option linter.unusedVariables false
set_option linter.unusedSectionVars false
open Go.RowKit
attribute [local go_sem ↓] Go.wp_at_zero Go.wp_at_succ

/-- Block g is a table with the numbers z. -/
structure TabAt (w : World) (g : Nat) (t : TypeId) (z : Nat → Int) : Prop where
  ex : ∃ C, Blk w g t C ∧ I64s C 16 z
section
variable {w w' : World} {g : Nat} {t : TypeId} {z : Nat → Int}
theorem TabAt.mk' {C : Array Value} (h : Blk w g t C) (k : I64s C 16 z) : TabAt w g t z := ⟨C, h, k⟩
theorem TabAt.lt (h : TabAt w g t z) : g < w.heap.size := by obtain ⟨C, hb, _⟩ := h.ex; exact hb.lt
theorem TabAt.cell (h : TabAt w g t z) {i : Nat} (hi : i < 16) : w.cell? ⟨g, i, none⟩ = some (.int .i64 (z i)) := by
  obtain ⟨C, hb, hc⟩ := h.ex; rw [hb.cell]; exact hc.get i hi
theorem TabAt.key (h : TabAt w g t z) {i : Nat} (hi : i < 8) : w.cell? ⟨g, i * 2, none⟩ = some (.int .i64 (z (2 * i))) := by rw [Nat.mul_comm]; exact h.cell (by omega)
theorem TabAt.val (h : TabAt w g t z) {i : Nat} (hi : i < 8) : w.cell? ⟨g, i * 2 + 1, none⟩ = some (.int .i64 (z (2 * i + 1))) := by rw [Nat.mul_comm]; exact h.cell (by omega)
theorem TabAt.frozen (h : TabAt w g t z) (i : Nat) : w.frozen? ⟨g, i, none⟩ = false := by obtain ⟨C, hb, _⟩ := h.ex; exact hb.frozen i
theorem TabAt.bd (h : TabAt w g t z) {i : Nat} (hi : i < 16) : -9223372036854775808 ≤ z i ∧ z i ≤ 9223372036854775807 := by obtain ⟨C, _, hc⟩ := h.ex; exact hc.bd i hi
theorem TabAt.below {B : Nat} (h : TabAt w g t z) (hb : Below B w w') (hg : g < B) : TabAt w' g t z := by obtain ⟨C, h1, h2⟩ := h.ex; exact ⟨C, h1.below hb hg, h2⟩
theorem TabAt.alloc (h : TabAt w g t z) (o : Obj) : TabAt (w.alloc o) g t z := by obtain ⟨C, h1, h2⟩ := h.ex; exact ⟨C, h1.alloc o, h2⟩
theorem TabAt.far (h : TabAt w g t z) {p : Addr} (hp : g ≠ p.block) (u : Value) : TabAt (w.setCell p u) g t z := by obtain ⟨C, h1, h2⟩ := h.ex; exact ⟨C, h1.far hp u, h2⟩
theorem TabAt.setS (h : TabAt w g t z) (i : Nat) {k v : Int} (hk : -9223372036854775808 ≤ k ∧ k ≤ 9223372036854775807) (hv : -9223372036854775808 ≤ v ∧ v ≤ 9223372036854775807) :
    TabAt ((w.setCell ⟨g, i * 2, none⟩ (.int .i64 k)).setCell ⟨g, i * 2 + 1, none⟩ (.int .i64 v)) g t (setS z i k v) := by
  obtain ⟨C, h1, h2⟩ := h.ex
  refine ⟨_, (h1.set_ _ _).set_ _ _, ((h2.set_ hk).set_ hv).congr (fun j _ => ?_)⟩
  unfold Proofs.Ytahobohfknnhhaa.setS
  by_cases e1 : j = i * 2 + 1
  · subst e1; rw [if_neg (by omega), if_pos (by omega), if_pos rfl]
  · by_cases e2 : j = i * 2
    · subst e2; rw [if_pos (by omega), if_neg e1, if_pos rfl]
    · rw [if_neg (by omega), if_neg (by omega), if_neg e1, if_neg e2]
end

theorem setS_bd {z : Nat → Int} {i : Nat} {k v : Int} (hz : ∀ j, j < 16 → -9223372036854775808 ≤ z j ∧ z j ≤ 9223372036854775807) (hk : -9223372036854775808 ≤ k ∧ k ≤ 9223372036854775807) (hv : -9223372036854775808 ≤ v ∧ v ≤ 9223372036854775807) :
    ∀ j, j < 16 → -9223372036854775808 ≤ setS z i k v j ∧ setS z i k v j ≤ 9223372036854775807 := fun j hj => by
  unfold setS
  split
  · exact hk
  · split
    · exact hv
    · exact hz j hj

end Go.Proofs.Ytahobohfknnhhaa
