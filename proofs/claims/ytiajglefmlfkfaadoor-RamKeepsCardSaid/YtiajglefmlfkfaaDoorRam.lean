/-
  What the methods of a Ram do. For every Ram.
-/
import Derived.Test.YtiajglefmlfkfaaDoorBare
import Derived.Test.YtiajglefmlfkfaaDoorOpenF
namespace Go.Proofs.YtiajglefmlfkfaaDoor
open Go.RowKit
attribute [local go_sem ↓] Go.wp_at_zero Go.wp_at_succ

theorem ramLoad_out (g : Nat) (a : Int) (w : World) (ho : a < 0 ∨ (0 ≤ a ∧ 16 ≤ a)) :
    Calls Tryd.prog 38 #[.pointer (some ⟨g, 0, none⟩), .int .i64 a] w fun e w' => e = .returned (.tuple #[.int .u64 0, .iface 25 (.int .i64 2)]) ∧ w = w' := by
  rcases ho with ho | ⟨ho1, ho2⟩
  all_goals
    go_enter Tryd.func38, Tryd.ntmps38
    go_wp2
    go_ret2
    exact ⟨rfl, rfl⟩
theorem ramLoad_in (g i : Nat) (E : Array Value) (z : Nat → Int) (w : World) (hb : Blk w g 61 E) (h : U64s E 16 z) (hi : i < 16) :
    Calls Tryd.prog 38 #[.pointer (some ⟨g, 0, none⟩), .int .i64 i] w fun e w' => e = .returned (.tuple #[.int .u64 (z i), .nilIface]) ∧ w = w' := by
  have hc : w.cell? ⟨g, i, none⟩ = some (.int .u64 (z i)) := by rw [hb.cell, h.get i hi]
  have d1 : decide ((16 : Int) ≤ i) = false := by simp; omega
  have i16 : (i : Int) < 16 := by omega
  clear hb h
  go_enter Tryd.func38, Tryd.ntmps38
  go_wp2
  go_ret2
  exact ⟨rfl, rfl⟩
theorem ramSave_out (g : Nat) (a v : Int) (w : World) (ho : a < 0 ∨ (0 ≤ a ∧ 16 ≤ a)) :
    Calls Tryd.prog 35 #[.pointer (some ⟨g, 0, none⟩), .int .i64 a, .int .u64 v] w fun e w' => e = .returned (.iface 25 (.int .i64 2)) ∧ w = w' := by
  rcases ho with ho | ⟨ho1, ho2⟩
  · go_enter Tryd.func35, Tryd.ntmps35
    go_wp2
    go_ret
    exact ⟨rfl, rfl⟩
  · have d1 : decide ((16 : Int) ≤ a) = true := by simpa using ho2
    have d0 : decide (a < 0) = false := by simpa using ho1
    go_enter Tryd.func35, Tryd.ntmps35
    go_wp2
    all_goals first
      | (go_ret; exact ⟨rfl, rfl⟩)
      | (exfalso; omega)
theorem ramSave_in (g i : Nat) (v : Int) (E : Array Value) (z : Nat → Int) (w : World) (hb : Blk w g 61 E) (h : U64s E 16 z) (hi : i < 16) :
    Calls Tryd.prog 35 #[.pointer (some ⟨g, 0, none⟩), .int .i64 i, .int .u64 v] w fun e w' => e = .returned .nilIface ∧ w' = w.setCell ⟨g, i, none⟩ (.int .u64 v) := by
  have hc : w.cell? ⟨g, i, none⟩ = some (.int .u64 (z i)) := by rw [hb.cell, h.get i hi]
  have hf : w.frozen? ⟨g, i, none⟩ = false := hb.frozen i
  have d1 : decide ((16 : Int) ≤ i) = false := by simp; omega
  have i16 : (i : Int) < 16 := by omega
  clear hb h
  go_enter Tryd.func35, Tryd.ntmps35
  go_wp2
  go_ret
  exact ⟨rfl, rfl⟩
theorem ramSwap_out (g : Nat) (a o v : Int) (w : World) (ho : a < 0 ∨ (0 ≤ a ∧ 16 ≤ a)) :
    Calls Tryd.prog 36 #[.pointer (some ⟨g, 0, none⟩), .int .i64 a, .int .u64 o, .int .u64 v] w fun e w' => e = .returned (.tuple #[.bool false, .iface 25 (.int .i64 2)]) ∧ w = w' := by
  rcases ho with ho | ⟨ho1, ho2⟩
  · go_enter Tryd.func36, Tryd.ntmps36
    go_wp2
    go_ret2
    exact ⟨rfl, rfl⟩
  · have d1 : decide ((16 : Int) ≤ a) = true := by simpa using ho2
    have d0 : decide (a < 0) = false := by simpa using ho1
    go_enter Tryd.func36, Tryd.ntmps36
    go_wp2
    all_goals first
      | (go_ret2; exact ⟨rfl, rfl⟩)
      | (exfalso; omega)
theorem ramSwap_no (g i : Nat) (o v : Int) (E : Array Value) (z : Nat → Int) (w : World) (hb : Blk w g 61 E) (h : U64s E 16 z) (hi : i < 16) (hz : (z i == o) = false) :
    Calls Tryd.prog 36 #[.pointer (some ⟨g, 0, none⟩), .int .i64 i, .int .u64 o, .int .u64 v] w fun e w' => e = .returned (.tuple #[.bool false, .nilIface]) ∧ w = w' := by
  have hc : w.cell? ⟨g, i, none⟩ = some (.int .u64 (z i)) := by rw [hb.cell, h.get i hi]
  have d1 : decide ((16 : Int) ≤ i) = false := by simp; omega
  have i16 : (i : Int) < 16 := by omega
  have d2 : (z i != o) = true := by simpa using hz
  generalize z i = y at hc hz d2
  clear hb h
  go_enter Tryd.func36, Tryd.ntmps36
  go_wp2
  go_ret2
  exact ⟨rfl, rfl⟩
theorem ramSwap_yes (g i : Nat) (o v : Int) (E : Array Value) (z : Nat → Int) (w : World) (hb : Blk w g 61 E) (h : U64s E 16 z) (hi : i < 16) (hz : (z i == o) = true) :
    Calls Tryd.prog 36 #[.pointer (some ⟨g, 0, none⟩), .int .i64 i, .int .u64 o, .int .u64 v] w fun e w' => e = .returned (.tuple #[.bool true, .nilIface]) ∧ w' = w.setCell ⟨g, i, none⟩ (.int .u64 v) := by
  have hc : w.cell? ⟨g, i, none⟩ = some (.int .u64 (z i)) := by rw [hb.cell, h.get i hi]
  have hf : w.frozen? ⟨g, i, none⟩ = false := hb.frozen i
  have d1 : decide ((16 : Int) ≤ i) = false := by simp; omega
  have i16 : (i : Int) < 16 := by omega
  have d2 : (z i != o) = false := by simpa using hz
  generalize z i = y at hc hz d2
  clear hb h
  go_enter Tryd.func36, Tryd.ntmps36
  go_wp2
  go_ret2
  exact ⟨rfl, rfl⟩
theorem infoRam : (Tryd.prog.info? 59).map (·.size) = some 16 := by kernel_rfl
theorem zero16 : U64s #[.int .u64 0, .int .u64 0, .int .u64 0, .int .u64 0, .int .u64 0, .int .u64 0, .int .u64 0, .int .u64 0, .int .u64 0, .int .u64 0, .int .u64 0, .int .u64 0, .int .u64 0, .int .u64 0, .int .u64 0, .int .u64 0] 16 (fun _ => 0) := U64s.zero 16
theorem ramClear (g : Nat) (E : Array Value) (z : Nat → Int) (w : World) (hb : Blk w g 61 E) (h : U64s E 16 z) :
    Calls Tryd.prog 37 #[.pointer (some ⟨g, 0, none⟩)] w fun e w' => e = .returned (.tuple #[]) ∧ w' = w.setRow g #[.int .u64 0, .int .u64 0, .int .u64 0, .int .u64 0, .int .u64 0, .int .u64 0, .int .u64 0, .int .u64 0, .int .u64 0, .int .u64 0, .int .u64 0, .int .u64 0, .int .u64 0, .int .u64 0, .int .u64 0, .int .u64 0] := by
  have HB := Lib.hid hb
  have hs := h.size
  clear hb h
  go_enter Tryd.func37, Tryd.ntmps37
  go_wp2_with (refine wpList_store_row rfl 59 _ _ rfl g #[.int .u64 0, .int .u64 0, .int .u64 0, .int .u64 0, .int .u64 0, .int .u64 0, .int .u64 0, .int .u64 0, .int .u64 0, .int .u64 0, .int .u64 0, .int .u64 0, .int .u64 0, .int .u64 0, .int .u64 0, .int .u64 0] rfl rfl 61 E HB.out infoRam hs zero16.one ?_)
  refine bodyPost_end (v := .tuple #[]) (by simp [results, Tryd.results37, go_sem]) rfl ⟨rfl, rfl⟩
end Go.Proofs.YtiajglefmlfkfaaDoor
