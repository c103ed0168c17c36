/-
  What the methods of the program's Store do. For every store.
-/
import Derived.Test.YtkoflhjnpilchaaDoorMErr
import Derived.Test.YtkoflhjnpilchaaDoorMBase
import Derived.Test.YtkoflhjnpilchaaDoorMWord
import Derived.Test.YtkoflhjnpilchaaDoorStM
namespace Go.Proofs.YtkoflhjnpilchaaDoor
set_option linter.unusedSimpArgs false
set_option linter.unusedVariables false
set_option linter.unusedSectionVars false
open Go.RowKit
attribute [local go_sem ↓] Go.wp_at_zero Go.wp_at_succ

def Only (g : Nat) : Nat → Prop := fun k => k = g
theorem Blk.kept {w w' : World} {g k : Nat} {t : TypeId} {cs : Array Value} (h : Blk w k t cs) (hk : Keeps (Only g) w w') (hne : k ≠ g) : Blk w' k t cs := (hk.block k h.lt hne).trans h
theorem only_set {w w' : World} {g i : Nat} (h : Keeps (Only g) w w') (u : Value) : Keeps (Only g) w (w'.setCell ⟨g, i, none⟩ u) := h.setCell (p := ⟨g, i, none⟩) (.inl rfl) u
theorem only_sets {w w' : World} {g : Nat} (h : Keeps (Only g) w w') (o : Nat) (vs : List Value) : Keeps (Only g) w (w'.setCells g o vs) := h.trans (keeps_setCells (S := Only g) (.inl rfl) o vs)
theorem infoLine : (Tryd.prog.info? 94).map (·.size) = some 8 := by kernel_rfl
theorem infoWants : (Tryd.prog.info? 96).map (·.size) = some 9 := by kernel_rfl
theorem infoAll : (Tryd.prog.info? 97).map (·.size) = some 36 := by kernel_rfl
theorem infoStore : (Tryd.prog.info? 99).map (·.size) = some 182 := by kernel_rfl

theorem stRight (a : Int) (w : World) : Calls Tryd.prog 26 #[.int .i64 a] w fun e w' => e = .returned (.bool (decide (0 ≤ a ∧ a < 72))) ∧ w = w' := by
  by_cases h0 : 0 ≤ a
  · go_enter Tryd.func26, Tryd.ntmps26
    go_wp2
    go_ret
    exact ⟨ret_bool (by simp; omega), rfl⟩
  · go_enter Tryd.func26, Tryd.ntmps26
    go_wp2
    go_ret
    exact ⟨ret_bool (by simp; omega), rfl⟩

theorem stLoad_out (g : Nat) (a : Int) (w : World) (ho : ¬ (0 ≤ a ∧ a < 72)) :
    Calls Tryd.prog 21 #[.pointer (some ⟨g, 0, none⟩), .int .i64 a] w fun e w' => e = .returned (.tuple #[.int .u64 0, .iface 29 (.int .i64 2)]) ∧ w = w' := by
  have hr := stRight a
  rw [decide_eq_false ho] at hr
  go_enter Tryd.func21, Tryd.ntmps21
  go_wp2_with (go_at_call 26; refine (hr _).mono ?_; rintro e w1 ⟨rfl, rfl⟩)
  go_ret2
  exact ⟨rfl, rfl⟩
theorem stLoad_in (g a : Nat) (s : Sst) (w : World) (hb : Blk w g 99 (stA s)) (ha : a < 72) :
    Calls Tryd.prog 21 #[.pointer (some ⟨g, 0, none⟩), .int .i64 a] w fun e w' => e = .returned (.tuple #[.int .u64 (s.now a), .nilIface]) ∧ w = w' := by
  have hr := stRight a
  rw [decide_eq_true (by omega)] at hr
  have ea : a / 8 * 8 + a % 8 = a := by omega
  have hc : w.cell? ⟨g, a / 8 * 8 + a % 8, none⟩ = some (.int .u64 (s.now a)) := by rw [ea, hb.cell, stA_now s ha]
  have b1 : (a : Int) < 72 := by omega
  generalize s.now a = v at *
  have EA := Lib.hid ea
  clear hb ea
  go_enter Tryd.func21, Tryd.ntmps21
  go_wp2_with (go_at_call 26; refine (hr _).mono ?_; rintro e w1 ⟨rfl, rfl⟩)
  go_ret2
  exact ⟨rfl, rfl⟩
theorem stSave_out (g : Nat) (a v : Int) (w : World) (ho : ¬ (0 ≤ a ∧ a < 72)) :
    Calls Tryd.prog 16 #[.pointer (some ⟨g, 0, none⟩), .int .i64 a, .int .u64 v] w fun e w' => e = .returned (.iface 29 (.int .i64 2)) ∧ w = w' := by
  have hr := stRight a
  rw [decide_eq_false ho] at hr
  go_enter Tryd.func16, Tryd.ntmps16
  go_wp2_with (go_at_call 26; refine (hr _).mono ?_; rintro e w1 ⟨rfl, rfl⟩)
  go_ret
  exact ⟨rfl, rfl⟩
theorem stSave_in (g a : Nat) (v : Int) (s : Sst) (w : World) (hb : Blk w g 99 (stA s)) (ha : a < 72) :
    Calls Tryd.prog 16 #[.pointer (some ⟨g, 0, none⟩), .int .i64 a, .int .u64 v] w fun e w' => e = .returned .nilIface ∧ w' = w.setCell ⟨g, a, none⟩ (.int .u64 v) := by
  have hr := stRight a
  rw [decide_eq_true (by omega)] at hr
  have ea : a / 8 * 8 + a % 8 = a := by omega
  have hc : w.cell? ⟨g, a / 8 * 8 + a % 8, none⟩ = some (.int .u64 (s.now a)) := by rw [ea, hb.cell, stA_now s ha]
  have hf : w.frozen? ⟨g, a / 8 * 8 + a % 8, none⟩ = false := hb.frozen _
  have b1 : (a : Int) < 72 := by omega
  generalize s.now a = v0 at *
  have EA := Lib.hid ea
  clear hb ea
  go_enter Tryd.func16, Tryd.ntmps16
  go_wp2_with (go_at_call 26; refine (hr _).mono ?_; rintro e w1 ⟨rfl, rfl⟩)
  go_ret
  exact ⟨rfl, by rw [EA.out]⟩
theorem zeroSt : Tryd.zeroCells99 = stA Sst.new := by kernel_rfl
set_option maxRecDepth 100000 in
theorem stNew (w : World) : Calls Tryd.prog 15 #[] w fun e w' => e = .returned (.pointer (some ⟨w.heap.size, 0, none⟩)) ∧ w' = w.alloc (.cells (stA Sst.new) 99) := by
  go_enter Tryd.func15, Tryd.ntmps15
  go_wp2
  go_ret
  exact ⟨rfl, by rw [zeroSt]⟩

theorem stEvict_out (g : Nat) (l : Int) (w : World) (ho : ¬ (0 ≤ l ∧ l < 9)) :
    Calls Tryd.prog 17 #[.pointer (some ⟨g, 0, none⟩), .int .i64 l] w fun e w' => e = .returned (.iface 29 (.int .i64 2)) ∧ w = w' := by
  by_cases h0 : l < 0
  · go_enter Tryd.func17, Tryd.ntmps17
    go_wp2
    go_ret
    exact ⟨rfl, rfl⟩
  · have h1 : 9 ≤ l := by omega
    go_enter Tryd.func17, Tryd.ntmps17
    go_wp2
    go_ret
    exact ⟨rfl, rfl⟩
theorem range_now {w : World} {g : Nat} {s : Sst} (hb : Blk w g 99 (stA s)) {l : Nat} (hl : l < 9) : w.rangeAt g (l * 8) (lineA s.now (l * 8)).toList := by
  rw [← stA_line_now s hl]
  exact World.rangeAt_of_block (t := 99) (fr := (0, 0)) hb (l * 8) 8
theorem range_good {w : World} {g : Nat} {s : Sst} (hb : Blk w g 99 (stA s)) {l : Nat} (hl : l < 9) : w.rangeAt g (72 + l * 8) (lineA s.good (l * 8)).toList := by
  rw [← stA_line_good s hl]
  exact World.rangeAt_of_block (t := 99) (fr := (0, 0)) hb (72 + l * 8) 8
theorem range_want {w : World} {g : Nat} {s : Sst} (hb : Blk w g 99 (stA s)) {t : Nat} (ht : t < 4) : w.rangeAt g (144 + t * 9) (wantA s t).toList := by
  rw [← stA_wants s ht]
  exact World.rangeAt_of_block (t := 99) (fr := (0, 0)) hb (144 + t * 9) 9
theorem infoLineA (f : Nat → Int) (o : Nat) : (Tryd.prog.info? 94).map (·.size) = some (lineA f o).toList.length := by rw [infoLine, Array.length_toList, lineA_size]
theorem infoLineS (f : Nat → Int) (o : Nat) : (Tryd.prog.info? 94).map (·.size) = some (lineA f o).size := by rw [infoLine, lineA_size]
theorem there_st {w : World} {g : Nat} {s : Sst} (hb : Blk w g 99 (stA s)) {o n : Nat} (h : o + n ≤ 182) : w.there g o n := hb.there (by rw [stA_size]; exact h)
set_option maxRecDepth 100000 in
theorem stEvict_in (g l : Nat) (s : Sst) (w : World) (hb : Blk w g 99 (stA s)) (hl : l < 9) :
    Calls Tryd.prog 17 #[.pointer (some ⟨g, 0, none⟩), .int .i64 l] w fun e w' => e = .returned .nilIface ∧ Blk w' g 99 (stA (s.land l)) ∧ Keeps (Only g) w w' := by
  have HB := Lib.hid hb
  clear hb
  have d3 : decide ((l : Int) < 0) = false := by simp
  have d4 : decide ((9 : Int) ≤ l) = false := by simp; omega
  have l9 : (l : Int) < 9 := by omega
  go_enter Tryd.func17, Tryd.ntmps17
  go_wp2_with fail
  refine wp_region_rely 11 nowhere [] (by kernel_rfl) (by kernel_rfl) ?_
  iterate 11
    refine wpRely_step (fun K hK => ?_)
    first
    | (refine .inl ?_
       apply Exists.intro
       refine ⟨Any, ?_, hK _ _ _ _ ?_⟩
       · simp only [RelyOp, fillE]
         refine ⟨?_, fun w9 hw9 _ => ?_⟩
         · first | rfl | (go_simp; done)
         obtain ⟨hc9, hf9⟩ := hw9.all
         first
         | (exact relyAt_load_midA 94 _ rfl g (l * 8) rfl (lineA s.now (l * 8)) _ (range_now (HB.out.below hw9.same HB.out.lt) hl) Tryd.underlying94 rfl (infoLineS _ _) ⟨⟨rfl, trivial⟩, Keeps.refl _ _⟩)
         | (go_simp
            first
            | exact ⟨⟨rfl, trivial⟩, Keeps.refl _ _⟩)
       clear hK K
       try simp only [Act.put, List.setIfInBounds_toArray, List.set_cons_zero, List.set_cons_succ])
    | (refine .inr (.inl ⟨?_, hK _ _ _ _ ?_⟩)
       · simp only [fillE]
         first | rfl | (go_simp; done)
       clear hK K
       try simp only [Act.put, List.setIfInBounds_toArray, List.set_cons_zero, List.set_cons_succ])
  refine wpRely_nil ?_
  simp only [fillE]
  intro w9 hw9 _
  obtain ⟨hc9, hf9⟩ := hw9.all
  simp only [List.drop_succ_cons, List.drop_zero]
  have HB9 := Lib.hid (HB.out.below hw9.same HB.out.lt)
  have HK9 : Hid (Keeps (Only g) w w9) := Lib.hid (Keeps.of_same hw9.same)
  clear hw9
  go_wp2_with (refine wpList_store_mid rfl 94 _ _ rfl g (72 + l * 8) (lineA s.now (l * 8)) rfl rfl (there_st HB9.out (by rw [lineA_size]; omega)) (infoLineS _ _) (lineA_one _ _) ?_)
  go_ret
  refine ⟨rfl, ?_, only_sets HK9.out _ _⟩
  rw [← stA_land s hl]
  exact HB9.out.setCells
def sameL (f h : Nat → Int) (o : Nat) : Bool := (List.range 8).all fun i => f (o + i) == h (o + i)
theorem line_eq (f h : Nat → Int) (o : Nat) (w : World) : (Op.equalIn 10000 94 (.agg (lineA f o)) (.agg (lineA h o))).run Tryd.prog w = .ok (sameL f h o) w := by
  refine (run_equalIn_ints (X := lineA f o) (Y := lineA h o) (x := fun i => f (o + i)) (y := fun i => h (o + i)) w 9998 8 Tryd.underlying94 Tryd.underlying31 (by intro w; kernel_rfl) (fun i hi => rowF_get hi) (fun i hi => rowF_get hi)).trans ?_
  congr 1
  rw [Bool.eq_iff_iff]
  simp [sameL]
theorem dirty_eq (s : Sst) (l : Nat) : s.dirty l = !sameL s.now s.good (l * 8) := by
  unfold Sst.dirty sameL
  congr 1
  rw [Bool.eq_iff_iff]
  simp
end Go.Proofs.YtkoflhjnpilchaaDoor
