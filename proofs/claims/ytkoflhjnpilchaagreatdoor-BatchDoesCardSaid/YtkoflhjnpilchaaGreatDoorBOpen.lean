/-
  What batch.Open returns. For every record and ask.
-/
import Derived.Test.YtkoflhjnpilchaaGreatDoorMWord
import Derived.Test.YtkoflhjnpilchaaGreatDoorAsks
import Derived.Test.YtkoflhjnpilchaaGreatDoorMErr
import Derived.Test.YtkoflhjnpilchaaGreatDoorRowB
namespace Go.Proofs.YtkoflhjnpilchaaGreatDoor
set_option linter.unusedSimpArgs false
set_option linter.unusedVariables false
set_option linter.unusedSectionVars false
open Go.RowKit
attribute [local go_sem ↓] Go.wp_at_zero Go.wp_at_succ

theorem bopen_out (C : Array Value) (t g a k v : Int) (w : World) (ho : t < 0 ∨ (0 ≤ t ∧ 4 ≤ t)) :
    Calls Tryz.prog 18 #[.agg C, .agg #[.int .i64 t, .int .i64 g, .int .i64 a, .int .i64 k, .int .i64 v]] w fun e w' => e = .returned (.tuple #[.bool false, .iface 28 (.int .i64 2)]) ∧ Below w.heap.size w w' := by
  rcases ho with ho | ⟨ho1, ho2⟩
  all_goals
    go_enter Tryz.func18, Tryz.ntmps18
    go_wp2
    go_ret2
    exact ⟨rfl, by go_grown⟩
theorem bopen_arg (C : Array Value) (t g a k v : Int) (w : World) (h0 : 0 ≤ t) (h4 : t < 4) (hg : ¬ g = 0 ∧ ¬ g = 1) :
    Calls Tryz.prog 18 #[.agg C, .agg #[.int .i64 t, .int .i64 g, .int .i64 a, .int .i64 k, .int .i64 v]] w fun e w' => e = .returned (.tuple #[.bool false, .iface 28 (.int .i64 1)]) ∧ Below w.heap.size w w' := by
  obtain ⟨g0, g1⟩ := hg
  have d0 : (g != 0) = true := by simpa using g0
  have d1 : (g != 1) = true := by simpa using g1
  go_enter Tryz.func18, Tryz.ntmps18
  go_wp2
  go_ret2
  exact ⟨rfl, by go_grown⟩
set_option maxRecDepth 100000 in
theorem bopen_in (C : Array Value) (z : Nat → Int) (t g a k v : Int) (w : World) (h : U64s C 32 z) (h0 : 0 ≤ t) (h4 : t < 4) (hg : g = 0 ∨ g = 1) :
    Calls Tryz.prog 18 #[.agg C, .agg #[.int .i64 t, .int .i64 g, .int .i64 a, .int .i64 k, .int .i64 v]] w fun e w' => e = .returned (.tuple #[.bool (togN (z 26).toNat t != g), .nilIface]) ∧ Below w.heap.size w w' := by
  have hz2 : (Tryz.prog.info? 24).map (·.size) = some C.size := by rw [h.size]; kernel_rfl
  have HZ := Lib.hid hz2
  have d0 : decide (t < 0) = false := by simpa using h0
  have d1 : decide (4 ≤ t) = false := by simpa using h4
  have htog := fun w => toggle_any C z t w h
  have HT := Lib.hid htog
  clear hz2 htog h
  generalize togN (z 26).toNat t = b at *
  have HBK : Hid (∀ o, Blk ((w.alloc (.cells C 24)).alloc o) w.heap.size 24 C) := fun o => (Blk.new _ _ _).alloc o
  rcases hg with rfl | rfl
  all_goals
    go_enter Tryz.func18, Tryz.ntmps18
    go_wp2
    refine wp_region_rely 8 nowhere [] (by kernel_rfl) (by kernel_rfl) ?_
    iterate 8
      refine wpRely_step (fun K hK => ?_)
      first
      | (refine .inl ?_
         apply Exists.intro
         refine ⟨Any, ?_, hK _ _ _ _ ?_⟩
         · simp only [RelyOp, fillE]
           refine ⟨?_, fun w9 hw9 _ => ?_⟩
           · first | rfl | (go_simp; done)
           obtain ⟨hc9, hf9⟩ := hw9.all
           first
           | (exact relyAt_load_rowB 24 _ rfl w.heap.size rfl 24 C _ ((HBK.out _).below hw9.same (by simp only [World.size_alloc]; omega)) Tryz.underlying24 rfl HZ.out ⟨⟨rfl, trivial⟩, Keeps.refl _ _⟩)
           | (go_simp
              first
              | exact ⟨⟨rfl, trivial⟩, Keeps.refl _ _⟩
              | (go_at_call 35; exact rely_det (HT.out _)))
         clear hK K
         try simp only [Act.put, List.setIfInBounds_toArray, List.set_cons_zero, List.set_cons_succ])
      | (refine .inr (.inl ⟨?_, hK _ _ _ _ ?_⟩)
         · simp only [fillE]
           first | rfl | (go_simp; done)
         clear hK K
         try simp only [Act.put, List.setIfInBounds_toArray, List.set_cons_zero, List.set_cons_succ])
    refine wpRely_nil ?_
    simp only [fillE]
    intro w9 hw9 _
    obtain ⟨hc9, hf9⟩ := hw9.all
    go_wp2
    go_ret2
    exact ⟨rfl, Below.trans (by go_grown) (hw9.same.mono (by simp only [World.size_alloc]; omega))⟩
end Go.Proofs.YtkoflhjnpilchaaGreatDoor
