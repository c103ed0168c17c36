/-
  BatchOpens: kind and argument are right.
-/
import Derived.Test.YtahobohfknnhhaaDoorBoA
namespace Go.Proofs.YtahobohfknnhhaaDoor.lawBatchOpens
set_option linter.unusedSimpArgs false
set_option linter.unusedVariables false
set_option linter.unusedSectionVars false
open Go.RowKit Go.ChangeShapes Go.WideShapes Go.ChangeAt Go.Joins
attribute [local go_sem ↓] Go.wp_at_zero Go.wp_at_succ
set_option linter.unusedSimpArgs false
set_option linter.unusedVariables false

set_option maxRecDepth 100000 in
set_option maxHeartbeats 40000000 in
theorem case_in (C : Array Value) (z : Nat → Int) (x0 x1 x2 x3 x4 : Int) (w : World) (h : U64s C 32 z) (hg : ErrT w) (hwf : ∀ y, y = x0 ∨ y = x1 ∨ y = x2 ∨ y = x3 ∨ y = x4 → (Lit.int .i64 y).wf = true) (h0 : 0 ≤ x0) (h4 : x0 < 4) (hx : x1 = 0 ∨ x1 = 1) (X : Nat) (hX : z 26 = (X : Int)) :
    Calls Tryd.prog 3 #[.agg C, .agg #[.int .i64 x0, .int .i64 x1, .int .i64 x2, .int .i64 x3, .int .i64 x4]] w fun e w' => e = .returned (.bool true) ∧ Below w.heap.size w w' := by
  have hz2 : (Tryd.prog.info? 24).map (·.size) = some C.size := by rw [h.size]; kernel_rfl
  have HZ := Lib.hid hz2
  have HBK : Hid (∀ o, Blk ((w.alloc (.cells C 24)).alloc o) w.heap.size 24 C) := fun o => (Blk.new _ _ _).alloc o
  have HWF := Lib.hid hwf
  have HG := Lib.hid hg
  have hX64 : X < 18446744073709551616 := by have := h.bd 26 (by decide); omega
  have h26 : C[26]? = some (.int .u64 (X : Int)) := by rw [h.get 26 (by decide), hX]
  have hO := fun w => bopen_in C z x0 x1 x2 x3 x4 w h h0 h4 hx
  have hbit := fun w => refBit_any X x0 w hX64
  have htog : togN (z 26).toNat x0 = if bitB X x0 = true then 1 else 0 := by
    rw [hX]
    unfold togN
    simp [h0, h4]
  rw [htog] at hO
  generalize bitB X x0 = bb at hO hbit
  obtain ⟨o, ho⟩ : ∃ o : Bool, o = ((if bb = true then (1 : Int) else 0) != x1) := ⟨_, rfl⟩
  have hO2 : ∀ w : World, Calls Tryd.prog 13 #[.agg C, .agg #[.int .i64 x0, .int .i64 x1, .int .i64 x2, .int .i64 x3, .int .i64 x4]] w fun e w' => e = .returned (.tuple #[.bool o, .nilIface]) ∧ Below w.heap.size w w' := fun w => by rw [ho]; exact hO w
  have HO := Lib.hid hO2
  have HOV := Lib.hid ho
  have HX := Lib.hid hx
  clear hO hO2 ho hx
  have HBIT := Lib.hid hbit
  clear hz2 hwf hg h hbit htog hX hX64
  have d0 : decide (x0 < 0) = false := by simpa using h0
  have d1 : decide (4 ≤ x0) = false := by simpa using h4
  have c26 : Hid (∀ o, ((w.alloc (.cells C 24)).alloc o).cell? ⟨w.heap.size, 26, none⟩ = some (.int .u64 (X : Int))) := fun o => (HBK.out o).cell 26 |>.trans h26
  go_enter Tryd.func3, Tryd.ntmps3
  go_wp2
  refine wp_region_rely 11 nowhere [] (by kernel_rfl) (by kernel_rfl) ?_
  iterate 2
    first | (with_reducible refine wpRely_step (fun K hK => ?_)) | (refine wpRely_step (fun K hK => ?_))
    refine .inl ?_
    apply Exists.intro
    refine ⟨Any, ?_, hK _ _ _ _ ?_⟩
    · simp only [RelyOp, fillE]
      refine ⟨?_, fun w9 hw9 _ => ?_⟩
      · first | rfl | (go_simp; done)
      obtain ⟨hc9, hf9⟩ := hw9.all
      first
      | (exact relyAt_load_rowB 24 _ rfl w.heap.size rfl 24 C _ ((HBK.out _).below hw9.same (by simp only [World.size_alloc]; omega)) Tryd.underlying24 rfl HZ.out ⟨⟨rfl, trivial⟩, Keeps.refl _ _⟩)
      | (go_simp
         exact ⟨⟨rfl, trivial⟩, Keeps.refl _ _⟩)
    clear hK K
    try simp only [Act.put, List.setIfInBounds_toArray, List.set_cons_zero, List.set_cons_succ]
  first | (with_reducible refine wpRely_step (fun K hK => ?_)) | (refine wpRely_step (fun K hK => ?_))
  refine .inr (.inr ⟨IsSl1, Sl1 x0 x1 x2 x3 x4, ⟨_, 0, rfl⟩, ?_, hK _ _ _ _ ?_⟩)
  · simp only [RelyOp, fillE]
    refine ⟨rfl, fun w9 hw9 _ => ?_⟩
    go_simp
    exact ⟨⟨⟨_, rfl⟩, ⟨_, rfl, Blk.new _ _ _⟩⟩, Keeps.of_same ((Below.refl _ _).alloc (Nat.le_refl _) _)⟩
  clear hK K
  first | (with_reducible refine wpRely_step (fun K hK => ?_)) | (refine wpRely_step (fun K hK => ?_))
  refine .inr (.inr ⟨IsSlc, Slc x0 x1 x2 x3 x4, ⟨_, 0, 0, rfl⟩, ?_, hK _ _ _ _ ?_⟩)
  · simp only [RelyOp, fillE]
    rintro _ ⟨g2, rfl⟩
    refine ⟨rfl, fun w9 hw9 hmet0 => ?_⟩
    have hmet := hmet0.2
    clear hmet0
    obtain ⟨w0, k0, k1, g', hv, hblk⟩ := (hmet.1 (by kernel_rfl)).out
    cases hv
    have hbx := hblk.below k1 hblk.lt
    clear hmet
    go_simp
    go_at_call 14
    with_reducible refine (asks1 _ x0 x1 x2 x3 x4 _ hbx HWF.out).mono ?_
    rintro e w' ⟨⟨g3, c3, rfl, hl3⟩, hb3⟩
    exact ⟨_, rfl, ⟨⟨_, _, rfl⟩, ⟨_, _, rfl, hl3⟩⟩, Keeps.of_same hb3⟩
  clear hK K
  first | (with_reducible refine wpRely_step (fun K hK => ?_)) | (refine wpRely_step (fun K hK => ?_))
  refine .inr (.inr ⟨IsPt, Pt x0 x1 x2 x3 x4, ⟨_, 0, rfl⟩, ?_, hK _ _ _ _ ?_⟩)
  · simp only [RelyOp, fillE]
    rintro _ ⟨g3, c3, rfl⟩ _ ⟨g2, rfl⟩
    refine ⟨rfl, fun w9 hw9 hmet0 => ?_⟩
    have hmet := hmet0.2
    clear hmet0
    obtain ⟨w0, k0, k1, g', c', hv, hl⟩ := (hmet.2.1 (by kernel_rfl)).out
    cases hv
    have hl9 := hl.below k1
    clear hmet hl
    go_simp
    exact ⟨⟨⟨_, rfl⟩, ⟨_, rfl, hl9⟩⟩, Keeps.refl _ _⟩
  clear hK K
  first | (with_reducible refine wpRely_step (fun K hK => ?_)) | (refine wpRely_step (fun K hK => ?_))
  refine .inl ⟨.agg #[.int .i64 x0, .int .i64 x1, .int .i64 x2, .int .i64 x3, .int .i64 x4], Any, ?_, hK _ _ _ _ ?_⟩
  · simp only [RelyOp, fillE]
    rintro _ ⟨g4, rfl⟩ _ ⟨g3, c3, rfl⟩ _ ⟨g2, rfl⟩
    refine ⟨rfl, fun w9 hw9 hmet0 => ?_⟩
    have hmet := hmet0.2
    clear hmet0
    obtain ⟨w0, k0, k1, g', hv, hl⟩ := (hmet.2.2.1 (by kernel_rfl)).out
    cases hv
    have hcell9 := (hl.below k1).2
    have e0 := hcell9 0 _ rfl
    have e1 := hcell9 1 _ rfl
    have e2 := hcell9 2 _ rfl
    have e3 := hcell9 3 _ rfl
    have e4 := hcell9 4 _ rfl
    clear hmet hcell9 hl
    go_simp
    exact ⟨⟨rfl, trivial⟩, Keeps.refl _ _⟩
  clear hK K
  try simp only [Act.put, List.setIfInBounds_toArray, List.set_cons_zero, List.set_cons_succ]
  iterate 5
    first | (with_reducible refine wpRely_step (fun K hK => ?_)) | (refine wpRely_step (fun K hK => ?_))
    refine .inl ?_
    apply Exists.intro
    refine ⟨Any, ?_, hK _ _ _ _ ?_⟩
    · simp only [RelyOp, fillE]
      rintro _ ⟨g4, rfl⟩ _ ⟨g3, c3, rfl⟩ _ ⟨g2, rfl⟩
      refine ⟨?_, fun w9 hw9 _ => ?_⟩
      · first | rfl | (go_simp; done)
      go_simp
      first
      | exact ⟨⟨rfl, trivial⟩, Keeps.refl _ _⟩
      | (go_at_call 13; exact rely_det (HO.out _))
    clear hK K
    try simp only [Act.put, List.setIfInBounds_toArray, List.set_cons_zero, List.set_cons_succ]
  first | (with_reducible refine wpRely_nil ?_) | (refine wpRely_nil ?_)
  simp only [fillE]
  rintro _ ⟨g4, rfl⟩ _ ⟨g3, c3, rfl⟩ _ ⟨g2, rfl⟩ w9 hw9 _
  have hB9 : Below w.heap.size w w9 := Below.trans (by go_grown) (hw9.same.mono (by simp only [World.size_alloc]; omega))
  have HG9 := Lib.hid (HG.out.below hB9)
  obtain ⟨hc9, hf9⟩ := hw9.all
  have hz9 := hw9.same.size
  simp only [World.size_alloc] at hz9
  have hlt8 : w.heap.size < w9.heap.size := by omega
  have hlt9 : w.heap.size + 1 < w9.heap.size := by omega
  have q26 : w9.cell? ⟨w.heap.size, 26, none⟩ = some (.int .u64 (X : Int)) := (hw9.same.cell (p := ⟨w.heap.size, 26, none⟩) (by simp only [World.size_alloc]; omega)).trans (c26.out _)
  have hBA : Blk ((w.alloc (.cells C 24)).alloc (.cells #[.int .i64 x0, .int .i64 x1, .int .i64 x2, .int .i64 x3, .int .i64 x4] 28)) (w.heap.size + 1) 28 #[.int .i64 x0, .int .i64 x1, .int .i64 x2, .int .i64 x3, .int .i64 x4] := Blk.newAt _ _ _ (by simp)
  have hBA9 := hBA.below hw9.same hBA.lt
  have q0 := hBA9.cell 0
  have q1 := hBA9.cell 1
  simp only [List.getElem?_toArray, List.getElem?_cons_zero, List.getElem?_cons_succ] at q0 q1
  clear hBA hBA9 hz9 hc9 hf9
  rcases HX.out with hx | hx
  all_goals
    subst hx
    cases bb
  all_goals
    have ho := HOV.out
    simp at ho
    subst ho
    go_wp2
    refine wp_region_rely 15 nowhere [] (by kernel_rfl) (by kernel_rfl) ?_
    iterate 15
      first | (with_reducible refine wpRely_step (fun K hK => ?_)) | (refine wpRely_step (fun K hK => ?_))
      first
      | (refine .inl ?_
         apply Exists.intro
         refine ⟨Any, ?_, hK _ _ _ _ ?_⟩
         · simp only [RelyOp, fillE]
           refine ⟨?_, fun w9 hw9 _ => ?_⟩
           · first | rfl | (go_simp; done)
           obtain ⟨hc9, hf9⟩ := hw9.all
           go_simp
           first
           | exact ⟨⟨rfl, trivial⟩, Keeps.refl _ _⟩
           | (go_at_call 16; exact rely_det (HBIT.out _))
         clear hK K
         try simp only [Act.put, List.setIfInBounds_toArray, List.set_cons_zero, List.set_cons_succ])
      | (refine .inr (.inl ⟨?_, hK _ _ _ _ ?_⟩)
         · simp only [fillE]
           first | rfl | (go_simp; done)
         clear hK K
         try simp only [Act.put, List.setIfInBounds_toArray, List.set_cons_zero, List.set_cons_succ])
    refine wpRely_nil ?_
    simp only [fillE]
    intro w9 hw9 _
    obtain ⟨hc9, hf9⟩ := hw9.all
    go_wp2
    go_ret
    exact ⟨ret_bool (by simp), hB9.trans (hw9.same.mono hB9.size)⟩

end Go.Proofs.YtahobohfknnhhaaDoor.lawBatchOpens
