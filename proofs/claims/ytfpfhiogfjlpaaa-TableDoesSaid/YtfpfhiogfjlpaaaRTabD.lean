/-
  What gristmillref.Table returns. For every table that is one.
-/
import Derived.Test.YtfpfhiogfjlpaaaTabD
import Derived.Test.YtfpfhiogfjlpaaaRPlace
import Derived.Test.YtfpfhiogfjlpaaaEnds
namespace Go.Proofs.Ytfpfhiogfjlpaaa
open Go.RowKit
set_option linter.unusedSimpArgs false
set_option linter.unusedVariables false
attribute [local go_sem ↓] Go.wp_at_zero Go.wp_at_succ

theorem infoRS : (Try.prog.info? 52).map (·.size) = some 16 := by kernel_rfl

set_option maxRecDepth 100000 in
set_option maxHeartbeats 4000000 in
theorem rtab_count (C : Array Value) (z : Nat → Int) (k v : Int) (w : World) (h : I64s C 16 z) :
    Calls Try.prog 45 #[.agg C, .agg #[.int .i64 6, .int .i64 k, .int .i64 v]] w (RetT z 1 (lenT z 8) w) := by
  have H := Lib.hid h
  have hI := h.size
  have HIE : Hid ((Try.prog.info? 52).map (·.size) = some C.size) := by show _ = _; rw [hI, infoRS]
  have HJE : Hid (C.size = 16) := hI
  have h1 := h.one
  clear h hI
  go_enter Try.func45, Try.ntmps45
  go_upto_region 1 with (fail)
  have hL := laid_mk w 52 C 6 k v
  generalize (((w.alloc (.cells C 52)).alloc (.cells #[.int .i64 6, .int .i64 k, .int .i64 v] 23)).alloc (.cells #[.int .i64 0, .int .i64 0, .int .i64 0, .int .i64 0, .int .i64 0, .int .i64 0, .int .i64 0, .int .i64 0, .int .i64 0, .int .i64 0, .int .i64 0, .int .i64 0, .int .i64 0, .int .i64 0, .int .i64 0, .int .i64 0] 52)).alloc (.cells #[.int .i64 0, .int .i64 0] 41) = W at *
  have HLx := Lib.hid hL
  obtain ⟨⟨o0, o1, o2⟩, _, hsz⟩ := hL.ops
  clear hL
  go_wp2
  refine wp_region_rely 4 nowhere [] (by kernel_rfl) (by kernel_rfl) ?_
  iterate 4
    refine wpRely_step (fun K hK => ?_)
    first
    | (refine .inl ?_
       apply Exists.intro
       refine ⟨Any, ?_, hK _ _ _ _ ?_⟩
       · simp only [RelyOp, fillE]
         refine ⟨?_, fun w9 hw9 _ => ?_⟩
         · first | rfl | (go_simp; done)
         obtain ⟨hc9, hf9⟩ := hw9.all
         first
         | (exact relyAt_load_row 52 _ rfl w.heap.size rfl 52 C _ (HLx.out.on hw9.same).tab Try.underlying52 rfl HIE.out ⟨⟨rfl, trivial⟩, Keeps.refl _ _⟩)
         | (go_simp
            first
            | exact ⟨⟨rfl, trivial⟩, Keeps.refl _ _⟩
            | (go_at_call 56; exact rely_det (said_below _ _ _)) | (go_at_call 40; exact rely_det (refLen_any C z _ H.out)))
       clear hK K
       try simp only [Act.put, List.setIfInBounds_toArray, List.set_cons_zero, List.set_cons_succ])
    | (refine .inr (.inl ⟨?_, hK _ _ _ _ ?_⟩)
       · simp only [fillE]
         first | rfl | (go_simp; done)
       clear hK K
       try simp only [Act.put, List.setIfInBounds_toArray, List.set_cons_zero, List.set_cons_succ])
  refine wpRely_nil ?_
  simp only [fillE]
  intro w9 hw9 _
  obtain ⟨hc9, hf9⟩ := hw9.all
  simp only [List.drop_succ_cons, List.drop_zero]
  have hL9 := HLx.out.on hw9.same
  have HL9 := Lib.hid hL9
  obtain ⟨⟨c0, c1⟩, f0, f1⟩ := hL9.row C
  obtain ⟨gA, gB, gC⟩ := hL9.fin C 1 (lenT z 8)
  have GA := Lib.hid gA
  have GB := Lib.hid gB
  have GC := Lib.hid gC
  clear gA gB gC hL9
  go_wp2_with (refine wpList_store_row rfl 52 _ _ rfl (w.heap.size + 2) C rfl rfl 52 #[.int .i64 0, .int .i64 0, .int .i64 0, .int .i64 0, .int .i64 0, .int .i64 0, .int .i64 0, .int .i64 0, .int .i64 0, .int .i64 0, .int .i64 0, .int .i64 0, .int .i64 0, .int .i64 0, .int .i64 0, .int .i64 0] ?_ ?_ ?_ h1 ?_; (exact HL9.out.res); (exact HIE.out); (rw [HJE.out]; rfl))
  exact bodyPost_ret (results_two_rows Try.results45 _ _ (w.heap.size + 2) (w.heap.size + 3) 52 41 C #[.int .i64 1, .int .i64 (lenT z 8)] _ _ rfl rfl GA.out GB.out Try.underlying52 rfl HIE.out Try.underlying41 rfl infoA) rfl ⟨C, H.out, rfl, GC.out⟩

set_option maxRecDepth 100000 in
set_option maxHeartbeats 4000000 in
theorem rtab_wrong (C : Array Value) (z : Nat → Int) (a k v : Int) (w : World) (h : I64s C 16 z) (h6 : a ≠ 6) (hb : ¬ (a = 1 ∨ a = 2 ∨ a = 5) ∨ k < 1 ∨ 1000 < k) :
    Calls Try.prog 45 #[.agg C, .agg #[.int .i64 a, .int .i64 k, .int .i64 v]] w (RetT z 5 0 w) := by
  have H := Lib.hid h
  have hI := h.size
  have HIE : Hid ((Try.prog.info? 52).map (·.size) = some C.size) := by show _ = _; rw [hI, infoRS]
  have HJE : Hid (C.size = 16) := hI
  have h1 := h.one
  clear h hI
  have d6 : (a == 6) = false := by simpa using h6
  have HB := Lib.hid hb
  clear hb h6
  go_enter Try.func45, Try.ntmps45
  go_upto_region 1 with (fail)
  have hL := laid_mk w 52 C a k v
  generalize (((w.alloc (.cells C 52)).alloc (.cells #[.int .i64 a, .int .i64 k, .int .i64 v] 23)).alloc (.cells #[.int .i64 0, .int .i64 0, .int .i64 0, .int .i64 0, .int .i64 0, .int .i64 0, .int .i64 0, .int .i64 0, .int .i64 0, .int .i64 0, .int .i64 0, .int .i64 0, .int .i64 0, .int .i64 0, .int .i64 0, .int .i64 0] 52)).alloc (.cells #[.int .i64 0, .int .i64 0] 41) = W at *
  have HLx := Lib.hid hL
  obtain ⟨⟨o0, o1, o2⟩, _, hsz⟩ := hL.ops
  clear hL
  go_wp2_with (first
    | (go_at_call 53; refine (within_any _ _ _ _).mono ?_; rintro e w' ⟨rfl, rfl⟩)
    | (refine wpList_load_row rfl 52 _ rfl w.heap.size rfl 52 C (0, 0) _ ?_ Try.underlying52 rfl ?_ ?_; (exact HLx.out.tab); (exact HIE.out))
    | (go_at_call 65; exfalso; have hh := HB.out; simp only [withinB, decide_eq_true_eq, decide_eq_false_iff_not, Bool.not_eq_true', Bool.not_eq_false', bne_iff_ne, bne_eq_false_iff_eq, beq_iff_eq, beq_eq_false_iff_ne, ne_eq] at *; omega))
  all_goals
    refine wp_region_rely 2 nowhere [] (by kernel_rfl) (by kernel_rfl) ?_
    iterate 2
      refine wpRely_step (fun K hK => ?_)
      first
      | (refine .inl ?_
         apply Exists.intro
         refine ⟨Any, ?_, hK _ _ _ _ ?_⟩
         · simp only [RelyOp, fillE]
           refine ⟨?_, fun w9 hw9 _ => ?_⟩
           · first | rfl | (go_simp; done)
           obtain ⟨hc9, hf9⟩ := hw9.all
           first
           | (exact relyAt_load_row 52 _ rfl w.heap.size rfl 52 C _ (HLx.out.on hw9.same).tab Try.underlying52 rfl HIE.out ⟨⟨rfl, trivial⟩, Keeps.refl _ _⟩)
           | (go_simp
              first
              | exact ⟨⟨rfl, trivial⟩, Keeps.refl _ _⟩
              | (go_at_call 56; exact rely_det (said_below _ _ _)))
         clear hK K
         try simp only [Act.put, List.setIfInBounds_toArray, List.set_cons_zero, List.set_cons_succ])
      | (refine .inr (.inl ⟨?_, hK _ _ _ _ ?_⟩)
         · simp only [fillE]
           first | rfl | (go_simp; done)
         clear hK K
         try simp only [Act.put, List.setIfInBounds_toArray, List.set_cons_zero, List.set_cons_succ])
    refine wpRely_nil ?_
    simp only [fillE]
    intro w9 hw9 _
    obtain ⟨hc9, hf9⟩ := hw9.all
    simp only [List.drop_succ_cons, List.drop_zero]
    have hL9 := HLx.out.on hw9.same
    have HL9 := Lib.hid hL9
    obtain ⟨⟨c0, c1⟩, f0, f1⟩ := hL9.row C
    obtain ⟨gA, gB, gC⟩ := hL9.fin C 5 0
    have GA := Lib.hid gA
    have GB := Lib.hid gB
    have GC := Lib.hid gC
    clear gA gB gC hL9
    go_wp2_with (refine wpList_store_row rfl 52 _ _ rfl (w.heap.size + 2) C rfl rfl 52 #[.int .i64 0, .int .i64 0, .int .i64 0, .int .i64 0, .int .i64 0, .int .i64 0, .int .i64 0, .int .i64 0, .int .i64 0, .int .i64 0, .int .i64 0, .int .i64 0, .int .i64 0, .int .i64 0, .int .i64 0, .int .i64 0] ?_ ?_ ?_ h1 ?_; (exact HL9.out.res); (exact HIE.out); (rw [HJE.out]; rfl))
    exact bodyPost_ret (results_two_rows Try.results45 _ _ (w.heap.size + 2) (w.heap.size + 3) 52 41 C #[.int .i64 5, .int .i64 0] _ _ rfl rfl GA.out GB.out Try.underlying52 rfl HIE.out Try.underlying41 rfl infoA) rfl ⟨C, H.out, rfl, GC.out⟩

set_option maxRecDepth 100000 in
set_option maxHeartbeats 4000000 in
theorem rtab_absent2 (C D : Array Value) (z : Nat → Int) (key i : Nat) (v y : Int) (w : World) (h : I64s C 16 z) (hk0 : 1 ≤ key) (hk1 : key ≤ 1000) (hi8 : i < 8) (hat : atT z key = (i : Int)) (hy : z (2 * i) = y) (hfr : (y == 0) = true)  :
    Calls Try.prog 45 #[.agg C, .agg #[.int .i64 2, .int .i64 (key : Int), .int .i64 v]] w (RetT z 4 0 w) := by
  have H := Lib.hid h
  have hI := h.size
  have HIE : Hid ((Try.prog.info? 52).map (·.size) = some C.size) := by show _ = _; rw [hI, infoRS]
  have HJE : Hid (C.size = 16) := hI
  have h1 := h.one
  clear h hI
  have HAT := Lib.hid hat
  have HY := Lib.hid hy
  have hi8' : (i : Int) < 8 := by omega
  have hq1 : (1 : Int) ≤ key := by omega
  have hq2 : (key : Int) ≤ 1000 := by omega
  have hwi : withinB 2 1 6 = true := by decide
  have hwk : withinB (key : Int) 1 1000 = true := by simp [withinB]; omega
  clear hat hy
  go_enter Try.func45, Try.ntmps45
  go_upto_region 1 with (fail)
  have hL := laid_mk w 52 C 2 (key : Int) v
  generalize (((w.alloc (.cells C 52)).alloc (.cells #[.int .i64 2, .int .i64 (key : Int), .int .i64 v] 23)).alloc (.cells #[.int .i64 0, .int .i64 0, .int .i64 0, .int .i64 0, .int .i64 0, .int .i64 0, .int .i64 0, .int .i64 0, .int .i64 0, .int .i64 0, .int .i64 0, .int .i64 0, .int .i64 0, .int .i64 0, .int .i64 0, .int .i64 0] 52)).alloc (.cells #[.int .i64 0, .int .i64 0] 41) = W at *
  have HLx := Lib.hid hL
  obtain ⟨⟨o0, o1, o2⟩, _, hsz⟩ := hL.ops
  clear hL
  go_wp2_with (first
    | (go_at_call 53; refine (within_any _ _ _ _).mono ?_; rintro e w' ⟨rfl, rfl⟩)
    | (refine wpList_load_row rfl 52 _ rfl w.heap.size rfl 52 C (0, 0) _ ?_ Try.underlying52 rfl ?_ ?_; (exact HLx.out.tab); (exact HIE.out))
    | (go_at_call 65; refine (place_any C z key _ H.out hk1).mono ?_; rintro e w1 ⟨rfl, hb1⟩; rw [HAT.out]; have hL1 := HLx.out.on hb1; have HL1 := Lib.hid hL1; obtain ⟨⟨p0, p1, p2⟩, _, hsz1⟩ := hL1.ops; have y0 : w1.cell? ⟨w.heap.size, i * 2, none⟩ = some (.int .i64 y) := (by rw [hL1.tab.cell, Nat.mul_comm, H.out.get _ (by omega), HY.out]); have y1 : w1.cell? ⟨w.heap.size, i * 2 + 1, none⟩ = some (.int .i64 (z (2 * i + 1))) := (by rw [hL1.tab.cell, Nat.mul_comm, H.out.get _ (by omega)]); have f0 : w1.frozen? ⟨w.heap.size, i * 2, none⟩ = false := hL1.tab.frozen _; have f1 : w1.frozen? ⟨w.heap.size, i * 2 + 1, none⟩ = false := hL1.tab.frozen _; have hls : w.heap.size < w1.heap.size := (by omega); clear hL1 o0 o1 o2 hsz)
)
  refine wp_region_rely 2 nowhere [] (by kernel_rfl) (by kernel_rfl) ?_
  iterate 2
    refine wpRely_step (fun K hK => ?_)
    first
    | (refine .inl ?_
       apply Exists.intro
       refine ⟨Any, ?_, hK _ _ _ _ ?_⟩
       · simp only [RelyOp, fillE]
         refine ⟨?_, fun w9 hw9 _ => ?_⟩
         · first | rfl | (go_simp; done)
         obtain ⟨hc9, hf9⟩ := hw9.all
         first
         | (exact relyAt_load_row 52 _ rfl w.heap.size rfl 52 C _ (HL1.out.on hw9.same).tab Try.underlying52 rfl HIE.out ⟨⟨rfl, trivial⟩, Keeps.refl _ _⟩)
         | (go_simp
            first
            | exact ⟨⟨rfl, trivial⟩, Keeps.refl _ _⟩
            | (go_at_call 56; exact rely_det (said_below _ _ _)))
       clear hK K
       try simp only [Act.put, List.setIfInBounds_toArray, List.set_cons_zero, List.set_cons_succ])
    | (refine .inr (.inl ⟨?_, hK _ _ _ _ ?_⟩)
       · simp only [fillE]
         first | rfl | (go_simp; done)
       clear hK K
       try simp only [Act.put, List.setIfInBounds_toArray, List.set_cons_zero, List.set_cons_succ])
  refine wpRely_nil ?_
  simp only [fillE]
  intro w9 hw9 _
  obtain ⟨hc9, hf9⟩ := hw9.all
  simp only [List.drop_succ_cons, List.drop_zero]
  have hL9 := HL1.out.on hw9.same
  have HL9 := Lib.hid hL9
  obtain ⟨⟨c0, c1⟩, f0, f1⟩ := hL9.row C
  obtain ⟨gA, gB, gC⟩ := hL9.fin C 4 0
  have GA := Lib.hid gA
  have GB := Lib.hid gB
  have GC := Lib.hid gC
  clear gA gB gC hL9
  go_wp2_with (refine wpList_store_row rfl 52 _ _ rfl (w.heap.size + 2) C rfl rfl 52 #[.int .i64 0, .int .i64 0, .int .i64 0, .int .i64 0, .int .i64 0, .int .i64 0, .int .i64 0, .int .i64 0, .int .i64 0, .int .i64 0, .int .i64 0, .int .i64 0, .int .i64 0, .int .i64 0, .int .i64 0, .int .i64 0] ?_ ?_ ?_ h1 ?_; (exact HL9.out.res); (exact HIE.out); (rw [HJE.out]; rfl))
  exact bodyPost_ret (results_two_rows Try.results45 _ _ (w.heap.size + 2) (w.heap.size + 3) 52 41 C #[.int .i64 4, .int .i64 0] _ _ rfl rfl GA.out GB.out Try.underlying52 rfl HIE.out Try.underlying41 rfl infoA) rfl ⟨C, H.out, rfl, GC.out⟩

set_option maxRecDepth 100000 in
set_option maxHeartbeats 4000000 in
theorem rtab_absent5 (C D : Array Value) (z : Nat → Int) (key i : Nat) (v y : Int) (w : World) (h : I64s C 16 z) (hk0 : 1 ≤ key) (hk1 : key ≤ 1000) (hi8 : i < 8) (hat : atT z key = (i : Int)) (hy : z (2 * i) = y) (hfr : (y == 0) = true)  :
    Calls Try.prog 45 #[.agg C, .agg #[.int .i64 5, .int .i64 (key : Int), .int .i64 v]] w (RetT z 4 0 w) := by
  have H := Lib.hid h
  have hI := h.size
  have HIE : Hid ((Try.prog.info? 52).map (·.size) = some C.size) := by show _ = _; rw [hI, infoRS]
  have HJE : Hid (C.size = 16) := hI
  have h1 := h.one
  clear h hI
  have HAT := Lib.hid hat
  have HY := Lib.hid hy
  have hi8' : (i : Int) < 8 := by omega
  have hq1 : (1 : Int) ≤ key := by omega
  have hq2 : (key : Int) ≤ 1000 := by omega
  have hwi : withinB 5 1 6 = true := by decide
  have hwk : withinB (key : Int) 1 1000 = true := by simp [withinB]; omega
  clear hat hy
  go_enter Try.func45, Try.ntmps45
  go_upto_region 1 with (fail)
  have hL := laid_mk w 52 C 5 (key : Int) v
  generalize (((w.alloc (.cells C 52)).alloc (.cells #[.int .i64 5, .int .i64 (key : Int), .int .i64 v] 23)).alloc (.cells #[.int .i64 0, .int .i64 0, .int .i64 0, .int .i64 0, .int .i64 0, .int .i64 0, .int .i64 0, .int .i64 0, .int .i64 0, .int .i64 0, .int .i64 0, .int .i64 0, .int .i64 0, .int .i64 0, .int .i64 0, .int .i64 0] 52)).alloc (.cells #[.int .i64 0, .int .i64 0] 41) = W at *
  have HLx := Lib.hid hL
  obtain ⟨⟨o0, o1, o2⟩, _, hsz⟩ := hL.ops
  clear hL
  go_wp2_with (first
    | (go_at_call 53; refine (within_any _ _ _ _).mono ?_; rintro e w' ⟨rfl, rfl⟩)
    | (refine wpList_load_row rfl 52 _ rfl w.heap.size rfl 52 C (0, 0) _ ?_ Try.underlying52 rfl ?_ ?_; (exact HLx.out.tab); (exact HIE.out))
    | (go_at_call 65; refine (place_any C z key _ H.out hk1).mono ?_; rintro e w1 ⟨rfl, hb1⟩; rw [HAT.out]; have hL1 := HLx.out.on hb1; have HL1 := Lib.hid hL1; obtain ⟨⟨p0, p1, p2⟩, _, hsz1⟩ := hL1.ops; have y0 : w1.cell? ⟨w.heap.size, i * 2, none⟩ = some (.int .i64 y) := (by rw [hL1.tab.cell, Nat.mul_comm, H.out.get _ (by omega), HY.out]); have y1 : w1.cell? ⟨w.heap.size, i * 2 + 1, none⟩ = some (.int .i64 (z (2 * i + 1))) := (by rw [hL1.tab.cell, Nat.mul_comm, H.out.get _ (by omega)]); have f0 : w1.frozen? ⟨w.heap.size, i * 2, none⟩ = false := hL1.tab.frozen _; have f1 : w1.frozen? ⟨w.heap.size, i * 2 + 1, none⟩ = false := hL1.tab.frozen _; have hls : w.heap.size < w1.heap.size := (by omega); clear hL1 o0 o1 o2 hsz)
)
  refine wp_region_rely 2 nowhere [] (by kernel_rfl) (by kernel_rfl) ?_
  iterate 2
    refine wpRely_step (fun K hK => ?_)
    first
    | (refine .inl ?_
       apply Exists.intro
       refine ⟨Any, ?_, hK _ _ _ _ ?_⟩
       · simp only [RelyOp, fillE]
         refine ⟨?_, fun w9 hw9 _ => ?_⟩
         · first | rfl | (go_simp; done)
         obtain ⟨hc9, hf9⟩ := hw9.all
         first
         | (exact relyAt_load_row 52 _ rfl w.heap.size rfl 52 C _ (HL1.out.on hw9.same).tab Try.underlying52 rfl HIE.out ⟨⟨rfl, trivial⟩, Keeps.refl _ _⟩)
         | (go_simp
            first
            | exact ⟨⟨rfl, trivial⟩, Keeps.refl _ _⟩
            | (go_at_call 56; exact rely_det (said_below _ _ _)))
       clear hK K
       try simp only [Act.put, List.setIfInBounds_toArray, List.set_cons_zero, List.set_cons_succ])
    | (refine .inr (.inl ⟨?_, hK _ _ _ _ ?_⟩)
       · simp only [fillE]
         first | rfl | (go_simp; done)
       clear hK K
       try simp only [Act.put, List.setIfInBounds_toArray, List.set_cons_zero, List.set_cons_succ])
  refine wpRely_nil ?_
  simp only [fillE]
  intro w9 hw9 _
  obtain ⟨hc9, hf9⟩ := hw9.all
  simp only [List.drop_succ_cons, List.drop_zero]
  have hL9 := HL1.out.on hw9.same
  have HL9 := Lib.hid hL9
  obtain ⟨⟨c0, c1⟩, f0, f1⟩ := hL9.row C
  obtain ⟨gA, gB, gC⟩ := hL9.fin C 4 0
  have GA := Lib.hid gA
  have GB := Lib.hid gB
  have GC := Lib.hid gC
  clear gA gB gC hL9
  go_wp2_with (refine wpList_store_row rfl 52 _ _ rfl (w.heap.size + 2) C rfl rfl 52 #[.int .i64 0, .int .i64 0, .int .i64 0, .int .i64 0, .int .i64 0, .int .i64 0, .int .i64 0, .int .i64 0, .int .i64 0, .int .i64 0, .int .i64 0, .int .i64 0, .int .i64 0, .int .i64 0, .int .i64 0, .int .i64 0] ?_ ?_ ?_ h1 ?_; (exact HL9.out.res); (exact HIE.out); (rw [HJE.out]; rfl))
  exact bodyPost_ret (results_two_rows Try.results45 _ _ (w.heap.size + 2) (w.heap.size + 3) 52 41 C #[.int .i64 4, .int .i64 0] _ _ rfl rfl GA.out GB.out Try.underlying52 rfl HIE.out Try.underlying41 rfl infoA) rfl ⟨C, H.out, rfl, GC.out⟩

set_option maxRecDepth 100000 in
set_option maxHeartbeats 4000000 in
theorem rtab_peek (C D : Array Value) (z : Nat → Int) (key i : Nat) (v y : Int) (w : World) (h : I64s C 16 z) (hk0 : 1 ≤ key) (hk1 : key ≤ 1000) (hi8 : i < 8) (hat : atT z key = (i : Int)) (hy : z (2 * i) = y) (hfr : (y == 0) = false)  :
    Calls Try.prog 45 #[.agg C, .agg #[.int .i64 5, .int .i64 (key : Int), .int .i64 v]] w (RetT z 1 (z (2 * i + 1)) w) := by
  have H := Lib.hid h
  have hI := h.size
  have HIE : Hid ((Try.prog.info? 52).map (·.size) = some C.size) := by show _ = _; rw [hI, infoRS]
  have HJE : Hid (C.size = 16) := hI
  have h1 := h.one
  clear h hI
  have HAT := Lib.hid hat
  have HY := Lib.hid hy
  have hi8' : (i : Int) < 8 := by omega
  have hq1 : (1 : Int) ≤ key := by omega
  have hq2 : (key : Int) ≤ 1000 := by omega
  have hwi : withinB 5 1 6 = true := by decide
  have hwk : withinB (key : Int) 1 1000 = true := by simp [withinB]; omega
  clear hat hy
  go_enter Try.func45, Try.ntmps45
  go_upto_region 1 with (fail)
  have hL := laid_mk w 52 C 5 (key : Int) v
  generalize (((w.alloc (.cells C 52)).alloc (.cells #[.int .i64 5, .int .i64 (key : Int), .int .i64 v] 23)).alloc (.cells #[.int .i64 0, .int .i64 0, .int .i64 0, .int .i64 0, .int .i64 0, .int .i64 0, .int .i64 0, .int .i64 0, .int .i64 0, .int .i64 0, .int .i64 0, .int .i64 0, .int .i64 0, .int .i64 0, .int .i64 0, .int .i64 0] 52)).alloc (.cells #[.int .i64 0, .int .i64 0] 41) = W at *
  have HLx := Lib.hid hL
  obtain ⟨⟨o0, o1, o2⟩, _, hsz⟩ := hL.ops
  clear hL
  go_wp2_with (first
    | (go_at_call 53; refine (within_any _ _ _ _).mono ?_; rintro e w' ⟨rfl, rfl⟩)
    | (refine wpList_load_row rfl 52 _ rfl w.heap.size rfl 52 C (0, 0) _ ?_ Try.underlying52 rfl ?_ ?_; (exact HLx.out.tab); (exact HIE.out))
    | (go_at_call 65; refine (place_any C z key _ H.out hk1).mono ?_; rintro e w1 ⟨rfl, hb1⟩; rw [HAT.out]; have hL1 := HLx.out.on hb1; have HL1 := Lib.hid hL1; obtain ⟨⟨p0, p1, p2⟩, _, hsz1⟩ := hL1.ops; have y0 : w1.cell? ⟨w.heap.size, i * 2, none⟩ = some (.int .i64 y) := (by rw [hL1.tab.cell, Nat.mul_comm, H.out.get _ (by omega), HY.out]); have y1 : w1.cell? ⟨w.heap.size, i * 2 + 1, none⟩ = some (.int .i64 (z (2 * i + 1))) := (by rw [hL1.tab.cell, Nat.mul_comm, H.out.get _ (by omega)]); have f0 : w1.frozen? ⟨w.heap.size, i * 2, none⟩ = false := hL1.tab.frozen _; have f1 : w1.frozen? ⟨w.heap.size, i * 2 + 1, none⟩ = false := hL1.tab.frozen _; have hls : w.heap.size < w1.heap.size := (by omega); clear hL1 o0 o1 o2 hsz)
)
  refine wp_region_rely 3 nowhere [] (by kernel_rfl) (by kernel_rfl) ?_
  iterate 3
    refine wpRely_step (fun K hK => ?_)
    first
    | (refine .inl ?_
       apply Exists.intro
       refine ⟨Any, ?_, hK _ _ _ _ ?_⟩
       · simp only [RelyOp, fillE]
         refine ⟨?_, fun w9 hw9 _ => ?_⟩
         · first | rfl | (go_simp; done)
         obtain ⟨hc9, hf9⟩ := hw9.all
         first
         | (exact relyAt_load_row 52 _ rfl w.heap.size rfl 52 C _ (HL1.out.on hw9.same).tab Try.underlying52 rfl HIE.out ⟨⟨rfl, trivial⟩, Keeps.refl _ _⟩)
         | (go_simp
            first
            | exact ⟨⟨rfl, trivial⟩, Keeps.refl _ _⟩
            | (go_at_call 56; exact rely_det (said_below _ _ _)))
       clear hK K
       try simp only [Act.put, List.setIfInBounds_toArray, List.set_cons_zero, List.set_cons_succ])
    | (refine .inr (.inl ⟨?_, hK _ _ _ _ ?_⟩)
       · simp only [fillE]
         first | rfl | (go_simp; done)
       clear hK K
       try simp only [Act.put, List.setIfInBounds_toArray, List.set_cons_zero, List.set_cons_succ])
  refine wpRely_nil ?_
  simp only [fillE]
  intro w9 hw9 _
  obtain ⟨hc9, hf9⟩ := hw9.all
  simp only [List.drop_succ_cons, List.drop_zero]
  have hL9 := HL1.out.on hw9.same
  have HL9 := Lib.hid hL9
  obtain ⟨⟨c0, c1⟩, f0, f1⟩ := hL9.row C
  obtain ⟨gA, gB, gC⟩ := hL9.fin C 1 (z (2 * i + 1))
  have GA := Lib.hid gA
  have GB := Lib.hid gB
  have GC := Lib.hid gC
  clear gA gB gC hL9
  go_wp2_with (refine wpList_store_row rfl 52 _ _ rfl (w.heap.size + 2) C rfl rfl 52 #[.int .i64 0, .int .i64 0, .int .i64 0, .int .i64 0, .int .i64 0, .int .i64 0, .int .i64 0, .int .i64 0, .int .i64 0, .int .i64 0, .int .i64 0, .int .i64 0, .int .i64 0, .int .i64 0, .int .i64 0, .int .i64 0] ?_ ?_ ?_ h1 ?_; (exact HL9.out.res); (exact HIE.out); (rw [HJE.out]; rfl))
  exact bodyPost_ret (results_two_rows Try.results45 _ _ (w.heap.size + 2) (w.heap.size + 3) 52 41 C #[.int .i64 1, .int .i64 (z (2 * i + 1))] _ _ rfl rfl GA.out GB.out Try.underlying52 rfl HIE.out Try.underlying41 rfl infoA) rfl ⟨C, H.out, rfl, GC.out⟩

set_option maxRecDepth 100000 in
set_option maxHeartbeats 4000000 in
theorem rtab_full (C D : Array Value) (z : Nat → Int) (key i : Nat) (v y : Int) (w : World) (h : I64s C 16 z) (hk0 : 1 ≤ key) (hk1 : key ≤ 1000) (hi8 : i < 8) (hat : atT z key = (i : Int)) (hy : z (2 * i) = y) (hfr : (y == 0) = true) (l : Int) (hl : lenT z 8 = l) (hl6 : (l == 6) = true) :
    Calls Try.prog 45 #[.agg C, .agg #[.int .i64 1, .int .i64 (key : Int), .int .i64 v]] w (RetT z 3 0 w) := by
  have H := Lib.hid h
  have hI := h.size
  have HIE : Hid ((Try.prog.info? 52).map (·.size) = some C.size) := by show _ = _; rw [hI, infoRS]
  have HJE : Hid (C.size = 16) := hI
  have h1 := h.one
  clear h hI
  have HAT := Lib.hid hat
  have HY := Lib.hid hy
  have hi8' : (i : Int) < 8 := by omega
  have hq1 : (1 : Int) ≤ key := by omega
  have hq2 : (key : Int) ≤ 1000 := by omega
  have hwi : withinB 1 1 6 = true := by decide
  have hwk : withinB (key : Int) 1 1000 = true := by simp [withinB]; omega
  clear hat hy
  have HLEN := Lib.hid hl
  clear hl
  go_enter Try.func45, Try.ntmps45
  go_upto_region 1 with (fail)
  have hL := laid_mk w 52 C 1 (key : Int) v
  generalize (((w.alloc (.cells C 52)).alloc (.cells #[.int .i64 1, .int .i64 (key : Int), .int .i64 v] 23)).alloc (.cells #[.int .i64 0, .int .i64 0, .int .i64 0, .int .i64 0, .int .i64 0, .int .i64 0, .int .i64 0, .int .i64 0, .int .i64 0, .int .i64 0, .int .i64 0, .int .i64 0, .int .i64 0, .int .i64 0, .int .i64 0, .int .i64 0] 52)).alloc (.cells #[.int .i64 0, .int .i64 0] 41) = W at *
  have HLx := Lib.hid hL
  obtain ⟨⟨o0, o1, o2⟩, _, hsz⟩ := hL.ops
  clear hL
  go_wp2_with (first
    | (go_at_call 53; refine (within_any _ _ _ _).mono ?_; rintro e w' ⟨rfl, rfl⟩)
    | (refine wpList_load_row rfl 52 _ rfl w.heap.size rfl 52 C (0, 0) _ ?_ Try.underlying52 rfl ?_ ?_; (exact HLx.out.tab); (exact HIE.out))
    | (go_at_call 65; refine (place_any C z key _ H.out hk1).mono ?_; rintro e w1 ⟨rfl, hb1⟩; rw [HAT.out]; have hL1 := HLx.out.on hb1; have HL1 := Lib.hid hL1; obtain ⟨⟨p0, p1, p2⟩, _, hsz1⟩ := hL1.ops; have y0 : w1.cell? ⟨w.heap.size, i * 2, none⟩ = some (.int .i64 y) := (by rw [hL1.tab.cell, Nat.mul_comm, H.out.get _ (by omega), HY.out]); have y1 : w1.cell? ⟨w.heap.size, i * 2 + 1, none⟩ = some (.int .i64 (z (2 * i + 1))) := (by rw [hL1.tab.cell, Nat.mul_comm, H.out.get _ (by omega)]); have f0 : w1.frozen? ⟨w.heap.size, i * 2, none⟩ = false := hL1.tab.frozen _; have f1 : w1.frozen? ⟨w.heap.size, i * 2 + 1, none⟩ = false := hL1.tab.frozen _; have hls : w.heap.size < w1.heap.size := (by omega); clear hL1 o0 o1 o2 hsz)
    | (refine wpList_load_row_g ?_ 52 _ rfl w.heap.size rfl 52 C (0, 0) _ ?_ Try.underlying52 rfl ?_ ?_; (first | rfl | (go_simp; done)); (exact HL1.out.tab); (exact HIE.out))
    | (go_at_call 40; refine (refLen_any C z _ H.out).mono ?_; rintro e w3 ⟨rfl, hb3⟩; rw [HLEN.out]; have hL3 := HL1.out.on hb3; have HL3 := Lib.hid hL3; obtain ⟨⟨q0, q1, q2⟩, _, hsz3⟩ := hL3.ops; have x0 : w3.cell? ⟨w.heap.size, i * 2, none⟩ = some (.int .i64 y) := (by rw [hL3.tab.cell, Nat.mul_comm, H.out.get _ (by omega), HY.out]); have x1 : w3.cell? ⟨w.heap.size, i * 2 + 1, none⟩ = some (.int .i64 (z (2 * i + 1))) := (by rw [hL3.tab.cell, Nat.mul_comm, H.out.get _ (by omega)]); have g0 : w3.frozen? ⟨w.heap.size, i * 2, none⟩ = false := hL3.tab.frozen _; have g1 : w3.frozen? ⟨w.heap.size, i * 2 + 1, none⟩ = false := hL3.tab.frozen _; have hls3 : w.heap.size < w3.heap.size := (by omega); clear hL3))
  refine wp_region_rely 2 nowhere [] (by kernel_rfl) (by kernel_rfl) ?_
  iterate 2
    refine wpRely_step (fun K hK => ?_)
    first
    | (refine .inl ?_
       apply Exists.intro
       refine ⟨Any, ?_, hK _ _ _ _ ?_⟩
       · simp only [RelyOp, fillE]
         refine ⟨?_, fun w9 hw9 _ => ?_⟩
         · first | rfl | (go_simp; done)
         obtain ⟨hc9, hf9⟩ := hw9.all
         first
         | (exact relyAt_load_row 52 _ rfl w.heap.size rfl 52 C _ (HL3.out.on hw9.same).tab Try.underlying52 rfl HIE.out ⟨⟨rfl, trivial⟩, Keeps.refl _ _⟩)
         | (go_simp
            first
            | exact ⟨⟨rfl, trivial⟩, Keeps.refl _ _⟩
            | (go_at_call 56; exact rely_det (said_below _ _ _)))
       clear hK K
       try simp only [Act.put, List.setIfInBounds_toArray, List.set_cons_zero, List.set_cons_succ])
    | (refine .inr (.inl ⟨?_, hK _ _ _ _ ?_⟩)
       · simp only [fillE]
         first | rfl | (go_simp; done)
       clear hK K
       try simp only [Act.put, List.setIfInBounds_toArray, List.set_cons_zero, List.set_cons_succ])
  refine wpRely_nil ?_
  simp only [fillE]
  intro w9 hw9 _
  obtain ⟨hc9, hf9⟩ := hw9.all
  simp only [List.drop_succ_cons, List.drop_zero]
  have hL9 := HL3.out.on hw9.same
  have HL9 := Lib.hid hL9
  obtain ⟨⟨c0, c1⟩, f0, f1⟩ := hL9.row C
  obtain ⟨gA, gB, gC⟩ := hL9.fin C 3 0
  have GA := Lib.hid gA
  have GB := Lib.hid gB
  have GC := Lib.hid gC
  clear gA gB gC hL9
  go_wp2_with (refine wpList_store_row rfl 52 _ _ rfl (w.heap.size + 2) C rfl rfl 52 #[.int .i64 0, .int .i64 0, .int .i64 0, .int .i64 0, .int .i64 0, .int .i64 0, .int .i64 0, .int .i64 0, .int .i64 0, .int .i64 0, .int .i64 0, .int .i64 0, .int .i64 0, .int .i64 0, .int .i64 0, .int .i64 0] ?_ ?_ ?_ h1 ?_; (exact HL9.out.res); (exact HIE.out); (rw [HJE.out]; rfl))
  exact bodyPost_ret (results_two_rows Try.results45 _ _ (w.heap.size + 2) (w.heap.size + 3) 52 41 C #[.int .i64 3, .int .i64 0] _ _ rfl rfl GA.out GB.out Try.underlying52 rfl HIE.out Try.underlying41 rfl infoA) rfl ⟨C, H.out, rfl, GC.out⟩

set_option maxRecDepth 100000 in
set_option maxHeartbeats 4000000 in
theorem rtab_new (C D : Array Value) (z : Nat → Int) (key i : Nat) (v y : Int) (w : World) (h : I64s C 16 z) (hk0 : 1 ≤ key) (hk1 : key ≤ 1000) (hi8 : i < 8) (hat : atT z key = (i : Int)) (hy : z (2 * i) = y) (hfr : (y == 0) = true) (l : Int) (hl : lenT z 8 = l) (hl6 : (l == 6) = false) (hv : -9223372036854775808 ≤ v ∧ v ≤ 9223372036854775807) :
    Calls Try.prog 45 #[.agg C, .agg #[.int .i64 1, .int .i64 (key : Int), .int .i64 v]] w (RetT (setS z i key v) 1 0 w) := by
  have H := Lib.hid h
  have hI := h.size
  have HIE : Hid ((Try.prog.info? 52).map (·.size) = some C.size) := by show _ = _; rw [hI, infoRS]
  have HJE : Hid (C.size = 16) := hI
  have h1 := h.one
  clear h hI
  have HAT := Lib.hid hat
  have HY := Lib.hid hy
  have hi8' : (i : Int) < 8 := by omega
  have hq1 : (1 : Int) ≤ key := by omega
  have hq2 : (key : Int) ≤ 1000 := by omega
  have hwi : withinB 1 1 6 = true := by decide
  have hwk : withinB (key : Int) 1 1000 = true := by simp [withinB]; omega
  clear hat hy
  have HLEN := Lib.hid hl
  clear hl
  obtain ⟨E, hE⟩ : ∃ E, E = (C.setIfInBounds (i * 2) (.int .i64 (key : Int))).setIfInBounds (i * 2 + 1) (.int .i64 v) := ⟨_, rfl⟩
  have hIE2 : I64s E 16 (setS z i key v) := by rw [hE]; exact setI_s H.out i (by omega) hv
  have HE := Lib.hid hIE2
  have hEE := Lib.hid hE
  have HIE2 : Hid ((Try.prog.info? 52).map (·.size) = some E.size) := by show _ = _; rw [hIE2.size, infoRS]
  have HJE2 : Hid (E.size = 16) := hIE2.size
  have h2 := hIE2.one
  clear hIE2 hE
  go_enter Try.func45, Try.ntmps45
  go_upto_region 1 with (fail)
  have hL := laid_mk w 52 C 1 (key : Int) v
  generalize (((w.alloc (.cells C 52)).alloc (.cells #[.int .i64 1, .int .i64 (key : Int), .int .i64 v] 23)).alloc (.cells #[.int .i64 0, .int .i64 0, .int .i64 0, .int .i64 0, .int .i64 0, .int .i64 0, .int .i64 0, .int .i64 0, .int .i64 0, .int .i64 0, .int .i64 0, .int .i64 0, .int .i64 0, .int .i64 0, .int .i64 0, .int .i64 0] 52)).alloc (.cells #[.int .i64 0, .int .i64 0] 41) = W at *
  have HLx := Lib.hid hL
  obtain ⟨⟨o0, o1, o2⟩, _, hsz⟩ := hL.ops
  clear hL
  go_wp2_with (first
    | (go_at_call 53; refine (within_any _ _ _ _).mono ?_; rintro e w' ⟨rfl, rfl⟩)
    | (refine wpList_load_row rfl 52 _ rfl w.heap.size rfl 52 C (0, 0) _ ?_ Try.underlying52 rfl ?_ ?_; (exact HLx.out.tab); (exact HIE.out))
    | (go_at_call 65; refine (place_any C z key _ H.out hk1).mono ?_; rintro e w1 ⟨rfl, hb1⟩; rw [HAT.out]; have hL1 := HLx.out.on hb1; have HL1 := Lib.hid hL1; obtain ⟨⟨p0, p1, p2⟩, _, hsz1⟩ := hL1.ops; have y0 : w1.cell? ⟨w.heap.size, i * 2, none⟩ = some (.int .i64 y) := (by rw [hL1.tab.cell, Nat.mul_comm, H.out.get _ (by omega), HY.out]); have y1 : w1.cell? ⟨w.heap.size, i * 2 + 1, none⟩ = some (.int .i64 (z (2 * i + 1))) := (by rw [hL1.tab.cell, Nat.mul_comm, H.out.get _ (by omega)]); have f0 : w1.frozen? ⟨w.heap.size, i * 2, none⟩ = false := hL1.tab.frozen _; have f1 : w1.frozen? ⟨w.heap.size, i * 2 + 1, none⟩ = false := hL1.tab.frozen _; have hls : w.heap.size < w1.heap.size := (by omega); clear hL1 o0 o1 o2 hsz)
    | (refine wpList_load_row_g ?_ 52 _ rfl w.heap.size rfl 52 C (0, 0) _ ?_ Try.underlying52 rfl ?_ ?_; (first | rfl | (go_simp; done)); (exact HL1.out.tab); (exact HIE.out))
    | (go_at_call 40; refine (refLen_any C z _ H.out).mono ?_; rintro e w3 ⟨rfl, hb3⟩; rw [HLEN.out]; have hL3 := HL1.out.on hb3; have HL3 := Lib.hid hL3; obtain ⟨⟨q0, q1, q2⟩, _, hsz3⟩ := hL3.ops; have x0 : w3.cell? ⟨w.heap.size, i * 2, none⟩ = some (.int .i64 y) := (by rw [hL3.tab.cell, Nat.mul_comm, H.out.get _ (by omega), HY.out]); have x1 : w3.cell? ⟨w.heap.size, i * 2 + 1, none⟩ = some (.int .i64 (z (2 * i + 1))) := (by rw [hL3.tab.cell, Nat.mul_comm, H.out.get _ (by omega)]); have g0 : w3.frozen? ⟨w.heap.size, i * 2, none⟩ = false := hL3.tab.frozen _; have g1 : w3.frozen? ⟨w.heap.size, i * 2 + 1, none⟩ = false := hL3.tab.frozen _; have hls3 : w.heap.size < w3.heap.size := (by omega); have HL4 := Lib.hid (hL3.set_ i (key : Int) v); rw [← hEE.out] at HL4; clear hL3))
  refine wp_region_rely 2 nowhere [] (by kernel_rfl) (by kernel_rfl) ?_
  iterate 2
    refine wpRely_step (fun K hK => ?_)
    first
    | (refine .inl ?_
       apply Exists.intro
       refine ⟨Any, ?_, hK _ _ _ _ ?_⟩
       · simp only [RelyOp, fillE]
         refine ⟨?_, fun w9 hw9 _ => ?_⟩
         · first | rfl | (go_simp; done)
         obtain ⟨hc9, hf9⟩ := hw9.all
         first
         | (exact relyAt_load_row 52 _ rfl w.heap.size rfl 52 E _ (HL4.out.on hw9.same).tab Try.underlying52 rfl HIE2.out ⟨⟨rfl, trivial⟩, Keeps.refl _ _⟩)
         | (go_simp
            first
            | exact ⟨⟨rfl, trivial⟩, Keeps.refl _ _⟩
            | (go_at_call 56; exact rely_det (said_below _ _ _)))
       clear hK K
       try simp only [Act.put, List.setIfInBounds_toArray, List.set_cons_zero, List.set_cons_succ])
    | (refine .inr (.inl ⟨?_, hK _ _ _ _ ?_⟩)
       · simp only [fillE]
         first | rfl | (go_simp; done)
       clear hK K
       try simp only [Act.put, List.setIfInBounds_toArray, List.set_cons_zero, List.set_cons_succ])
  refine wpRely_nil ?_
  simp only [fillE]
  intro w9 hw9 _
  obtain ⟨hc9, hf9⟩ := hw9.all
  simp only [List.drop_succ_cons, List.drop_zero]
  have hL9 := HL4.out.on hw9.same
  have HL9 := Lib.hid hL9
  obtain ⟨⟨c0, c1⟩, f0, f1⟩ := hL9.row E
  obtain ⟨gA, gB, gC⟩ := hL9.fin E 1 0
  have GA := Lib.hid gA
  have GB := Lib.hid gB
  have GC := Lib.hid gC
  clear gA gB gC hL9
  go_wp2_with (refine wpList_store_row rfl 52 _ _ rfl (w.heap.size + 2) E rfl rfl 52 #[.int .i64 0, .int .i64 0, .int .i64 0, .int .i64 0, .int .i64 0, .int .i64 0, .int .i64 0, .int .i64 0, .int .i64 0, .int .i64 0, .int .i64 0, .int .i64 0, .int .i64 0, .int .i64 0, .int .i64 0, .int .i64 0] ?_ ?_ ?_ h2 ?_; (exact HL9.out.res); (exact HIE2.out); (rw [HJE2.out]; rfl))
  exact bodyPost_ret (results_two_rows Try.results45 _ _ (w.heap.size + 2) (w.heap.size + 3) 52 41 E #[.int .i64 1, .int .i64 0] _ _ rfl rfl GA.out GB.out Try.underlying52 rfl HIE2.out Try.underlying41 rfl infoA) rfl ⟨E, HE.out, rfl, GC.out⟩

set_option maxRecDepth 100000 in
set_option maxHeartbeats 4000000 in
theorem rtab_old (C D : Array Value) (z : Nat → Int) (key i : Nat) (v y : Int) (w : World) (h : I64s C 16 z) (hk0 : 1 ≤ key) (hk1 : key ≤ 1000) (hi8 : i < 8) (hat : atT z key = (i : Int)) (hy : z (2 * i) = y) (hfr : (y == 0) = false) (hv : -9223372036854775808 ≤ v ∧ v ≤ 9223372036854775807) :
    Calls Try.prog 45 #[.agg C, .agg #[.int .i64 1, .int .i64 (key : Int), .int .i64 v]] w (RetT (setS z i key v) 1 0 w) := by
  have H := Lib.hid h
  have hI := h.size
  have HIE : Hid ((Try.prog.info? 52).map (·.size) = some C.size) := by show _ = _; rw [hI, infoRS]
  have HJE : Hid (C.size = 16) := hI
  have h1 := h.one
  clear h hI
  have HAT := Lib.hid hat
  have HY := Lib.hid hy
  have hi8' : (i : Int) < 8 := by omega
  have hq1 : (1 : Int) ≤ key := by omega
  have hq2 : (key : Int) ≤ 1000 := by omega
  have hwi : withinB 1 1 6 = true := by decide
  have hwk : withinB (key : Int) 1 1000 = true := by simp [withinB]; omega
  clear hat hy
  obtain ⟨E, hE⟩ : ∃ E, E = (C.setIfInBounds (i * 2) (.int .i64 (key : Int))).setIfInBounds (i * 2 + 1) (.int .i64 v) := ⟨_, rfl⟩
  have hIE2 : I64s E 16 (setS z i key v) := by rw [hE]; exact setI_s H.out i (by omega) hv
  have HE := Lib.hid hIE2
  have hEE := Lib.hid hE
  have HIE2 : Hid ((Try.prog.info? 52).map (·.size) = some E.size) := by show _ = _; rw [hIE2.size, infoRS]
  have HJE2 : Hid (E.size = 16) := hIE2.size
  have h2 := hIE2.one
  clear hIE2 hE
  go_enter Try.func45, Try.ntmps45
  go_upto_region 1 with (fail)
  have hL := laid_mk w 52 C 1 (key : Int) v
  generalize (((w.alloc (.cells C 52)).alloc (.cells #[.int .i64 1, .int .i64 (key : Int), .int .i64 v] 23)).alloc (.cells #[.int .i64 0, .int .i64 0, .int .i64 0, .int .i64 0, .int .i64 0, .int .i64 0, .int .i64 0, .int .i64 0, .int .i64 0, .int .i64 0, .int .i64 0, .int .i64 0, .int .i64 0, .int .i64 0, .int .i64 0, .int .i64 0] 52)).alloc (.cells #[.int .i64 0, .int .i64 0] 41) = W at *
  have HLx := Lib.hid hL
  obtain ⟨⟨o0, o1, o2⟩, _, hsz⟩ := hL.ops
  clear hL
  go_wp2_with (first
    | (go_at_call 53; refine (within_any _ _ _ _).mono ?_; rintro e w' ⟨rfl, rfl⟩)
    | (refine wpList_load_row rfl 52 _ rfl w.heap.size rfl 52 C (0, 0) _ ?_ Try.underlying52 rfl ?_ ?_; (exact HLx.out.tab); (exact HIE.out))
    | (go_at_call 65; refine (place_any C z key _ H.out hk1).mono ?_; rintro e w1 ⟨rfl, hb1⟩; rw [HAT.out]; have hL1 := HLx.out.on hb1; have HL1 := Lib.hid hL1; obtain ⟨⟨p0, p1, p2⟩, _, hsz1⟩ := hL1.ops; have y0 : w1.cell? ⟨w.heap.size, i * 2, none⟩ = some (.int .i64 y) := (by rw [hL1.tab.cell, Nat.mul_comm, H.out.get _ (by omega), HY.out]); have y1 : w1.cell? ⟨w.heap.size, i * 2 + 1, none⟩ = some (.int .i64 (z (2 * i + 1))) := (by rw [hL1.tab.cell, Nat.mul_comm, H.out.get _ (by omega)]); have f0 : w1.frozen? ⟨w.heap.size, i * 2, none⟩ = false := hL1.tab.frozen _; have f1 : w1.frozen? ⟨w.heap.size, i * 2 + 1, none⟩ = false := hL1.tab.frozen _; have hls : w.heap.size < w1.heap.size := (by omega); clear hL1 o0 o1 o2 hsz)
)
  have HL4 := Lib.hid (HL1.out.set_ i (key : Int) v)
  rw [← hEE.out] at HL4
  refine wp_region_rely 2 nowhere [] (by kernel_rfl) (by kernel_rfl) ?_
  iterate 2
    refine wpRely_step (fun K hK => ?_)
    first
    | (refine .inl ?_
       apply Exists.intro
       refine ⟨Any, ?_, hK _ _ _ _ ?_⟩
       · simp only [RelyOp, fillE]
         refine ⟨?_, fun w9 hw9 _ => ?_⟩
         · first | rfl | (go_simp; done)
         obtain ⟨hc9, hf9⟩ := hw9.all
         first
         | (exact relyAt_load_row 52 _ rfl w.heap.size rfl 52 E _ (HL4.out.on hw9.same).tab Try.underlying52 rfl HIE2.out ⟨⟨rfl, trivial⟩, Keeps.refl _ _⟩)
         | (go_simp
            first
            | exact ⟨⟨rfl, trivial⟩, Keeps.refl _ _⟩
            | (go_at_call 56; exact rely_det (said_below _ _ _)))
       clear hK K
       try simp only [Act.put, List.setIfInBounds_toArray, List.set_cons_zero, List.set_cons_succ])
    | (refine .inr (.inl ⟨?_, hK _ _ _ _ ?_⟩)
       · simp only [fillE]
         first | rfl | (go_simp; done)
       clear hK K
       try simp only [Act.put, List.setIfInBounds_toArray, List.set_cons_zero, List.set_cons_succ])
  refine wpRely_nil ?_
  simp only [fillE]
  intro w9 hw9 _
  obtain ⟨hc9, hf9⟩ := hw9.all
  simp only [List.drop_succ_cons, List.drop_zero]
  have hL9 := HL4.out.on hw9.same
  have HL9 := Lib.hid hL9
  obtain ⟨⟨c0, c1⟩, f0, f1⟩ := hL9.row E
  obtain ⟨gA, gB, gC⟩ := hL9.fin E 1 0
  have GA := Lib.hid gA
  have GB := Lib.hid gB
  have GC := Lib.hid gC
  clear gA gB gC hL9
  go_wp2_with (refine wpList_store_row rfl 52 _ _ rfl (w.heap.size + 2) E rfl rfl 52 #[.int .i64 0, .int .i64 0, .int .i64 0, .int .i64 0, .int .i64 0, .int .i64 0, .int .i64 0, .int .i64 0, .int .i64 0, .int .i64 0, .int .i64 0, .int .i64 0, .int .i64 0, .int .i64 0, .int .i64 0, .int .i64 0] ?_ ?_ ?_ h2 ?_; (exact HL9.out.res); (exact HIE2.out); (rw [HJE2.out]; rfl))
  exact bodyPost_ret (results_two_rows Try.results45 _ _ (w.heap.size + 2) (w.heap.size + 3) 52 41 E #[.int .i64 1, .int .i64 0] _ _ rfl rfl GA.out GB.out Try.underlying52 rfl HIE2.out Try.underlying41 rfl infoA) rfl ⟨E, HE.out, rfl, GC.out⟩

end Go.Proofs.Ytfpfhiogfjlpaaa
