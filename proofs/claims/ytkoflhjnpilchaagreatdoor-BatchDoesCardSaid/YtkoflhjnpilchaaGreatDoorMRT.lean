/-
  What gristmillref.place returns. For every table.
  What gristmillref.Table returns. For every table that is one.
  What gristmillref.Table returns. For every table that is one.
-/
import Derived.Test.YtkoflhjnpilchaaGreatDoorMThing
import Derived.Test.YtkoflhjnpilchaaGreatDoorTabD
import Derived.Test.YtkoflhjnpilchaaGreatDoorEnds
namespace Go.Proofs.YtkoflhjnpilchaaGreatDoor
set_option linter.unusedSimpArgs false
set_option linter.unusedVariables false
set_option linter.unusedSectionVars false
open Go.RowKit
set_option linter.unusedSimpArgs false
set_option linter.unusedVariables false
attribute [local go_sem ↓] Go.wp_at_zero Go.wp_at_succ

set_option maxRecDepth 100000 in
set_option maxHeartbeats 1000000 in
theorem place_any (C : Array Value) (z : Nat → Int) (key : Nat) (w : World) (h : I64s C 16 z) (hk : key ≤ 1000) :
    Calls Tryz.prog 73 #[.agg C, .int .i64 key] w fun e w' => e = .returned (.int .i64 (atT z key)) ∧ Below w.heap.size w w' := by
  have H := Lib.hid h
  clear h
  have HBK : Hid (Blk (w.alloc (.cells C 47)) w.heap.size 47 C) := Blk.new _ _ _
  go_enter Tryz.func73, Tryz.ntmps73
  go_wp2_with (go_at_call 69; refine (row_any key _ hk).mono ?_; rintro e w1 ⟨A, c, rfl, hs, hb1⟩; have hz1 := hb1.size; simp only [World.size_alloc] at hz1; have HS := Lib.hid hs; have HBl := Lib.hid (HBK.out.below hb1 (by simp)); have hB : Below w.heap.size w w1 := Below.trans (by go_grown) (hb1.mono (by simp)); clear hs)
  obtain ⟨b, off, rfl, hblt, hcell⟩ := HS.out.sli.at_ (by omega)
  have h63 := HS.out.sli.cap63
  have hcap := HS.out.sli.cap
  have HC := Lib.hid hcell
  clear hcell hb1
  go_loop [10] (fun i => ∃ k : Nat, k ≤ 8 ∧ i = .int .i64 k ∧ Hid (∀ j, j < k → hitB z key j = false)) (fun i => 8 - (intOf i).toNat)
  case atStart => exact ⟨0, by omega, rfl, fun j hj => absurd hj (by omega)⟩
  case round =>
    obtain ⟨k, hk8, rfl, hno⟩ := hrel
    by_cases hlt : k < 8
    · have b1 : (k : Int) < 8 := by omega
      have hrl := rowP_lt key k
      have c0 : w1.cell? ⟨b, off + k, none⟩ = some (.int .i64 ((rowP key k : Nat) : Int)) := by rw [HC.out k hlt, rowL_get key 8 k hlt]
      have c1 : w1.cell? ⟨w.heap.size, rowP key k * 2, none⟩ = some (.int .i64 (z (2 * rowP key k))) := by rw [Nat.mul_comm, HBl.out.cell, H.out.get _ (by omega)]
      generalize hr : rowP key k = r at *
      have HR := Lib.hid hr
      clear hr
      have hr8 : (r : Int) < 8 := by omega
      generalize hy : z (2 * r) = y at *
      have HY := Lib.hid hy
      clear hy
      have HH : Hid (hitB z key k = decide (y = key ∨ y = 0)) := by unfold hitB; rw [HR.out, HY.out]; exact rfl
      have HF : Hid (hitB z key k = true → atT z key = (r : Int)) := fun hh => by
        have hf : (List.range 8).find? (hitB z key) = some k := find_range hlt hh hno.out
        unfold atT
        rw [hf, ← HR.out]
      by_cases hyk : y = key
      · have d1 : (y == (key : Int)) = true := by simpa using hyk
        have e1 := HF.out (by rw [HH.out]; simpa using .inl hyk)
        have E1 := Lib.hid e1
        clear hyk e1
        go_wp2
        go_ret
        exact ⟨ret_int E1.out.symm, hB⟩
      · have d1 : (y == (key : Int)) = false := by simpa using hyk
        by_cases hy0 : y = 0
        · have d2 : (y == 0) = true := by simpa using hy0
          have e1 := HF.out (by rw [HH.out]; simpa using .inr hy0)
          have E1 := Lib.hid e1
          clear hyk e1 hy0
          go_wp2
          go_ret
          exact ⟨ret_int E1.out.symm, hB⟩
        · have d2 : (y == 0) = false := by simpa using hy0
          have hno' : hitB z key k = false := by rw [HH.out]; simp [hyk, hy0]
          have HNO := Lib.hid hno'
          clear hyk hy0 hno'
          go_wp2
          refine ⟨⟨k + 1, by omega, by go_num, Lib.hid fun j hj => ?_⟩, by simp [intOf]; omega⟩
          rcases Nat.lt_or_ge j k with h | h
          · exact hno.out j h
          · obtain rfl : j = k := by omega
            exact HNO.out
    · obtain rfl : k = 8 := by omega
      have hn : (List.range 8).find? (hitB z key) = none := find_range_none hno.out
      have HE : Hid (atT z key = -1) := by unfold atT; rw [hn]; exact rfl
      clear hn
      go_wp2
      go_ret
      exact ⟨ret_int HE.out.symm, hB⟩
theorem place_int (C : Array Value) (z : Nat → Int) (key : Int) (w : World) (h : I64s C 16 z) (h0 : 0 ≤ key) (h1 : key ≤ 1000) :
    Calls Tryz.prog 73 #[.agg C, .int .i64 key] w fun e w' => e = .returned (.int .i64 (atT z key.toNat)) ∧ Below w.heap.size w w' := by
  obtain ⟨q, rfl⟩ := Int.eq_ofNat_of_zero_le h0
  simpa using place_any C z q w h (by omega)
end Go.Proofs.YtkoflhjnpilchaaGreatDoor

namespace Go.Proofs.YtkoflhjnpilchaaGreatDoor
set_option linter.unusedSimpArgs false
set_option linter.unusedVariables false
set_option linter.unusedSectionVars false
open Go.RowKit
set_option linter.unusedSimpArgs false
set_option linter.unusedVariables false
attribute [local go_sem ↓] Go.wp_at_zero Go.wp_at_succ

theorem infoRS : (Tryz.prog.info? 47).map (·.size) = some 16 := by kernel_rfl

set_option maxRecDepth 100000 in
set_option maxHeartbeats 4000000 in
theorem rtab_count (C : Array Value) (z : Nat → Int) (k v : Int) (w : World) (h : I64s C 16 z) :
    Calls Tryz.prog 48 #[.agg C, .agg #[.int .i64 6, .int .i64 k, .int .i64 v]] w (RetT z 1 (lenT z 8) w) := by
  have H := Lib.hid h
  have hI := h.size
  have HIE : Hid ((Tryz.prog.info? 47).map (·.size) = some C.size) := by show _ = _; rw [hI, infoRS]
  have HJE : Hid (C.size = 16) := hI
  have h1 := h.one
  clear h hI
  go_enter Tryz.func48, Tryz.ntmps48
  go_upto_region 1 with (fail)
  have hL := laid_mk w 47 C 6 k v
  generalize (((w.alloc (.cells C 47)).alloc (.cells #[.int .i64 6, .int .i64 k, .int .i64 v] 61)).alloc (.cells #[.int .i64 0, .int .i64 0, .int .i64 0, .int .i64 0, .int .i64 0, .int .i64 0, .int .i64 0, .int .i64 0, .int .i64 0, .int .i64 0, .int .i64 0, .int .i64 0, .int .i64 0, .int .i64 0, .int .i64 0, .int .i64 0] 47)).alloc (.cells #[.int .i64 0, .int .i64 0] 51) = W at *
  have HLx := Lib.hid hL
  obtain ⟨⟨o0, o1, o2⟩, _, hsz⟩ := hL.ops
  clear hL
  go_wp2
  refine wp_region_rely 4 nowhere [] (by kernel_rfl) (by kernel_rfl) ?_
  iterate 4
    refine wpRely_step (fun K hK => ?_)
    first
    | (refine .inl ?_
       apply Exists.intro
       refine ⟨Any, ?_, hK _ _ _ _ ?_⟩
       · simp only [RelyOp, fillE]
         refine ⟨?_, fun w9 hw9 _ => ?_⟩
         · first | rfl | (go_simp; done)
         obtain ⟨hc9, hf9⟩ := hw9.all
         first
         | (exact relyAt_load_row 47 _ rfl w.heap.size rfl 47 C _ (HLx.out.on hw9.same).tab Tryz.underlying47 rfl HIE.out ⟨⟨rfl, trivial⟩, Keeps.refl _ _⟩)
         | (go_simp
            first
            | exact ⟨⟨rfl, trivial⟩, Keeps.refl _ _⟩
            | (go_at_call 71; exact rely_det (said_below _ _ _)) | (go_at_call 70; exact rely_det (refLen_any C z _ H.out)))
       clear hK K
       try simp only [Act.put, List.setIfInBounds_toArray, List.set_cons_zero, List.set_cons_succ])
    | (refine .inr (.inl ⟨?_, hK _ _ _ _ ?_⟩)
       · simp only [fillE]
         first | rfl | (go_simp; done)
       clear hK K
       try simp only [Act.put, List.setIfInBounds_toArray, List.set_cons_zero, List.set_cons_succ])
  refine wpRely_nil ?_
  simp only [fillE]
  intro w9 hw9 _
  obtain ⟨hc9, hf9⟩ := hw9.all
  simp only [List.drop_succ_cons, List.drop_zero]
  have hL9 := HLx.out.on hw9.same
  have HL9 := Lib.hid hL9
  obtain ⟨⟨c0, c1⟩, f0, f1⟩ := hL9.row C
  obtain ⟨gA, gB, gC⟩ := hL9.fin C 1 (lenT z 8)
  have GA := Lib.hid gA
  have GB := Lib.hid gB
  have GC := Lib.hid gC
  clear gA gB gC hL9
  go_wp2_with (refine wpList_store_row rfl 47 _ _ rfl (w.heap.size + 2) C rfl rfl 47 #[.int .i64 0, .int .i64 0, .int .i64 0, .int .i64 0, .int .i64 0, .int .i64 0, .int .i64 0, .int .i64 0, .int .i64 0, .int .i64 0, .int .i64 0, .int .i64 0, .int .i64 0, .int .i64 0, .int .i64 0, .int .i64 0] ?_ ?_ ?_ h1 ?_; (exact HL9.out.res); (exact HIE.out); (rw [HJE.out]; rfl))
  exact bodyPost_ret (results_two_rows Tryz.results48 _ _ (w.heap.size + 2) (w.heap.size + 3) 47 51 C #[.int .i64 1, .int .i64 (lenT z 8)] _ _ rfl rfl GA.out GB.out Tryz.underlying47 rfl HIE.out Tryz.underlying51 rfl infoA) rfl ⟨C, H.out, rfl, GC.out⟩

set_option maxRecDepth 100000 in
set_option maxHeartbeats 4000000 in
theorem rtab_wrong (C : Array Value) (z : Nat → Int) (a k v : Int) (w : World) (h : I64s C 16 z) (h6 : a ≠ 6) (hb : ¬ (a = 1 ∨ a = 2 ∨ a = 5) ∨ k < 1 ∨ 1000 < k) :
    Calls Tryz.prog 48 #[.agg C, .agg #[.int .i64 a, .int .i64 k, .int .i64 v]] w (RetT z 5 0 w) := by
  have H := Lib.hid h
  have hI := h.size
  have HIE : Hid ((Tryz.prog.info? 47).map (·.size) = some C.size) := by show _ = _; rw [hI, infoRS]
  have HJE : Hid (C.size = 16) := hI
  have h1 := h.one
  clear h hI
  have d6 : (a == 6) = false := by simpa using h6
  have HB := Lib.hid hb
  clear hb h6
  go_enter Tryz.func48, Tryz.ntmps48
  go_upto_region 1 with (fail)
  have hL := laid_mk w 47 C a k v
  generalize (((w.alloc (.cells C 47)).alloc (.cells #[.int .i64 a, .int .i64 k, .int .i64 v] 61)).alloc (.cells #[.int .i64 0, .int .i64 0, .int .i64 0, .int .i64 0, .int .i64 0, .int .i64 0, .int .i64 0, .int .i64 0, .int .i64 0, .int .i64 0, .int .i64 0, .int .i64 0, .int .i64 0, .int .i64 0, .int .i64 0, .int .i64 0] 47)).alloc (.cells #[.int .i64 0, .int .i64 0] 51) = W at *
  have HLx := Lib.hid hL
  obtain ⟨⟨o0, o1, o2⟩, _, hsz⟩ := hL.ops
  clear hL
  go_wp2_with (first
    | (go_at_call 12; refine (within_any _ _ _ _).mono ?_; rintro e w' ⟨rfl, rfl⟩)
    | (refine wpList_load_row rfl 47 _ rfl w.heap.size rfl 47 C (0, 0) _ ?_ Tryz.underlying47 rfl ?_ ?_; (exact HLx.out.tab); (exact HIE.out))
    | (go_at_call 73; exfalso; have hh := HB.out; simp only [withinB, decide_eq_true_eq, decide_eq_false_iff_not, Bool.not_eq_true', Bool.not_eq_false', bne_iff_ne, bne_eq_false_iff_eq, beq_iff_eq, beq_eq_false_iff_ne, ne_eq] at *; omega))
  all_goals
    refine wp_region_rely 2 nowhere [] (by kernel_rfl) (by kernel_rfl) ?_
    iterate 2
      refine wpRely_step (fun K hK => ?_)
      first
      | (refine .inl ?_
         apply Exists.intro
         refine ⟨Any, ?_, hK _ _ _ _ ?_⟩
         · simp only [RelyOp, fillE]
           refine ⟨?_, fun w9 hw9 _ => ?_⟩
           · first | rfl | (go_simp; done)
           obtain ⟨hc9, hf9⟩ := hw9.all
           first
           | (exact relyAt_load_row 47 _ rfl w.heap.size rfl 47 C _ (HLx.out.on hw9.same).tab Tryz.underlying47 rfl HIE.out ⟨⟨rfl, trivial⟩, Keeps.refl _ _⟩)
           | (go_simp
              first
              | exact ⟨⟨rfl, trivial⟩, Keeps.refl _ _⟩
              | (go_at_call 71; exact rely_det (said_below _ _ _)))
         clear hK K
         try simp only [Act.put, List.setIfInBounds_toArray, List.set_cons_zero, List.set_cons_succ])
      | (refine .inr (.inl ⟨?_, hK _ _ _ _ ?_⟩)
         · simp only [fillE]
           first | rfl | (go_simp; done)
         clear hK K
         try simp only [Act.put, List.setIfInBounds_toArray, List.set_cons_zero, List.set_cons_succ])
    refine wpRely_nil ?_
    simp only [fillE]
    intro w9 hw9 _
    obtain ⟨hc9, hf9⟩ := hw9.all
    simp only [List.drop_succ_cons, List.drop_zero]
    have hL9 := HLx.out.on hw9.same
    have HL9 := Lib.hid hL9
    obtain ⟨⟨c0, c1⟩, f0, f1⟩ := hL9.row C
    obtain ⟨gA, gB, gC⟩ := hL9.fin C 5 0
    have GA := Lib.hid gA
    have GB := Lib.hid gB
    have GC := Lib.hid gC
    clear gA gB gC hL9
    go_wp2_with (refine wpList_store_row rfl 47 _ _ rfl (w.heap.size + 2) C rfl rfl 47 #[.int .i64 0, .int .i64 0, .int .i64 0, .int .i64 0, .int .i64 0, .int .i64 0, .int .i64 0, .int .i64 0, .int .i64 0, .int .i64 0, .int .i64 0, .int .i64 0, .int .i64 0, .int .i64 0, .int .i64 0, .int .i64 0] ?_ ?_ ?_ h1 ?_; (exact HL9.out.res); (exact HIE.out); (rw [HJE.out]; rfl))
    exact bodyPost_ret (results_two_rows Tryz.results48 _ _ (w.heap.size + 2) (w.heap.size + 3) 47 51 C #[.int .i64 5, .int .i64 0] _ _ rfl rfl GA.out GB.out Tryz.underlying47 rfl HIE.out Tryz.underlying51 rfl infoA) rfl ⟨C, H.out, rfl, GC.out⟩

set_option maxRecDepth 100000 in
set_option maxHeartbeats 4000000 in
theorem rtab_absent2 (C D : Array Value) (z : Nat → Int) (key i : Nat) (v y : Int) (w : World) (h : I64s C 16 z) (hk0 : 1 ≤ key) (hk1 : key ≤ 1000) (hi8 : i < 8) (hat : atT z key = (i : Int)) (hy : z (2 * i) = y) (hfr : (y == 0) = true)  :
    Calls Tryz.prog 48 #[.agg C, .agg #[.int .i64 2, .int .i64 (key : Int), .int .i64 v]] w (RetT z 4 0 w) := by
  have H := Lib.hid h
  have hI := h.size
  have HIE : Hid ((Tryz.prog.info? 47).map (·.size) = some C.size) := by show _ = _; rw [hI, infoRS]
  have HJE : Hid (C.size = 16) := hI
  have h1 := h.one
  clear h hI
  have HAT := Lib.hid hat
  have HY := Lib.hid hy
  have hi8' : (i : Int) < 8 := by omega
  have hq1 : (1 : Int) ≤ key := by omega
  have hq2 : (key : Int) ≤ 1000 := by omega
  have hwi : withinB 2 1 6 = true := by decide
  have hwk : withinB (key : Int) 1 1000 = true := by simp [withinB]; omega
  clear hat hy
  go_enter Tryz.func48, Tryz.ntmps48
  go_upto_region 1 with (fail)
  have hL := laid_mk w 47 C 2 (key : Int) v
  generalize (((w.alloc (.cells C 47)).alloc (.cells #[.int .i64 2, .int .i64 (key : Int), .int .i64 v] 61)).alloc (.cells #[.int .i64 0, .int .i64 0, .int .i64 0, .int .i64 0, .int .i64 0, .int .i64 0, .int .i64 0, .int .i64 0, .int .i64 0, .int .i64 0, .int .i64 0, .int .i64 0, .int .i64 0, .int .i64 0, .int .i64 0, .int .i64 0] 47)).alloc (.cells #[.int .i64 0, .int .i64 0] 51) = W at *
  have HLx := Lib.hid hL
  obtain ⟨⟨o0, o1, o2⟩, _, hsz⟩ := hL.ops
  clear hL
  go_wp2_with (first
    | (go_at_call 12; refine (within_any _ _ _ _).mono ?_; rintro e w' ⟨rfl, rfl⟩)
    | (refine wpList_load_row rfl 47 _ rfl w.heap.size rfl 47 C (0, 0) _ ?_ Tryz.underlying47 rfl ?_ ?_; (exact HLx.out.tab); (exact HIE.out))
    | (go_at_call 73; refine (place_any C z key _ H.out hk1).mono ?_; rintro e w1 ⟨rfl, hb1⟩; rw [HAT.out]; have hL1 := HLx.out.on hb1; have HL1 := Lib.hid hL1; obtain ⟨⟨p0, p1, p2⟩, _, hsz1⟩ := hL1.ops; have y0 : w1.cell? ⟨w.heap.size, i * 2, none⟩ = some (.int .i64 y) := (by rw [hL1.tab.cell, Nat.mul_comm, H.out.get _ (by omega), HY.out]); have y1 : w1.cell? ⟨w.heap.size, i * 2 + 1, none⟩ = some (.int .i64 (z (2 * i + 1))) := (by rw [hL1.tab.cell, Nat.mul_comm, H.out.get _ (by omega)]); have f0 : w1.frozen? ⟨w.heap.size, i * 2, none⟩ = false := hL1.tab.frozen _; have f1 : w1.frozen? ⟨w.heap.size, i * 2 + 1, none⟩ = false := hL1.tab.frozen _; have hls : w.heap.size < w1.heap.size := (by omega); clear hL1 o0 o1 o2 hsz)
)
  refine wp_region_rely 2 nowhere [] (by kernel_rfl) (by kernel_rfl) ?_
  iterate 2
    refine wpRely_step (fun K hK => ?_)
    first
    | (refine .inl ?_
       apply Exists.intro
       refine ⟨Any, ?_, hK _ _ _ _ ?_⟩
       · simp only [RelyOp, fillE]
         refine ⟨?_, fun w9 hw9 _ => ?_⟩
         · first | rfl | (go_simp; done)
         obtain ⟨hc9, hf9⟩ := hw9.all
         first
         | (exact relyAt_load_row 47 _ rfl w.heap.size rfl 47 C _ (HL1.out.on hw9.same).tab Tryz.underlying47 rfl HIE.out ⟨⟨rfl, trivial⟩, Keeps.refl _ _⟩)
         | (go_simp
            first
            | exact ⟨⟨rfl, trivial⟩, Keeps.refl _ _⟩
            | (go_at_call 71; exact rely_det (said_below _ _ _)))
       clear hK K
       try simp only [Act.put, List.setIfInBounds_toArray, List.set_cons_zero, List.set_cons_succ])
    | (refine .inr (.inl ⟨?_, hK _ _ _ _ ?_⟩)
       · simp only [fillE]
         first | rfl | (go_simp; done)
       clear hK K
       try simp only [Act.put, List.setIfInBounds_toArray, List.set_cons_zero, List.set_cons_succ])
  refine wpRely_nil ?_
  simp only [fillE]
  intro w9 hw9 _
  obtain ⟨hc9, hf9⟩ := hw9.all
  simp only [List.drop_succ_cons, List.drop_zero]
  have hL9 := HL1.out.on hw9.same
  have HL9 := Lib.hid hL9
  obtain ⟨⟨c0, c1⟩, f0, f1⟩ := hL9.row C
  obtain ⟨gA, gB, gC⟩ := hL9.fin C 4 0
  have GA := Lib.hid gA
  have GB := Lib.hid gB
  have GC := Lib.hid gC
  clear gA gB gC hL9
  go_wp2_with (refine wpList_store_row rfl 47 _ _ rfl (w.heap.size + 2) C rfl rfl 47 #[.int .i64 0, .int .i64 0, .int .i64 0, .int .i64 0, .int .i64 0, .int .i64 0, .int .i64 0, .int .i64 0, .int .i64 0, .int .i64 0, .int .i64 0, .int .i64 0, .int .i64 0, .int .i64 0, .int .i64 0, .int .i64 0] ?_ ?_ ?_ h1 ?_; (exact HL9.out.res); (exact HIE.out); (rw [HJE.out]; rfl))
  exact bodyPost_ret (results_two_rows Tryz.results48 _ _ (w.heap.size + 2) (w.heap.size + 3) 47 51 C #[.int .i64 4, .int .i64 0] _ _ rfl rfl GA.out GB.out Tryz.underlying47 rfl HIE.out Tryz.underlying51 rfl infoA) rfl ⟨C, H.out, rfl, GC.out⟩

set_option maxRecDepth 100000 in
set_option maxHeartbeats 4000000 in
theorem rtab_absent5 (C D : Array Value) (z : Nat → Int) (key i : Nat) (v y : Int) (w : World) (h : I64s C 16 z) (hk0 : 1 ≤ key) (hk1 : key ≤ 1000) (hi8 : i < 8) (hat : atT z key = (i : Int)) (hy : z (2 * i) = y) (hfr : (y == 0) = true)  :
    Calls Tryz.prog 48 #[.agg C, .agg #[.int .i64 5, .int .i64 (key : Int), .int .i64 v]] w (RetT z 4 0 w) := by
  have H := Lib.hid h
  have hI := h.size
  have HIE : Hid ((Tryz.prog.info? 47).map (·.size) = some C.size) := by show _ = _; rw [hI, infoRS]
  have HJE : Hid (C.size = 16) := hI
  have h1 := h.one
  clear h hI
  have HAT := Lib.hid hat
  have HY := Lib.hid hy
  have hi8' : (i : Int) < 8 := by omega
  have hq1 : (1 : Int) ≤ key := by omega
  have hq2 : (key : Int) ≤ 1000 := by omega
  have hwi : withinB 5 1 6 = true := by decide
  have hwk : withinB (key : Int) 1 1000 = true := by simp [withinB]; omega
  clear hat hy
  go_enter Tryz.func48, Tryz.ntmps48
  go_upto_region 1 with (fail)
  have hL := laid_mk w 47 C 5 (key : Int) v
  generalize (((w.alloc (.cells C 47)).alloc (.cells #[.int .i64 5, .int .i64 (key : Int), .int .i64 v] 61)).alloc (.cells #[.int .i64 0, .int .i64 0, .int .i64 0, .int .i64 0, .int .i64 0, .int .i64 0, .int .i64 0, .int .i64 0, .int .i64 0, .int .i64 0, .int .i64 0, .int .i64 0, .int .i64 0, .int .i64 0, .int .i64 0, .int .i64 0] 47)).alloc (.cells #[.int .i64 0, .int .i64 0] 51) = W at *
  have HLx := Lib.hid hL
  obtain ⟨⟨o0, o1, o2⟩, _, hsz⟩ := hL.ops
  clear hL
  go_wp2_with (first
    | (go_at_call 12; refine (within_any _ _ _ _).mono ?_; rintro e w' ⟨rfl, rfl⟩)
    | (refine wpList_load_row rfl 47 _ rfl w.heap.size rfl 47 C (0, 0) _ ?_ Tryz.underlying47 rfl ?_ ?_; (exact HLx.out.tab); (exact HIE.out))
    | (go_at_call 73; refine (place_any C z key _ H.out hk1).mono ?_; rintro e w1 ⟨rfl, hb1⟩; rw [HAT.out]; have hL1 := HLx.out.on hb1; have HL1 := Lib.hid hL1; obtain ⟨⟨p0, p1, p2⟩, _, hsz1⟩ := hL1.ops; have y0 : w1.cell? ⟨w.heap.size, i * 2, none⟩ = some (.int .i64 y) := (by rw [hL1.tab.cell, Nat.mul_comm, H.out.get _ (by omega), HY.out]); have y1 : w1.cell? ⟨w.heap.size, i * 2 + 1, none⟩ = some (.int .i64 (z (2 * i + 1))) := (by rw [hL1.tab.cell, Nat.mul_comm, H.out.get _ (by omega)]); have f0 : w1.frozen? ⟨w.heap.size, i * 2, none⟩ = false := hL1.tab.frozen _; have f1 : w1.frozen? ⟨w.heap.size, i * 2 + 1, none⟩ = false := hL1.tab.frozen _; have hls : w.heap.size < w1.heap.size := (by omega); clear hL1 o0 o1 o2 hsz)
)
  refine wp_region_rely 2 nowhere [] (by kernel_rfl) (by kernel_rfl) ?_
  iterate 2
    refine wpRely_step (fun K hK => ?_)
    first
    | (refine .inl ?_
       apply Exists.intro
       refine ⟨Any, ?_, hK _ _ _ _ ?_⟩
       · simp only [RelyOp, fillE]
         refine ⟨?_, fun w9 hw9 _ => ?_⟩
         · first | rfl | (go_simp; done)
         obtain ⟨hc9, hf9⟩ := hw9.all
         first
         | (exact relyAt_load_row 47 _ rfl w.heap.size rfl 47 C _ (HL1.out.on hw9.same).tab Tryz.underlying47 rfl HIE.out ⟨⟨rfl, trivial⟩, Keeps.refl _ _⟩)
         | (go_simp
            first
            | exact ⟨⟨rfl, trivial⟩, Keeps.refl _ _⟩
            | (go_at_call 71; exact rely_det (said_below _ _ _)))
       clear hK K
       try simp only [Act.put, List.setIfInBounds_toArray, List.set_cons_zero, List.set_cons_succ])
    | (refine .inr (.inl ⟨?_, hK _ _ _ _ ?_⟩)
       · simp only [fillE]
         first | rfl | (go_simp; done)
       clear hK K
       try simp only [Act.put, List.setIfInBounds_toArray, List.set_cons_zero, List.set_cons_succ])
  refine wpRely_nil ?_
  simp only [fillE]
  intro w9 hw9 _
  obtain ⟨hc9, hf9⟩ := hw9.all
  simp only [List.drop_succ_cons, List.drop_zero]
  have hL9 := HL1.out.on hw9.same
  have HL9 := Lib.hid hL9
  obtain ⟨⟨c0, c1⟩, f0, f1⟩ := hL9.row C
  obtain ⟨gA, gB, gC⟩ := hL9.fin C 4 0
  have GA := Lib.hid gA
  have GB := Lib.hid gB
  have GC := Lib.hid gC
  clear gA gB gC hL9
  go_wp2_with (refine wpList_store_row rfl 47 _ _ rfl (w.heap.size + 2) C rfl rfl 47 #[.int .i64 0, .int .i64 0, .int .i64 0, .int .i64 0, .int .i64 0, .int .i64 0, .int .i64 0, .int .i64 0, .int .i64 0, .int .i64 0, .int .i64 0, .int .i64 0, .int .i64 0, .int .i64 0, .int .i64 0, .int .i64 0] ?_ ?_ ?_ h1 ?_; (exact HL9.out.res); (exact HIE.out); (rw [HJE.out]; rfl))
  exact bodyPost_ret (results_two_rows Tryz.results48 _ _ (w.heap.size + 2) (w.heap.size + 3) 47 51 C #[.int .i64 4, .int .i64 0] _ _ rfl rfl GA.out GB.out Tryz.underlying47 rfl HIE.out Tryz.underlying51 rfl infoA) rfl ⟨C, H.out, rfl, GC.out⟩

set_option maxRecDepth 100000 in
set_option maxHeartbeats 4000000 in
theorem rtab_peek (C D : Array Value) (z : Nat → Int) (key i : Nat) (v y : Int) (w : World) (h : I64s C 16 z) (hk0 : 1 ≤ key) (hk1 : key ≤ 1000) (hi8 : i < 8) (hat : atT z key = (i : Int)) (hy : z (2 * i) = y) (hfr : (y == 0) = false)  :
    Calls Tryz.prog 48 #[.agg C, .agg #[.int .i64 5, .int .i64 (key : Int), .int .i64 v]] w (RetT z 1 (z (2 * i + 1)) w) := by
  have H := Lib.hid h
  have hI := h.size
  have HIE : Hid ((Tryz.prog.info? 47).map (·.size) = some C.size) := by show _ = _; rw [hI, infoRS]
  have HJE : Hid (C.size = 16) := hI
  have h1 := h.one
  clear h hI
  have HAT := Lib.hid hat
  have HY := Lib.hid hy
  have hi8' : (i : Int) < 8 := by omega
  have hq1 : (1 : Int) ≤ key := by omega
  have hq2 : (key : Int) ≤ 1000 := by omega
  have hwi : withinB 5 1 6 = true := by decide
  have hwk : withinB (key : Int) 1 1000 = true := by simp [withinB]; omega
  clear hat hy
  go_enter Tryz.func48, Tryz.ntmps48
  go_upto_region 1 with (fail)
  have hL := laid_mk w 47 C 5 (key : Int) v
  generalize (((w.alloc (.cells C 47)).alloc (.cells #[.int .i64 5, .int .i64 (key : Int), .int .i64 v] 61)).alloc (.cells #[.int .i64 0, .int .i64 0, .int .i64 0, .int .i64 0, .int .i64 0, .int .i64 0, .int .i64 0, .int .i64 0, .int .i64 0, .int .i64 0, .int .i64 0, .int .i64 0, .int .i64 0, .int .i64 0, .int .i64 0, .int .i64 0] 47)).alloc (.cells #[.int .i64 0, .int .i64 0] 51) = W at *
  have HLx := Lib.hid hL
  obtain ⟨⟨o0, o1, o2⟩, _, hsz⟩ := hL.ops
  clear hL
  go_wp2_with (first
    | (go_at_call 12; refine (within_any _ _ _ _).mono ?_; rintro e w' ⟨rfl, rfl⟩)
    | (refine wpList_load_row rfl 47 _ rfl w.heap.size rfl 47 C (0, 0) _ ?_ Tryz.underlying47 rfl ?_ ?_; (exact HLx.out.tab); (exact HIE.out))
    | (go_at_call 73; refine (place_any C z key _ H.out hk1).mono ?_; rintro e w1 ⟨rfl, hb1⟩; rw [HAT.out]; have hL1 := HLx.out.on hb1; have HL1 := Lib.hid hL1; obtain ⟨⟨p0, p1, p2⟩, _, hsz1⟩ := hL1.ops; have y0 : w1.cell? ⟨w.heap.size, i * 2, none⟩ = some (.int .i64 y) := (by rw [hL1.tab.cell, Nat.mul_comm, H.out.get _ (by omega), HY.out]); have y1 : w1.cell? ⟨w.heap.size, i * 2 + 1, none⟩ = some (.int .i64 (z (2 * i + 1))) := (by rw [hL1.tab.cell, Nat.mul_comm, H.out.get _ (by omega)]); have f0 : w1.frozen? ⟨w.heap.size, i * 2, none⟩ = false := hL1.tab.frozen _; have f1 : w1.frozen? ⟨w.heap.size, i * 2 + 1, none⟩ = false := hL1.tab.frozen _; have hls : w.heap.size < w1.heap.size := (by omega); clear hL1 o0 o1 o2 hsz)
)
  refine wp_region_rely 3 nowhere [] (by kernel_rfl) (by kernel_rfl) ?_
  iterate 3
    refine wpRely_step (fun K hK => ?_)
    first
    | (refine .inl ?_
       apply Exists.intro
       refine ⟨Any, ?_, hK _ _ _ _ ?_⟩
       · simp only [RelyOp, fillE]
         refine ⟨?_, fun w9 hw9 _ => ?_⟩
         · first | rfl | (go_simp; done)
         obtain ⟨hc9, hf9⟩ := hw9.all
         first
         | (exact relyAt_load_row 47 _ rfl w.heap.size rfl 47 C _ (HL1.out.on hw9.same).tab Tryz.underlying47 rfl HIE.out ⟨⟨rfl, trivial⟩, Keeps.refl _ _⟩)
         | (go_simp
            first
            | exact ⟨⟨rfl, trivial⟩, Keeps.refl _ _⟩
            | (go_at_call 71; exact rely_det (said_below _ _ _)))
       clear hK K
       try simp only [Act.put, List.setIfInBounds_toArray, List.set_cons_zero, List.set_cons_succ])
    | (refine .inr (.inl ⟨?_, hK _ _ _ _ ?_⟩)
       · simp only [fillE]
         first | rfl | (go_simp; done)
       clear hK K
       try simp only [Act.put, List.setIfInBounds_toArray, List.set_cons_zero, List.set_cons_succ])
  refine wpRely_nil ?_
  simp only [fillE]
  intro w9 hw9 _
  obtain ⟨hc9, hf9⟩ := hw9.all
  simp only [List.drop_succ_cons, List.drop_zero]
  have hL9 := HL1.out.on hw9.same
  have HL9 := Lib.hid hL9
  obtain ⟨⟨c0, c1⟩, f0, f1⟩ := hL9.row C
  obtain ⟨gA, gB, gC⟩ := hL9.fin C 1 (z (2 * i + 1))
  have GA := Lib.hid gA
  have GB := Lib.hid gB
  have GC := Lib.hid gC
  clear gA gB gC hL9
  go_wp2_with (refine wpList_store_row rfl 47 _ _ rfl (w.heap.size + 2) C rfl rfl 47 #[.int .i64 0, .int .i64 0, .int .i64 0, .int .i64 0, .int .i64 0, .int .i64 0, .int .i64 0, .int .i64 0, .int .i64 0, .int .i64 0, .int .i64 0, .int .i64 0, .int .i64 0, .int .i64 0, .int .i64 0, .int .i64 0] ?_ ?_ ?_ h1 ?_; (exact HL9.out.res); (exact HIE.out); (rw [HJE.out]; rfl))
  exact bodyPost_ret (results_two_rows Tryz.results48 _ _ (w.heap.size + 2) (w.heap.size + 3) 47 51 C #[.int .i64 1, .int .i64 (z (2 * i + 1))] _ _ rfl rfl GA.out GB.out Tryz.underlying47 rfl HIE.out Tryz.underlying51 rfl infoA) rfl ⟨C, H.out, rfl, GC.out⟩

set_option maxRecDepth 100000 in
set_option maxHeartbeats 4000000 in
theorem rtab_full (C D : Array Value) (z : Nat → Int) (key i : Nat) (v y : Int) (w : World) (h : I64s C 16 z) (hk0 : 1 ≤ key) (hk1 : key ≤ 1000) (hi8 : i < 8) (hat : atT z key = (i : Int)) (hy : z (2 * i) = y) (hfr : (y == 0) = true) (l : Int) (hl : lenT z 8 = l) (hl6 : (l == 6) = true) :
    Calls Tryz.prog 48 #[.agg C, .agg #[.int .i64 1, .int .i64 (key : Int), .int .i64 v]] w (RetT z 3 0 w) := by
  have H := Lib.hid h
  have hI := h.size
  have HIE : Hid ((Tryz.prog.info? 47).map (·.size) = some C.size) := by show _ = _; rw [hI, infoRS]
  have HJE : Hid (C.size = 16) := hI
  have h1 := h.one
  clear h hI
  have HAT := Lib.hid hat
  have HY := Lib.hid hy
  have hi8' : (i : Int) < 8 := by omega
  have hq1 : (1 : Int) ≤ key := by omega
  have hq2 : (key : Int) ≤ 1000 := by omega
  have hwi : withinB 1 1 6 = true := by decide
  have hwk : withinB (key : Int) 1 1000 = true := by simp [withinB]; omega
  clear hat hy
  have HLEN := Lib.hid hl
  clear hl
  go_enter Tryz.func48, Tryz.ntmps48
  go_upto_region 1 with (fail)
  have hL := laid_mk w 47 C 1 (key : Int) v
  generalize (((w.alloc (.cells C 47)).alloc (.cells #[.int .i64 1, .int .i64 (key : Int), .int .i64 v] 61)).alloc (.cells #[.int .i64 0, .int .i64 0, .int .i64 0, .int .i64 0, .int .i64 0, .int .i64 0, .int .i64 0, .int .i64 0, .int .i64 0, .int .i64 0, .int .i64 0, .int .i64 0, .int .i64 0, .int .i64 0, .int .i64 0, .int .i64 0] 47)).alloc (.cells #[.int .i64 0, .int .i64 0] 51) = W at *
  have HLx := Lib.hid hL
  obtain ⟨⟨o0, o1, o2⟩, _, hsz⟩ := hL.ops
  clear hL
  go_wp2_with (first
    | (go_at_call 12; refine (within_any _ _ _ _).mono ?_; rintro e w' ⟨rfl, rfl⟩)
    | (refine wpList_load_row rfl 47 _ rfl w.heap.size rfl 47 C (0, 0) _ ?_ Tryz.underlying47 rfl ?_ ?_; (exact HLx.out.tab); (exact HIE.out))
    | (go_at_call 73; refine (place_any C z key _ H.out hk1).mono ?_; rintro e w1 ⟨rfl, hb1⟩; rw [HAT.out]; have hL1 := HLx.out.on hb1; have HL1 := Lib.hid hL1; obtain ⟨⟨p0, p1, p2⟩, _, hsz1⟩ := hL1.ops; have y0 : w1.cell? ⟨w.heap.size, i * 2, none⟩ = some (.int .i64 y) := (by rw [hL1.tab.cell, Nat.mul_comm, H.out.get _ (by omega), HY.out]); have y1 : w1.cell? ⟨w.heap.size, i * 2 + 1, none⟩ = some (.int .i64 (z (2 * i + 1))) := (by rw [hL1.tab.cell, Nat.mul_comm, H.out.get _ (by omega)]); have f0 : w1.frozen? ⟨w.heap.size, i * 2, none⟩ = false := hL1.tab.frozen _; have f1 : w1.frozen? ⟨w.heap.size, i * 2 + 1, none⟩ = false := hL1.tab.frozen _; have hls : w.heap.size < w1.heap.size := (by omega); clear hL1 o0 o1 o2 hsz)
    | (refine wpList_load_row_g ?_ 47 _ rfl w.heap.size rfl 47 C (0, 0) _ ?_ Tryz.underlying47 rfl ?_ ?_; (first | rfl | (go_simp; done)); (exact HL1.out.tab); (exact HIE.out))
    | (go_at_call 70; refine (refLen_any C z _ H.out).mono ?_; rintro e w3 ⟨rfl, hb3⟩; rw [HLEN.out]; have hL3 := HL1.out.on hb3; have HL3 := Lib.hid hL3; obtain ⟨⟨q0, q1, q2⟩, _, hsz3⟩ := hL3.ops; have x0 : w3.cell? ⟨w.heap.size, i * 2, none⟩ = some (.int .i64 y) := (by rw [hL3.tab.cell, Nat.mul_comm, H.out.get _ (by omega), HY.out]); have x1 : w3.cell? ⟨w.heap.size, i * 2 + 1, none⟩ = some (.int .i64 (z (2 * i + 1))) := (by rw [hL3.tab.cell, Nat.mul_comm, H.out.get _ (by omega)]); have g0 : w3.frozen? ⟨w.heap.size, i * 2, none⟩ = false := hL3.tab.frozen _; have g1 : w3.frozen? ⟨w.heap.size, i * 2 + 1, none⟩ = false := hL3.tab.frozen _; have hls3 : w.heap.size < w3.heap.size := (by omega); clear hL3))
  refine wp_region_rely 2 nowhere [] (by kernel_rfl) (by kernel_rfl) ?_
  iterate 2
    refine wpRely_step (fun K hK => ?_)
    first
    | (refine .inl ?_
       apply Exists.intro
       refine ⟨Any, ?_, hK _ _ _ _ ?_⟩
       · simp only [RelyOp, fillE]
         refine ⟨?_, fun w9 hw9 _ => ?_⟩
         · first | rfl | (go_simp; done)
         obtain ⟨hc9, hf9⟩ := hw9.all
         first
         | (exact relyAt_load_row 47 _ rfl w.heap.size rfl 47 C _ (HL3.out.on hw9.same).tab Tryz.underlying47 rfl HIE.out ⟨⟨rfl, trivial⟩, Keeps.refl _ _⟩)
         | (go_simp
            first
            | exact ⟨⟨rfl, trivial⟩, Keeps.refl _ _⟩
            | (go_at_call 71; exact rely_det (said_below _ _ _)))
       clear hK K
       try simp only [Act.put, List.setIfInBounds_toArray, List.set_cons_zero, List.set_cons_succ])
    | (refine .inr (.inl ⟨?_, hK _ _ _ _ ?_⟩)
       · simp only [fillE]
         first | rfl | (go_simp; done)
       clear hK K
       try simp only [Act.put, List.setIfInBounds_toArray, List.set_cons_zero, List.set_cons_succ])
  refine wpRely_nil ?_
  simp only [fillE]
  intro w9 hw9 _
  obtain ⟨hc9, hf9⟩ := hw9.all
  simp only [List.drop_succ_cons, List.drop_zero]
  have hL9 := HL3.out.on hw9.same
  have HL9 := Lib.hid hL9
  obtain ⟨⟨c0, c1⟩, f0, f1⟩ := hL9.row C
  obtain ⟨gA, gB, gC⟩ := hL9.fin C 3 0
  have GA := Lib.hid gA
  have GB := Lib.hid gB
  have GC := Lib.hid gC
  clear gA gB gC hL9
  go_wp2_with (refine wpList_store_row rfl 47 _ _ rfl (w.heap.size + 2) C rfl rfl 47 #[.int .i64 0, .int .i64 0, .int .i64 0, .int .i64 0, .int .i64 0, .int .i64 0, .int .i64 0, .int .i64 0, .int .i64 0, .int .i64 0, .int .i64 0, .int .i64 0, .int .i64 0, .int .i64 0, .int .i64 0, .int .i64 0] ?_ ?_ ?_ h1 ?_; (exact HL9.out.res); (exact HIE.out); (rw [HJE.out]; rfl))
  exact bodyPost_ret (results_two_rows Tryz.results48 _ _ (w.heap.size + 2) (w.heap.size + 3) 47 51 C #[.int .i64 3, .int .i64 0] _ _ rfl rfl GA.out GB.out Tryz.underlying47 rfl HIE.out Tryz.underlying51 rfl infoA) rfl ⟨C, H.out, rfl, GC.out⟩

set_option maxRecDepth 100000 in
set_option maxHeartbeats 4000000 in
theorem rtab_new (C D : Array Value) (z : Nat → Int) (key i : Nat) (v y : Int) (w : World) (h : I64s C 16 z) (hk0 : 1 ≤ key) (hk1 : key ≤ 1000) (hi8 : i < 8) (hat : atT z key = (i : Int)) (hy : z (2 * i) = y) (hfr : (y == 0) = true) (l : Int) (hl : lenT z 8 = l) (hl6 : (l == 6) = false) (hv : -9223372036854775808 ≤ v ∧ v ≤ 9223372036854775807) :
    Calls Tryz.prog 48 #[.agg C, .agg #[.int .i64 1, .int .i64 (key : Int), .int .i64 v]] w (RetT (setS z i key v) 1 0 w) := by
  have H := Lib.hid h
  have hI := h.size
  have HIE : Hid ((Tryz.prog.info? 47).map (·.size) = some C.size) := by show _ = _; rw [hI, infoRS]
  have HJE : Hid (C.size = 16) := hI
  have h1 := h.one
  clear h hI
  have HAT := Lib.hid hat
  have HY := Lib.hid hy
  have hi8' : (i : Int) < 8 := by omega
  have hq1 : (1 : Int) ≤ key := by omega
  have hq2 : (key : Int) ≤ 1000 := by omega
  have hwi : withinB 1 1 6 = true := by decide
  have hwk : withinB (key : Int) 1 1000 = true := by simp [withinB]; omega
  clear hat hy
  have HLEN := Lib.hid hl
  clear hl
  obtain ⟨E, hE⟩ : ∃ E, E = (C.setIfInBounds (i * 2) (.int .i64 (key : Int))).setIfInBounds (i * 2 + 1) (.int .i64 v) := ⟨_, rfl⟩
  have hIE2 : I64s E 16 (setS z i key v) := by rw [hE]; exact setI_s H.out i (by omega) hv
  have HE := Lib.hid hIE2
  have hEE := Lib.hid hE
  have HIE2 : Hid ((Tryz.prog.info? 47).map (·.size) = some E.size) := by show _ = _; rw [hIE2.size, infoRS]
  have HJE2 : Hid (E.size = 16) := hIE2.size
  have h2 := hIE2.one
  clear hIE2 hE
  go_enter Tryz.func48, Tryz.ntmps48
  go_upto_region 1 with (fail)
  have hL := laid_mk w 47 C 1 (key : Int) v
  generalize (((w.alloc (.cells C 47)).alloc (.cells #[.int .i64 1, .int .i64 (key : Int), .int .i64 v] 61)).alloc (.cells #[.int .i64 0, .int .i64 0, .int .i64 0, .int .i64 0, .int .i64 0, .int .i64 0, .int .i64 0, .int .i64 0, .int .i64 0, .int .i64 0, .int .i64 0, .int .i64 0, .int .i64 0, .int .i64 0, .int .i64 0, .int .i64 0] 47)).alloc (.cells #[.int .i64 0, .int .i64 0] 51) = W at *
  have HLx := Lib.hid hL
  obtain ⟨⟨o0, o1, o2⟩, _, hsz⟩ := hL.ops
  clear hL
  go_wp2_with (first
    | (go_at_call 12; refine (within_any _ _ _ _).mono ?_; rintro e w' ⟨rfl, rfl⟩)
    | (refine wpList_load_row rfl 47 _ rfl w.heap.size rfl 47 C (0, 0) _ ?_ Tryz.underlying47 rfl ?_ ?_; (exact HLx.out.tab); (exact HIE.out))
    | (go_at_call 73; refine (place_any C z key _ H.out hk1).mono ?_; rintro e w1 ⟨rfl, hb1⟩; rw [HAT.out]; have hL1 := HLx.out.on hb1; have HL1 := Lib.hid hL1; obtain ⟨⟨p0, p1, p2⟩, _, hsz1⟩ := hL1.ops; have y0 : w1.cell? ⟨w.heap.size, i * 2, none⟩ = some (.int .i64 y) := (by rw [hL1.tab.cell, Nat.mul_comm, H.out.get _ (by omega), HY.out]); have y1 : w1.cell? ⟨w.heap.size, i * 2 + 1, none⟩ = some (.int .i64 (z (2 * i + 1))) := (by rw [hL1.tab.cell, Nat.mul_comm, H.out.get _ (by omega)]); have f0 : w1.frozen? ⟨w.heap.size, i * 2, none⟩ = false := hL1.tab.frozen _; have f1 : w1.frozen? ⟨w.heap.size, i * 2 + 1, none⟩ = false := hL1.tab.frozen _; have hls : w.heap.size < w1.heap.size := (by omega); clear hL1 o0 o1 o2 hsz)
    | (refine wpList_load_row_g ?_ 47 _ rfl w.heap.size rfl 47 C (0, 0) _ ?_ Tryz.underlying47 rfl ?_ ?_; (first | rfl | (go_simp; done)); (exact HL1.out.tab); (exact HIE.out))
    | (go_at_call 70; refine (refLen_any C z _ H.out).mono ?_; rintro e w3 ⟨rfl, hb3⟩; rw [HLEN.out]; have hL3 := HL1.out.on hb3; have HL3 := Lib.hid hL3; obtain ⟨⟨q0, q1, q2⟩, _, hsz3⟩ := hL3.ops; have x0 : w3.cell? ⟨w.heap.size, i * 2, none⟩ = some (.int .i64 y) := (by rw [hL3.tab.cell, Nat.mul_comm, H.out.get _ (by omega), HY.out]); have x1 : w3.cell? ⟨w.heap.size, i * 2 + 1, none⟩ = some (.int .i64 (z (2 * i + 1))) := (by rw [hL3.tab.cell, Nat.mul_comm, H.out.get _ (by omega)]); have g0 : w3.frozen? ⟨w.heap.size, i * 2, none⟩ = false := hL3.tab.frozen _; have g1 : w3.frozen? ⟨w.heap.size, i * 2 + 1, none⟩ = false := hL3.tab.frozen _; have hls3 : w.heap.size < w3.heap.size := (by omega); have HL4 := Lib.hid (hL3.set_ i (key : Int) v); rw [← hEE.out] at HL4; clear hL3))
  refine wp_region_rely 2 nowhere [] (by kernel_rfl) (by kernel_rfl) ?_
  iterate 2
    refine wpRely_step (fun K hK => ?_)
    first
    | (refine .inl ?_
       apply Exists.intro
       refine ⟨Any, ?_, hK _ _ _ _ ?_⟩
       · simp only [RelyOp, fillE]
         refine ⟨?_, fun w9 hw9 _ => ?_⟩
         · first | rfl | (go_simp; done)
         obtain ⟨hc9, hf9⟩ := hw9.all
         first
         | (exact relyAt_load_row 47 _ rfl w.heap.size rfl 47 E _ (HL4.out.on hw9.same).tab Tryz.underlying47 rfl HIE2.out ⟨⟨rfl, trivial⟩, Keeps.refl _ _⟩)
         | (go_simp
            first
            | exact ⟨⟨rfl, trivial⟩, Keeps.refl _ _⟩
            | (go_at_call 71; exact rely_det (said_below _ _ _)))
       clear hK K
       try simp only [Act.put, List.setIfInBounds_toArray, List.set_cons_zero, List.set_cons_succ])
    | (refine .inr (.inl ⟨?_, hK _ _ _ _ ?_⟩)
       · simp only [fillE]
         first | rfl | (go_simp; done)
       clear hK K
       try simp only [Act.put, List.setIfInBounds_toArray, List.set_cons_zero, List.set_cons_succ])
  refine wpRely_nil ?_
  simp only [fillE]
  intro w9 hw9 _
  obtain ⟨hc9, hf9⟩ := hw9.all
  simp only [List.drop_succ_cons, List.drop_zero]
  have hL9 := HL4.out.on hw9.same
  have HL9 := Lib.hid hL9
  obtain ⟨⟨c0, c1⟩, f0, f1⟩ := hL9.row E
  obtain ⟨gA, gB, gC⟩ := hL9.fin E 1 0
  have GA := Lib.hid gA
  have GB := Lib.hid gB
  have GC := Lib.hid gC
  clear gA gB gC hL9
  go_wp2_with (refine wpList_store_row rfl 47 _ _ rfl (w.heap.size + 2) E rfl rfl 47 #[.int .i64 0, .int .i64 0, .int .i64 0, .int .i64 0, .int .i64 0, .int .i64 0, .int .i64 0, .int .i64 0, .int .i64 0, .int .i64 0, .int .i64 0, .int .i64 0, .int .i64 0, .int .i64 0, .int .i64 0, .int .i64 0] ?_ ?_ ?_ h2 ?_; (exact HL9.out.res); (exact HIE2.out); (rw [HJE2.out]; rfl))
  exact bodyPost_ret (results_two_rows Tryz.results48 _ _ (w.heap.size + 2) (w.heap.size + 3) 47 51 E #[.int .i64 1, .int .i64 0] _ _ rfl rfl GA.out GB.out Tryz.underlying47 rfl HIE2.out Tryz.underlying51 rfl infoA) rfl ⟨E, HE.out, rfl, GC.out⟩

set_option maxRecDepth 100000 in
set_option maxHeartbeats 4000000 in
theorem rtab_old (C D : Array Value) (z : Nat → Int) (key i : Nat) (v y : Int) (w : World) (h : I64s C 16 z) (hk0 : 1 ≤ key) (hk1 : key ≤ 1000) (hi8 : i < 8) (hat : atT z key = (i : Int)) (hy : z (2 * i) = y) (hfr : (y == 0) = false) (hv : -9223372036854775808 ≤ v ∧ v ≤ 9223372036854775807) :
    Calls Tryz.prog 48 #[.agg C, .agg #[.int .i64 1, .int .i64 (key : Int), .int .i64 v]] w (RetT (setS z i key v) 1 0 w) := by
  have H := Lib.hid h
  have hI := h.size
  have HIE : Hid ((Tryz.prog.info? 47).map (·.size) = some C.size) := by show _ = _; rw [hI, infoRS]
  have HJE : Hid (C.size = 16) := hI
  have h1 := h.one
  clear h hI
  have HAT := Lib.hid hat
  have HY := Lib.hid hy
  have hi8' : (i : Int) < 8 := by omega
  have hq1 : (1 : Int) ≤ key := by omega
  have hq2 : (key : Int) ≤ 1000 := by omega
  have hwi : withinB 1 1 6 = true := by decide
  have hwk : withinB (key : Int) 1 1000 = true := by simp [withinB]; omega
  clear hat hy
  obtain ⟨E, hE⟩ : ∃ E, E = (C.setIfInBounds (i * 2) (.int .i64 (key : Int))).setIfInBounds (i * 2 + 1) (.int .i64 v) := ⟨_, rfl⟩
  have hIE2 : I64s E 16 (setS z i key v) := by rw [hE]; exact setI_s H.out i (by omega) hv
  have HE := Lib.hid hIE2
  have hEE := Lib.hid hE
  have HIE2 : Hid ((Tryz.prog.info? 47).map (·.size) = some E.size) := by show _ = _; rw [hIE2.size, infoRS]
  have HJE2 : Hid (E.size = 16) := hIE2.size
  have h2 := hIE2.one
  clear hIE2 hE
  go_enter Tryz.func48, Tryz.ntmps48
  go_upto_region 1 with (fail)
  have hL := laid_mk w 47 C 1 (key : Int) v
  generalize (((w.alloc (.cells C 47)).alloc (.cells #[.int .i64 1, .int .i64 (key : Int), .int .i64 v] 61)).alloc (.cells #[.int .i64 0, .int .i64 0, .int .i64 0, .int .i64 0, .int .i64 0, .int .i64 0, .int .i64 0, .int .i64 0, .int .i64 0, .int .i64 0, .int .i64 0, .int .i64 0, .int .i64 0, .int .i64 0, .int .i64 0, .int .i64 0] 47)).alloc (.cells #[.int .i64 0, .int .i64 0] 51) = W at *
  have HLx := Lib.hid hL
  obtain ⟨⟨o0, o1, o2⟩, _, hsz⟩ := hL.ops
  clear hL
  go_wp2_with (first
    | (go_at_call 12; refine (within_any _ _ _ _).mono ?_; rintro e w' ⟨rfl, rfl⟩)
    | (refine wpList_load_row rfl 47 _ rfl w.heap.size rfl 47 C (0, 0) _ ?_ Tryz.underlying47 rfl ?_ ?_; (exact HLx.out.tab); (exact HIE.out))
    | (go_at_call 73; refine (place_any C z key _ H.out hk1).mono ?_; rintro e w1 ⟨rfl, hb1⟩; rw [HAT.out]; have hL1 := HLx.out.on hb1; have HL1 := Lib.hid hL1; obtain ⟨⟨p0, p1, p2⟩, _, hsz1⟩ := hL1.ops; have y0 : w1.cell? ⟨w.heap.size, i * 2, none⟩ = some (.int .i64 y) := (by rw [hL1.tab.cell, Nat.mul_comm, H.out.get _ (by omega), HY.out]); have y1 : w1.cell? ⟨w.heap.size, i * 2 + 1, none⟩ = some (.int .i64 (z (2 * i + 1))) := (by rw [hL1.tab.cell, Nat.mul_comm, H.out.get _ (by omega)]); have f0 : w1.frozen? ⟨w.heap.size, i * 2, none⟩ = false := hL1.tab.frozen _; have f1 : w1.frozen? ⟨w.heap.size, i * 2 + 1, none⟩ = false := hL1.tab.frozen _; have hls : w.heap.size < w1.heap.size := (by omega); clear hL1 o0 o1 o2 hsz)
)
  have HL4 := Lib.hid (HL1.out.set_ i (key : Int) v)
  rw [← hEE.out] at HL4
  refine wp_region_rely 2 nowhere [] (by kernel_rfl) (by kernel_rfl) ?_
  iterate 2
    refine wpRely_step (fun K hK => ?_)
    first
    | (refine .inl ?_
       apply Exists.intro
       refine ⟨Any, ?_, hK _ _ _ _ ?_⟩
       · simp only [RelyOp, fillE]
         refine ⟨?_, fun w9 hw9 _ => ?_⟩
         · first | rfl | (go_simp; done)
         obtain ⟨hc9, hf9⟩ := hw9.all
         first
         | (exact relyAt_load_row 47 _ rfl w.heap.size rfl 47 E _ (HL4.out.on hw9.same).tab Tryz.underlying47 rfl HIE2.out ⟨⟨rfl, trivial⟩, Keeps.refl _ _⟩)
         | (go_simp
            first
            | exact ⟨⟨rfl, trivial⟩, Keeps.refl _ _⟩
            | (go_at_call 71; exact rely_det (said_below _ _ _)))
       clear hK K
       try simp only [Act.put, List.setIfInBounds_toArray, List.set_cons_zero, List.set_cons_succ])
    | (refine .inr (.inl ⟨?_, hK _ _ _ _ ?_⟩)
       · simp only [fillE]
         first | rfl | (go_simp; done)
       clear hK K
       try simp only [Act.put, List.setIfInBounds_toArray, List.set_cons_zero, List.set_cons_succ])
  refine wpRely_nil ?_
  simp only [fillE]
  intro w9 hw9 _
  obtain ⟨hc9, hf9⟩ := hw9.all
  simp only [List.drop_succ_cons, List.drop_zero]
  have hL9 := HL4.out.on hw9.same
  have HL9 := Lib.hid hL9
  obtain ⟨⟨c0, c1⟩, f0, f1⟩ := hL9.row E
  obtain ⟨gA, gB, gC⟩ := hL9.fin E 1 0
  have GA := Lib.hid gA
  have GB := Lib.hid gB
  have GC := Lib.hid gC
  clear gA gB gC hL9
  go_wp2_with (refine wpList_store_row rfl 47 _ _ rfl (w.heap.size + 2) E rfl rfl 47 #[.int .i64 0, .int .i64 0, .int .i64 0, .int .i64 0, .int .i64 0, .int .i64 0, .int .i64 0, .int .i64 0, .int .i64 0, .int .i64 0, .int .i64 0, .int .i64 0, .int .i64 0, .int .i64 0, .int .i64 0, .int .i64 0] ?_ ?_ ?_ h2 ?_; (exact HL9.out.res); (exact HIE2.out); (rw [HJE2.out]; rfl))
  exact bodyPost_ret (results_two_rows Tryz.results48 _ _ (w.heap.size + 2) (w.heap.size + 3) 47 51 E #[.int .i64 1, .int .i64 0] _ _ rfl rfl GA.out GB.out Tryz.underlying47 rfl HIE2.out Tryz.underlying51 rfl infoA) rfl ⟨E, HE.out, rfl, GC.out⟩

end Go.Proofs.YtkoflhjnpilchaaGreatDoor

namespace Go.Proofs.YtkoflhjnpilchaaGreatDoor
set_option linter.unusedSimpArgs false
set_option linter.unusedVariables false
set_option linter.unusedSectionVars false
open Go.RowKit
set_option linter.unusedSimpArgs false
set_option linter.unusedVariables false
attribute [local go_sem ↓] Go.wp_at_zero Go.wp_at_succ

def behL (i n : Nat) : List Int := (List.range n).map fun x => ((kk i x : Nat) : Int)
theorem behL_succ (i n : Nat) : behL i (n + 1) = behL i n ++ [((kk i n : Nat) : Int)] := by
  unfold behL
  rw [List.range_succ, List.map_append]
  rfl
theorem behL_get (i n j : Nat) (hj : j < n) : (behL i n)[j]?.getD 0 = kk i j := by
  unfold behL
  rw [List.getElem?_map, List.getElem?_range hj]
  rfl
theorem behL_bd (i n : Nat) : IBd (behL i n) := fun j => by
  rcases Nat.lt_or_ge j n with h | h
  · rw [behL_get i n j h]
    have := kk_lt i j
    omega
  · rw [List.getElem?_eq_none (by simp [behL]; omega)]
    decide

set_option maxRecDepth 100000 in
set_option maxHeartbeats 4000000 in
theorem rtab_take (C D : Array Value) (z : Nat → Int) (key i : Nat) (v y : Int) (w : World) (h : I64s C 16 z) (hk0 : 1 ≤ key) (hk1 : key ≤ 1000) (hi8 : i < 8) (hat : atT z key = (i : Int)) (hy : z (2 * i) = y) (hfr : (y == 0) = false) (m : Nat) (hbe : Beh z i m) (hD : I64s D 16 (runT z i m)) :
    Calls Tryz.prog 48 #[.agg C, .agg #[.int .i64 2, .int .i64 (key : Int), .int .i64 v]] w (RetT (runT z i m) 1 (z (2 * i + 1)) w) := by
  have H := Lib.hid h
  have hI := h.size
  have HIE : Hid ((Tryz.prog.info? 47).map (·.size) = some C.size) := by show _ = _; rw [hI, infoRS]
  have HJE : Hid (C.size = 16) := hI
  have h1 := h.one
  clear h hI
  have HAT := Lib.hid hat
  have HY := Lib.hid hy
  have hi8' : (i : Int) < 8 := by omega
  have hq1 : (1 : Int) ≤ key := by omega
  have hq2 : (key : Int) ≤ 1000 := by omega
  have hwi : withinB 2 1 6 = true := by decide
  have hwk : withinB (key : Int) 1 1000 = true := by simp [withinB]; omega
  clear hat hy
  have HBE := Lib.hid hbe
  have HD := Lib.hid hD
  have HIE2 : Hid ((Tryz.prog.info? 47).map (·.size) = some D.size) := by show _ = _; rw [hD.size, infoRS]
  have HJE2 : Hid (D.size = 16) := hD.size
  have h2 := hD.one
  have hm6 := hbe.m6
  clear hbe hD
  go_enter Tryz.func48, Tryz.ntmps48
  go_upto_region 1 with (fail)
  have hL := laid_mk w 47 C 2 (key : Int) v
  generalize (((w.alloc (.cells C 47)).alloc (.cells #[.int .i64 2, .int .i64 (key : Int), .int .i64 v] 61)).alloc (.cells #[.int .i64 0, .int .i64 0, .int .i64 0, .int .i64 0, .int .i64 0, .int .i64 0, .int .i64 0, .int .i64 0, .int .i64 0, .int .i64 0, .int .i64 0, .int .i64 0, .int .i64 0, .int .i64 0, .int .i64 0, .int .i64 0] 47)).alloc (.cells #[.int .i64 0, .int .i64 0] 51) = W at *
  have HLx := Lib.hid hL
  obtain ⟨⟨o0, o1, o2⟩, _, hsz⟩ := hL.ops
  clear hL
  go_wp2_with (first
    | (go_at_call 12; refine (within_any _ _ _ _).mono ?_; rintro e w' ⟨rfl, rfl⟩)
    | (refine wpList_load_row rfl 47 _ rfl w.heap.size rfl 47 C (0, 0) _ ?_ Tryz.underlying47 rfl ?_ ?_; (exact HLx.out.tab); (exact HIE.out))
    | (go_at_call 73; refine (place_any C z key _ H.out hk1).mono ?_; rintro e w1 ⟨rfl, hb1⟩; rw [HAT.out]; have hL1 := HLx.out.on hb1; have HL1 := Lib.hid hL1; obtain ⟨⟨p0, p1, p2⟩, _, hsz1⟩ := hL1.ops; have y0 : w1.cell? ⟨w.heap.size, i * 2, none⟩ = some (.int .i64 y) := (by rw [hL1.tab.cell, Nat.mul_comm, H.out.get _ (by omega), HY.out]); have y1 : w1.cell? ⟨w.heap.size, i * 2 + 1, none⟩ = some (.int .i64 (z (2 * i + 1))) := (by rw [hL1.tab.cell, Nat.mul_comm, H.out.get _ (by omega)]); have f0 : w1.frozen? ⟨w.heap.size, i * 2, none⟩ = false := hL1.tab.frozen _; have f1 : w1.frozen? ⟨w.heap.size, i * 2 + 1, none⟩ = false := hL1.tab.frozen _; have hls : w.heap.size < w1.heap.size := (by omega); clear hL1 o0 o1 o2 hsz)
)
  have hL3 := HL1.out.set_ i 0 0
  have hI3 := setI_s H.out i (k := 0) (v := 0) (by decide) (by decide)
  obtain ⟨C3, hC3⟩ : ∃ E, (C.setIfInBounds (i * 2) (.int .i64 0)).setIfInBounds (i * 2 + 1) (.int .i64 0) = E := ⟨_, rfl⟩
  rw [hC3] at hL3 hI3
  clear hC3 p0 p1 p2 y0 y1 f0 f1 hls hsz1 HL1
  generalize (w1.setCell ⟨w.heap.size, i * 2, none⟩ (.int .i64 0)).setCell ⟨w.heap.size, i * 2 + 1, none⟩ (.int .i64 0) = W3 at *
  have HL3 := Lib.hid hL3
  have HI3 := Lib.hid hI3
  clear hL3 hI3
  have hsz3 := HL3.out.ans.lt
  go_loopw [9, 10] (fun s t wr => ∃ x j : Nat, x ≤ m ∧ t = .int .i64 (j : Int) ∧ Hid (j = i + 1 + x) ∧ j ≤ 20 ∧ Hid (∃ A c, s = .slice A x c ∧ Own wr W3.heap.size A x c (behL i x)) ∧ Below W3.heap.size W3 wr) (fun _ t _ => 30 - (intOf t).toNat)
  case atStart => exact ⟨0, i + 1, by omega, by go_num, Lib.hid rfl, by omega, Lib.hid ⟨none, 0, rfl, Own.nil _ _⟩, Below.refl _ _⟩
  case round =>
    obtain ⟨x, j, hxm, rfl, hj, hj20, hex, hb⟩ := hrel
    obtain ⟨A, c, rfl, hown⟩ := hex.out
    have HO := Lib.hid hown
    clear hown hex
    have hL4 := HL3.out.on hb
    have HL4 := Lib.hid hL4
    have hsz4 := hL4.ans.lt
    have hq8 : j % 8 < 8 := Nat.mod_lt _ (by decide)
    have hkk : kk i x = j % 8 := by rw [hj.out]; unfold kk; omega
    have c0 : wr.cell? ⟨w.heap.size, j % 8 * 2, none⟩ = some (.int .i64 (setS z i 0 0 (2 * kk i x))) := by rw [hL4.tab.cell, hkk, Nat.mul_comm, HI3.out.get _ (by omega)]
    clear hL4
    rcases Nat.lt_or_ge x m with hlt | hge
    · have hne := HBE.out.occ x hlt
      generalize setS z i 0 0 (2 * kk i x) = y5 at *
      have d5 : (y5 != 0) = true := by simpa using hne
      have HKK := Lib.hid hkk
      clear hkk hne
      have hsz5 := hb.size
      go_wp2_with (at_builtin; refine wpList_append1 rfl (.tmp 95) (.tmp 98) rfl (B := W3.heap.size) (v := (j : Int) % 8) rfl (HO.out.alloc _) rfl ((Blk.new _ _ _).cell 0) (by omega) (by simp; omega) ?_; intro g2 c2 w2 hown2 hb2)
      refine ⟨⟨x + 1, j + 1, by omega, by go_num, Lib.hid (by rw [hj.out]; omega), by have := hj.out; omega, Lib.hid ⟨_, _, rfl, ?_⟩, (hb.alloc hsz5 _).trans hb2⟩, by simp [intOf]; omega⟩
      rw [behL_succ, HKK.out]
      exact hown2
    · obtain rfl : x = m := by omega
      have hze := HBE.out.free
      generalize setS z i 0 0 (2 * kk i x) = y5 at *
      have d5 : (y5 != 0) = false := by simpa using hze
      clear hze hkk
      go_wp2
      clear c0
      have hsl := (HO.out.mono (B' := w.heap.size + 4) (by omega)).slo (behL_bd i x)
      have HSL := Lib.hid hsl
      have hb4 := HL4.out.below
      have hT4 : TabAt wr w.heap.size 47 (runT z i 0) := TabAt.mk' HL4.out.tab HI3.out
      have HT4 := Lib.hid hT4
      clear hsl HO hb hT4
      rename World => W4
      go_loopw [102] (fun t wr => ∃ n : Nat, n ≤ x ∧ t = .int .i64 (n : Int) ∧ Hid (TabAt wr w.heap.size 47 (runT z i n)) ∧ Hid (Keeps (fun b => b = w.heap.size) W4 wr)) (fun t _ => x - (intOf t).toNat)
      case atStart => exact ⟨0, by omega, rfl, HT4, Lib.hid (Keeps.refl _ _)⟩
      case round =>
        obtain ⟨n, hnx, rfl, hT, hK⟩ := hrel
        have hgl := hT.out.lt
        have hszr := hK.out.size
        rcases Nat.lt_or_ge n x with hlt | hge
        · obtain ⟨b, off, rfl, hblt, hcell⟩ := HSL.out.sli.at_ (by omega)
          have hbup := HSL.out.up (by omega) _ rfl
          have hcap := HSL.out.sli.cap
          have h63 := HSL.out.sli.cap63
          have hbs : ¬ b = w.heap.size := by show ¬ b = w.heap.size; have : w.heap.size + 4 ≤ b := hbup; omega
          have cb : wr.cell? ⟨b, off + n, none⟩ = some (.int .i64 ((kk i n : Nat) : Int)) := (hK.out.cell (p := ⟨b, off + n, none⟩) hblt hbs).trans (by rw [hcell n hlt, behL_get i x n hlt])
          clear hcell
          have hnx' : (n : Int) < x := by omega
          have hq8 := kk_lt i n
          obtain ⟨y1, y2, v1, v2⟩ := HBE.out.bd hlt
          obtain ⟨p, hp8, hat, _⟩ := HBE.out.step hlt (HBE.out.run n (by omega))
          have hstep : runT z i (n + 1) = setS (setS (runT z i n) (kk i n) 0 0) p (runT z i n (2 * kk i n)) (runT z i n (2 * kk i n + 1)) := by
            show stepT (runT z i n) (kk i n) = _
            unfold stepT
            rw [hat, Int.toNat_natCast]
          have c0 := hT.out.key hq8
          have c1 := hT.out.val hq8
          generalize hq : kk i n = q at *
          generalize hTT : runT z i n = T at *
          generalize hy : T (2 * q) = ky at *
          generalize hvv : T (2 * q + 1) = vv at *
          have f0 := hT.out.frozen (q * 2)
          have f1 := hT.out.frozen (q * 2 + 1)
          have hq8' : (q : Int) < 8 := by omega
          have HATP := Lib.hid hat
          have HST := Lib.hid hstep
          clear hat hstep hTT hy hvv hq
          have hyi : -9223372036854775808 ≤ ky ∧ ky ≤ 9223372036854775807 := by omega
          have hvi : -9223372036854775808 ≤ vv ∧ vv ≤ 9223372036854775807 := by omega
          have hU := Lib.hid ((hT.out.setS q (k := 0) (v := 0) (by decide) (by decide)).alloc (.cells #[.int .i64 ky, .int .i64 vv] 45))
          have hS : Blk (((wr.setCell ⟨w.heap.size, q * 2, none⟩ (.int .i64 0)).setCell ⟨w.heap.size, q * 2 + 1, none⟩ (.int .i64 0)).alloc (.cells #[.int .i64 ky, .int .i64 vv] 45)) wr.heap.size 45 #[.int .i64 ky, .int .i64 vv] := Blk.newAt _ _ _ (by simp)
          have hK2 := Lib.hid (((hK.out.setCell (p := ⟨w.heap.size, q * 2, none⟩) (.inl rfl) (.int .i64 0)).setCell (p := ⟨w.heap.size, q * 2 + 1, none⟩) (.inl rfl) (.int .i64 0)).alloc (.cells #[.int .i64 ky, .int .i64 vv] 45))
          go_wp2
          clear c0 c1 f0 f1 hT hK cb
          generalize ((wr.setCell ⟨w.heap.size, q * 2, none⟩ (.int .i64 0)).setCell ⟨w.heap.size, q * 2 + 1, none⟩ (.int .i64 0)).alloc (.cells #[.int .i64 ky, .int .i64 vv] 45) = W at *
          have hgl2 := hU.out.lt
          have hsl := hS.lt
          have s0 := hS.cell 0
          have s1 := hS.cell 1
          simp only [List.getElem?_toArray, List.getElem?_cons_zero, List.getElem?_cons_succ] at s0 s1
          obtain ⟨CU, hCU, hIU⟩ := hU.out.ex
          have HCU := Lib.hid hCU
          have HIU := Lib.hid hIU
          have HSU : Hid ((Tryz.prog.info? 47).map (·.size) = some CU.size) := by show _ = _; rw [hIU.size, infoRS]
          clear hCU hIU hS
          have hp8' : (p : Int) < 8 := by omega
          have hcall : ∀ w9, Calls Tryz.prog 73 #[.agg CU, .int .i64 ky] w9 fun e w' => e = .returned (.int .i64 (p : Int)) ∧ Below w9.heap.size w9 w' := fun w9 => by
            rw [← HATP.out]
            exact place_int CU _ ky w9 HIU.out (by omega) y2
          have HCALL := Lib.hid hcall
          clear hcall
          have c0 := hU.out.key hp8
          have c1 := hU.out.val hp8
          have f0 := hU.out.frozen (p * 2)
          have f1 := hU.out.frozen (p * 2 + 1)
          refine wp_region_rely 6 nowhere [] (by kernel_rfl) (by kernel_rfl) ?_
          iterate 6
            refine wpRely_step (fun K hK => ?_)
            first
            | (refine .inl ?_
               apply Exists.intro
               refine ⟨Any, ?_, hK _ _ _ _ ?_⟩
               · simp only [RelyOp, fillE]
                 refine ⟨?_, fun w9 hw9 _ => ?_⟩
                 · first | rfl | (go_simp; done)
                 obtain ⟨hc9, hf9⟩ := hw9.all
                 first
                 | (exact relyAt_load_row 47 _ rfl w.heap.size rfl 47 CU _ (HCU.out.below hw9.same hgl2) Tryz.underlying47 rfl HSU.out ⟨⟨rfl, trivial⟩, Keeps.refl _ _⟩)
                 | (go_simp
                    first
                    | exact ⟨⟨rfl, trivial⟩, Keeps.refl _ _⟩
                    | (go_at_call 73; exact rely_det (HCALL.out w9)))
               clear hK K
               try simp only [Act.put, List.setIfInBounds_toArray, List.set_cons_zero, List.set_cons_succ])
            | (refine .inr (.inl ⟨?_, hK _ _ _ _ ?_⟩)
               · simp only [fillE]
                 first | rfl | (go_simp; done)
               clear hK K
               try simp only [Act.put, List.setIfInBounds_toArray, List.set_cons_zero, List.set_cons_succ])
          refine wpRely_nil ?_
          simp only [fillE]
          intro w9 hw9 _
          obtain ⟨hc9, hf9⟩ := hw9.all
          go_wp2
          have hbw := hw9.same
          refine ⟨⟨n + 1, by omega, by go_num, Lib.hid ?_, Lib.hid (((hK2.out.trans (hw9.mono fun _ h => h.elim)).setCell (.inl rfl) _).setCell (.inl rfl) _)⟩, by simp [intOf]; omega⟩
          rw [HST.out]
          exact (hU.out.below hbw hgl2).setS p hyi hvi
        · obtain rfl : n = x := by omega
          go_wp2
          obtain ⟨E, hE, hIE⟩ := hT.out.ex
          obtain rfl : E = D := hIE.ext HD.out
          have HLZ : Hid (Laid w wr 47 E 2 (key : Int) v) := Lib.hid ⟨hE, (hK.out.block _ HL4.out.op.lt (by omega)).trans HL4.out.op, (hK.out.block _ HL4.out.res.lt (by omega)).trans HL4.out.res, (hK.out.block _ HL4.out.ans.lt (by omega)).trans HL4.out.ans, hb4.trans (hK.out.below hb4.size (fun b hb e => by omega))⟩
          clear hE hIE
          refine wp_region_rely 3 nowhere [] (by kernel_rfl) (by kernel_rfl) ?_
          iterate 3
            refine wpRely_step (fun K hK => ?_)
            first
            | (refine .inl ?_
               apply Exists.intro
               refine ⟨Any, ?_, hK _ _ _ _ ?_⟩
               · simp only [RelyOp, fillE]
                 refine ⟨?_, fun w9 hw9 _ => ?_⟩
                 · first | rfl | (go_simp; done)
                 obtain ⟨hc9, hf9⟩ := hw9.all
                 first
                 | (exact relyAt_load_row 47 _ rfl w.heap.size rfl 47 E _ (HLZ.out.on hw9.same).tab Tryz.underlying47 rfl HIE2.out ⟨⟨rfl, trivial⟩, Keeps.refl _ _⟩)
                 | (go_simp
                    first
                    | exact ⟨⟨rfl, trivial⟩, Keeps.refl _ _⟩
                    | (go_at_call 71; exact rely_det (said_below _ _ _)))
               clear hK K
               try simp only [Act.put, List.setIfInBounds_toArray, List.set_cons_zero, List.set_cons_succ])
            | (refine .inr (.inl ⟨?_, hK _ _ _ _ ?_⟩)
               · simp only [fillE]
                 first | rfl | (go_simp; done)
               clear hK K
               try simp only [Act.put, List.setIfInBounds_toArray, List.set_cons_zero, List.set_cons_succ])
          refine wpRely_nil ?_
          simp only [fillE]
          intro w9 hw9 _
          obtain ⟨hc9, hf9⟩ := hw9.all
          simp only [List.drop_succ_cons, List.drop_zero]
          have hL9 := HLZ.out.on hw9.same
          have HL9 := Lib.hid hL9
          obtain ⟨⟨c0, c1⟩, f0, f1⟩ := hL9.row E
          obtain ⟨gA, gB, gC⟩ := hL9.fin E 1 (z (2 * i + 1))
          have GA := Lib.hid gA
          have GB := Lib.hid gB
          have GC := Lib.hid gC
          clear gA gB gC hL9
          go_wp2_with (refine wpList_store_row rfl 47 _ _ rfl (w.heap.size + 2) E rfl rfl 47 #[.int .i64 0, .int .i64 0, .int .i64 0, .int .i64 0, .int .i64 0, .int .i64 0, .int .i64 0, .int .i64 0, .int .i64 0, .int .i64 0, .int .i64 0, .int .i64 0, .int .i64 0, .int .i64 0, .int .i64 0, .int .i64 0] ?_ ?_ ?_ h2 ?_; (exact HL9.out.res); (exact HIE2.out); (rw [HJE2.out]; rfl))
          exact bodyPost_ret (results_two_rows Tryz.results48 _ _ (w.heap.size + 2) (w.heap.size + 3) 47 51 E #[.int .i64 1, .int .i64 (z (2 * i + 1))] _ _ rfl rfl GA.out GB.out Tryz.underlying47 rfl HIE2.out Tryz.underlying51 rfl infoA) rfl ⟨E, HD.out, rfl, GC.out⟩

theorem rtab_any (C D : Array Value) (z : Nat → Int) (a k v : Int) (m : Nat) (w : World) (h : I64s C 16 z) (hr : rightT z = true) (hv : -9223372036854775808 ≤ v ∧ v ≤ 9223372036854775807) (hm : tabM z a k m) (hD : I64s D 16 (tabY z a k v m)) :
    Calls Tryz.prog 48 #[.agg C, .agg #[.int .i64 a, .int .i64 k, .int .i64 v]] w fun e w' => e = .returned (.tuple #[.agg D, .agg #[.int .i64 (tabC z a k), .int .i64 (tabV z a k)]]) ∧ Below w.heap.size w w' := by
  suffices hs : Calls Tryz.prog 48 #[.agg C, .agg #[.int .i64 a, .int .i64 k, .int .i64 v]] w (RetT (tabY z a k v m) (tabC z a k) (tabV z a k) w) from hs.mono fun e w' h' => h'.det hD
  by_cases a6 : a = 6
  · subst a6
    exact rtab_count C z k v w h
  · by_cases hc : (a = 1 ∨ a = 2 ∨ a = 5) ∧ 1 ≤ k ∧ k ≤ 1000
    · obtain ⟨ha, hk1, hk2⟩ := hc
      obtain ⟨key, rfl⟩ := Int.eq_ofNat_of_zero_le (show (0 : Int) ≤ k by omega)
      have q1 : 1 ≤ key := by omega
      have q2 : key ≤ 1000 := by omega
      obtain ⟨i, hi, hat, hor⟩ := at_exists hr key
      have e : (atT z ((key : Nat) : Int).toNat).toNat = i := by rw [Int.toNat_natCast, hat]; rfl
      have hM : a = 2 → z (2 * i) = key → Beh z i m := fun e1 e2 => by have := hm e1 hk1 hk2 (by rw [e]; exact e2); rwa [e] at this
      by_cases hth : z (2 * i) = key
      · have hb : (z (2 * i) == 0) = false := by simp; omega
        rcases ha with rfl | rfl | rfl
        · have e1 : tabY z 1 key v m = setS z i key v := by simp [tabY, hk1, hk2, hat, hth]
          have e2 : tabC z 1 key = 1 := by simp [tabC, hk1, hk2, hat, hth]
          have e3 : tabV z 1 key = 0 := by simp [tabV]
          rw [e1, e2, e3]
          exact rtab_old C C z key i v _ w h q1 q2 hi hat rfl hb hv
        · have hB := hM rfl hth
          have e1 : tabY z 2 key v m = runT z i m := by simp [tabY, hk1, hk2, hat, hth]
          have e2 : tabC z 2 key = 1 := by simp [tabC, hk1, hk2, hat, hth]
          have e3 : tabV z 2 key = z (2 * i + 1) := by simp [tabV, hk1, hk2, hat, hth]
          rw [e1] at hD ⊢
          rw [e2, e3]
          exact rtab_take C D z key i v _ w h q1 q2 hi hat rfl hb m hB hD
        · have e1 : tabY z 5 key v m = z := by simp [tabY, hat, hth]
          have e2 : tabC z 5 key = 1 := by simp [tabC, hk1, hk2, hat, hth]
          have e3 : tabV z 5 key = z (2 * i + 1) := by simp [tabV, hk1, hk2, hat, hth]
          rw [e1, e2, e3]
          exact rtab_peek C C z key i v _ w h q1 q2 hi hat rfl hb
      · have hb : (z (2 * i) == 0) = true := by simpa using hor.resolve_left hth
        have hl6 := rightT_len hr
        rcases ha with rfl | rfl | rfl
        · by_cases hl : 6 ≤ lenT z 8
          · have e1 : tabY z 1 key v m = z := by simp [tabY, hat, hth, hl]
            have e2 : tabC z 1 key = 3 := by simp [tabC, hk1, hk2, hat, hth, hl]
            have e3 : tabV z 1 key = 0 := by simp [tabV]
            rw [e1, e2, e3]
            exact rtab_full C C z key i v _ w h q1 q2 hi hat rfl hb _ rfl (by simp; omega)
          · have e1 : tabY z 1 key v m = setS z i key v := by simp [tabY, hk1, hk2, hat, hl]
            have e2 : tabC z 1 key = 1 := by simp [tabC, hk1, hk2, hat, hl]
            have e3 : tabV z 1 key = 0 := by simp [tabV]
            rw [e1, e2, e3]
            exact rtab_new C C z key i v _ w h q1 q2 hi hat rfl hb _ rfl (by simp; omega) hv
        · have e1 : tabY z 2 key v m = z := by simp [tabY, hat, hth]
          have e2 : tabC z 2 key = 4 := by simp [tabC, hk1, hk2, hat, hth]
          have e3 : tabV z 2 key = 0 := by simp [tabV, hat, hth]
          rw [e1, e2, e3]
          exact rtab_absent2 C C z key i v _ w h q1 q2 hi hat rfl hb
        · have e1 : tabY z 5 key v m = z := by simp [tabY, hat, hth]
          have e2 : tabC z 5 key = 4 := by simp [tabC, hk1, hk2, hat, hth]
          have e3 : tabV z 5 key = 0 := by simp [tabV, hat, hth]
          rw [e1, e2, e3]
          exact rtab_absent5 C C z key i v _ w h q1 q2 hi hat rfl hb
    · have e1 : tabY z a k v m = z := by simp only [tabY, if_neg hc]
      have e2 : tabC z a k = 5 := by simp only [tabC, if_neg hc, if_neg a6]
      have e3 : tabV z a k = 0 := by simp only [tabV, if_neg a6]; rw [if_neg (by omega)]
      rw [e1, e2, e3]
      exact rtab_wrong C z a k v w h a6 (by omega)
end Go.Proofs.YtkoflhjnpilchaaGreatDoor
