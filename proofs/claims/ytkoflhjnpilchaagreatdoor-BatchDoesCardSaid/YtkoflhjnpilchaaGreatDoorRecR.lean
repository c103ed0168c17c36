/-
  What record.Record's Right returns: for any thirty-two words.
-/
import Derived.Test.YtkoflhjnpilchaaGreatDoorRecP
import Derived.Test.YtkoflhjnpilchaaGreatDoorMWord
import Derived.Test.YtkoflhjnpilchaaGreatDoorMTh
namespace Go.Proofs.YtkoflhjnpilchaaGreatDoor
set_option linter.unusedSimpArgs false
set_option linter.unusedVariables false
set_option linter.unusedSectionVars false
open Go.RowKit
set_option linter.unusedSimpArgs false
set_option linter.unusedVariables false
attribute [local go_sem ↓] Go.wp_at_zero Go.wp_at_succ

theorem infoRR : (Tryz.prog.info? 24).map (·.size) = some 32 := by kernel_rfl

theorem toldI (x : Int) (h0 : 0 ≤ x) (h1 : x < 18446744073709551616) :
    ∃ (f : Bool) (cc vv : Int), wOk x = f ∧ ∀ w : World, Calls Tryz.prog 34 #[.int .u64 x] w fun e w' => e = .returned (.tuple #[.agg #[.int .i64 cc, .int .i64 vv], errV (okE f 3)]) ∧ Below w.heap.size w w' := by
  obtain ⟨n, rfl⟩ := Int.eq_ofNat_of_zero_le h0
  refine ⟨_, _, _, ?_, fun w => told_any n (n / 4294967296) (n % 4294967296) w (by omega) rfl rfl⟩
  unfold wOk
  rw [show (n : Int) / 4294967296 = ((n / 4294967296 : Nat) : Int) by omega, show (n : Int) % 4294967296 = ((n % 4294967296 : Nat) : Int) by omega]

set_option maxRecDepth 100000 in
set_option maxHeartbeats 4000000 in
theorem recRight_no1 (C : Array Value) (z : Nat → Int) (r : Bool) (w : World) (h : U64s C 32 z) (hr : r = false) (ht : ¬ thingOk (kindR z) (oz z)) :
    Calls Tryz.prog 17 #[.agg C] w fun e w' => e = .returned (.bool r) ∧ Below w.heap.size w w' := by
  obtain ⟨D, hD⟩ : ∃ D, D = C.extract 1 18 := ⟨_, rfl⟩
  have hDU : U64s D 17 (oz z) := by rw [hD]; exact h.cut 1 17 (by decide)
  have HIE : Hid ((Tryz.prog.info? 24).map (·.size) = some C.size) := by show _ = _; rw [infoRR, h.size]
  have hK : ∀ W : World, Calls Tryz.prog 32 #[.agg C] W fun e w' => e = .returned (.int .i64 (kindR z)) ∧ Below W.heap.size W w' := fun W => kind_any C z W h
  have hO : ∀ W : World, Calls Tryz.prog 33 #[.agg C] W fun e w' => e = .returned (.agg D) ∧ Below W.heap.size W w' := fun W => object_any C D z W h hD
  have hT : ∀ W : World, Calls Tryz.prog 31 #[.int .i64 (kindR z), .agg D] W fun e w' => e = .returned (.bool false) ∧ Below W.heap.size W w' := fun W => objRight_any D (oz z) (kindR z) false W hDU ⟨fun h => Bool.noConfusion h, fun h => absurd h ht⟩
  have HK := Lib.hid hK
  have HO := Lib.hid hO
  have HT := Lib.hid hT
  have b28 := h.bd 28 (by omega)
  have b27 := h.bd 27 (by omega)
  have b26 := h.bd 26 (by omega)
  have HC := Lib.hid h
  have hB0 : Blk (w.alloc (.cells C 24)) w.heap.size 24 C := Blk.new _ _ _
  have c28 := (hB0.cell 28).trans (h.get 28 (by omega))
  have c27 := (hB0.cell 27).trans (h.get 27 (by omega))
  have c26 := (hB0.cell 26).trans (h.get 26 (by omega))
  have H28 : True := trivial
  have H27 : True := trivial
  have H26 : True := trivial
  subst hr
  clear ht
  generalize hx28 : z 28 = n at c28 b28 H28
  generalize hx27 : z 27 = v at c27 b27 H27
  generalize hx26 : z 26 = g at c26 b26 H26
  have HN := Lib.hid hx28
  have HV := Lib.hid hx27
  have HG := Lib.hid hx26
  have HB0 := Lib.hid hB0
  have hW0 : Below w.heap.size w (w.alloc (.cells C 24)) := by go_grown
  have hlt : w.heap.size < (w.alloc (.cells C 24)).heap.size := by simp
  clear h hB0 hD hK hO hT hx28 hx27 hx26 hDU
  go_enter Tryz.func17, Tryz.ntmps17
  go_wp2_with fail
  generalize w.alloc (.cells C 24) = W0 at *
  refine wp_region_rely 21 nowhere [] (by kernel_rfl) (by kernel_rfl) ?_
  iterate 21
    refine wpRely_step (fun K hK => ?_)
    first
    | (refine .inl ?_
       apply Exists.intro
       refine ⟨Any, ?_, hK _ _ _ _ ?_⟩
       · simp only [RelyOp, fillE]
         refine ⟨?_, fun w9 hw9 _ => ?_⟩
         · first | rfl | (go_simp; done)
         obtain ⟨hc9, hf9⟩ := hw9.all
         first
         | (exact relyAt_load_row 24 _ rfl w.heap.size rfl 24 C _ (HB0.out.below hw9.same HB0.out.lt) Tryz.underlying24 rfl HIE.out ⟨⟨rfl, trivial⟩, Keeps.refl _ _⟩)
         | (go_simp
            first
            | exact ⟨⟨rfl, trivial⟩, Keeps.refl _ _⟩
            | (go_at_call 32; exact rely_det (HK.out _)) | (go_at_call 33; exact rely_det (HO.out _)) | (go_at_call 31; exact rely_det (HT.out _)))
       clear hK K
       try simp only [Act.put, List.setIfInBounds_toArray, List.set_cons_zero, List.set_cons_succ])
    | (refine .inr (.inl ⟨?_, hK _ _ _ _ ?_⟩)
       · simp only [fillE]
         first | rfl | (go_simp; done)
       clear hK K
       try simp only [Act.put, List.setIfInBounds_toArray, List.set_cons_zero, List.set_cons_succ])
  refine wpRely_nil ?_
  simp only [fillE]
  intro w9 hw9 _
  obtain ⟨hc9, hf9⟩ := hw9.all
  simp only [List.drop_succ_cons, List.drop_zero, List.drop_nil]
  go_wp2
  go_ret
  exact ⟨rfl, hW0.trans (hw9.same.mono hW0.size)⟩

set_option maxRecDepth 100000 in
set_option maxHeartbeats 4000000 in
theorem recRight_no2 (C : Array Value) (z : Nat → Int) (r : Bool) (w : World) (h : U64s C 32 z) (hr : r = false) (ht : thingOk (kindR z) (oz z)) (h26 : 16 ≤ z 26) :
    Calls Tryz.prog 17 #[.agg C] w fun e w' => e = .returned (.bool r) ∧ Below w.heap.size w w' := by
  obtain ⟨D, hD⟩ : ∃ D, D = C.extract 1 18 := ⟨_, rfl⟩
  have hDU : U64s D 17 (oz z) := by rw [hD]; exact h.cut 1 17 (by decide)
  have HIE : Hid ((Tryz.prog.info? 24).map (·.size) = some C.size) := by show _ = _; rw [infoRR, h.size]
  have hK : ∀ W : World, Calls Tryz.prog 32 #[.agg C] W fun e w' => e = .returned (.int .i64 (kindR z)) ∧ Below W.heap.size W w' := fun W => kind_any C z W h
  have hO : ∀ W : World, Calls Tryz.prog 33 #[.agg C] W fun e w' => e = .returned (.agg D) ∧ Below W.heap.size W w' := fun W => object_any C D z W h hD
  have hT : ∀ W : World, Calls Tryz.prog 31 #[.int .i64 (kindR z), .agg D] W fun e w' => e = .returned (.bool true) ∧ Below W.heap.size W w' := fun W => objRight_any D (oz z) (kindR z) true W hDU ⟨fun _ => ht, fun _ => rfl⟩
  have HK := Lib.hid hK
  have HO := Lib.hid hO
  have HT := Lib.hid hT
  have b28 := h.bd 28 (by omega)
  have b27 := h.bd 27 (by omega)
  have b26 := h.bd 26 (by omega)
  have HC := Lib.hid h
  have hB0 : Blk (w.alloc (.cells C 24)) w.heap.size 24 C := Blk.new _ _ _
  have c28 := (hB0.cell 28).trans (h.get 28 (by omega))
  have c27 := (hB0.cell 27).trans (h.get 27 (by omega))
  have c26 := (hB0.cell 26).trans (h.get 26 (by omega))
  have H28 : True := trivial
  have H27 : True := trivial
  have H26 := h26
  subst hr
  clear ht h26
  generalize hx28 : z 28 = n at c28 b28 H28
  generalize hx27 : z 27 = v at c27 b27 H27
  generalize hx26 : z 26 = g at c26 b26 H26
  have HN := Lib.hid hx28
  have HV := Lib.hid hx27
  have HG := Lib.hid hx26
  have HB0 := Lib.hid hB0
  have hW0 : Below w.heap.size w (w.alloc (.cells C 24)) := by go_grown
  have hlt : w.heap.size < (w.alloc (.cells C 24)).heap.size := by simp
  clear h hB0 hD hK hO hT hx28 hx27 hx26 hDU
  have s26 : ¬ g / 16 = 0 := by omega
  go_enter Tryz.func17, Tryz.ntmps17
  go_wp2_with fail
  generalize w.alloc (.cells C 24) = W0 at *
  refine wp_region_rely 21 nowhere [] (by kernel_rfl) (by kernel_rfl) ?_
  iterate 21
    refine wpRely_step (fun K hK => ?_)
    first
    | (refine .inl ?_
       apply Exists.intro
       refine ⟨Any, ?_, hK _ _ _ _ ?_⟩
       · simp only [RelyOp, fillE]
         refine ⟨?_, fun w9 hw9 _ => ?_⟩
         · first | rfl | (go_simp; done)
         obtain ⟨hc9, hf9⟩ := hw9.all
         first
         | (exact relyAt_load_row 24 _ rfl w.heap.size rfl 24 C _ (HB0.out.below hw9.same HB0.out.lt) Tryz.underlying24 rfl HIE.out ⟨⟨rfl, trivial⟩, Keeps.refl _ _⟩)
         | (go_simp
            first
            | exact ⟨⟨rfl, trivial⟩, Keeps.refl _ _⟩
            | (go_at_call 32; exact rely_det (HK.out _)) | (go_at_call 33; exact rely_det (HO.out _)) | (go_at_call 31; exact rely_det (HT.out _)))
       clear hK K
       try simp only [Act.put, List.setIfInBounds_toArray, List.set_cons_zero, List.set_cons_succ])
    | (refine .inr (.inl ⟨?_, hK _ _ _ _ ?_⟩)
       · simp only [fillE]
         first | rfl | (go_simp; done)
       clear hK K
       try simp only [Act.put, List.setIfInBounds_toArray, List.set_cons_zero, List.set_cons_succ])
  refine wpRely_nil ?_
  simp only [fillE]
  intro w9 hw9 _
  obtain ⟨hc9, hf9⟩ := hw9.all
  simp only [List.drop_succ_cons, List.drop_zero, List.drop_nil]
  go_wp2
  go_ret
  exact ⟨rfl, hW0.trans (hw9.same.mono hW0.size)⟩

set_option maxRecDepth 100000 in
set_option maxHeartbeats 4000000 in
theorem recRight_no3 (C : Array Value) (z : Nat → Int) (r : Bool) (w : World) (h : U64s C 32 z) (hr : r = false) (ht : thingOk (kindR z) (oz z)) (h26 : z 26 < 16) (h28 : 1099511627776 < z 28) :
    Calls Tryz.prog 17 #[.agg C] w fun e w' => e = .returned (.bool r) ∧ Below w.heap.size w w' := by
  obtain ⟨D, hD⟩ : ∃ D, D = C.extract 1 18 := ⟨_, rfl⟩
  have hDU : U64s D 17 (oz z) := by rw [hD]; exact h.cut 1 17 (by decide)
  have HIE : Hid ((Tryz.prog.info? 24).map (·.size) = some C.size) := by show _ = _; rw [infoRR, h.size]
  have hK : ∀ W : World, Calls Tryz.prog 32 #[.agg C] W fun e w' => e = .returned (.int .i64 (kindR z)) ∧ Below W.heap.size W w' := fun W => kind_any C z W h
  have hO : ∀ W : World, Calls Tryz.prog 33 #[.agg C] W fun e w' => e = .returned (.agg D) ∧ Below W.heap.size W w' := fun W => object_any C D z W h hD
  have hT : ∀ W : World, Calls Tryz.prog 31 #[.int .i64 (kindR z), .agg D] W fun e w' => e = .returned (.bool true) ∧ Below W.heap.size W w' := fun W => objRight_any D (oz z) (kindR z) true W hDU ⟨fun _ => ht, fun _ => rfl⟩
  have HK := Lib.hid hK
  have HO := Lib.hid hO
  have HT := Lib.hid hT
  have b28 := h.bd 28 (by omega)
  have b27 := h.bd 27 (by omega)
  have b26 := h.bd 26 (by omega)
  have HC := Lib.hid h
  have hB0 : Blk (w.alloc (.cells C 24)) w.heap.size 24 C := Blk.new _ _ _
  have c28 := (hB0.cell 28).trans (h.get 28 (by omega))
  have c27 := (hB0.cell 27).trans (h.get 27 (by omega))
  have c26 := (hB0.cell 26).trans (h.get 26 (by omega))
  have H28 := h28
  have H27 : True := trivial
  have H26 := h26
  subst hr
  clear ht h26 h28
  generalize hx28 : z 28 = n at c28 b28 H28
  generalize hx27 : z 27 = v at c27 b27 H27
  generalize hx26 : z 26 = g at c26 b26 H26
  have HN := Lib.hid hx28
  have HV := Lib.hid hx27
  have HG := Lib.hid hx26
  have HB0 := Lib.hid hB0
  have hW0 : Below w.heap.size w (w.alloc (.cells C 24)) := by go_grown
  have hlt : w.heap.size < (w.alloc (.cells C 24)).heap.size := by simp
  clear h hB0 hD hK hO hT hx28 hx27 hx26 hDU
  have s26 : g / 16 = 0 := by omega
  have d28 : decide (1099511627776 < n) = true := by simp; omega
  go_enter Tryz.func17, Tryz.ntmps17
  go_wp2_with fail
  generalize w.alloc (.cells C 24) = W0 at *
  refine wp_region_rely 21 nowhere [] (by kernel_rfl) (by kernel_rfl) ?_
  iterate 21
    refine wpRely_step (fun K hK => ?_)
    first
    | (refine .inl ?_
       apply Exists.intro
       refine ⟨Any, ?_, hK _ _ _ _ ?_⟩
       · simp only [RelyOp, fillE]
         refine ⟨?_, fun w9 hw9 _ => ?_⟩
         · first | rfl | (go_simp; done)
         obtain ⟨hc9, hf9⟩ := hw9.all
         first
         | (exact relyAt_load_row 24 _ rfl w.heap.size rfl 24 C _ (HB0.out.below hw9.same HB0.out.lt) Tryz.underlying24 rfl HIE.out ⟨⟨rfl, trivial⟩, Keeps.refl _ _⟩)
         | (go_simp
            first
            | exact ⟨⟨rfl, trivial⟩, Keeps.refl _ _⟩
            | (go_at_call 32; exact rely_det (HK.out _)) | (go_at_call 33; exact rely_det (HO.out _)) | (go_at_call 31; exact rely_det (HT.out _)))
       clear hK K
       try simp only [Act.put, List.setIfInBounds_toArray, List.set_cons_zero, List.set_cons_succ])
    | (refine .inr (.inl ⟨?_, hK _ _ _ _ ?_⟩)
       · simp only [fillE]
         first | rfl | (go_simp; done)
       clear hK K
       try simp only [Act.put, List.setIfInBounds_toArray, List.set_cons_zero, List.set_cons_succ])
  refine wpRely_nil ?_
  simp only [fillE]
  intro w9 hw9 _
  obtain ⟨hc9, hf9⟩ := hw9.all
  simp only [List.drop_succ_cons, List.drop_zero, List.drop_nil]
  go_wp2
  go_ret
  exact ⟨rfl, hW0.trans (hw9.same.mono hW0.size)⟩

set_option maxRecDepth 100000 in
set_option maxHeartbeats 4000000 in
theorem recRight_no4 (C : Array Value) (z : Nat → Int) (r : Bool) (w : World) (h : U64s C 32 z) (hr : r = false) (ht : thingOk (kindR z) (oz z)) (h26 : z 26 < 16) (h28 : z 28 ≤ 1099511627776) (h27 : 1099511627776 < z 27) :
    Calls Tryz.prog 17 #[.agg C] w fun e w' => e = .returned (.bool r) ∧ Below w.heap.size w w' := by
  obtain ⟨D, hD⟩ : ∃ D, D = C.extract 1 18 := ⟨_, rfl⟩
  have hDU : U64s D 17 (oz z) := by rw [hD]; exact h.cut 1 17 (by decide)
  have HIE : Hid ((Tryz.prog.info? 24).map (·.size) = some C.size) := by show _ = _; rw [infoRR, h.size]
  have hK : ∀ W : World, Calls Tryz.prog 32 #[.agg C] W fun e w' => e = .returned (.int .i64 (kindR z)) ∧ Below W.heap.size W w' := fun W => kind_any C z W h
  have hO : ∀ W : World, Calls Tryz.prog 33 #[.agg C] W fun e w' => e = .returned (.agg D) ∧ Below W.heap.size W w' := fun W => object_any C D z W h hD
  have hT : ∀ W : World, Calls Tryz.prog 31 #[.int .i64 (kindR z), .agg D] W fun e w' => e = .returned (.bool true) ∧ Below W.heap.size W w' := fun W => objRight_any D (oz z) (kindR z) true W hDU ⟨fun _ => ht, fun _ => rfl⟩
  have HK := Lib.hid hK
  have HO := Lib.hid hO
  have HT := Lib.hid hT
  have b28 := h.bd 28 (by omega)
  have b27 := h.bd 27 (by omega)
  have b26 := h.bd 26 (by omega)
  have HC := Lib.hid h
  have hB0 : Blk (w.alloc (.cells C 24)) w.heap.size 24 C := Blk.new _ _ _
  have c28 := (hB0.cell 28).trans (h.get 28 (by omega))
  have c27 := (hB0.cell 27).trans (h.get 27 (by omega))
  have c26 := (hB0.cell 26).trans (h.get 26 (by omega))
  have H28 := h28
  have H27 := h27
  have H26 := h26
  subst hr
  clear ht h26 h28 h27
  generalize hx28 : z 28 = n at c28 b28 H28
  generalize hx27 : z 27 = v at c27 b27 H27
  generalize hx26 : z 26 = g at c26 b26 H26
  have HN := Lib.hid hx28
  have HV := Lib.hid hx27
  have HG := Lib.hid hx26
  have HB0 := Lib.hid hB0
  have hW0 : Below w.heap.size w (w.alloc (.cells C 24)) := by go_grown
  have hlt : w.heap.size < (w.alloc (.cells C 24)).heap.size := by simp
  clear h hB0 hD hK hO hT hx28 hx27 hx26 hDU
  have s26 : g / 16 = 0 := by omega
  have d28 : decide (1099511627776 < n) = false := by simp; omega
  have d27 : decide (1099511627776 < v) = true := by simp; omega
  go_enter Tryz.func17, Tryz.ntmps17
  go_wp2_with fail
  generalize w.alloc (.cells C 24) = W0 at *
  refine wp_region_rely 21 nowhere [] (by kernel_rfl) (by kernel_rfl) ?_
  iterate 21
    refine wpRely_step (fun K hK => ?_)
    first
    | (refine .inl ?_
       apply Exists.intro
       refine ⟨Any, ?_, hK _ _ _ _ ?_⟩
       · simp only [RelyOp, fillE]
         refine ⟨?_, fun w9 hw9 _ => ?_⟩
         · first | rfl | (go_simp; done)
         obtain ⟨hc9, hf9⟩ := hw9.all
         first
         | (exact relyAt_load_row 24 _ rfl w.heap.size rfl 24 C _ (HB0.out.below hw9.same HB0.out.lt) Tryz.underlying24 rfl HIE.out ⟨⟨rfl, trivial⟩, Keeps.refl _ _⟩)
         | (go_simp
            first
            | exact ⟨⟨rfl, trivial⟩, Keeps.refl _ _⟩
            | (go_at_call 32; exact rely_det (HK.out _)) | (go_at_call 33; exact rely_det (HO.out _)) | (go_at_call 31; exact rely_det (HT.out _)))
       clear hK K
       try simp only [Act.put, List.setIfInBounds_toArray, List.set_cons_zero, List.set_cons_succ])
    | (refine .inr (.inl ⟨?_, hK _ _ _ _ ?_⟩)
       · simp only [fillE]
         first | rfl | (go_simp; done)
       clear hK K
       try simp only [Act.put, List.setIfInBounds_toArray, List.set_cons_zero, List.set_cons_succ])
  refine wpRely_nil ?_
  simp only [fillE]
  intro w9 hw9 _
  obtain ⟨hc9, hf9⟩ := hw9.all
  simp only [List.drop_succ_cons, List.drop_zero, List.drop_nil]
  go_wp2
  go_ret
  exact ⟨rfl, hW0.trans (hw9.same.mono hW0.size)⟩

set_option maxRecDepth 100000 in
set_option maxHeartbeats 4000000 in
theorem recRight_yes (C : Array Value) (z : Nat → Int) (r : Bool) (w : World) (h : U64s C 32 z) (hr : r = true ↔ recOk z) (hd : headOk z) :
    Calls Tryz.prog 17 #[.agg C] w fun e w' => e = .returned (.bool r) ∧ Below w.heap.size w w' := by
  obtain ⟨D, hD⟩ : ∃ D, D = C.extract 1 18 := ⟨_, rfl⟩
  have hDU : U64s D 17 (oz z) := by rw [hD]; exact h.cut 1 17 (by decide)
  have HIE : Hid ((Tryz.prog.info? 24).map (·.size) = some C.size) := by show _ = _; rw [infoRR, h.size]
  have hK : ∀ W : World, Calls Tryz.prog 32 #[.agg C] W fun e w' => e = .returned (.int .i64 (kindR z)) ∧ Below W.heap.size W w' := fun W => kind_any C z W h
  have hO : ∀ W : World, Calls Tryz.prog 33 #[.agg C] W fun e w' => e = .returned (.agg D) ∧ Below W.heap.size W w' := fun W => object_any C D z W h hD
  have hT : ∀ W : World, Calls Tryz.prog 31 #[.int .i64 (kindR z), .agg D] W fun e w' => e = .returned (.bool true) ∧ Below W.heap.size W w' := fun W => objRight_any D (oz z) (kindR z) true W hDU ⟨fun _ => hd.1, fun _ => rfl⟩
  have HK := Lib.hid hK
  have HO := Lib.hid hO
  have HT := Lib.hid hT
  have b28 := h.bd 28 (by omega)
  have b27 := h.bd 27 (by omega)
  have b26 := h.bd 26 (by omega)
  have HC := Lib.hid h
  have hB0 : Blk (w.alloc (.cells C 24)) w.heap.size 24 C := Blk.new _ _ _
  have c28 := (hB0.cell 28).trans (h.get 28 (by omega))
  have c27 := (hB0.cell 27).trans (h.get 27 (by omega))
  have c26 := (hB0.cell 26).trans (h.get 26 (by omega))
  have H28 := hd.2.2.1
  have H27 := hd.2.2.2
  have H26 := hd.2.1
  have HR := Lib.hid hr
  have HHD := Lib.hid hd
  clear hr hd
  generalize hx28 : z 28 = n at c28 b28 H28
  generalize hx27 : z 27 = v at c27 b27 H27
  generalize hx26 : z 26 = g at c26 b26 H26
  have HN := Lib.hid hx28
  have HV := Lib.hid hx27
  have HG := Lib.hid hx26
  have HB0 := Lib.hid hB0
  have hW0 : Below w.heap.size w (w.alloc (.cells C 24)) := by go_grown
  have hlt : w.heap.size < (w.alloc (.cells C 24)).heap.size := by simp
  clear h hB0 hD hK hO hT hx28 hx27 hx26 hDU
  have s26 : g / 16 = 0 := by omega
  have d28 : decide (1099511627776 < n) = false := by simp; omega
  have d27 : decide (1099511627776 < v) = false := by simp; omega
  go_enter Tryz.func17, Tryz.ntmps17
  go_wp2_with fail
  generalize w.alloc (.cells C 24) = W0 at *
  refine wp_region_rely 21 nowhere [] (by kernel_rfl) (by kernel_rfl) ?_
  iterate 21
    refine wpRely_step (fun K hK => ?_)
    first
    | (refine .inl ?_
       apply Exists.intro
       refine ⟨Any, ?_, hK _ _ _ _ ?_⟩
       · simp only [RelyOp, fillE]
         refine ⟨?_, fun w9 hw9 _ => ?_⟩
         · first | rfl | (go_simp; done)
         obtain ⟨hc9, hf9⟩ := hw9.all
         first
         | (exact relyAt_load_row 24 _ rfl w.heap.size rfl 24 C _ (HB0.out.below hw9.same HB0.out.lt) Tryz.underlying24 rfl HIE.out ⟨⟨rfl, trivial⟩, Keeps.refl _ _⟩)
         | (go_simp
            first
            | exact ⟨⟨rfl, trivial⟩, Keeps.refl _ _⟩
            | (go_at_call 32; exact rely_det (HK.out _)) | (go_at_call 33; exact rely_det (HO.out _)) | (go_at_call 31; exact rely_det (HT.out _)))
       clear hK K
       try simp only [Act.put, List.setIfInBounds_toArray, List.set_cons_zero, List.set_cons_succ])
    | (refine .inr (.inl ⟨?_, hK _ _ _ _ ?_⟩)
       · simp only [fillE]
         first | rfl | (go_simp; done)
       clear hK K
       try simp only [Act.put, List.setIfInBounds_toArray, List.set_cons_zero, List.set_cons_succ])
  refine wpRely_nil ?_
  simp only [fillE]
  intro w9 hw9 _
  obtain ⟨hc9, hf9⟩ := hw9.all
  simp only [List.drop_succ_cons, List.drop_zero, List.drop_nil]
  clear c26 c27 c28 s26 d27 d28
  have hW9 := Lib.hid (hW0.trans (hw9.same.mono hW0.size))
  have HB9 := HB0.out.below hw9.same HB0.out.lt
  clear hc9 hf9 hw9 HB0 hW0 hlt
  have HB0 := Lib.hid HB9
  have hlt : w.heap.size < w9.heap.size := HB9.lt
  clear HB9
  go_wp2
  go_loopw [35] (fun i wr => ∃ k : Nat, k ≤ 4 ∧ i = .int .i64 k ∧ Below w9.heap.size w9 wr ∧ Hid (∀ t, t < k → thrOk z t)) (fun i _ => 4 - (intOf i).toNat)
  case atStart => exact ⟨0, by omega, rfl, Below.refl _ _, Lib.hid fun t ht => absurd ht (by omega)⟩
  case round =>
    obtain ⟨k, hk, rfl, hb, hall⟩ := hrel
    have hlt9 : w.heap.size < wr.heap.size := by have := hb.size; omega
    have HBw := Lib.hid (HB0.out.below hb hlt)
    by_cases hk4 : k < 4
    · have q1 : (k : Int) < 4 := by omega
      have hx0 := HC.out.bd (18 + k) (by omega)
      have hy0 := HC.out.bd (22 + k) (by omega)
      have cx : wr.cell? ⟨w.heap.size, 18 + k, none⟩ = some (.int .u64 (z (18 + k))) := (HBw.out.cell _).trans (HC.out.get _ (by omega))
      have cy : wr.cell? ⟨w.heap.size, 22 + k, none⟩ = some (.int .u64 (z (22 + k))) := (HBw.out.cell _).trans (HC.out.get _ (by omega))
      obtain ⟨f, cc, vv, hfw, htold⟩ := toldI (z (18 + k)) hx0.1 hx0.2
      have hta : thrA z k ↔ ((f = true ∨ z (18 + k) = 0) ∧ z (22 + k) ≤ n ∧ (z (18 + k) = 0 ↔ z (22 + k) = 0)) := by
        unfold thrA
        rw [hfw, HN.out]
      generalize hxe : z (18 + k) = x at *
      generalize hye : z (22 + k) = y at *
      have HXU := Lib.hid hxe
      have HYU := Lib.hid hye
      have HTA := Lib.hid hta
      have HTD := Lib.hid htold
      have hk4' := hk4
      clear hxe hye hta htold hfw
      have e18 : IntKind.i64.wrap (18 + (k : Int)) = ((18 + k : Nat) : Int) := by rw [IntWalk.i64_in _ (by omega)]; omega
      have e22 : IntKind.i64.wrap (22 + (k : Int)) = ((22 + k : Nat) : Int) := by rw [IntWalk.i64_in _ (by omega)]; omega
      have f18 : ((18 + k : Nat) : Int) < 32 := by omega
      have f22 : ((22 + k : Nat) : Int) < 32 := by omega
      generalize hs : 18 + k = s at *
      generalize hu : 22 + k = u at *
      go_wp2
      go_quiet (fail)
      clear cx cy e18 e22 f18 f22
      have HS18 := Lib.hid hs
      have HS22 := Lib.hid hu
      clear hs hu
      go_wp2_with fail
      refine (HTD.out _).mono ?_
      rintro e w1 ⟨rfl, hb1⟩
      have HBX : Hid (Below w9.heap.size w9 w1) := Lib.hid (hb.trans (((below_drewN (Below.refl _ wr) _).trans hb1).mono hb.size))
      have hzw := HBX.out.size
      have HW9 := Lib.hid hW9.out
      have HB2 : Hid (Below w.heap.size w (w1.alloc (.cells #[.int .i64 cc, .int .i64 vv] 51))) := Lib.hid ((hW9.out.trans (HBX.out.mono hW9.out.size)).alloc (by have := hW9.out.size; omega) _)
      have HB3 : Hid (Below w9.heap.size w9 (w1.alloc (.cells #[.int .i64 cc, .int .i64 vv] 51))) := Lib.hid (HBX.out.alloc hzw _)
      clear hb hb1
      cases f
      · rw [show errV (okE false 3) = .iface 28 (.int .i64 3) by simp [okE, errV]]
        by_cases hx1 : x = 0
        · have dx : (x == 0) = true := by simpa using hx1
          have dx2 : (x != 0) = false := by simpa using hx1
          have HX0 := Lib.hid hx1
          clear hx1
          by_cases hy1 : y = 0
          · have dy : (y == 0) = true := by simpa using hy1
            have dy2 : (y != 0) = false := by simpa using hy1
            have HY0 := Lib.hid hy1
            have dc : decide (n < y) = false := by simp; omega
            clear hy1
            go_wp2
            clear HB2
            go_loopw [70] (fun j wq => ∃ m : Nat, m ≤ k ∧ j = .int .i64 m ∧ Below w9.heap.size w9 wq ∧ Hid (∀ u, u < m → y ≠ 0 → z (22 + u) ≠ y)) (fun j _ => k - (intOf j).toNat)
            case atStart => exact ⟨0, by omega, rfl, HB3.out, Lib.hid fun u hu => absurd hu (by omega)⟩
            case round =>
              rename World => wq
              obtain ⟨m, hm, rfl, hbq, hallq⟩ := hrel
              by_cases hmk : m < k
              · have q2 : (m : Int) < k := by omega
                go_wp2
                go_roundw
                case rel => exact ⟨m + 1, by omega, by go_num, hbq, Lib.hid fun u hu h => absurd HY0.out h⟩
                case measure => simp [intOf]; omega
              · obtain rfl : m = k := by omega
                go_wp2
                go_roundw
                case rel => exact ⟨m + 1, by omega, by go_num, hbq, Lib.hid fun t ht => by
                  rcases Nat.lt_or_ge t m with h1 | h1
                  · exact hall.out t h1
                  · obtain rfl : t = m := by omega
                    refine ⟨HTA.out.2 (by have := HX0.out; have := HY0.out; simp; first | omega | (have := HC0.out; omega)), fun u hu => ?_⟩
                    rw [HS22.out, HYU.out]
                    exact hallq.out u hu⟩
                case measure => simp [intOf]; omega
          · have dy : (y == 0) = false := by simpa using hy1
            have dy2 : (y != 0) = true := by simpa using hy1
            have HY0 := Lib.hid hy1
            clear hy1
            by_cases hc : y ≤ n
            · have dc : decide (n < y) = false := by simp; omega
              have HC0 := Lib.hid hc
              clear hc
              go_wp2
              obtain rfl : r = false := by
                rw [Bool.eq_false_iff]
                intro ht
                obtain ⟨h91, h92, h93⟩ := HTA.out.1 ((HR.out.1 ht).2.1 k hk4').1
                try simp at h91
                have a1 := HX0.out
                first | omega | (have a2 := HY0.out; first | omega | (have a3 := HC0.out; omega))
              go_ret
              exact ⟨rfl, HB2.out⟩
            · have dc : decide (n < y) = true := by simp; omega
              have HC0 := Lib.hid hc
              clear hc
              go_wp2
              obtain rfl : r = false := by
                rw [Bool.eq_false_iff]
                intro ht
                obtain ⟨h91, h92, h93⟩ := HTA.out.1 ((HR.out.1 ht).2.1 k hk4').1
                try simp at h91
                have a1 := HX0.out
                first | omega | (have a2 := HY0.out; first | omega | (have a3 := HC0.out; omega))
              go_ret
              exact ⟨rfl, HB2.out⟩
        · have dx : (x == 0) = false := by simpa using hx1
          have dx2 : (x != 0) = true := by simpa using hx1
          have HX0 := Lib.hid hx1
          clear hx1
          go_wp2
          obtain rfl : r = false := by
            rw [Bool.eq_false_iff]
            intro ht
            obtain ⟨h91, h92, h93⟩ := HTA.out.1 ((HR.out.1 ht).2.1 k hk4').1
            try simp at h91
            have a1 := HX0.out
            first | omega | (have a2 := HY0.out; first | omega | (have a3 := HC0.out; omega))
          go_ret
          exact ⟨rfl, HB2.out⟩
      · rw [show errV (okE true 3) = .nilIface by simp [okE, errV]]
        by_cases hx1 : x = 0
        · have dx : (x == 0) = true := by simpa using hx1
          have dx2 : (x != 0) = false := by simpa using hx1
          have HX0 := Lib.hid hx1
          clear hx1
          by_cases hy1 : y = 0
          · have dy : (y == 0) = true := by simpa using hy1
            have dy2 : (y != 0) = false := by simpa using hy1
            have HY0 := Lib.hid hy1
            have dc : decide (n < y) = false := by simp; omega
            clear hy1
            go_wp2
            clear HB2
            go_loopw [70] (fun j wq => ∃ m : Nat, m ≤ k ∧ j = .int .i64 m ∧ Below w9.heap.size w9 wq ∧ Hid (∀ u, u < m → y ≠ 0 → z (22 + u) ≠ y)) (fun j _ => k - (intOf j).toNat)
            case atStart => exact ⟨0, by omega, rfl, HB3.out, Lib.hid fun u hu => absurd hu (by omega)⟩
            case round =>
              rename World => wq
              obtain ⟨m, hm, rfl, hbq, hallq⟩ := hrel
              by_cases hmk : m < k
              · have q2 : (m : Int) < k := by omega
                go_wp2
                go_roundw
                case rel => exact ⟨m + 1, by omega, by go_num, hbq, Lib.hid fun u hu h => absurd HY0.out h⟩
                case measure => simp [intOf]; omega
              · obtain rfl : m = k := by omega
                go_wp2
                go_roundw
                case rel => exact ⟨m + 1, by omega, by go_num, hbq, Lib.hid fun t ht => by
                  rcases Nat.lt_or_ge t m with h1 | h1
                  · exact hall.out t h1
                  · obtain rfl : t = m := by omega
                    refine ⟨HTA.out.2 (by have := HX0.out; have := HY0.out; simp; first | omega | (have := HC0.out; omega)), fun u hu => ?_⟩
                    rw [HS22.out, HYU.out]
                    exact hallq.out u hu⟩
                case measure => simp [intOf]; omega
          · have dy : (y == 0) = false := by simpa using hy1
            have dy2 : (y != 0) = true := by simpa using hy1
            have HY0 := Lib.hid hy1
            clear hy1
            by_cases hc : y ≤ n
            · have dc : decide (n < y) = false := by simp; omega
              have HC0 := Lib.hid hc
              clear hc
              go_wp2
              obtain rfl : r = false := by
                rw [Bool.eq_false_iff]
                intro ht
                obtain ⟨h91, h92, h93⟩ := HTA.out.1 ((HR.out.1 ht).2.1 k hk4').1
                try simp at h91
                have a1 := HX0.out
                first | omega | (have a2 := HY0.out; first | omega | (have a3 := HC0.out; omega))
              go_ret
              exact ⟨rfl, HB2.out⟩
            · have dc : decide (n < y) = true := by simp; omega
              have HC0 := Lib.hid hc
              clear hc
              go_wp2
              obtain rfl : r = false := by
                rw [Bool.eq_false_iff]
                intro ht
                obtain ⟨h91, h92, h93⟩ := HTA.out.1 ((HR.out.1 ht).2.1 k hk4').1
                try simp at h91
                have a1 := HX0.out
                first | omega | (have a2 := HY0.out; first | omega | (have a3 := HC0.out; omega))
              go_ret
              exact ⟨rfl, HB2.out⟩
        · have dx : (x == 0) = false := by simpa using hx1
          have dx2 : (x != 0) = true := by simpa using hx1
          have HX0 := Lib.hid hx1
          clear hx1
          by_cases hy1 : y = 0
          · have dy : (y == 0) = true := by simpa using hy1
            have dy2 : (y != 0) = false := by simpa using hy1
            have HY0 := Lib.hid hy1
            have dc : decide (n < y) = false := by simp; omega
            clear hy1
            go_wp2
            obtain rfl : r = false := by
              rw [Bool.eq_false_iff]
              intro ht
              obtain ⟨h91, h92, h93⟩ := HTA.out.1 ((HR.out.1 ht).2.1 k hk4').1
              try simp at h91
              have a1 := HX0.out
              first | omega | (have a2 := HY0.out; first | omega | (have a3 := HC0.out; omega))
            go_ret
            exact ⟨rfl, HB2.out⟩
          · have dy : (y == 0) = false := by simpa using hy1
            have dy2 : (y != 0) = true := by simpa using hy1
            have HY0 := Lib.hid hy1
            clear hy1
            by_cases hc : y ≤ n
            · have dc : decide (n < y) = false := by simp; omega
              have HC0 := Lib.hid hc
              clear hc
              go_wp2
              clear HB2
              go_loopw [70] (fun j wq => ∃ m : Nat, m ≤ k ∧ j = .int .i64 m ∧ Below w9.heap.size w9 wq ∧ Hid (∀ u, u < m → y ≠ 0 → z (22 + u) ≠ y)) (fun j _ => k - (intOf j).toNat)
              case atStart => exact ⟨0, by omega, rfl, HB3.out, Lib.hid fun u hu => absurd hu (by omega)⟩
              case round =>
                rename World => wq
                obtain ⟨m, hm, rfl, hbq, hallq⟩ := hrel
                by_cases hmk : m < k
                · have q2 : (m : Int) < k := by omega
                  have cz : wq.cell? ⟨w.heap.size, 22 + m, none⟩ = some (.int .u64 (z (22 + m))) := ((HB0.out.below hbq hlt).cell _).trans (HC.out.get _ (by omega))
                  have f4 : (m : Int) < 4 := by omega
                  have em : IntKind.i64.wrap (22 + (m : Int)) = ((22 + m : Nat) : Int) := by rw [IntWalk.i64_in _ (by omega)]; omega
                  generalize hv9 : z (22 + m) = v9 at cz
                  have HV9 := Lib.hid hv9
                  clear hv9
                  by_cases hvy : v9 = y
                  · have d9 : (v9 == y) = true := by simpa using hvy
                    have HVY := Lib.hid hvy
                    clear hvy
                    go_wp2
                    obtain rfl : r = false := by
                      rw [Bool.eq_false_iff]
                      intro ht
                      have h9 := ((HR.out.1 ht).2.1 k hk4').2 m hmk
                      rw [HS22.out, HYU.out, HV9.out] at h9
                      exact h9 HY0.out HVY.out
                    go_ret
                    exact ⟨rfl, HW9.out.trans (hbq.mono HW9.out.size)⟩
                  · have d9 : (v9 == y) = false := by simpa using hvy
                    have HVY := Lib.hid hvy
                    clear hvy
                    go_wp2
                    go_roundw
                    case rel => exact ⟨m + 1, by omega, by go_num, hbq, Lib.hid fun u hu h => by
                      rcases Nat.lt_or_ge u m with h1 | h1
                      · exact hallq.out u h1 h
                      · obtain rfl : u = m := by omega
                        rw [HV9.out]; exact HVY.out⟩
                    case measure => simp [intOf]; omega
                · obtain rfl : m = k := by omega
                  go_wp2
                  go_roundw
                  case rel => exact ⟨m + 1, by omega, by go_num, hbq, Lib.hid fun t ht => by
                    rcases Nat.lt_or_ge t m with h1 | h1
                    · exact hall.out t h1
                    · obtain rfl : t = m := by omega
                      refine ⟨HTA.out.2 (by have := HX0.out; have := HY0.out; simp; first | omega | (have := HC0.out; omega)), fun u hu => ?_⟩
                      rw [HS22.out, HYU.out]
                      exact hallq.out u hu⟩
                  case measure => simp [intOf]; omega
            · have dc : decide (n < y) = true := by simp; omega
              have HC0 := Lib.hid hc
              clear hc
              go_wp2
              obtain rfl : r = false := by
                rw [Bool.eq_false_iff]
                intro ht
                obtain ⟨h91, h92, h93⟩ := HTA.out.1 ((HR.out.1 ht).2.1 k hk4').1
                try simp at h91
                have a1 := HX0.out
                first | omega | (have a2 := HY0.out; first | omega | (have a3 := HC0.out; omega))
              go_ret
              exact ⟨rfl, HB2.out⟩
    · obtain rfl : k = 4 := by omega
      have HALL := Lib.hid hall.out
      have HBL := Lib.hid hb
      clear hall hb
      go_wp2
      go_loop [87] (fun i => ∃ m : Nat, m ≤ 3 ∧ i = .int .i64 m ∧ Hid (∀ u, u < m → z (29 + u) = 0)) (fun i => 3 - (intOf i).toNat)
      case atStart => exact ⟨0, by omega, rfl, Lib.hid fun u hu => absurd hu (by omega)⟩
      case round =>
        obtain ⟨m, hm, rfl, hzs⟩ := hrel
        by_cases hm3 : m < 3
        · have q3 : (m : Int) < 3 := by omega
          have cz : wr.cell? ⟨w.heap.size, 29 + m, none⟩ = some (.int .u64 (z (29 + m))) := (HBw.out.cell _).trans (HC.out.get _ (by omega))
          generalize hv9 : z (29 + m) = v9 at cz
          have HV9 := Lib.hid hv9
          clear hv9
          by_cases h0 : v9 = 0
          · have d9 : (v9 != 0) = false := by simpa using h0
            have HH0 := Lib.hid h0
            clear h0
            go_wp2
            go_round
            case rel => exact ⟨m + 1, by omega, by go_num, Lib.hid fun u hu => by
              rcases Nat.lt_or_ge u m with h1 | h1
              · exact hzs.out u h1
              · obtain rfl : u = m := by omega
                rw [HV9.out]; exact HH0.out⟩
            case measure => simp [intOf]; omega
          · have d9 : (v9 != 0) = true := by simpa using h0
            have HH0 := Lib.hid h0
            clear h0
            go_wp2
            obtain rfl : r = false := by
              rw [Bool.eq_false_iff]
              intro ht
              obtain ⟨_, _, h29, h30, h31⟩ := HR.out.1 ht
              have h9 := HV9.out
              have h8 := HH0.out
              have : m = 0 ∨ m = 1 ∨ m = 2 := by omega
              rcases this with rfl | rfl | rfl
              · exact h8 (h9.symm.trans h29)
              · exact h8 (h9.symm.trans h30)
              · exact h8 (h9.symm.trans h31)
            go_ret
            exact ⟨rfl, hW9.out.trans (HBL.out.mono hW9.out.size)⟩
        · obtain rfl : m = 3 := by omega
          go_wp2
          obtain rfl : r = true := HR.out.2 ⟨HHD.out, HALL.out, hzs.out 0 (by omega), hzs.out 1 (by omega), hzs.out 2 (by omega)⟩
          go_ret
          exact ⟨rfl, hW9.out.trans (HBL.out.mono hW9.out.size)⟩

theorem recRight_any (C : Array Value) (z : Nat → Int) (r : Bool) (w : World) (h : U64s C 32 z) (hr : r = true ↔ recOk z) :
    Calls Tryz.prog 17 #[.agg C] w fun e w' => e = .returned (.bool r) ∧ Below w.heap.size w w' := by
  have no : ¬ headOk z → r = false := fun hn => by
    rw [Bool.eq_false_iff]
    intro ht
    exact hn (hr.1 ht).1
  by_cases h1 : thingOk (kindR z) (oz z)
  · by_cases h2 : z 26 < 16
    · by_cases h3 : z 28 ≤ 1099511627776
      · by_cases h4 : z 27 ≤ 1099511627776
        · exact recRight_yes C z r w h hr ⟨h1, h2, h3, h4⟩
        · exact recRight_no4 C z r w h (no fun hh => h4 hh.2.2.2) h1 h2 h3 (by omega)
      · exact recRight_no3 C z r w h (no fun hh => h3 hh.2.2.1) h1 h2 (by omega)
    · exact recRight_no2 C z r w h (no fun hh => h2 hh.2.1) h1 (by omega)
  · exact recRight_no1 C z r w h (no fun hh => h1 hh.1) h1
end Go.Proofs.YtkoflhjnpilchaaGreatDoor
