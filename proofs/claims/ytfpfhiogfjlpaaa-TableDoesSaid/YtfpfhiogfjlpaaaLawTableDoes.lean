/-
  For any table and operation the result of Do is that of the reference. No condition.
-/
import Derived.Test.YtfpfhiogfjlpaaaRows
import Derived.Test.YtfpfhiogfjlpaaaFrame
import Derived.Test.YtfpfhiogfjlpaaaOpen
import Derived.Test.YtfpfhiogfjlpaaaRTabE
import Derived.Test.YtfpfhiogfjlpaaaSlots
import Derived.Test.YtfpfhiogfjlpaaaEqArr
namespace Go.Proofs.Ytfpfhiogfjlpaaa.lawTableDoes
open Go.RowKit Go.ChangeShapes Go.WideShapes Go.ChangeAt Go.Joins

attribute [local go_sem ↓] Go.wp_at_zero Go.wp_at_succ
set_option linter.unusedSimpArgs false
set_option linter.unusedVariables false

theorem run_eqElems_refl {P : Program} (d : Nat) (e : TypeId) (m : Nat) (X : Array Value) : ∀ (l : List Nat), (∀ i ∈ l, ∃ v, (∀ w, (part e X (i * m)).run P w = .ok v w) ∧ ∀ w, (Op.equalIn d e v v).run P w = .ok true w) → ∀ w, (eqElems d e m X X l).run P w = .ok true w
  | [], _, w => by simp [eqElems]
  | i :: r, h, w => by
    obtain ⟨v, h1, h2⟩ := h i (by simp)
    simp only [eqElems, Sem.run_bind, h1, h2, Result.andThen_ok, Sem.run_ite, Bool.not_true, Bool.false_eq_true, if_false]
    exact run_eqElems_refl d e m X r (fun j hj => h j (by simp [hj])) w

theorem run_eqFields_refl {P : Program} (d : Nat) (X : Array Value) : ∀ (fs : List Field), (∀ f ∈ fs, ∃ v, (∀ w, (part f.type X f.offset).run P w = .ok v w) ∧ ∀ w, (Op.equalIn d f.type v v).run P w = .ok true w) → ∀ w, (Op.eqFields d X X fs).run P w = .ok true w
  | [], _, w => by simp [Op.eqFields]
  | f :: r, h, w => by
    obtain ⟨v, h1, h2⟩ := h f (by simp)
    have ih := run_eqFields_refl d X r (fun j hj => h j (by simp [hj])) w
    by_cases hn : f.name = "_"
    · simp only [Op.eqFields, hn, ne_eq, not_true_eq_false, if_false, ih]
    · simp only [Op.eqFields, ne_eq, hn, not_false_eq_true, if_true, Sem.run_bind, h1, h2, Result.andThen_ok, Sem.run_ite, Bool.not_true, Bool.false_eq_true, if_false, ih]

theorem slot_refl (a b : Int) (w : World) : (Op.equalIn 9999 54 (.agg #[.int .i64 a, .int .i64 b]) (.agg #[.int .i64 a, .int .i64 b])).run Try.prog w = .ok true w := by
  rw [run_equalIn_struct w 9998 54 _ _ (by kernel_rfl) (by kernel_rfl)]
  refine run_eqFields_refl 9998 _ _ (fun f hf => ?_) w
  have hall : ((Try.prog.fieldsOf 54).toList.all fun f => f.type == 3 && decide (f.offset < 2)) = true := by kernel_rfl
  have h1 := List.all_eq_true.1 hall f hf
  simp only [Bool.and_eq_true, beq_iff_eq, decide_eq_true_eq] at h1
  rw [h1.1]
  rcases Nat.lt_or_ge f.offset 1 with h | h
  · have e : f.offset = 0 := by omega
    rw [e]
    exact ⟨.int .i64 a, fun w => run_part_int w Try.underlying3 rfl, fun w => by rw [run_equalIn_int w 9997 3 .i64 .i64 a a Try.underlying3]; simp⟩
  · have e : f.offset = 1 := by omega
    rw [e]
    exact ⟨.int .i64 b, fun w => run_part_int w Try.underlying3 rfl, fun w => by rw [run_equalIn_int w 9997 3 .i64 .i64 b b Try.underlying3]; simp⟩

theorem runT_bd {z : Nat → Int} {i : Nat} (hz : ∀ j, j < 16 → -9223372036854775808 ≤ z j ∧ z j ≤ 9223372036854775807) : ∀ n, ∀ j, j < 16 → -9223372036854775808 ≤ runT z i n j ∧ runT z i n j ≤ 9223372036854775807
  | 0 => setS_bd hz (by decide) (by decide)
  | n + 1 => by
    have ih := runT_bd (i := i) hz n
    have hk := kk_lt i n
    exact setS_bd (setS_bd ih (by decide) (by decide)) (ih _ (by omega)) (ih _ (by omega))
theorem tabY_bd {z : Nat → Int} {a k v : Int} {m : Nat} (hz : ∀ j, j < 16 → -9223372036854775808 ≤ z j ∧ z j ≤ 9223372036854775807) (hv : -9223372036854775808 ≤ v ∧ v ≤ 9223372036854775807) :
    ∀ j, j < 16 → -9223372036854775808 ≤ tabY z a k v m j ∧ tabY z a k v m j ≤ 9223372036854775807 := by
  unfold tabY
  split
  · rename_i hc
    split
    · split
      · exact hz
      · exact setS_bd hz (by omega) hv
    · split
      · exact hz
      · split
        · exact runT_bd hz _
        · exact hz
  · exact hz
theorem arr_exists {z : Nat → Int} (hz : ∀ j, j < 16 → -9223372036854775808 ≤ z j ∧ z j ≤ 9223372036854775807) : ∃ D, I64s D 16 z :=
  ⟨(Array.range 16).map fun i => .int .i64 (z i), by simp, fun i hi => by simp [hi], hz⟩

theorem slots_refl {C : Array Value} {z : Nat → Int} (h : I64s C 16 z) (w : World) : (Op.equalIn 10000 56 (.agg C) (.agg C)).run Try.prog w = .ok true w := by
  rw [run_equalIn_array w 9999 8 2 56 54 C C Try.underlying56 (fun w => size2 w)]
  refine run_eqElems_refl 9999 54 2 C _ (fun i hi => ⟨.agg #[.int .i64 (z (2 * i)), .int .i64 (z (2 * i + 1))], fun w => ?_, fun w => slot_refl _ _ w⟩) w
  have hi8 : i < 8 := by simpa using hi
  have hp := h.pair (2 * i) (by omega)
  simp [part, agg2, size2]
  rw [Nat.mul_comm i 2, hp]

set_option maxRecDepth 100000 in
set_option maxHeartbeats 4000000 in
theorem walk (C : Array Value) (z : Nat → Int) (a k v : Int) (w : World) (h : I64s C 16 z) (hv : -9223372036854775808 ≤ v ∧ v ≤ 9223372036854775807) :
    Calls Try.prog 13 #[.agg C, .agg #[.int .i64 a, .int .i64 k, .int .i64 v]] w fun e w' => e = .returned (.bool true) ∧ Below w.heap.size w w' := by
  have hi : (Try.prog.info? 52).map (·.size) = some C.size := by rw [h.size, infoRS]
  have HI := Lib.hid hi
  clear hi
  have H := Lib.hid h
  clear h
  have HBK : Hid (Blk ((w.alloc (.cells C 52)).alloc (.cells #[.int .i64 a, .int .i64 k, .int .i64 v] 23)) w.heap.size 52 C) := (Blk.new _ _ _).alloc _
  by_cases hr : rightT z = true
  · obtain ⟨m, hm⟩ := tabM_exists hr a k
    obtain ⟨D, hD⟩ := arr_exists (tabY_bd (a := a) (k := k) (m := m) (fun j hj => H.out.bd j hj) hv)
    have hT1 : ∀ w, Calls Try.prog 46 #[.agg C, .agg #[.int .i64 a, .int .i64 k, .int .i64 v]] w fun e w' => e = .returned (.tuple #[.agg D, .agg #[.int .i64 (tabC z a k), .int .i64 (tabV z a k)]]) ∧ Below w.heap.size w w' := fun w => tab_any C D z a k v m w H.out hr hv hm hD
    have hT2 : ∀ w, Calls Try.prog 45 #[.agg C, .agg #[.int .i64 a, .int .i64 k, .int .i64 v]] w fun e w' => e = .returned (.tuple #[.agg D, .agg #[.int .i64 (tabC z a k), .int .i64 (tabV z a k)]]) ∧ Below w.heap.size w w' := fun w => rtab_any C D z a k v m w H.out hr hv hm hD
    generalize tabC z a k = c at *
    generalize tabV z a k = l at *
    have HT1 := Lib.hid hT1
    have HT2 := Lib.hid hT2
    have HDs := Lib.hid hD.size
    have HDI : Hid ((Try.prog.info? 52).map (·.size) = some D.size) := by show _ = _; rw [hD.size, infoRS]
    have HDJ : Hid ((Try.prog.info? 56).map (·.size) = some D.size) := by show _ = _; rw [hD.size, infoT]
    have h1 := hD.one
    have hrefl := fun w => slots_refl hD w
    have hSl := fun w => slotsOf_any D _ w hD
    have hSc := fun w => slotsOf_any C _ w H.out
    have HSL := Lib.hid hSl
    have HSC := Lib.hid hSc
    have HR := Lib.hid hr
    clear hT1 hT2 hD hm hr hSl hSc
    go_enter Try.func13, Try.ntmps13
    go_wp2_with (first
      | (refine wpList_load_row rfl 52 _ rfl w.heap.size rfl 52 C (0, 0) _ ?_ Try.underlying52 rfl ?_ ?_; (first | exact HB1.out.1 | exact HBK.out); (exact HI.out))
      | (go_at_call 38; refine (refRight_any C z _ H.out).mono ?_; rintro e w1 ⟨rfl, hb1⟩; rw [HR.out]; have HB1 : Hid (Blk w1 w.heap.size 52 C ∧ Below w.heap.size w w1) := ⟨HBK.out.below hb1 (by simp only [World.size_alloc]; omega), Below.trans (by go_grown) (hb1.mono (by simp; omega))⟩; obtain ⟨hc1, hf1⟩ := bcell hb1; have hz1 := hb1.size; simp only [World.size_alloc] at hz1; have o0 := hc1 (w.heap.size + 1) 0 (by simp only [World.size_alloc]; omega); have o1 := hc1 (w.heap.size + 1) 1 (by simp only [World.size_alloc]; omega); have o2 := hc1 (w.heap.size + 1) 2 (by simp only [World.size_alloc]; omega); simp [go_sem] at o0 o1 o2; clear hc1 hf1)
      | (go_at_call 45; refine (HT2.out _).mono ?_; rintro e w2 ⟨rfl, hb2⟩; have HB2 : Hid (Blk w2 w.heap.size 52 C ∧ Below w.heap.size w w2) := ⟨HB1.out.1.below hb2 HB1.out.1.lt, HB1.out.2.trans (hb2.mono HB1.out.2.size)⟩; have hz2 := hb2.size; have u0 := (hb2.cell (p := ⟨w.heap.size + 1, 0, none⟩) (by show w.heap.size + 1 < w1.heap.size; omega)).trans o0; have u1 := (hb2.cell (p := ⟨w.heap.size + 1, 1, none⟩) (by show w.heap.size + 1 < w1.heap.size; omega)).trans o1; have u2 := (hb2.cell (p := ⟨w.heap.size + 1, 2, none⟩) (by show w.heap.size + 1 < w1.heap.size; omega)).trans o2; clear o0 o1 o2)
      | (refine wpList_store_row rfl 52 _ _ rfl w2.heap.size D rfl rfl 52 #[.int .i64 0, .int .i64 0, .int .i64 0, .int .i64 0, .int .i64 0, .int .i64 0, .int .i64 0, .int .i64 0, .int .i64 0, .int .i64 0, .int .i64 0, .int .i64 0, .int .i64 0, .int .i64 0, .int .i64 0, .int .i64 0] ?_ ?_ ?_ h1 ?_; (exact (Blk.new _ _ _).alloc _); (exact HDI.out); (rw [HDs.out]; rfl); have HA3 : Hid (Blk (((w2.alloc (.cells #[.int .i64 0, .int .i64 0, .int .i64 0, .int .i64 0, .int .i64 0, .int .i64 0, .int .i64 0, .int .i64 0, .int .i64 0, .int .i64 0, .int .i64 0, .int .i64 0, .int .i64 0, .int .i64 0, .int .i64 0, .int .i64 0] 52)).alloc (.cells #[.int .i64 0, .int .i64 0] 41)).setRow w2.heap.size D) (w2.heap.size + 1) 41 #[.int .i64 0, .int .i64 0]) := (setRow_other _ _ _ D (by omega)).trans (Blk.newAt _ _ _ (by simp)); have n0 := HA3.out.cell 0; have n1 := HA3.out.cell 1; have x0 := HA3.out.frozen 0; have x1 := HA3.out.frozen 1; simp only [List.getElem?_toArray, List.getElem?_cons_zero, List.getElem?_cons_succ] at n0 n1))
    have hW : ∃ W3, W3 = (((((w2.alloc (.cells #[.int .i64 0, .int .i64 0, .int .i64 0, .int .i64 0, .int .i64 0, .int .i64 0, .int .i64 0, .int .i64 0, .int .i64 0, .int .i64 0, .int .i64 0, .int .i64 0, .int .i64 0, .int .i64 0, .int .i64 0, .int .i64 0] 52)).alloc (.cells #[.int .i64 0, .int .i64 0] 41)).setRow w2.heap.size D).setCell ⟨w2.heap.size + 1, 0, none⟩ (.int .i64 c)).setCell ⟨w2.heap.size + 1, 1, none⟩ (.int .i64 l)) := ⟨_, rfl⟩
    obtain ⟨W3, hW3⟩ := hW
    have hb3 : Below w2.heap.size w2 W3 := by rw [hW3]; exact ((below_setRow (((Below.refl _ _).alloc (Nat.le_refl _) _).alloc (by simp) _) (Nat.le_refl _) D).setCell (by simp) _).setCell (by simp) _
    have B0 := HB2.out.1.below hb3 HB2.out.1.lt
    have hBw := HB2.out.2.trans (hb3.mono HB2.out.2.size)
    have B5 : Blk W3 w2.heap.size 52 D := by rw [hW3]; exact (((((Blk.new w2 52 #[.int .i64 0, .int .i64 0, .int .i64 0, .int .i64 0, .int .i64 0, .int .i64 0, .int .i64 0, .int .i64 0, .int .i64 0, .int .i64 0, .int .i64 0, .int .i64 0, .int .i64 0, .int .i64 0, .int .i64 0, .int .i64 0]).alloc _).setRow D).far (by simp) _).far (by simp) _)
    have B6 : Blk W3 (w2.heap.size + 1) 41 #[.int .i64 c, .int .i64 l] := by rw [hW3]; exact (HA3.out.set_ _ _).set_ _ _
    have s0 := (hb3.cell (p := ⟨w.heap.size + 1, 0, none⟩) (by show w.heap.size + 1 < w2.heap.size; omega)).trans u0
    have s1 := (hb3.cell (p := ⟨w.heap.size + 1, 1, none⟩) (by show w.heap.size + 1 < w2.heap.size; omega)).trans u1
    have s2 := (hb3.cell (p := ⟨w.heap.size + 1, 2, none⟩) (by show w.heap.size + 1 < w2.heap.size; omega)).trans u2
    rw [← hW3]
    have hsz3 := B6.lt
    have HB0 := Lib.hid B0
    have HB5 := Lib.hid B5
    have HB6 := Lib.hid B6
    have HBW := Lib.hid hBw
    have hw13 : w.heap.size + 1 < W3.heap.size := by omega
    clear hW3 hb3 B0 B5 B6 u0 u1 u2 HA3 n0 n1 x0 x1 hBw
    have hno : ∀ b, b < W3.heap.size → ¬ (fun b => W3.heap.size ≤ b) b := fun b hb h => by have : W3.heap.size ≤ b := h; omega
    refine wp_region_rely 10 (fun b => W3.heap.size ≤ b) [9] (by kernel_rfl) (by kernel_rfl) ?_
    iterate 7
      refine wpRely_step (fun K hK => ?_)
      refine .inl ?_
      apply Exists.intro
      refine ⟨Any, ?_, hK _ _ _ _ ?_⟩
      · simp only [RelyOp, fillE]
        refine ⟨?_, fun w9 hw9 _ => ?_⟩
        · first | rfl | (go_simp; done)
        have hq9 := hw9.below (Nat.le_refl _) hno
        obtain ⟨hc9, hf9⟩ := bcell hq9
        first
        | exact relyAt_load_row 52 _ rfl w.heap.size rfl 52 C _ (HB0.out.below hq9 HB0.out.lt) Try.underlying52 rfl HI.out ⟨⟨rfl, trivial⟩, Keeps.refl _ _⟩
        | (go_simp
           first
           | exact ⟨⟨rfl, trivial⟩, Keeps.refl _ _⟩
           | (go_at_call 37; exact rely_det (HSC.out _))
           | (go_at_call 46; exact rely_det (HT1.out _)))
      clear hK K
      try simp only [Act.put, List.setIfInBounds_toArray, List.set_cons_zero, List.set_cons_succ]
    refine wpRely_step (fun K hK => ?_)
    refine .inr (.inr ⟨fun v => ∃ g, v = .pointer (some ⟨g, 0, none⟩) ∧ W3.heap.size ≤ g, fun v w' => ∃ g, v = .pointer (some ⟨g, 0, none⟩) ∧ Blk w' g 56 #[.int .i64 0, .int .i64 0, .int .i64 0, .int .i64 0, .int .i64 0, .int .i64 0, .int .i64 0, .int .i64 0, .int .i64 0, .int .i64 0, .int .i64 0, .int .i64 0, .int .i64 0, .int .i64 0, .int .i64 0, .int .i64 0], ⟨_, W3.heap.size, rfl, Nat.le_refl _⟩, ?_, hK _ _ _ _ ?_⟩)
    · simp only [RelyOp, fillE]
      refine ⟨rfl, fun w9 hw9 _ => ?_⟩
      go_simp
      exact ⟨⟨⟨w9.heap.size, rfl, hw9.size⟩, ⟨w9.heap.size, rfl, Blk.new _ _ _⟩⟩, Keeps.of_same ((Below.refl _ _).alloc (Nat.le_refl _) _)⟩
    clear hK K
    refine wpRely_step (fun K hK => ?_)
    refine .inr (.inr ⟨fun v => ∃ g, v = .pointer (some ⟨g, 0, none⟩) ∧ W3.heap.size ≤ g, fun v w' => ∃ g, v = .pointer (some ⟨g, 0, none⟩) ∧ Blk w' g 41 #[.int .i64 0, .int .i64 0], ⟨_, W3.heap.size, rfl, Nat.le_refl _⟩, ?_, hK _ _ _ _ ?_⟩)
    · simp only [RelyOp, fillE]
      rintro _ ⟨g7, rfl, hg7⟩
      refine ⟨rfl, fun w9 hw9 _ => ?_⟩
      go_simp
      exact ⟨⟨⟨w9.heap.size, rfl, hw9.size⟩, ⟨w9.heap.size, rfl, Blk.new _ _ _⟩⟩, Keeps.of_same ((Below.refl _ _).alloc (Nat.le_refl _) _)⟩
    clear hK K
    refine wpRely_step (fun K hK => ?_)
    refine .inl ⟨undef, fun u w' => ∃ g7 g8, u 7 = .pointer (some ⟨g7, 0, none⟩) ∧ u 8 = .pointer (some ⟨g8, 0, none⟩) ∧ Blk w' g7 56 D ∧ Blk w' g8 41 #[.int .i64 0, .int .i64 0], ?_, hK _ _ _ _ ?_⟩
    · simp only [RelyOp, fillE]
      rintro _ ⟨g8, rfl, hg8⟩ _ ⟨g7, rfl, hg7⟩
      refine ⟨rfl, fun w9 hw9 hm9 => ?_⟩
      obtain ⟨w7, k0, k1, g, he, hblk⟩ := hm9.2.1 (by kernel_rfl)
      cases he
      have b7 : Blk w9 g7 56 #[.int .i64 0, .int .i64 0, .int .i64 0, .int .i64 0, .int .i64 0, .int .i64 0, .int .i64 0, .int .i64 0, .int .i64 0, .int .i64 0, .int .i64 0, .int .i64 0, .int .i64 0, .int .i64 0, .int .i64 0, .int .i64 0] := (k1.block _ hblk.lt (fun h => calm_out h (by kernel_rfl))).trans hblk
      obtain ⟨w8, l0, l1, g', he', hblk'⟩ := hm9.2.2.1 (by kernel_rfl)
      cases he'
      have b8 : Blk w9 g8 41 #[.int .i64 0, .int .i64 0] := (l1.block _ hblk'.lt (fun h => calm_out h (by kernel_rfl))).trans hblk'
      have hne : g8 ≠ g7 := by
        rintro rfl
        unfold Blk at b7 b8
        rw [b7] at b8
        simp at b8
      exact relyAt_store_row 56 _ _ rfl g7 D rfl rfl 56 #[.int .i64 0, .int .i64 0, .int .i64 0, .int .i64 0, .int .i64 0, .int .i64 0, .int .i64 0, .int .i64 0, .int .i64 0, .int .i64 0, .int .i64 0, .int .i64 0, .int .i64 0, .int .i64 0, .int .i64 0, .int .i64 0] b7 HDJ.out (by rw [HDs.out]; rfl) h1 ⟨⟨rfl, g7, g8, maskV_at (by kernel_rfl), maskV_at (by kernel_rfl), b7.setRow D, (setRow_other _ _ _ D hne).trans b8⟩, keeps_setRow (.inl ⟨by kernel_rfl, hg7⟩) _⟩
    clear hK K
    refine wpRely_nil ?_
    simp only [fillE]
    rintro _ ⟨g8, rfl, hg8⟩ _ ⟨g7, rfl, hg7⟩ w9 hw9 hmet
    obtain ⟨w0, k0, k1, h7, h8, e7, e8, b7, b8⟩ := hmet.2.2.1 rfl
    rw [maskV_at (by kernel_rfl)] at e7 e8
    obtain rfl : g7 = h7 := by simpa using e7
    obtain rfl : g8 = h8 := by simpa using e8
    have hb7 : Blk w9 g7 56 D := (k1.block _ b7.lt (fun h => calm_out h (by kernel_rfl))).trans b7
    have hb8 : Blk w9 g8 41 #[.int .i64 0, .int .i64 0] := (k1.block _ b8.lt (fun h => calm_out h (by kernel_rfl))).trans b8
    have hne : g7 ≠ g8 := by
      rintro rfl
      unfold Blk at hb7 hb8
      rw [hb7] at hb8
      simp at hb8
    have hq9 := hw9.below (Nat.le_refl _) hno
    have hlt8 := hb8.lt
    have c0 := hb8.cell 0
    have c1 := hb8.cell 1
    simp only [List.getElem?_toArray, List.getElem?_cons_zero, List.getElem?_cons_succ] at c0 c1
    have f0 := hb8.frozen 0
    have f1 := hb8.frozen 1
    have B0 := HB0.out.below hq9 HB0.out.lt
    have B5 := HB5.out.below hq9 HB5.out.lt
    have B6 := HB6.out.below hq9 HB6.out.lt
    have hBw := HBW.out.trans (hq9.mono HBW.out.size)
    have h08 : w.heap.size ≠ g8 := by have := HB0.out.lt; omega
    have h58 : w2.heap.size ≠ g8 := by have := HB5.out.lt; omega
    have h68 : w2.heap.size + 1 ≠ g8 := by omega
    have C0 := Lib.hid ((B0.far (p := ⟨g8, 0, none⟩) h08 (.int .i64 c)).far (p := ⟨g8, 1, none⟩) h08 (.int .i64 l))
    have C5 := Lib.hid ((B5.far (p := ⟨g8, 0, none⟩) h58 (.int .i64 c)).far (p := ⟨g8, 1, none⟩) h58 (.int .i64 l))
    have C6 := Lib.hid ((B6.far (p := ⟨g8, 0, none⟩) h68 (.int .i64 c)).far (p := ⟨g8, 1, none⟩) h68 (.int .i64 l))
    have C7 := Lib.hid ((hb7.far (p := ⟨g8, 0, none⟩) hne (.int .i64 c)).far (p := ⟨g8, 1, none⟩) hne (.int .i64 l))
    have C8 : Hid (Blk ((w9.setCell ⟨g8, 0, none⟩ (.int .i64 c)).setCell ⟨g8, 1, none⟩ (.int .i64 l)) g8 41 #[.int .i64 c, .int .i64 l]) := (hb8.set_ 0 (.int .i64 c)).set_ 1 (.int .i64 l)
    have hle8 : w.heap.size ≤ g8 := by omega
    have CW : Below w.heap.size w ((w9.setCell ⟨g8, 0, none⟩ (.int .i64 c)).setCell ⟨g8, 1, none⟩ (.int .i64 l)) := (hBw.setCell hle8 _).setCell hle8 _
    have HNE := Lib.hid hne
    clear hmet e7 e8 b7 b8 k0 k1 hb7 hb8 B0 B5 B6 hBw s0 s1 s2 hne h08 h58 h68 HB0 HB5 HB6 HBW
    simp only [List.drop_succ_cons, List.drop_zero, Act.put, List.setIfInBounds_toArray, List.set_cons_zero, List.set_cons_succ]
    go_wp2
    generalize (w9.setCell ⟨g8, 0, none⟩ (.int .i64 c)).setCell ⟨g8, 1, none⟩ (.int .i64 l) = W5 at *
    have hs6 := C6.out.lt
    have hs8 := C8.out.lt
    have a0 := C6.out.cell 0
    have a1 := C6.out.cell 1
    have a2 := C8.out.cell 0
    have a3 := C8.out.cell 1
    simp only [List.getElem?_toArray, List.getElem?_cons_zero, List.getElem?_cons_succ] at a0 a1 a2 a3
    clear c0 c1 f0 f1 hq9
    refine wp_region_rely 10 nowhere [] (by kernel_rfl) (by kernel_rfl) ?_
    iterate 10
      refine wpRely_step (fun K hK => ?_)
      first
      | (refine .inl ?_
         apply Exists.intro
         refine ⟨Any, ?_, hK _ _ _ _ ?_⟩
         · simp only [RelyOp, fillE]
           refine ⟨?_, fun w9 hw9 _ => ?_⟩
           · first | rfl | (go_simp; done)
           obtain ⟨hc9, hf9⟩ := hw9.all
           first
           | (first | exact relyAt_load_row 56 _ rfl g7 rfl 56 D _ (C7.out.below hw9.same C7.out.lt) Try.underlying56 rfl HDJ.out ⟨⟨rfl, trivial⟩, Keeps.refl _ _⟩ | exact relyAt_load_row 52 _ rfl w2.heap.size rfl 52 D _ (C5.out.below hw9.same C5.out.lt) Try.underlying52 rfl HDI.out ⟨⟨rfl, trivial⟩, Keeps.refl _ _⟩)
           | (go_simp
              first
              | exact ⟨⟨rfl, trivial⟩, Keeps.refl _ _⟩
              | (go_at_call 37; exact rely_det (HSL.out _)))
         clear hK K
         try simp only [Act.put, List.setIfInBounds_toArray, List.set_cons_zero, List.set_cons_succ])
      | (refine .inr (.inl ⟨?_, hK _ _ _ _ ?_⟩)
         · simp only [fillE]
           first | rfl | (go_simp; done)
         clear hK K
         try simp only [Act.put, List.setIfInBounds_toArray, List.set_cons_zero, List.set_cons_succ])
    refine wpRely_nil ?_
    simp only [fillE]
    intro w9 hw9 _
    obtain ⟨hc9, hf9⟩ := hw9.all
    go_wp2
    apply_assumption
    go_wp2
    go_ret
    exact ⟨rfl, CW.trans (hw9.same.mono CW.size)⟩
  · have hr' : rightT z = false := by simpa using hr
    have HR := Lib.hid hr'
    clear hr hr'
    go_enter Try.func13, Try.ntmps13
    go_wp2_with (first
      | (refine wpList_load_row rfl 52 _ rfl w.heap.size rfl 52 C (0, 0) _ ?_ Try.underlying52 rfl ?_ ?_; (exact HBK.out); (exact HI.out))
      | (go_at_call 38; refine (refRight_any C z _ H.out).mono ?_; rintro e w1 ⟨rfl, hb1⟩; rw [HR.out]))
    go_ret
    exact ⟨rfl, Below.trans (by go_grown) (hb1.mono (by simp; omega))⟩

theorem own : ownKnob Try.prog.godebug = none := by kernel_rfl

set_option maxRecDepth 100000 in
theorem lifted (os : Os) (started : os.Started) (H : Type) (enc : TypeId × Value → H) :
    ReturnsInHanded {} Try.checked os 13 .any (Rows.tableDoesSpec.pre6 enc Try.prog Try.f13 Rows.tableDoesRow.domain false) (Rows.tableDoesSpec.post enc Try.prog Try.f13 false true false false) := by
  refine law_lifted (C := Try.checked) own started (by kernel_rfl) Try.func13
    (ChangeSpec.witness6 (enc := enc) (C := Try.checked) false ⟨#[], #[.agg #[.int .i64 0, .int .i64 0, .int .i64 0, .int .i64 0, .int .i64 0, .int .i64 0, .int .i64 0, .int .i64 0, .int .i64 0, .int .i64 0, .int .i64 0, .int .i64 0, .int .i64 0, .int .i64 0, .int .i64 0, .int .i64 0], .agg #[.int .i64 0, .int .i64 0, .int .i64 0]], []⟩ 8 (by kernel_rfl) (by kernel_rfl) (by kernel_rfl) (by kernel_rfl))
    (by kernel_rfl) (by kernel_rfl) rfl rfl Try.underlying4 ?_
  intro W base args ds ps hval0 hA0 hsz0
  have hval : ∀ (j : Nat) t v, Try.f13.params[j]? = some t → args[j]? = some v → Value.okWide Try.prog W .any base t v := hval0
  have hA : DataW.TrodAll enc Try.prog W 0 (fun _ => true) true Try.f13.params.toList args.toList ds ps := hA0
  rw [Try.params13] at hA hval
  obtain ⟨v0, v1, d0, d1, p0, p1, rfl, rfl, rfl, h0, h1⟩ := trodAll_two hA
  obtain ⟨t, rfl, wt⟩ := open_flat 4 (K := List.replicate 16 .i64) (by kernel_rfl) (by kernel_rfl) (by kernel_rfl) (hval 0 52 v0 rfl rfl) h0
  obtain ⟨o, rfl, wo⟩ := open_flat 4 (K := [.i64, .i64, .i64]) (by kernel_rfl) (by kernel_rfl) (by kernel_rfl) (hval 1 23 v1 rfl rfl) h1
  have hI := flatI 16 wt
  exact ⟨rfl, walk _ t (o 0) (o 1) (o 2) W hI (bounds_i64 (wo 2 (by decide)))⟩

theorem holds : Rows.TableDoesSaid :=
  OpenClaim.holds_of_wide 13 Try.f13 rfl rfl rfl rfl rfl rfl rfl ⟨rfl, rfl, rfl, rfl, rfl⟩ rfl rfl rfl rfl rfl (by kernel_rfl) Try.func13 (by kernel_rfl)
    (of_decide_eq_true (by kernel_rfl)) (by unfold Func.isWrapper; first | (rw [if_pos (by decide +kernel)]; kernel_rfl) | (rw [if_neg (by decide +kernel)]; exact ⟨rfl, rfl⟩))
    (fun os started H enc _ => lifted os started H enc)
#print axioms holds
end Go.Proofs.Ytfpfhiogfjlpaaa.lawTableDoes
