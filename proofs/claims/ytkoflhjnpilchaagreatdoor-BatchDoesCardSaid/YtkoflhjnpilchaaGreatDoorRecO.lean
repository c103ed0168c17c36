/-
  What gristmillref.RecOf returns: for any thirty-two words.
-/
import Derived.Test.YtkoflhjnpilchaaGreatDoorRecM
import Derived.Test.YtkoflhjnpilchaaGreatDoorMBase
namespace Go.Proofs.YtkoflhjnpilchaaGreatDoor
set_option linter.unusedSimpArgs false
set_option linter.unusedVariables false
set_option linter.unusedSectionVars false
open Go.RowKit Go.Maps
set_option linter.unusedSimpArgs false
set_option linter.unusedVariables false
attribute [local go_sem ↓] Go.wp_at_zero Go.wp_at_succ


set_option maxRecDepth 100000 in
set_option maxHeartbeats 40000000 in
theorem recOf_any (A : Option Addr) (c : Nat) (z : Nat → Int) (b : Bool) (w : World) (h : SlU w A 32 c z) (hb : b = true ↔ recOk z) :
    Calls Tryz.prog 10 #[.slice A 32 c] w (RecOut b (RecT z) w) := by
  have HI : Hid ((Tryz.prog.info? 56).map (·.size) = some rz.size) := infoRc
  have H := Lib.hid h
  have HB := Lib.hid hb
  obtain ⟨bA, oA, rfl, hglt, hcell⟩ := h.at_ (by omega)
  have c0 := hcell 0 (by omega)
  have bd0 := h.bd 0 (by omega)
  simp only [Nat.add_zero] at c0
  clear hcell h hb
  generalize hz0 : z 0 = z0 at c0 bd0
  have HZ0 := Lib.hid hz0
  clear hz0
  go_enter Tryz.func10, Tryz.ntmps10
  generalize hQ : bodyPost Tryz.prog Tryz.f10 (RecOut b (RecT z) w) = Q
  have HQQ := Lib.hid hQ
  clear hQ
  by_cases h6 : z0 ≤ 6
  · have d6 : decide (6 < z0) = false := by simp; omega
    obtain ⟨b1, hb1⟩ : ∃ b1 : Bool, b1 = true ↔ thingOk z0 (oz z) := by
      by_cases hh : thingOk z0 (oz z)
      · exact ⟨true, fun _ => hh, fun _ => rfl⟩
      · exact ⟨false, fun h => Bool.noConfusion h, fun h => absurd h hh⟩
    have HB1 := Lib.hid hb1
    clear hb1
    go_wp2_with fail
    have hW1 : Below w.heap.size w ((w.alloc (.cells rz 56)).alloc (.cells rz 56)) := by go_grown
    have hR0 : Blk ((w.alloc (.cells rz 56)).alloc (.cells rz 56)) w.heap.size 56 rz := (Blk.new _ _ _).alloc _
    have hR1 : Blk ((w.alloc (.cells rz 56)).alloc (.cells rz 56)) (w.heap.size + 1) 56 rz := Blk.newAt _ _ _ (by simp)
    show Code.wp _ _ _ _ ((w.alloc (.cells rz 56)).alloc (.cells rz 56))
    generalize (w.alloc (.cells rz 56)).alloc (.cells rz 56) = W1 at *
    have HS1 := Lib.hid (H.out.below hW1)
    have HW1 := Lib.hid hW1
    have HR0 := Lib.hid hR0
    have HR1 := Lib.hid hR1
    have c01 := (hW1.cell (p := ⟨bA, oA, none⟩) hglt).trans c0
    have hlt1 : bA < W1.heap.size := by have := hW1.size; omega
    have c63 := H.out.cap63
    have hcp := H.out.cap
    have e1 : ¬ c = 1 := by omega
    have e18 : (18 : Int) ≤ c := by omega
    have ez : IntKind.i64.wrap z0 = z0 := IntWalk.i64_in _ (by omega)
    have HSA : Hid (SlU W1 (some ⟨bA, oA + 1, none⟩) 17 (c - 1) (oz z)) := Lib.hid ⟨by omega, by omega, fun i hi => HS1.out.bd (1 + i) (by omega), fun _ => ⟨bA, oA + 1, rfl, hlt1, fun i hi => by
      obtain ⟨g2, o2, he, _, hc⟩ := HS1.out.at_ (by omega)
      cases he
      rw [Nat.add_assoc]
      exact hc (1 + i) (by omega)⟩⟩
    clear hW1 hR0 hR1 c0
    refine wp_region_relyA 12 (fun b => b = w.heap.size + 1) [11] (by kernel_rfl) (by kernel_rfl) ?_
    intro anc HA
    iterate 6
      refine wpRely_step (fun K hK => ?_)
      refine .inl ?_
      apply Exists.intro
      refine ⟨Any, ?_, hK _ _ _ _ ?_⟩
      · simp only [RelyOp, fillE]
        refine ⟨rfl, fun w9 hw9 _ => ?_⟩
        have c9 := (hw9.cell (p := ⟨bA, oA, none⟩) hlt1 (by show ¬ bA = w.heap.size + 1; omega)).trans c01
        go_simp
        exact ⟨⟨rfl, trivial⟩, Keeps.refl _ _⟩
      clear hK K
      try simp only [Act.put, List.setIfInBounds_toArray, List.set_cons_zero, List.set_cons_succ]
    refine wpRely_step (fun K hK => ?_)
    refine .inr (.inr ⟨IsTb b1, IsTbF b1 (ThOkO (w.heap.size + 2) z0 (oz z)), ⟨_, tz 0, rfl, rfl, by kernel_rfl⟩, ?_, hK _ _ _ _ ?_⟩)
    · simp only [RelyOp, fillE]
      refine ⟨rfl, fun w9 hw9 _ => ?_⟩
      have hs9 := hw9.size
      have hs1 := HR1.out.lt
      go_simp
      go_at_call 23
      (with_reducible refine (thing_any _ _ (oz z) z0 b1 _ (slu_keeps HSA.out hw9 (fun a ha => by cases ha; show ¬ bA = w.heap.size + 1; omega)) HB1.out).mono ?_)
      rintro e w10 ⟨hbl, C, hs, ho, rfl, hT⟩
      exact ⟨_, rfl, ⟨⟨C, rfl, hs, ho⟩, C, rfl, fun ht => (hT ht).mono (by omega)⟩, Keeps.of_same hbl⟩
    clear hK K
    try simp only [Act.put, List.setIfInBounds_toArray, List.set_cons_zero, List.set_cons_succ]
    refine wpRely_step (fun K hK => ?_)
    refine .inr (.inr ⟨IsTb b1, IsTbF b1 (ThOkO (w.heap.size + 2) z0 (oz z)), ⟨_, tz 0, rfl, rfl, by kernel_rfl⟩, ?_, hK _ _ _ _ ?_⟩)
    · simp only [RelyOp, fillE]
      rintro _ ⟨C, rfl, hs, ho⟩
      refine ⟨rfl, fun w9 hw9 hmet => ?_⟩
      obtain ⟨w0, k0, k1, C', hv, hT⟩ := hmet.2.1 (by rw [HA.out]; kernel_rfl)
      cases hv
      go_simp
      exact ⟨⟨⟨C, rfl, hs, ho⟩, C, rfl, fun ht => (hT ht).keeps (Keeps.of_same (S := nowhere) (quiet_keeps k1 (by rw [HA.out]; kernel_rfl))) (fun _ _ h => h)⟩, Keeps.refl _ _⟩
    clear hK K
    try simp only [Act.put, List.setIfInBounds_toArray, List.set_cons_zero, List.set_cons_succ]
    -- the thing
    refine wpRely_step (fun K hK => ?_)
    refine .inr (.inr ⟨IsTc, IsTcF b1 (ThOkO (w.heap.size + 2) z0 (oz z)), ⟨_, tz 0, rfl, rfl, by kernel_rfl⟩, ?_, hK _ _ _ _ ?_⟩)
    · simp only [RelyOp, fillE]
      rintro _ ⟨C, rfl, hs, ho⟩ _ ⟨C2, rfl, hs2, ho2⟩
      refine ⟨rfl, fun w9 hw9 hmet => ?_⟩
      obtain ⟨w0, k0, k1, C', hv, hT⟩ := hmet.2.2.1 (by rw [HA.out]; kernel_rfl)
      obtain rfl : C' = C := by cases hv; rfl
      clear hv
      go_simp
      exact ⟨⟨⟨C', rfl, hs, ho⟩, C', rfl, fun ht => (hT ht).keeps (Keeps.of_same (S := nowhere) (quiet_keeps k1 (by rw [HA.out]; kernel_rfl))) (fun _ _ h => h)⟩, Keeps.refl _ _⟩
    clear hK K
    try simp only [Act.put, List.setIfInBounds_toArray, List.set_cons_zero, List.set_cons_succ]
    iterate 2
      refine wpRely_step (fun K hK => ?_)
      refine .inl ?_
      apply Exists.intro
      refine ⟨Any, ?_, hK _ _ _ _ ?_⟩
      · simp only [RelyOp, fillE]
        rintro _ ⟨C8, rfl, hs8, ho8⟩ _ ⟨C7, rfl, hs7, ho7⟩ _ ⟨C6, rfl, hs6, ho6⟩
        refine ⟨rfl, fun w9 hw9 _ => ?_⟩
        go_simp
        exact ⟨⟨rfl, trivial⟩, Keeps.refl _ _⟩
      clear hK K
      try simp only [Act.put, List.setIfInBounds_toArray, List.set_cons_zero, List.set_cons_succ]
    -- it is laid into the record
    refine wpRely_step (fun K hK => ?_)
    refine .inl ⟨undef, fun _ w' => Laid0 (w.heap.size + 1) 56 b1 (ThOkO (w.heap.size + 2) z0 (oz z)) w', ?_, hK _ _ _ _ ?_⟩
    · simp only [RelyOp, fillE]
      rintro _ ⟨C8, rfl, hs8, ho8⟩ _ ⟨C7, rfl, hs7, ho7⟩ _ ⟨C6, rfl, hs6, ho6⟩
      constructor
      · rfl
      intro w9 hw9 hmet
      have hB9 : Blk w9 (w.heap.size + 1) 56 rz := (hmet.1.block _ HR1.out.lt (fun h => calm_out h (by rw [HA.out]; kernel_rfl))).trans HR1.out
      have h9 : Laid0 (w.heap.size + 1) 56 b1 (ThOkO (w.heap.size + 2) z0 (oz z)) (w9.setCells (w.heap.size + 1) 0 C8.toList) := by
        have h1 := hmet.2.2.2.1
        have h5 := h1 (by rw [HA.out]; kernel_rfl)
        clear hmet h1 hw9
        obtain ⟨w0, k0, k1, C', hv, hT⟩ := h5
        obtain rfl : C' = C8 := by cases hv; rfl
        exact ⟨_, C', hB9.setCells, behd_mk rfl hs8 rz_one ho8, fun ht => ((hT ht).keeps (Keeps.of_same (S := nowhere) (quiet_keeps k1 (by rw [HA.out]; kernel_rfl))) (fun _ _ h => h)).keeps (keeps_setCells (S := fun b => b = w.heap.size + 1) (.inl rfl) 0 C'.toList) (fun b hb e => by omega)⟩
      refine relyAt_store_mid 49 _ _ rfl (w.heap.size + 1) 0 C8 rfl rfl (hB9.there (by show 0 + C8.size ≤ 37; omega)) (by rw [infoTh, hs8]) ho8 ?_
      exact ⟨⟨rfl, h9⟩, (keeps_setCells (S := fun b => b = w.heap.size + 1) (.inl rfl) 0 C8.toList).mono (fun b h => ⟨by decide, h⟩)⟩
    clear hK K
    try simp only [Act.put, List.setIfInBounds_toArray, List.set_cons_zero, List.set_cons_succ]
    refine wpRely_nil ?_
    simp only [fillE]
    rintro _ ⟨C8, rfl, hs8, ho8⟩ _ ⟨C7, rfl, hs7, ho7⟩ _ ⟨C6, rfl, hs6, ho6⟩ w9 hw9 hmet
    have hex : ∃ R, Blk w9 (w.heap.size + 1) 56 R ∧ Behd R rz (R.extract 0 19) ∧ (b1 = true → ThOkO (w.heap.size + 2) z0 (oz z) (R.extract 0 19) w9) := by
      have h1 := hmet.2.2.2.1
      have h5 := h1 rfl
      clear hmet h1
      obtain ⟨w0, k0, k1, R, C, hRB, hbeh, hTC⟩ := h5
      have hb19 := quiet_keeps k1 (by rw [HA.out]; kernel_rfl)
      have e := hbeh.thing
      subst e
      exact ⟨R, hRB.below hb19 hRB.lt, hbeh, fun ht => (hTC ht).keeps (Keeps.of_same (S := nowhere) hb19) (fun _ _ h => h)⟩
    clear hmet
    have HR09 : Hid (Blk w9 w.heap.size 56 rz) := Lib.hid ((hw9.block _ HR0.out.lt (by show ¬ w.heap.size = w.heap.size + 1; omega)).trans HR0.out)
    have HW9 := Lib.hid (HW1.out.trans (hw9.below HW1.out.size (fun b hb e => by omega)))
    have HS9 := Lib.hid (H.out.below HW9.out)
    have hlt9 : bA < w9.heap.size := by have := HW9.out.size; omega
    clear hw9 HR1 HR0 HW1 HS1 HSA c01 e18 ez e1 hlt1
    simp only [List.drop_succ_cons, List.drop_zero]
    refine Exists.elim hex (fun R hR => ?_)
    clear hex
    have HRB := Lib.hid hR.1
    have HBEH := Lib.hid hR.2.1
    have HTC := Lib.hid hR.2.2
    clear hR
    have HIR : Hid ((Tryz.prog.info? 56).map (·.size) = some R.size) := by show _ = _; rw [infoRc, HBEH.out.size]
    cases b1
    · obtain rfl : b = false := by
        rw [Bool.eq_false_iff]
        intro ht
        have h9 := (HB.out.1 ht).1.1
        rw [show kindR z = z0 by unfold kindR; rw [HZ0.out, if_pos (by omega)]] at h9
        exact Bool.noConfusion (HB1.out.2 h9)
      go_wp2_with (first
        | (refine wpList_load_row rfl 56 _ rfl (w.heap.size + 1) rfl 56 R (0, 0) _ HRB.out Tryz.underlying56 rfl HIR.out ?_)
        | (refine wpList_store_row rfl 56 _ _ rfl w.heap.size R rfl rfl 56 rz HR09.out HIR.out (by rw [HBEH.out.size]; rfl) HBEH.out.one ?_))
      (try simp only [Exit.inBlock, Exit.then])
      rw [← HQQ.out]
      with_reducible refine bodyPost_ret (results_row_tmp Tryz.results10 _ _ w.heap.size 56 R _ (.bool false) (by kernel_rfl) (by kernel_rfl) (Blk.setRow HR09.out R) Tryz.underlying56 (by kernel_rfl) HIR.out) (by kernel_rfl) ?_
      refine ⟨below_setRow HW9.out (Nat.le_refl _) _, R, HBEH.out.size, HBEH.out.one, rfl, fun h => Bool.noConfusion h⟩
    · have x27 := (hcellS HS9.out 27 (by omega))
      have x28 := (hcellS HS9.out 28 (by omega))
      have r35 : w9.cell? ⟨w.heap.size + 1, 35, none⟩ = some (.int .u64 0) := (HRB.out.cell 35).trans (HBEH.out.rest 35 (by omega))
      have r36 : w9.cell? ⟨w.heap.size + 1, 36, none⟩ = some (.int .u64 0) := (HRB.out.cell 36).trans (HBEH.out.rest 36 (by omega))
      have f35 := HRB.out.frozen 35
      have f36 := HRB.out.frozen 36
      have b27 := H.out.bd 27 (by omega)
      have b28 := H.out.bd 28 (by omega)
      generalize hz27 : z 27 = vv at x27 b27
      generalize hz28 : z 28 = nn at x28 b28
      have HV := Lib.hid hz27
      have HN := Lib.hid hz28
      have HRR := Lib.hid (rcr_start HBEH.out vv nn)
      have HRO := Lib.hid (one_set (i := 36) (one_set (i := 35) HBEH.out.one (v := .int .u64 vv) rfl) (v := .int .u64 nn) rfl)
      have HR1 := Lib.hid ((HRB.out.set_ 35 (.int .u64 vv)).set_ 36 (.int .u64 nn))
      have HIR2 : Hid ((Tryz.prog.info? 56).map (·.size) = some ((R.setIfInBounds 35 (.int .u64 vv)).setIfInBounds 36 (.int .u64 nn)).size) := by show _ = _; rw [infoRc, HRR.out.size]
      have HT1 := Lib.hid (((HTC.out rfl).keeps (Keeps.setCell (Keeps.refl (fun b => b = w.heap.size + 1) w9) (p := ⟨w.heap.size + 1, 35, none⟩) (.inl rfl) (.int .u64 vv)) (fun b hb e => by omega)).keeps (Keeps.setCell (Keeps.refl (fun b => b = w.heap.size + 1) _) (p := ⟨w.heap.size + 1, 36, none⟩) (.inl rfl) (.int .u64 nn)) (fun b hb e => by omega))
      have HR0 := Lib.hid ((Blk.far (show Blk w9 w.heap.size 56 rz from HR09.out) (p := ⟨w.heap.size + 1, 35, none⟩) (by simp) (.int .u64 vv)).far (p := ⟨w.heap.size + 1, 36, none⟩) (by simp) (.int .u64 nn))
      have HW1 := Lib.hid ((HW9.out.setCell (p := ⟨w.heap.size + 1, 35, none⟩) (by show w.heap.size ≤ w.heap.size + 1; omega) (.int .u64 vv)).setCell (p := ⟨w.heap.size + 1, 36, none⟩) (by show w.heap.size ≤ w.heap.size + 1; omega) (.int .u64 nn))
      clear hz27 hz28 HTC HR09 HRB
      go_wp2
      go_region
      have HT2 : Hid (ThOkO (w.heap.size + 2) z0 (oz z) (R.extract 0 19) ((w9.setCell ⟨w.heap.size + 1, 35, none⟩ (.int .u64 vv)).setCell ⟨w.heap.size + 1, 36, none⟩ (.int .u64 nn)).drew) := Lib.hid (HT1.out.keeps ((Keeps.refl nowhere _).drew) (fun _ _ h => h))
      have HR12 := Lib.hid HR1.out.drew
      have HR02 := Lib.hid HR0.out.drew
      have HW2 := Lib.hid HW1.out.drew
      have hsz2 : w9.heap.size = ((w9.setCell ⟨w.heap.size + 1, 35, none⟩ (.int .u64 vv)).setCell ⟨w.heap.size + 1, 36, none⟩ (.int .u64 nn)).drew.heap.size := by simp
      have hlt2 : bA < ((w9.setCell ⟨w.heap.size + 1, 35, none⟩ (.int .u64 vv)).setCell ⟨w.heap.size + 1, 36, none⟩ (.int .u64 nn)).drew.heap.size := by omega
      have r35' := (HR12.out.cell 35).trans HRR.out.ver_
      have r36' := (HR12.out.cell 36).trans HRR.out.cnt_
      clear hsz2 r35 r36 x27 x28 f35 f36 HT1 HR1 HR0 HW1
      generalize ((w9.setCell ⟨w.heap.size + 1, 35, none⟩ (.int .u64 vv)).setCell ⟨w.heap.size + 1, 36, none⟩ (.int .u64 nn)).drew = W2 at *
      generalize (R.setIfInBounds 35 (.int .u64 vv)).setIfInBounds 36 (.int .u64 nn) = R2 at *
      by_cases hvv : vv ≤ 1099511627776
      · have dv : decide (1099511627776 < vv) = false := by simp; omega
        by_cases hnn : nn ≤ 1099511627776
        · have dn : decide (1099511627776 < nn) = false := by simp; omega
          have hmm := @run_makeMap Tryz.prog
          apply_assumption
          go_wp2
          go_loopw [53] (fun i wr => ∃ k : Nat, k ≤ 4 ∧ i = .int .i64 k ∧ Hid (RSt w W2 (R.extract 0 19) (upto (acZ z) k) (upto (avZ z) k) (upto (whZ z) k) (upto (tgZ z) k) vv nn z k wr) ∧ Hid (∀ t, t < k → thrOk z t)) (fun i _ => 4 - (intOf i).toNat)
          case atStart => exact ⟨0, by omega, rfl, Lib.hid ((⟨(Keeps.refl _ _).alloc _, ⟨R2, HR12.out.alloc _, HRR.out, HRO.out⟩, SeenM.start z W2⟩ : RSt w W2 (R.extract 0 19) (fun _ => 0) (fun _ => 0) (fun _ => 0) (fun _ => 0) vv nn z 0 _).congr (fun t _ => by unfold upto; rw [if_neg (by omega)]) (fun t _ => by unfold upto; rw [if_neg (by omega)]) (fun t _ => by unfold upto; rw [if_neg (by omega)]) (fun t _ => by unfold upto; rw [if_neg (by omega)])), Lib.hid fun t ht => absurd ht (by omega)⟩
          case round =>
            obtain ⟨k, hk, rfl, HS, hall⟩ := hrel
            have hlt2' : w.heap.size + 1 < W2.heap.size := HR12.out.lt
            have HSLr := Lib.hid (slu_keeps (H.out.below HW2.out) HS.out.keep (fun a ha => by cases ha; show ¬ bA = w.heap.size + 1; omega))
            clear r35' r36' dv dn hmm
            by_cases hk4 : k < 4
            · have q1 : (k : Int) < 4 := by omega
              have hk4' := hk4
              have cx := hcellS HSLr.out (18 + k) (by omega)
              have hx0 := HSLr.out.bd (18 + k) (by omega)
              have hy0 := HSLr.out.bd (22 + k) (by omega)
              have HANS : Hid (∀ W : World, Calls Tryz.prog 24 #[.int .u64 (z (18 + k))] W fun e w' => e = .returned (.tuple #[.agg #[.int .i64 (acX (z (18 + k))), .int .i64 (avX (z (18 + k)))], .int .i64 (okE (wOk (z (18 + k))) 3)]) ∧ Below W.heap.size W w') := Lib.hid (fun W => ansOfI _ hx0.1 hx0.2 W)
              obtain ⟨R1, hq1, hq2, hq3⟩ := HS.out.ex
              obtain ⟨D, ho, hD⟩ := HS.out.seen
              have HMAP := Lib.hid ho.isMap
              have HQ1 := Lib.hid hq1
              have HQ2 := Lib.hid hq2
              have HQ3 := Lib.hid hq3
              have HO := Lib.hid ho
              have HD := Lib.hid hD
              have HIRR : Hid ((Tryz.prog.info? 56).map (·.size) = some R1.size) := by show _ = _; rw [infoRc, HQ2.out.size]
              have hszr := HS.out.keep.size
              clear hq1 hq2 hq3 ho hD
              have i18 : (18 : Int) + k = ((18 + k : Nat) : Int) := by omega
              have j18 : ((18 + k : Nat) : Int) < 32 := by omega
              generalize hs : 18 + k = s at *
              have HS18 := Lib.hid hs
              clear hs
              go_wp2_with fail
              refine (HANS.out _).mono ?_
              rintro e w1 ⟨rfl, hb1⟩
              have HS1 := Lib.hid (HS.out.below hb1)
              have HQa := HQ1.out.below hb1 HQ1.out.lt
              have HZa : Blk w1 w.heap.size 56 rz := (HS1.out.keep.block _ HR02.out.lt (by show ¬ w.heap.size = w.heap.size + 1; omega)).trans HR02.out
              have HWa := HW2.out.trans (HS1.out.keep.below HW2.out.size (fun b hb e => by omega))
              have HOa := HO.out.kept (row := none) (w' := w1) ⟨hb1.os, hb1.tape, hb1.output, hb1.size, fun i hi _ => hb1.block i hi⟩ (by simp)
              have hsz1 := hb1.size
              have hl1 : bA < w1.heap.size := by omega
              have hg1 : W2.heap.size < w1.heap.size := HOa.lt
              have HSLa := HSLr.out.below hb1
              have cx1 := hcellS HSLa (18 + k) (by omega)
              have cy1 := hcellS HSLa (22 + k) (by omega)
              have c26 := hcellS HSLa 26 (by omega)
              have r36 := (HQa.cell 36).trans HQ2.out.cnt_
              have hl36 := HQa.lt
              have hta : thrA z k ↔ ((wOk (z (18 + k)) = true ∨ z (18 + k) = 0) ∧ z (22 + k) ≤ nn ∧ (z (18 + k) = 0 ↔ z (22 + k) = 0)) := by
                unfold thrA
                rw [HN.out]
              have hpos := @wOk_pos (z (18 + k))
              have hno := @wOk_no (z (18 + k))
              have hcc : acZ z k = acX (z (18 + k)) := rfl
              have hav : avZ z k = avX (z (18 + k)) := rfl
              rw [HS18.out] at cx1 hta hpos hno hcc hav
              have i22 : (22 : Int) + k = ((22 + k : Nat) : Int) := by omega
              have j22 : ((22 + k : Nat) : Int) < 32 := by omega
              generalize hu : 22 + k = u at *
              have HU22 := Lib.hid hu
              clear hu
              generalize hx : z s = x at *
              generalize hy : z u = y at *
              generalize acX x = cc at *
              generalize avX x = av at *
              generalize wOk x = f at *
              have HCC := Lib.hid hcc
              have HAV := Lib.hid hav
              have HTA := Lib.hid hta
              have HXU := Lib.hid hx
              have HYU := Lib.hid hy
              have HPOS := Lib.hid hpos
              have HNO := Lib.hid hno
              have HYB := Lib.hid hy0
              have HYU2 : Hid (z (22 + k) = y) := Lib.hid (by rw [HU22.out]; exact HYU.out)
              clear hb1 hta hx hy hpos hno hcc hav
              have HQT := Lib.hid (HQa.alloc (.cells #[.int .i64 cc, .int .i64 av] 51))
              have HZT := Lib.hid (HZa.alloc (.cells #[.int .i64 cc, .int .i64 av] 51))
              have HWT := Lib.hid (HWa.alloc HWa.size (.cells #[.int .i64 cc, .int .i64 av] 51))
              have HOT := Lib.hid (HOa.alloc (.cells #[.int .i64 cc, .int .i64 av] 51))
              have HST := Lib.hid (HS1.out.alloc (.cells #[.int .i64 cc, .int .i64 av] 51))
              have HQG := Lib.hid (HQa.alloc (.cells #[.int .i64 0, .int .i64 0] 51))
              have HZG := Lib.hid (HZa.alloc (.cells #[.int .i64 0, .int .i64 0] 51))
              have HWG := Lib.hid (HWa.alloc HWa.size (.cells #[.int .i64 0, .int .i64 0] 51))
              have HOG := Lib.hid (HOa.alloc (.cells #[.int .i64 0, .int .i64 0] 51))
              have HSG := Lib.hid (HS1.out.alloc (.cells #[.int .i64 0, .int .i64 0] 51))
              clear HQa HZa HWa HOa HSLa
              cases f
              · rw [show okE false 3 = 3 from rfl]
                obtain ⟨rfl, rfl⟩ := HNO.out rfl
                by_cases hx1 : x = 0
                · have dx : (x == 0) = true := by simpa using hx1
                  have HX0 := Lib.hid hx1
                  clear hx1
                  by_cases hy1 : y = 0
                  · have dy : (y == 0) = true := by simpa using hy1
                    have dy2 : decide (0 < y) = false := by simp; omega
                    have dc : decide (nn < y) = false := by simp; omega
                    have HY0 := Lib.hid hy1
                    clear hy1
                    go_wp2_with (at_mapUpdate; with_reducible refine fMapUp 87 22 4 keyU Tryz.underlying87 (plainElem Tryz.prog 4) W2.heap.size k D (.int .u64 y) (.bool true) (.int .u64 y) (by kernel_rfl) (by kernel_rfl) (by kernel_rfl) HOG.out (by unfold maxLen; omega) (keyOf_int_mk Tryz.underlying22 (u64_wf HYB.out.1 HYB.out.2)) (.lit (.bool true)) [] (plainElem_bool Tryz.underlying4 true) ?_)
                    intro w4 hown4 hgrow4
                    have HS4 := Lib.hid (HSG.out.see hlt2' hgrow4 (SeenM.put (w := w4) HYU2.out hown4 HMAP.out HD.out))
                    have hQ4 : Blk w4 (w.heap.size + 1) 56 R1 := (hgrow4.block _ HQG.out.lt (by simp; omega)).trans HQG.out
                    have hA4 : Blk w4 w1.heap.size 51 #[.int .i64 0, .int .i64 0] := (hgrow4.block _ (by simp) (by simp; omega)).trans (Blk.new _ _ _)
                    have hz4 : w1.heap.size < w4.heap.size := hA4.lt
                    have HSL4 := slu_keeps (H.out.below HW2.out) HS4.out.keep (fun a ha => by cases ha; show ¬ bA = w.heap.size + 1; omega)
                    have d26 := hcellS HSL4 26 (by omega)
                    have a0 := hA4.cell 0
                    have a1 := hA4.cell 1
                    simp only [List.getElem?_toArray, List.getElem?_cons_zero, List.getElem?_cons_succ] at a0 a1
                    have s0 : w4.cell? ⟨w.heap.size + 1, 19 + k * 2, none⟩ = some (.int .i64 (upto (acZ z) k k)) := by rw [Nat.mul_comm k 2]; exact (hQ4.cell _).trans (HQ2.out.ac_ k hk4')
                    have s1 : w4.cell? ⟨w.heap.size + 1, 19 + k * 2 + 1, none⟩ = some (.int .i64 (upto (avZ z) k k)) := by rw [Nat.mul_comm k 2, show 19 + 2 * k + 1 = 20 + 2 * k by omega]; exact (hQ4.cell _).trans (HQ2.out.av_ k hk4')
                    have s2 := (hQ4.cell (27 + k)).trans (HQ2.out.wh_ k hk4')
                    have s3 := (hQ4.cell (31 + k)).trans (HQ2.out.tg_ k hk4')
                    have f0 := hQ4.frozen (19 + k * 2)
                    have f1 := hQ4.frozen (19 + k * 2 + 1)
                    have f2 := hQ4.frozen (27 + k)
                    have f3 := hQ4.frozen (31 + k)
                    have HTHR : Hid (∀ t, t < k + 1 → thrOk z t) := Lib.hid fun t ht => by
                      rcases Nat.lt_or_ge t k with h | h
                      · exact hall.out t h
                      · obtain rfl : t = k := by omega
                        refine ⟨HTA.out.2 (by have := HX0.out; have := HY0.out; simp; first | omega | (have := HC0.out; omega)), fun u' hu' => ?_⟩
                        rw [HYU2.out]
                        exact fun h => absurd HY0.out h
                    obtain ⟨gn, hgn⟩ : ∃ gn : Nat, z 26 = (gn : Int) := ⟨(z 26).toNat, (Int.toNat_of_nonneg (H.out.bd 26 (by omega)).1).symm⟩
                    have hg64 : gn < 18446744073709551616 := by have := (H.out.bd 26 (by omega)).2; omega
                    rw [hgn] at d26
                    have HGN := Lib.hid hgn
                    clear hgn hown4 hgrow4 hQ4 hA4 HSL4 cx1 cy1 c26 r36 cx
                    go_wp2_with fail
                    refine (refBit_any gn k _ hg64).mono ?_
                    rintro e w6 ⟨rfl, hb6⟩
                    have HS6 := Lib.hid ((HS4.out.put hlt2' k hk4' 0 0 y).below hb6)
                    clear hb6 s0 s1 s2 s3 f0 f1 f2 f3 a0 a1 d26 HS4
                    obtain ⟨bt, hbt⟩ : ∃ bt : Bool, bitB gn (k : Int) = bt := ⟨_, rfl⟩
                    rw [hbt]
                    have HTGZ : Hid (tgZ z k = if bt = true then 1 else 0) := Lib.hid (by unfold tgZ; rw [HGN.out, Int.toNat_natCast, hbt])
                    clear hbt
                    cases bt
                    · go_wp2
                      go_roundw
                      case rel => exact ⟨k + 1, by omega, by go_num, Lib.hid (HS6.out.congr (fun t _ => by rw [upto_succ, HCC.out]) (fun t _ => by rw [upto_succ, HAV.out]) (fun t _ => by rw [upto_succ, show whZ z k = y from HYU2.out]) (fun t _ => upto_same _ _ _ (by rw [HTGZ.out]; rfl))), HTHR⟩
                      case measure => simp [intOf]; omega
                    · have s36 : w6.cell? ⟨w.heap.size + 1, 31 + k, none⟩ = some (.int .i64 (upto (tgZ z) k k)) := by
                        obtain ⟨R9, z1, z2, _⟩ := HS6.out.ex
                        exact (z1.cell _).trans (z2.tg_ k hk4')
                      have f36 : w6.frozen? ⟨w.heap.size + 1, 31 + k, none⟩ = false := by
                        obtain ⟨R9, z1, z2, _⟩ := HS6.out.ex
                        exact z1.frozen _
                      go_wp2
                      go_roundw
                      case rel => exact ⟨k + 1, by omega, by go_num, Lib.hid ((HS6.out.turn hlt2' k hk4' 1).congr (fun t _ => by rw [upto_succ, HCC.out]) (fun t _ => by rw [upto_succ, HAV.out]) (fun t _ => by rw [upto_succ, show whZ z k = y from HYU2.out]) (fun t _ => by rw [upto_succ, HTGZ.out]; rfl)), HTHR⟩
                      case measure => simp [intOf]; omega
                  · have dy : (y == 0) = false := by simpa using hy1
                    have HY0 := Lib.hid hy1
                    clear hy1
                    obtain rfl : b = false := by
                      rw [Bool.eq_false_iff]
                      intro ht
                      obtain ⟨h91, h92⟩ := (HB.out.1 ht).2.1 k hk4'
                      obtain ⟨h1, h2, h3⟩ := HTA.out.1 h91
                      try simp at h1
                      have a1 := HX0.out
                      first | omega | (have a2 := HY0.out; first | omega | (have a3 := HC0.out; omega))
                    go_wp2_with (first
                      | (refine wpList_load_row rfl 56 _ rfl (w.heap.size + 1) rfl 56 R1 (0, 0) _ HQG.out Tryz.underlying56 rfl HIRR.out ?_)
                      | (refine wpList_store_row rfl 56 _ _ rfl w.heap.size R1 rfl rfl 56 rz HZG.out HIRR.out (by rw [HQ2.out.size]; rfl) HQ3.out ?_))
                    (try simp only [Exit.inBlock, Exit.then])
                    rw [← HQQ.out]
                    with_reducible refine bodyPost_ret (results_row_tmp Tryz.results10 _ _ w.heap.size 56 R1 _ (.bool false) (by kernel_rfl) (by kernel_rfl) (Blk.setRow HZG.out R1) Tryz.underlying56 (by kernel_rfl) HIRR.out) (by kernel_rfl) ?_
                    refine ⟨below_setRow HWG.out (Nat.le_refl _) _, R1, HQ2.out.size, HQ3.out, rfl, fun h => Bool.noConfusion h⟩
                · have dx : (x == 0) = false := by simpa using hx1
                  have HX0 := Lib.hid hx1
                  clear hx1
                  obtain rfl : b = false := by
                    rw [Bool.eq_false_iff]
                    intro ht
                    obtain ⟨h91, h92⟩ := (HB.out.1 ht).2.1 k hk4'
                    obtain ⟨h1, h2, h3⟩ := HTA.out.1 h91
                    try simp at h1
                    have a1 := HX0.out
                    first | omega | (have a2 := HY0.out; first | omega | (have a3 := HC0.out; omega))
                  go_wp2_with (first
                    | (refine wpList_load_row rfl 56 _ rfl (w.heap.size + 1) rfl 56 R1 (0, 0) _ HQT.out Tryz.underlying56 rfl HIRR.out ?_)
                    | (refine wpList_store_row rfl 56 _ _ rfl w.heap.size R1 rfl rfl 56 rz HZT.out HIRR.out (by rw [HQ2.out.size]; rfl) HQ3.out ?_))
                  (try simp only [Exit.inBlock, Exit.then])
                  rw [← HQQ.out]
                  with_reducible refine bodyPost_ret (results_row_tmp Tryz.results10 _ _ w.heap.size 56 R1 _ (.bool false) (by kernel_rfl) (by kernel_rfl) (Blk.setRow HZT.out R1) Tryz.underlying56 (by kernel_rfl) HIRR.out) (by kernel_rfl) ?_
                  refine ⟨below_setRow HWT.out (Nat.le_refl _) _, R1, HQ2.out.size, HQ3.out, rfl, fun h => Bool.noConfusion h⟩
              · rw [show okE true 3 = 0 from rfl]
                obtain ⟨hcc1, hxn⟩ := HPOS.out rfl
                have dx : (x == 0) = false := by simpa using hxn
                have HX0 := Lib.hid hxn
                have dcc : (cc == 0) = false := by simp; omega
                clear hxn
                by_cases hy1 : y = 0
                · have dy : (y == 0) = true := by simpa using hy1
                  have HY0 := Lib.hid hy1
                  clear hy1
                  obtain rfl : b = false := by
                    rw [Bool.eq_false_iff]
                    intro ht
                    obtain ⟨h91, h92⟩ := (HB.out.1 ht).2.1 k hk4'
                    obtain ⟨h1, h2, h3⟩ := HTA.out.1 h91
                    try simp at h1
                    have a1 := HX0.out
                    first | omega | (have a2 := HY0.out; first | omega | (have a3 := HC0.out; omega))
                  go_wp2_with (first
                    | (refine wpList_load_row rfl 56 _ rfl (w.heap.size + 1) rfl 56 R1 (0, 0) _ HQT.out Tryz.underlying56 rfl HIRR.out ?_)
                    | (refine wpList_store_row rfl 56 _ _ rfl w.heap.size R1 rfl rfl 56 rz HZT.out HIRR.out (by rw [HQ2.out.size]; rfl) HQ3.out ?_))
                  (try simp only [Exit.inBlock, Exit.then])
                  rw [← HQQ.out]
                  with_reducible refine bodyPost_ret (results_row_tmp Tryz.results10 _ _ w.heap.size 56 R1 _ (.bool false) (by kernel_rfl) (by kernel_rfl) (Blk.setRow HZT.out R1) Tryz.underlying56 (by kernel_rfl) HIRR.out) (by kernel_rfl) ?_
                  refine ⟨below_setRow HWT.out (Nat.le_refl _) _, R1, HQ2.out.size, HQ3.out, rfl, fun h => Bool.noConfusion h⟩
                · have dy : (y == 0) = false := by simpa using hy1
                  have dy2 : decide (0 < y) = true := by simp; omega
                  have HY0 := Lib.hid hy1
                  clear hy1
                  by_cases hc : y ≤ nn
                  · have dc : decide (nn < y) = false := by simp; omega
                    have HC0 := Lib.hid hc
                    clear hc
                    have hlook := SeenM.look (⟨D, HOT.out, HD.out⟩ : SeenM z k W2.heap.size _) y HYB.out.1 HYB.out.2
                    obtain ⟨sn, hsn⟩ : ∃ sn, seenB z k y = sn := ⟨_, rfl⟩
                    rw [hsn] at hlook
                    have HSEE := Lib.hid hsn
                    clear hsn
                    cases sn
                    · skip
                      go_wp2_with (at_mapUpdate; with_reducible refine fMapUp 87 22 4 keyU Tryz.underlying87 (plainElem Tryz.prog 4) W2.heap.size k D (.int .u64 y) (.bool true) (.int .u64 y) (by kernel_rfl) (by kernel_rfl) (by kernel_rfl) HOT.out (by unfold maxLen; omega) (keyOf_int_mk Tryz.underlying22 (u64_wf HYB.out.1 HYB.out.2)) (.lit (.bool true)) [] (plainElem_bool Tryz.underlying4 true) ?_)
                      intro w4 hown4 hgrow4
                      have HS4 := Lib.hid (HST.out.see hlt2' hgrow4 (SeenM.put (w := w4) HYU2.out hown4 HMAP.out HD.out))
                      have hQ4 : Blk w4 (w.heap.size + 1) 56 R1 := (hgrow4.block _ HQT.out.lt (by simp; omega)).trans HQT.out
                      have hA4 : Blk w4 w1.heap.size 51 #[.int .i64 cc, .int .i64 av] := (hgrow4.block _ (by simp) (by simp; omega)).trans (Blk.new _ _ _)
                      have hz4 : w1.heap.size < w4.heap.size := hA4.lt
                      have HSL4 := slu_keeps (H.out.below HW2.out) HS4.out.keep (fun a ha => by cases ha; show ¬ bA = w.heap.size + 1; omega)
                      have d26 := hcellS HSL4 26 (by omega)
                      have a0 := hA4.cell 0
                      have a1 := hA4.cell 1
                      simp only [List.getElem?_toArray, List.getElem?_cons_zero, List.getElem?_cons_succ] at a0 a1
                      have s0 : w4.cell? ⟨w.heap.size + 1, 19 + k * 2, none⟩ = some (.int .i64 (upto (acZ z) k k)) := by rw [Nat.mul_comm k 2]; exact (hQ4.cell _).trans (HQ2.out.ac_ k hk4')
                      have s1 : w4.cell? ⟨w.heap.size + 1, 19 + k * 2 + 1, none⟩ = some (.int .i64 (upto (avZ z) k k)) := by rw [Nat.mul_comm k 2, show 19 + 2 * k + 1 = 20 + 2 * k by omega]; exact (hQ4.cell _).trans (HQ2.out.av_ k hk4')
                      have s2 := (hQ4.cell (27 + k)).trans (HQ2.out.wh_ k hk4')
                      have s3 := (hQ4.cell (31 + k)).trans (HQ2.out.tg_ k hk4')
                      have f0 := hQ4.frozen (19 + k * 2)
                      have f1 := hQ4.frozen (19 + k * 2 + 1)
                      have f2 := hQ4.frozen (27 + k)
                      have f3 := hQ4.frozen (31 + k)
                      have HTHR : Hid (∀ t, t < k + 1 → thrOk z t) := Lib.hid fun t ht => by
                        rcases Nat.lt_or_ge t k with h | h
                        · exact hall.out t h
                        · obtain rfl : t = k := by omega
                          refine ⟨HTA.out.2 (by have := HX0.out; have := HY0.out; simp; first | omega | (have := HC0.out; omega)), fun u' hu' => ?_⟩
                          rw [HYU2.out]
                          exact fun h he => by
                            have h9 := HSEE.out
                            rw [Bool.eq_false_iff] at h9
                            exact h9 (seenB_iff.2 ⟨u', hu', he⟩)
                      obtain ⟨gn, hgn⟩ : ∃ gn : Nat, z 26 = (gn : Int) := ⟨(z 26).toNat, (Int.toNat_of_nonneg (H.out.bd 26 (by omega)).1).symm⟩
                      have hg64 : gn < 18446744073709551616 := by have := (H.out.bd 26 (by omega)).2; omega
                      rw [hgn] at d26
                      have HGN := Lib.hid hgn
                      clear hgn hown4 hgrow4 hQ4 hA4 HSL4 cx1 cy1 c26 r36 cx
                      go_wp2_with fail
                      refine (refBit_any gn k _ hg64).mono ?_
                      rintro e w6 ⟨rfl, hb6⟩
                      have HS6 := Lib.hid ((HS4.out.put hlt2' k hk4' cc av y).below hb6)
                      clear hb6 s0 s1 s2 s3 f0 f1 f2 f3 a0 a1 d26 HS4
                      obtain ⟨bt, hbt⟩ : ∃ bt : Bool, bitB gn (k : Int) = bt := ⟨_, rfl⟩
                      rw [hbt]
                      have HTGZ : Hid (tgZ z k = if bt = true then 1 else 0) := Lib.hid (by unfold tgZ; rw [HGN.out, Int.toNat_natCast, hbt])
                      clear hbt
                      cases bt
                      · go_wp2
                        go_roundw
                        case rel => exact ⟨k + 1, by omega, by go_num, Lib.hid (HS6.out.congr (fun t _ => by rw [upto_succ, HCC.out]) (fun t _ => by rw [upto_succ, HAV.out]) (fun t _ => by rw [upto_succ, show whZ z k = y from HYU2.out]) (fun t _ => upto_same _ _ _ (by rw [HTGZ.out]; rfl))), HTHR⟩
                        case measure => simp [intOf]; omega
                      · have s36 : w6.cell? ⟨w.heap.size + 1, 31 + k, none⟩ = some (.int .i64 (upto (tgZ z) k k)) := by
                          obtain ⟨R9, z1, z2, _⟩ := HS6.out.ex
                          exact (z1.cell _).trans (z2.tg_ k hk4')
                        have f36 : w6.frozen? ⟨w.heap.size + 1, 31 + k, none⟩ = false := by
                          obtain ⟨R9, z1, z2, _⟩ := HS6.out.ex
                          exact z1.frozen _
                        go_wp2
                        go_roundw
                        case rel => exact ⟨k + 1, by omega, by go_num, Lib.hid ((HS6.out.turn hlt2' k hk4' 1).congr (fun t _ => by rw [upto_succ, HCC.out]) (fun t _ => by rw [upto_succ, HAV.out]) (fun t _ => by rw [upto_succ, show whZ z k = y from HYU2.out]) (fun t _ => by rw [upto_succ, HTGZ.out]; rfl)), HTHR⟩
                        case measure => simp [intOf]; omega
                    · skip
                      obtain rfl : b = false := by
                        rw [Bool.eq_false_iff]
                        intro ht
                        obtain ⟨h91, h92⟩ := (HB.out.1 ht).2.1 k hk4'
                        obtain ⟨u', hu1, hu2⟩ := seenB_iff.1 HSEE.out
                        rw [HU22.out, HYU.out] at h92
                        exact h92 u' hu1 HY0.out hu2
                      go_wp2_with (first
                        | (refine wpList_load_row rfl 56 _ rfl (w.heap.size + 1) rfl 56 R1 (0, 0) _ HQT.out Tryz.underlying56 rfl HIRR.out ?_)
                        | (refine wpList_store_row rfl 56 _ _ rfl w.heap.size R1 rfl rfl 56 rz HZT.out HIRR.out (by rw [HQ2.out.size]; rfl) HQ3.out ?_))
                      (try simp only [Exit.inBlock, Exit.then])
                      rw [← HQQ.out]
                      with_reducible refine bodyPost_ret (results_row_tmp Tryz.results10 _ _ w.heap.size 56 R1 _ (.bool false) (by kernel_rfl) (by kernel_rfl) (Blk.setRow HZT.out R1) Tryz.underlying56 (by kernel_rfl) HIRR.out) (by kernel_rfl) ?_
                      refine ⟨below_setRow HWT.out (Nat.le_refl _) _, R1, HQ2.out.size, HQ3.out, rfl, fun h => Bool.noConfusion h⟩
                  · have dc : decide (nn < y) = true := by simp; omega
                    have HC0 := Lib.hid hc
                    clear hc
                    obtain rfl : b = false := by
                      rw [Bool.eq_false_iff]
                      intro ht
                      obtain ⟨h91, h92⟩ := (HB.out.1 ht).2.1 k hk4'
                      obtain ⟨h1, h2, h3⟩ := HTA.out.1 h91
                      try simp at h1
                      have a1 := HX0.out
                      first | omega | (have a2 := HY0.out; first | omega | (have a3 := HC0.out; omega))
                    go_wp2_with (first
                      | (refine wpList_load_row rfl 56 _ rfl (w.heap.size + 1) rfl 56 R1 (0, 0) _ HQT.out Tryz.underlying56 rfl HIRR.out ?_)
                      | (refine wpList_store_row rfl 56 _ _ rfl w.heap.size R1 rfl rfl 56 rz HZT.out HIRR.out (by rw [HQ2.out.size]; rfl) HQ3.out ?_))
                    (try simp only [Exit.inBlock, Exit.then])
                    rw [← HQQ.out]
                    with_reducible refine bodyPost_ret (results_row_tmp Tryz.results10 _ _ w.heap.size 56 R1 _ (.bool false) (by kernel_rfl) (by kernel_rfl) (Blk.setRow HZT.out R1) Tryz.underlying56 (by kernel_rfl) HIRR.out) (by kernel_rfl) ?_
                    refine ⟨below_setRow HWT.out (Nat.le_refl _) _, R1, HQ2.out.size, HQ3.out, rfl, fun h => Bool.noConfusion h⟩
            · obtain rfl : k = 4 := by omega
              have HALL := Lib.hid hall.out
              have HRes : Hid (Blk wr w.heap.size 56 rz) := Lib.hid ((HS.out.keep.block _ HR02.out.lt (by show ¬ w.heap.size = w.heap.size + 1; omega)).trans HR02.out)
              have HWr := Lib.hid (HW2.out.trans (HS.out.keep.below HW2.out.size (fun b hb e => by omega)))
              have HTr := Lib.hid (HT2.out.keeps HS.out.keep (fun b hb e => by omega))
              obtain ⟨R1, hq1, hq2, hq3⟩ := HS.out.ex
              have HQ1 := Lib.hid hq1
              have HQ2 : Hid (RcR R1 (R.extract 0 19) (acZ z) (avZ z) (whZ z) (tgZ z) vv nn) := Lib.hid (hq2.congr (fun t ht => by unfold upto; rw [if_pos ht]) (fun t ht => by unfold upto; rw [if_pos ht]) (fun t ht => by unfold upto; rw [if_pos ht]) (fun t ht => by unfold upto; rw [if_pos ht]))
              have HQ3 := Lib.hid hq3
              have HIRR : Hid ((Tryz.prog.info? 56).map (·.size) = some R1.size) := by show _ = _; rw [infoRc, hq2.size]
              have HVN : Hid (vv ≤ 1099511627776 ∧ nn ≤ 1099511627776) := Lib.hid ⟨hvv, hnn⟩
              have HB6 : Hid (0 ≤ z0 ∧ z0 ≤ 9) := Lib.hid ⟨bd0.1, by omega⟩
              clear hq1 hq2 hq3 hall HS
              go_wp2_with fail
              refine wp_region_relyA 5 nowhere [] (by kernel_rfl) (by kernel_rfl) ?_
              intro anc2 HA2
              iterate 2
                refine wpRely_step (fun K hK => ?_)
                refine .inl ?_
                apply Exists.intro
                refine ⟨Any, ?_, hK _ _ _ _ ?_⟩
                · simp only [RelyOp, fillE]
                  refine ⟨rfl, fun w9 hw9 _ => ?_⟩
                  exact relyAt_load_row 56 _ rfl (w.heap.size + 1) rfl 56 R1 _ (HQ1.out.below hw9.same HQ1.out.lt) Tryz.underlying56 rfl HIRR.out ⟨⟨rfl, trivial⟩, Keeps.refl _ _⟩
                clear hK K
                try simp only [Act.put, List.setIfInBounds_toArray, List.set_cons_zero, List.set_cons_succ]
              refine wpRely_step (fun K hK => ?_)
              refine .inr (.inr ⟨IsS32, Is32 (wordsZ z0 (oz z) (acZ z) (avZ z) (whZ z) (tgZ z) vv nn), ⟨_, 0, rfl⟩, ?_, hK _ _ _ _ ?_⟩)
              · simp only [RelyOp, fillE]
                refine ⟨rfl, fun w9 hw9 _ => ?_⟩
                go_simp
                go_at_call 15
                refine (words_any R1 (R.extract 0 19) (acZ z) (avZ z) (whZ z) (tgZ z) vv nn z0 (oz z) w9 HQ2.out HB6.out (fun i hi => (H.out.bd (1 + i) (by omega)).1) (HB1.out.1 (by trivial)) ((HTr.out.weak).below hw9.same) (fun t ht => H.out.bd (22 + t) (by omega)) b27 b28).mono ?_
                rintro e w10 ⟨g, D9, rfl, hb9, hu9, hg9, hbl⟩
                exact ⟨_, rfl, ⟨⟨g, rfl⟩, ⟨g, D9, rfl, hb9, hu9⟩⟩, Keeps.of_same hbl⟩
              clear hK K
              try simp only [Act.put, List.setIfInBounds_toArray, List.set_cons_zero, List.set_cons_succ]
              refine wpRely_step (fun K hK => ?_)
              refine .inl ?_
              apply Exists.intro
              refine ⟨Any, ?_, hK _ _ _ _ ?_⟩
              · simp only [RelyOp, fillE]
                rintro _ ⟨g, rfl⟩
                refine ⟨rfl, fun w9 hw9 _ => ?_⟩
                go_simp
                exact ⟨⟨rfl, trivial⟩, Keeps.refl _ _⟩
              clear hK K
              try simp only [Act.put, List.setIfInBounds_toArray, List.set_cons_zero, List.set_cons_succ]
              refine wpRely_step (fun K hK => ?_)
              refine .inl ⟨.bool b, Any, ?_, hK _ _ _ _ ?_⟩
              · simp only [RelyOp, fillE]
                rintro _ ⟨g, rfl⟩
                refine ⟨rfl, fun w9 hw9 hmet => ?_⟩
                have hfin : Calls Tryz.prog 26 #[.slice (some ⟨g, 0, none⟩) 32 32, .slice (some ⟨bA, oA, none⟩) 32 c] w9 fun e w' => e = .returned (.bool b) ∧ Below w9.heap.size w9 w' := by
                  have h1 := hmet.2.1 (by rw [HA2.out]; kernel_rfl)
                  obtain ⟨w0, k0, k1, g', D9, hv9, hblk, hu9⟩ := h1
                  cases hv9
                  have hk1 := quiet_keeps k1 (by rw [HA2.out]; kernel_rfl)
                  refine (same_any _ _ 32 32 32 _ (wordsZ z0 (oz z) (acZ z) (avZ z) (whZ z) (tgZ z) vv nn) z _ (by simpa using SlU.of_blk (n := 32) (c := 32) (o := 0) (hblk.below hk1 hblk.lt) hu9 (by omega) (by omega) (by omega)) (HSLr.out.below hw9.same)).mono ?_
                  rintro e w10 ⟨b', rfl, hb', hbl⟩
                  obtain rfl : b' = b := by
                    rw [Bool.eq_iff_iff, hb', HB.out]
                    have hw := wordsZ_iff HZ0.out HV.out HN.out (fun i hi => (H.out.bd i hi).1) h6 (HB1.out.1 (by trivial)) HVN.out.1 HVN.out.2 HALL.out
                    exact ⟨fun h => hw.1 h.2, fun h => ⟨rfl, hw.2 h⟩⟩
                  exact ⟨rfl, hbl⟩
                go_simp
                go_at_call 26
                exact rely_det hfin
              clear hK K
              try simp only [Act.put, List.setIfInBounds_toArray, List.set_cons_zero, List.set_cons_succ]
              refine wpRely_nil ?_
              simp only [fillE]
              rintro _ ⟨g9, rfl⟩ w10 hw10 hmet
              clear hmet
              have HB9 := Lib.hid (HRes.out.below hw10.same HRes.out.lt)
              have HW10 := Lib.hid (HWr.out.trans (hw10.same.mono HWr.out.size))
              simp only [List.drop_succ_cons, List.drop_zero]
              go_wp2_with (refine wpList_store_row rfl 56 _ _ rfl w.heap.size R1 rfl rfl 56 rz HB9.out HIRR.out (by rw [HQ2.out.size]; rfl) HQ3.out ?_)
              (try simp only [Exit.inBlock, Exit.then])
              rw [← HQQ.out]
              with_reducible refine bodyPost_ret (results_row_tmp Tryz.results10 _ _ w.heap.size 56 R1 _ (.bool b) (by kernel_rfl) (by kernel_rfl) (Blk.setRow HB9.out R1) Tryz.underlying56 (by kernel_rfl) HIRR.out) (by kernel_rfl) ?_
              refine ⟨below_setRow HW10.out (Nat.le_refl _) _, R1, HQ2.out.size, HQ3.out, rfl, fun _ => ⟨?_, ?_⟩⟩
              · rw [HV.out, HN.out, ← HQ2.out.thing]; exact HQ2.out
              · rw [← HQ2.out.thing, HZ0.out]
                exact ((HTr.out.keeps (Keeps.of_same (S := nowhere) hw10.same) (fun _ _ h => h)).keeps (keeps_setRow (S := fun b => b = w.heap.size) (.inl rfl) R1) (fun b hb e => by omega)).weak
        · have dn : decide (1099511627776 < nn) = true := by simp; omega
          apply_assumption
          obtain rfl : b = false := by
            rw [Bool.eq_false_iff]
            intro ht
            have h9 := (HB.out.1 ht).1
            have a1 := h9.2.2.1
            rw [HN.out] at a1
            exact hnn a1
          go_wp2_with (first
            | (refine wpList_load_row rfl 56 _ rfl (w.heap.size + 1) rfl 56 R2 (0, 0) _ HR12.out Tryz.underlying56 rfl HIR2.out ?_)
            | (refine wpList_store_row rfl 56 _ _ rfl w.heap.size R2 rfl rfl 56 rz HR02.out HIR2.out (by rw [HRR.out.size]; rfl) HRO.out ?_))
          (try simp only [Exit.inBlock, Exit.then])
          rw [← HQQ.out]
          with_reducible refine bodyPost_ret (results_row_tmp Tryz.results10 _ _ w.heap.size 56 R2 _ (.bool false) (by kernel_rfl) (by kernel_rfl) (Blk.setRow HR02.out R2) Tryz.underlying56 (by kernel_rfl) HIR2.out) (by kernel_rfl) ?_
          refine ⟨below_setRow HW2.out (Nat.le_refl _) _, R2, HRR.out.size, HRO.out, rfl, fun h => Bool.noConfusion h⟩
      · have dv : decide (1099511627776 < vv) = true := by simp; omega
        apply_assumption
        obtain rfl : b = false := by
          rw [Bool.eq_false_iff]
          intro ht
          have h9 := (HB.out.1 ht).1
          have a1 := h9.2.2.2
          rw [HV.out] at a1
          exact hvv a1
        go_wp2_with (first
          | (refine wpList_load_row rfl 56 _ rfl (w.heap.size + 1) rfl 56 R2 (0, 0) _ HR12.out Tryz.underlying56 rfl HIR2.out ?_)
          | (refine wpList_store_row rfl 56 _ _ rfl w.heap.size R2 rfl rfl 56 rz HR02.out HIR2.out (by rw [HRR.out.size]; rfl) HRO.out ?_))
        (try simp only [Exit.inBlock, Exit.then])
        rw [← HQQ.out]
        with_reducible refine bodyPost_ret (results_row_tmp Tryz.results10 _ _ w.heap.size 56 R2 _ (.bool false) (by kernel_rfl) (by kernel_rfl) (Blk.setRow HR02.out R2) Tryz.underlying56 (by kernel_rfl) HIR2.out) (by kernel_rfl) ?_
        refine ⟨below_setRow HW2.out (Nat.le_refl _) _, R2, HRR.out.size, HRO.out, rfl, fun h => Bool.noConfusion h⟩
  · have d6 : decide (6 < z0) = true := by simp; omega
    obtain rfl : b = false := by
      rw [Bool.eq_false_iff]
      intro ht
      have h9 := thing_kind (HB.out.1 ht).1.1
      have h0 := HZ0.out
      unfold kindR at h9
      rw [h0] at h9
      split at h9 <;> omega
    go_wp2_with (first
      | (refine wpList_load_row rfl 56 _ rfl (w.heap.size + 1) rfl 56 rz (0, 0) _ (Blk.newAt _ _ _ (by simp)) Tryz.underlying56 rfl HI.out ?_)
      | (refine wpList_store_row rfl 56 _ _ rfl w.heap.size rz rfl rfl 56 rz ((Blk.new _ _ _).alloc _) HI.out rfl rz_one ?_))
    (try simp only [Exit.inBlock, Exit.then])
    rw [← HQQ.out]
    with_reducible refine bodyPost_ret (results_row_tmp Tryz.results10 _ _ w.heap.size 56 rz _ (.bool false) (by kernel_rfl) (by kernel_rfl) (Blk.setRow ((Blk.new _ _ _).alloc _) rz) Tryz.underlying56 (by kernel_rfl) HI.out) (by kernel_rfl) ?_
    refine ⟨below_setRow (show Below w.heap.size w ((w.alloc (.cells rz 56)).alloc (.cells rz 56)) by go_grown) (Nat.le_refl _) _, rz, rfl, rz_one, rfl, fun h => Bool.noConfusion h⟩
end Go.Proofs.YtkoflhjnpilchaaGreatDoor
