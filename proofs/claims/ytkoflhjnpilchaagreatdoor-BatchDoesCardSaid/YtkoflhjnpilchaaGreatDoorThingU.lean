/-
  Thing.Do by kinds once more, with where the list lies.
-/
import Derived.Test.YtkoflhjnpilchaaGreatDoorMTD
namespace Go.Proofs.YtkoflhjnpilchaaGreatDoor
set_option linter.unusedSimpArgs false
set_option linter.unusedVariables false
set_option linter.unusedSectionVars false
open Go.RowKit
set_option linter.unusedSimpArgs false
set_option linter.unusedVariables false
attribute [local go_sem ↓] Go.wp_at_zero Go.wp_at_succ

set_option maxRecDepth 100000 in
set_option maxHeartbeats 4000000 in
theorem doU_l1 (C : Array Value) (A : Option Addr) (n c : Nat) (xs : List Int) (a k v : Int) (w : World) (h : ThR C 1 A n c (fun _ => 0) 0) (hs : SlI w A n c xs) (hn : n ≤ 60) (hv : -9223372036854775808 ≤ v ∧ v ≤ 9223372036854775807) :
    Calls Tryz.prog 27 #[.agg C, .agg #[.int .i64 a, .int .i64 k, .int .i64 v]] w
      (DoOut (fun D w' => ∃ A' n' c', ThR D 1 A' n' c' (fun _ => 0) 0 ∧ SlI w' A' n' c' (lY 1 xs a v) ∧ (0 < n' → ∀ b, A' = some b → (A = some b ∧ 0 < n) ∨ w.heap.size ≤ b.block)) (lC 1 xs a) (lV 1 xs a) w) := by
  have c0 := h.kind_
  have c1 := h.list
  have H := Lib.hid h
  have HS := Lib.hid hs
  have HV := Lib.hid hv
  have HST := Lib.hid (DoSt.mk_ w C a k v)
  clear h hs hv
  go_enter Tryz.func27, Tryz.ntmps27
  go_wp2_with fail
  refine (refL1 A n c xs a k v _ (HS.out.below HST.out.below) hn HV.out).mono ?_
  rintro e w1 ⟨A1, n1, c2, rfl, hs1, hb1, hup⟩
  have HS1 := Lib.hid hs1
  have HUP : Hid (0 < n1 → ∀ b, A1 = some b → b.block < w.heap.size ∨ w.heap.size + 5 ≤ b.block) := Lib.hid fun hn1 b hb => by
    rcases hup hn1 with ⟨h1, h2⟩ | h1
    · left
      subst h1
      obtain ⟨b', off, he, hlt, _⟩ := HS.out.at_ (by omega)
      rw [hb] at he
      cases he
      exact hlt
    · right
      have := h1 b hb
      simp at this
      omega
  have HUP2 : Hid (0 < n1 → ∀ b, A1 = some b → (A = some b ∧ 0 < n) ∨ w.heap.size ≤ b.block) := Lib.hid fun hn1 b hb => by
    rcases hup hn1 with ⟨h1, h2⟩ | h1
    · left; exact ⟨by rw [← h1]; exact hb, by omega⟩
    · right
      have := h1 b hb
      simp at this
      omega
  clear hup
  have HT1 := Lib.hid (HST.out.on hb1)
  have t1 := (HT1.out.thing.cell 1).trans c1
  have f1 := HT1.out.thing.frozen 1
  have a0 := HT1.out.tmp.cell 0
  have a1 := HT1.out.tmp.cell 1
  have f2 := HT1.out.tmp.frozen 0
  have f3 := HT1.out.tmp.frozen 1
  simp only [List.getElem?_toArray, List.getElem?_cons_zero, List.getElem?_cons_succ] at a0 a1
  have HT2 := Lib.hid ((HT1.out.cell 1 (.slice A1 n1 c2)).answer (lC 1 xs a) (lV 1 xs a))
  have HTH := Lib.hid (H.out.setL A1 n1 c2)
  have HIC : Hid ((Tryz.prog.info? 49).map (·.size) = some (C.setIfInBounds 1 (.slice A1 n1 c2)).size) := by show _ = _; rw [infoTh, HTH.out.size]
  have HSZ := Lib.hid HTH.out.size
  have HONE := Lib.hid (thr_one HTH.out)
  clear hb1 hs1 c0 c1
  generalize hco : lC 1 xs a = co at *
  generalize hva : lV 1 xs a = va at *
  have HCO := Lib.hid hco
  have HVA := Lib.hid hva
  clear hco hva
  go_wp2_with fail
  have HT3 : Hid (DoSt w (((w1.setCell ⟨w.heap.size, 1, none⟩ (.slice A1 n1 c2)).setCell ⟨w.heap.size + 1 + 1 + 1 + 1, 0, none⟩ (.int .i64 co)).setCell ⟨w.heap.size + 1 + 1 + 1 + 1, 1, none⟩ (.int .i64 va)) (C.setIfInBounds 1 (.slice A1 n1 c2)) a k v co va) := HT2
  have HS3 : Hid (SlI (((w1.setCell ⟨w.heap.size, 1, none⟩ (.slice A1 n1 c2)).setCell ⟨w.heap.size + 1 + 1 + 1 + 1, 0, none⟩ (.int .i64 co)).setCell ⟨w.heap.size + 1 + 1 + 1 + 1, 1, none⟩ (.int .i64 va)) A1 n1 c2 (lY 1 xs a v)) := Lib.hid (((HS1.out.farc (fun hn b hb => by have := HUP.out hn b hb; show b.block ≠ w.heap.size; omega) _).farc (fun hn b hb => by have := HUP.out hn b hb; show b.block ≠ w.heap.size + 1 + 1 + 1 + 1; omega) _).farc (fun hn b hb => by have := HUP.out hn b hb; show b.block ≠ w.heap.size + 1 + 1 + 1 + 1; omega) _)
  clear HT2 HT1 HS1 t1 f1 a0 a1 f2 f3
  generalize ((w1.setCell ⟨w.heap.size, 1, none⟩ (.slice A1 n1 c2)).setCell ⟨w.heap.size + 1 + 1 + 1 + 1, 0, none⟩ (.int .i64 co)).setCell ⟨w.heap.size + 1 + 1 + 1 + 1, 1, none⟩ (.int .i64 va) = W3 at *
  generalize C.setIfInBounds 1 (.slice A1 n1 c2) = C2 at *
  refine wp_region_relyA 3 (fun b => b = w.heap.size + 2) [2] (by kernel_rfl) (by kernel_rfl) ?_
  intro anc HA
  refine wpRely_step (fun K hK => ?_)
  refine .inl ⟨.agg C2, Any, ?_, hK _ _ _ _ ?_⟩
  · simp only [RelyOp, fillE]
    refine ⟨rfl, fun w9 hw9 _ => ?_⟩
    exact relyAt_load_row 49 _ rfl w.heap.size rfl 49 C2 _ ((hw9.block _ HT3.out.thing.lt (by show ¬ w.heap.size = w.heap.size + 2; omega)).trans HT3.out.thing) Tryz.underlying49 rfl HIC.out ⟨⟨rfl, trivial⟩, Keeps.refl _ _⟩
  clear hK K
  try simp only [Act.put, List.setIfInBounds_toArray, List.set_cons_zero, List.set_cons_succ]
  refine wpRely_step (fun K hK => ?_)
  refine .inl ⟨.agg #[.int .i64 co, .int .i64 va], Any, ?_, hK _ _ _ _ ?_⟩
  · simp only [RelyOp, fillE]
    refine ⟨rfl, fun w9 hw9 _ => ?_⟩
    exact relyAt_load_row 51 _ rfl (w.heap.size + 4) rfl 51 #[.int .i64 co, .int .i64 va] _ ((hw9.block _ HT3.out.tmp.lt (by show ¬ w.heap.size + 4 = w.heap.size + 2; omega)).trans HT3.out.tmp) Tryz.underlying51 rfl infoAn ⟨⟨rfl, trivial⟩, Keeps.refl _ _⟩
  clear hK K
  try simp only [Act.put, List.setIfInBounds_toArray, List.set_cons_zero, List.set_cons_succ]
  refine wpRely_step (fun K hK => ?_)
  refine .inl ⟨undef, fun _ w' => Blk w' (w.heap.size + 2) 49 C2, ?_, hK _ _ _ _ ?_⟩
  · simp only [RelyOp, fillE]
    refine ⟨rfl, fun w9 hw9 hmet => ?_⟩
    have hB9 : Blk w9 (w.heap.size + 2) 49 (tz 0) := (hmet.1.block _ HT3.out.res.lt (fun h => calm_out h (by rw [HA.out]; kernel_rfl))).trans HT3.out.res
    exact relyAt_store_row 49 _ _ rfl (w.heap.size + 2) C2 rfl rfl 49 (tz 0) hB9 HIC.out (by rw [HSZ.out]; rfl) HONE.out ⟨⟨rfl, hB9.setRow C2⟩, keeps_setRow (.inl ⟨by decide, rfl⟩) _⟩
  clear hK K
  try simp only [Act.put, List.setIfInBounds_toArray, List.set_cons_zero, List.set_cons_succ]
  refine wpRely_nil ?_
  simp only [fillE]
  intro w9 hw9 hmet
  have HR9 : Hid (Blk w9 (w.heap.size + 2) 49 C2) := Lib.hid (by
    have h1 := hmet.1 rfl
    obtain ⟨w0, k0, k1, hF⟩ := h1
    exact (k1.block _ hF.lt (fun h => calm_out h (by rw [HA.out]; kernel_rfl))).trans hF)
  have HA9 : Hid (Blk w9 (w.heap.size + 3) 51 #[.int .i64 0, .int .i64 0]) := Lib.hid ((hw9.block _ HT3.out.ans.lt (by show ¬ w.heap.size + 3 = w.heap.size + 2; omega)).trans HT3.out.ans)
  have HW9 := Lib.hid (HT3.out.below.trans (hw9.below HT3.out.below.size (fun b hb e => by omega)))
  have HK9 := Lib.hid hw9
  clear hmet hw9
  simp only [List.drop_succ_cons, List.drop_zero]
  go_wp2_with (refine wpList_store_row rfl 51 _ _ rfl (w.heap.size + 3) #[.int .i64 co, .int .i64 va] rfl rfl 51 #[.int .i64 0, .int .i64 0] HA9.out infoAn rfl (two_one _ _) ?_)
  have hR : Blk (w9.setRow (w.heap.size + 3) #[.int .i64 co, .int .i64 va]) (w.heap.size + 2) 49 C2 := (setRow_other _ _ _ _ (by omega)).trans HR9.out
  have hA : Blk (w9.setRow (w.heap.size + 3) #[.int .i64 co, .int .i64 va]) (w.heap.size + 3) 51 #[.int .i64 co, .int .i64 va] := Blk.setRow HA9.out _
  refine bodyPost_ret (results_two_rows Tryz.results27 _ _ (w.heap.size + 2) (w.heap.size + 3) 49 51 C2 #[.int .i64 co, .int .i64 va] _ _ rfl rfl hR hA Tryz.underlying49 rfl HIC.out Tryz.underlying51 rfl infoAn) rfl ⟨below_setRow HW9.out (by omega) _, C2, HSZ.out, HONE.out, by rw [HCO.out, HVA.out], ?_⟩
  exact ⟨A1, n1, c2, HTH.out, (sli_keeps HS3.out HK9.out (fun hn b hb e => by have := HUP.out hn b hb; omega)).setRow (fun hn b hb => by have := HUP.out hn b hb; omega) _, HUP2.out⟩

set_option maxRecDepth 100000 in
set_option maxHeartbeats 4000000 in
theorem doU_l2 (C : Array Value) (A : Option Addr) (n c : Nat) (xs : List Int) (a k v : Int) (w : World) (h : ThR C 2 A n c (fun _ => 0) 0) (hs : SlI w A n c xs) (hn : n ≤ 60) (hv : -9223372036854775808 ≤ v ∧ v ≤ 9223372036854775807) :
    Calls Tryz.prog 27 #[.agg C, .agg #[.int .i64 a, .int .i64 k, .int .i64 v]] w
      (DoOut (fun D w' => ∃ A' n' c', ThR D 2 A' n' c' (fun _ => 0) 0 ∧ SlI w' A' n' c' (lY 2 xs a v) ∧ (0 < n' → ∀ b, A' = some b → (A = some b ∧ 0 < n) ∨ w.heap.size ≤ b.block)) (lC 2 xs a) (lV 2 xs a) w) := by
  have c0 := h.kind_
  have c1 := h.list
  have H := Lib.hid h
  have HS := Lib.hid hs
  have HV := Lib.hid hv
  have HST := Lib.hid (DoSt.mk_ w C a k v)
  clear h hs hv
  go_enter Tryz.func27, Tryz.ntmps27
  go_wp2_with fail
  refine (refL2 A n c xs a k v _ (HS.out.below HST.out.below) hn HV.out).mono ?_
  rintro e w1 ⟨A1, n1, c2, rfl, hs1, hb1, hup⟩
  have HS1 := Lib.hid hs1
  have HUP : Hid (0 < n1 → ∀ b, A1 = some b → b.block < w.heap.size ∨ w.heap.size + 5 ≤ b.block) := Lib.hid fun hn1 b hb => by
    rcases hup hn1 with ⟨h1, h2⟩ | h1
    · left
      subst h1
      obtain ⟨b', off, he, hlt, _⟩ := HS.out.at_ (by omega)
      rw [hb] at he
      cases he
      exact hlt
    · right
      have := h1 b hb
      simp at this
      omega
  have HUP2 : Hid (0 < n1 → ∀ b, A1 = some b → (A = some b ∧ 0 < n) ∨ w.heap.size ≤ b.block) := Lib.hid fun hn1 b hb => by
    rcases hup hn1 with ⟨h1, h2⟩ | h1
    · left; exact ⟨by rw [← h1]; exact hb, by omega⟩
    · right
      have := h1 b hb
      simp at this
      omega
  clear hup
  have HT1 := Lib.hid (HST.out.on hb1)
  have t1 := (HT1.out.thing.cell 1).trans c1
  have f1 := HT1.out.thing.frozen 1
  have a0 := HT1.out.tmp.cell 0
  have a1 := HT1.out.tmp.cell 1
  have f2 := HT1.out.tmp.frozen 0
  have f3 := HT1.out.tmp.frozen 1
  simp only [List.getElem?_toArray, List.getElem?_cons_zero, List.getElem?_cons_succ] at a0 a1
  have HT2 := Lib.hid ((HT1.out.cell 1 (.slice A1 n1 c2)).answer (lC 2 xs a) (lV 2 xs a))
  have HTH := Lib.hid (H.out.setL A1 n1 c2)
  have HIC : Hid ((Tryz.prog.info? 49).map (·.size) = some (C.setIfInBounds 1 (.slice A1 n1 c2)).size) := by show _ = _; rw [infoTh, HTH.out.size]
  have HSZ := Lib.hid HTH.out.size
  have HONE := Lib.hid (thr_one HTH.out)
  clear hb1 hs1 c0 c1
  generalize hco : lC 2 xs a = co at *
  generalize hva : lV 2 xs a = va at *
  have HCO := Lib.hid hco
  have HVA := Lib.hid hva
  clear hco hva
  go_wp2_with fail
  have HT3 : Hid (DoSt w (((w1.setCell ⟨w.heap.size, 1, none⟩ (.slice A1 n1 c2)).setCell ⟨w.heap.size + 1 + 1 + 1 + 1, 0, none⟩ (.int .i64 co)).setCell ⟨w.heap.size + 1 + 1 + 1 + 1, 1, none⟩ (.int .i64 va)) (C.setIfInBounds 1 (.slice A1 n1 c2)) a k v co va) := HT2
  have HS3 : Hid (SlI (((w1.setCell ⟨w.heap.size, 1, none⟩ (.slice A1 n1 c2)).setCell ⟨w.heap.size + 1 + 1 + 1 + 1, 0, none⟩ (.int .i64 co)).setCell ⟨w.heap.size + 1 + 1 + 1 + 1, 1, none⟩ (.int .i64 va)) A1 n1 c2 (lY 2 xs a v)) := Lib.hid (((HS1.out.farc (fun hn b hb => by have := HUP.out hn b hb; show b.block ≠ w.heap.size; omega) _).farc (fun hn b hb => by have := HUP.out hn b hb; show b.block ≠ w.heap.size + 1 + 1 + 1 + 1; omega) _).farc (fun hn b hb => by have := HUP.out hn b hb; show b.block ≠ w.heap.size + 1 + 1 + 1 + 1; omega) _)
  clear HT2 HT1 HS1 t1 f1 a0 a1 f2 f3
  generalize ((w1.setCell ⟨w.heap.size, 1, none⟩ (.slice A1 n1 c2)).setCell ⟨w.heap.size + 1 + 1 + 1 + 1, 0, none⟩ (.int .i64 co)).setCell ⟨w.heap.size + 1 + 1 + 1 + 1, 1, none⟩ (.int .i64 va) = W3 at *
  generalize C.setIfInBounds 1 (.slice A1 n1 c2) = C2 at *
  refine wp_region_relyA 3 (fun b => b = w.heap.size + 2) [2] (by kernel_rfl) (by kernel_rfl) ?_
  intro anc HA
  refine wpRely_step (fun K hK => ?_)
  refine .inl ⟨.agg C2, Any, ?_, hK _ _ _ _ ?_⟩
  · simp only [RelyOp, fillE]
    refine ⟨rfl, fun w9 hw9 _ => ?_⟩
    exact relyAt_load_row 49 _ rfl w.heap.size rfl 49 C2 _ ((hw9.block _ HT3.out.thing.lt (by show ¬ w.heap.size = w.heap.size + 2; omega)).trans HT3.out.thing) Tryz.underlying49 rfl HIC.out ⟨⟨rfl, trivial⟩, Keeps.refl _ _⟩
  clear hK K
  try simp only [Act.put, List.setIfInBounds_toArray, List.set_cons_zero, List.set_cons_succ]
  refine wpRely_step (fun K hK => ?_)
  refine .inl ⟨.agg #[.int .i64 co, .int .i64 va], Any, ?_, hK _ _ _ _ ?_⟩
  · simp only [RelyOp, fillE]
    refine ⟨rfl, fun w9 hw9 _ => ?_⟩
    exact relyAt_load_row 51 _ rfl (w.heap.size + 4) rfl 51 #[.int .i64 co, .int .i64 va] _ ((hw9.block _ HT3.out.tmp.lt (by show ¬ w.heap.size + 4 = w.heap.size + 2; omega)).trans HT3.out.tmp) Tryz.underlying51 rfl infoAn ⟨⟨rfl, trivial⟩, Keeps.refl _ _⟩
  clear hK K
  try simp only [Act.put, List.setIfInBounds_toArray, List.set_cons_zero, List.set_cons_succ]
  refine wpRely_step (fun K hK => ?_)
  refine .inl ⟨undef, fun _ w' => Blk w' (w.heap.size + 2) 49 C2, ?_, hK _ _ _ _ ?_⟩
  · simp only [RelyOp, fillE]
    refine ⟨rfl, fun w9 hw9 hmet => ?_⟩
    have hB9 : Blk w9 (w.heap.size + 2) 49 (tz 0) := (hmet.1.block _ HT3.out.res.lt (fun h => calm_out h (by rw [HA.out]; kernel_rfl))).trans HT3.out.res
    exact relyAt_store_row 49 _ _ rfl (w.heap.size + 2) C2 rfl rfl 49 (tz 0) hB9 HIC.out (by rw [HSZ.out]; rfl) HONE.out ⟨⟨rfl, hB9.setRow C2⟩, keeps_setRow (.inl ⟨by decide, rfl⟩) _⟩
  clear hK K
  try simp only [Act.put, List.setIfInBounds_toArray, List.set_cons_zero, List.set_cons_succ]
  refine wpRely_nil ?_
  simp only [fillE]
  intro w9 hw9 hmet
  have HR9 : Hid (Blk w9 (w.heap.size + 2) 49 C2) := Lib.hid (by
    have h1 := hmet.1 rfl
    obtain ⟨w0, k0, k1, hF⟩ := h1
    exact (k1.block _ hF.lt (fun h => calm_out h (by rw [HA.out]; kernel_rfl))).trans hF)
  have HA9 : Hid (Blk w9 (w.heap.size + 3) 51 #[.int .i64 0, .int .i64 0]) := Lib.hid ((hw9.block _ HT3.out.ans.lt (by show ¬ w.heap.size + 3 = w.heap.size + 2; omega)).trans HT3.out.ans)
  have HW9 := Lib.hid (HT3.out.below.trans (hw9.below HT3.out.below.size (fun b hb e => by omega)))
  have HK9 := Lib.hid hw9
  clear hmet hw9
  simp only [List.drop_succ_cons, List.drop_zero]
  go_wp2_with (refine wpList_store_row rfl 51 _ _ rfl (w.heap.size + 3) #[.int .i64 co, .int .i64 va] rfl rfl 51 #[.int .i64 0, .int .i64 0] HA9.out infoAn rfl (two_one _ _) ?_)
  have hR : Blk (w9.setRow (w.heap.size + 3) #[.int .i64 co, .int .i64 va]) (w.heap.size + 2) 49 C2 := (setRow_other _ _ _ _ (by omega)).trans HR9.out
  have hA : Blk (w9.setRow (w.heap.size + 3) #[.int .i64 co, .int .i64 va]) (w.heap.size + 3) 51 #[.int .i64 co, .int .i64 va] := Blk.setRow HA9.out _
  refine bodyPost_ret (results_two_rows Tryz.results27 _ _ (w.heap.size + 2) (w.heap.size + 3) 49 51 C2 #[.int .i64 co, .int .i64 va] _ _ rfl rfl hR hA Tryz.underlying49 rfl HIC.out Tryz.underlying51 rfl infoAn) rfl ⟨below_setRow HW9.out (by omega) _, C2, HSZ.out, HONE.out, by rw [HCO.out, HVA.out], ?_⟩
  exact ⟨A1, n1, c2, HTH.out, (sli_keeps HS3.out HK9.out (fun hn b hb e => by have := HUP.out hn b hb; omega)).setRow (fun hn b hb => by have := HUP.out hn b hb; omega) _, HUP2.out⟩

set_option maxRecDepth 100000 in
set_option maxHeartbeats 4000000 in
theorem doU_l3 (C : Array Value) (A : Option Addr) (n c : Nat) (xs : List Int) (a k v : Int) (w : World) (h : ThR C 3 A n c (fun _ => 0) 0) (hs : SlI w A n c xs) (hn : n ≤ 60) (hv : -9223372036854775808 ≤ v ∧ v ≤ 9223372036854775807) :
    Calls Tryz.prog 27 #[.agg C, .agg #[.int .i64 a, .int .i64 k, .int .i64 v]] w
      (DoOut (fun D w' => ∃ A' n' c', ThR D 3 A' n' c' (fun _ => 0) 0 ∧ SlI w' A' n' c' (lY 3 xs a v) ∧ (0 < n' → ∀ b, A' = some b → (A = some b ∧ 0 < n) ∨ w.heap.size ≤ b.block)) (lC 3 xs a) (lV 3 xs a) w) := by
  have c0 := h.kind_
  have c1 := h.list
  have H := Lib.hid h
  have HS := Lib.hid hs
  have HV := Lib.hid hv
  have HST := Lib.hid (DoSt.mk_ w C a k v)
  clear h hs hv
  go_enter Tryz.func27, Tryz.ntmps27
  go_wp2_with fail
  refine (refL3 A n c xs a k v _ (HS.out.below HST.out.below) hn HV.out).mono ?_
  rintro e w1 ⟨A1, n1, c2, rfl, hs1, hb1, hup⟩
  have HS1 := Lib.hid hs1
  have HUP : Hid (0 < n1 → ∀ b, A1 = some b → b.block < w.heap.size ∨ w.heap.size + 5 ≤ b.block) := Lib.hid fun hn1 b hb => by
    rcases hup hn1 with ⟨h1, h2⟩ | h1
    · left
      subst h1
      obtain ⟨b', off, he, hlt, _⟩ := HS.out.at_ (by omega)
      rw [hb] at he
      cases he
      exact hlt
    · right
      have := h1 b hb
      simp at this
      omega
  have HUP2 : Hid (0 < n1 → ∀ b, A1 = some b → (A = some b ∧ 0 < n) ∨ w.heap.size ≤ b.block) := Lib.hid fun hn1 b hb => by
    rcases hup hn1 with ⟨h1, h2⟩ | h1
    · left; exact ⟨by rw [← h1]; exact hb, by omega⟩
    · right
      have := h1 b hb
      simp at this
      omega
  clear hup
  have HT1 := Lib.hid (HST.out.on hb1)
  have t1 := (HT1.out.thing.cell 1).trans c1
  have f1 := HT1.out.thing.frozen 1
  have a0 := HT1.out.tmp.cell 0
  have a1 := HT1.out.tmp.cell 1
  have f2 := HT1.out.tmp.frozen 0
  have f3 := HT1.out.tmp.frozen 1
  simp only [List.getElem?_toArray, List.getElem?_cons_zero, List.getElem?_cons_succ] at a0 a1
  have HT2 := Lib.hid ((HT1.out.cell 1 (.slice A1 n1 c2)).answer (lC 3 xs a) (lV 3 xs a))
  have HTH := Lib.hid (H.out.setL A1 n1 c2)
  have HIC : Hid ((Tryz.prog.info? 49).map (·.size) = some (C.setIfInBounds 1 (.slice A1 n1 c2)).size) := by show _ = _; rw [infoTh, HTH.out.size]
  have HSZ := Lib.hid HTH.out.size
  have HONE := Lib.hid (thr_one HTH.out)
  clear hb1 hs1 c0 c1
  generalize hco : lC 3 xs a = co at *
  generalize hva : lV 3 xs a = va at *
  have HCO := Lib.hid hco
  have HVA := Lib.hid hva
  clear hco hva
  go_wp2_with fail
  have HT3 : Hid (DoSt w (((w1.setCell ⟨w.heap.size, 1, none⟩ (.slice A1 n1 c2)).setCell ⟨w.heap.size + 1 + 1 + 1 + 1, 0, none⟩ (.int .i64 co)).setCell ⟨w.heap.size + 1 + 1 + 1 + 1, 1, none⟩ (.int .i64 va)) (C.setIfInBounds 1 (.slice A1 n1 c2)) a k v co va) := HT2
  have HS3 : Hid (SlI (((w1.setCell ⟨w.heap.size, 1, none⟩ (.slice A1 n1 c2)).setCell ⟨w.heap.size + 1 + 1 + 1 + 1, 0, none⟩ (.int .i64 co)).setCell ⟨w.heap.size + 1 + 1 + 1 + 1, 1, none⟩ (.int .i64 va)) A1 n1 c2 (lY 3 xs a v)) := Lib.hid (((HS1.out.farc (fun hn b hb => by have := HUP.out hn b hb; show b.block ≠ w.heap.size; omega) _).farc (fun hn b hb => by have := HUP.out hn b hb; show b.block ≠ w.heap.size + 1 + 1 + 1 + 1; omega) _).farc (fun hn b hb => by have := HUP.out hn b hb; show b.block ≠ w.heap.size + 1 + 1 + 1 + 1; omega) _)
  clear HT2 HT1 HS1 t1 f1 a0 a1 f2 f3
  generalize ((w1.setCell ⟨w.heap.size, 1, none⟩ (.slice A1 n1 c2)).setCell ⟨w.heap.size + 1 + 1 + 1 + 1, 0, none⟩ (.int .i64 co)).setCell ⟨w.heap.size + 1 + 1 + 1 + 1, 1, none⟩ (.int .i64 va) = W3 at *
  generalize C.setIfInBounds 1 (.slice A1 n1 c2) = C2 at *
  refine wp_region_relyA 3 (fun b => b = w.heap.size + 2) [2] (by kernel_rfl) (by kernel_rfl) ?_
  intro anc HA
  refine wpRely_step (fun K hK => ?_)
  refine .inl ⟨.agg C2, Any, ?_, hK _ _ _ _ ?_⟩
  · simp only [RelyOp, fillE]
    refine ⟨rfl, fun w9 hw9 _ => ?_⟩
    exact relyAt_load_row 49 _ rfl w.heap.size rfl 49 C2 _ ((hw9.block _ HT3.out.thing.lt (by show ¬ w.heap.size = w.heap.size + 2; omega)).trans HT3.out.thing) Tryz.underlying49 rfl HIC.out ⟨⟨rfl, trivial⟩, Keeps.refl _ _⟩
  clear hK K
  try simp only [Act.put, List.setIfInBounds_toArray, List.set_cons_zero, List.set_cons_succ]
  refine wpRely_step (fun K hK => ?_)
  refine .inl ⟨.agg #[.int .i64 co, .int .i64 va], Any, ?_, hK _ _ _ _ ?_⟩
  · simp only [RelyOp, fillE]
    refine ⟨rfl, fun w9 hw9 _ => ?_⟩
    exact relyAt_load_row 51 _ rfl (w.heap.size + 4) rfl 51 #[.int .i64 co, .int .i64 va] _ ((hw9.block _ HT3.out.tmp.lt (by show ¬ w.heap.size + 4 = w.heap.size + 2; omega)).trans HT3.out.tmp) Tryz.underlying51 rfl infoAn ⟨⟨rfl, trivial⟩, Keeps.refl _ _⟩
  clear hK K
  try simp only [Act.put, List.setIfInBounds_toArray, List.set_cons_zero, List.set_cons_succ]
  refine wpRely_step (fun K hK => ?_)
  refine .inl ⟨undef, fun _ w' => Blk w' (w.heap.size + 2) 49 C2, ?_, hK _ _ _ _ ?_⟩
  · simp only [RelyOp, fillE]
    refine ⟨rfl, fun w9 hw9 hmet => ?_⟩
    have hB9 : Blk w9 (w.heap.size + 2) 49 (tz 0) := (hmet.1.block _ HT3.out.res.lt (fun h => calm_out h (by rw [HA.out]; kernel_rfl))).trans HT3.out.res
    exact relyAt_store_row 49 _ _ rfl (w.heap.size + 2) C2 rfl rfl 49 (tz 0) hB9 HIC.out (by rw [HSZ.out]; rfl) HONE.out ⟨⟨rfl, hB9.setRow C2⟩, keeps_setRow (.inl ⟨by decide, rfl⟩) _⟩
  clear hK K
  try simp only [Act.put, List.setIfInBounds_toArray, List.set_cons_zero, List.set_cons_succ]
  refine wpRely_nil ?_
  simp only [fillE]
  intro w9 hw9 hmet
  have HR9 : Hid (Blk w9 (w.heap.size + 2) 49 C2) := Lib.hid (by
    have h1 := hmet.1 rfl
    obtain ⟨w0, k0, k1, hF⟩ := h1
    exact (k1.block _ hF.lt (fun h => calm_out h (by rw [HA.out]; kernel_rfl))).trans hF)
  have HA9 : Hid (Blk w9 (w.heap.size + 3) 51 #[.int .i64 0, .int .i64 0]) := Lib.hid ((hw9.block _ HT3.out.ans.lt (by show ¬ w.heap.size + 3 = w.heap.size + 2; omega)).trans HT3.out.ans)
  have HW9 := Lib.hid (HT3.out.below.trans (hw9.below HT3.out.below.size (fun b hb e => by omega)))
  have HK9 := Lib.hid hw9
  clear hmet hw9
  simp only [List.drop_succ_cons, List.drop_zero]
  go_wp2_with (refine wpList_store_row rfl 51 _ _ rfl (w.heap.size + 3) #[.int .i64 co, .int .i64 va] rfl rfl 51 #[.int .i64 0, .int .i64 0] HA9.out infoAn rfl (two_one _ _) ?_)
  have hR : Blk (w9.setRow (w.heap.size + 3) #[.int .i64 co, .int .i64 va]) (w.heap.size + 2) 49 C2 := (setRow_other _ _ _ _ (by omega)).trans HR9.out
  have hA : Blk (w9.setRow (w.heap.size + 3) #[.int .i64 co, .int .i64 va]) (w.heap.size + 3) 51 #[.int .i64 co, .int .i64 va] := Blk.setRow HA9.out _
  refine bodyPost_ret (results_two_rows Tryz.results27 _ _ (w.heap.size + 2) (w.heap.size + 3) 49 51 C2 #[.int .i64 co, .int .i64 va] _ _ rfl rfl hR hA Tryz.underlying49 rfl HIC.out Tryz.underlying51 rfl infoAn) rfl ⟨below_setRow HW9.out (by omega) _, C2, HSZ.out, HONE.out, by rw [HCO.out, HVA.out], ?_⟩
  exact ⟨A1, n1, c2, HTH.out, (sli_keeps HS3.out HK9.out (fun hn b hb e => by have := HUP.out hn b hb; omega)).setRow (fun hn b hb => by have := HUP.out hn b hb; omega) _, HUP2.out⟩

set_option maxRecDepth 100000 in
set_option maxHeartbeats 4000000 in
theorem doU_l4 (C : Array Value) (A : Option Addr) (n c : Nat) (xs : List Int) (a k v : Int) (w : World) (h : ThR C 4 A n c (fun _ => 0) 0) (hs : SlI w A n c xs) (hn : n ≤ 60) (hv : -9223372036854775808 ≤ v ∧ v ≤ 9223372036854775807) :
    Calls Tryz.prog 27 #[.agg C, .agg #[.int .i64 a, .int .i64 k, .int .i64 v]] w
      (DoOut (fun D w' => ∃ A' n' c', ThR D 4 A' n' c' (fun _ => 0) 0 ∧ SlI w' A' n' c' (lY 4 xs a v) ∧ (0 < n' → ∀ b, A' = some b → (A = some b ∧ 0 < n) ∨ w.heap.size ≤ b.block)) (lC 4 xs a) (lV 4 xs a) w) := by
  have c0 := h.kind_
  have c1 := h.list
  have H := Lib.hid h
  have HS := Lib.hid hs
  have HV := Lib.hid hv
  have HST := Lib.hid (DoSt.mk_ w C a k v)
  clear h hs hv
  go_enter Tryz.func27, Tryz.ntmps27
  go_wp2_with fail
  refine (refL4 A n c xs a k v _ (HS.out.below HST.out.below) hn HV.out).mono ?_
  rintro e w1 ⟨A1, n1, c2, rfl, hs1, hb1, hup⟩
  have HS1 := Lib.hid hs1
  have HUP : Hid (0 < n1 → ∀ b, A1 = some b → b.block < w.heap.size ∨ w.heap.size + 5 ≤ b.block) := Lib.hid fun hn1 b hb => by
    rcases hup hn1 with ⟨h1, h2⟩ | h1
    · left
      subst h1
      obtain ⟨b', off, he, hlt, _⟩ := HS.out.at_ (by omega)
      rw [hb] at he
      cases he
      exact hlt
    · right
      have := h1 b hb
      simp at this
      omega
  have HUP2 : Hid (0 < n1 → ∀ b, A1 = some b → (A = some b ∧ 0 < n) ∨ w.heap.size ≤ b.block) := Lib.hid fun hn1 b hb => by
    rcases hup hn1 with ⟨h1, h2⟩ | h1
    · left; exact ⟨by rw [← h1]; exact hb, by omega⟩
    · right
      have := h1 b hb
      simp at this
      omega
  clear hup
  have HT1 := Lib.hid (HST.out.on hb1)
  have t1 := (HT1.out.thing.cell 1).trans c1
  have f1 := HT1.out.thing.frozen 1
  have a0 := HT1.out.tmp.cell 0
  have a1 := HT1.out.tmp.cell 1
  have f2 := HT1.out.tmp.frozen 0
  have f3 := HT1.out.tmp.frozen 1
  simp only [List.getElem?_toArray, List.getElem?_cons_zero, List.getElem?_cons_succ] at a0 a1
  have HT2 := Lib.hid ((HT1.out.cell 1 (.slice A1 n1 c2)).answer (lC 4 xs a) (lV 4 xs a))
  have HTH := Lib.hid (H.out.setL A1 n1 c2)
  have HIC : Hid ((Tryz.prog.info? 49).map (·.size) = some (C.setIfInBounds 1 (.slice A1 n1 c2)).size) := by show _ = _; rw [infoTh, HTH.out.size]
  have HSZ := Lib.hid HTH.out.size
  have HONE := Lib.hid (thr_one HTH.out)
  clear hb1 hs1 c0 c1
  generalize hco : lC 4 xs a = co at *
  generalize hva : lV 4 xs a = va at *
  have HCO := Lib.hid hco
  have HVA := Lib.hid hva
  clear hco hva
  go_wp2_with fail
  have HT3 : Hid (DoSt w (((w1.setCell ⟨w.heap.size, 1, none⟩ (.slice A1 n1 c2)).setCell ⟨w.heap.size + 1 + 1 + 1 + 1, 0, none⟩ (.int .i64 co)).setCell ⟨w.heap.size + 1 + 1 + 1 + 1, 1, none⟩ (.int .i64 va)) (C.setIfInBounds 1 (.slice A1 n1 c2)) a k v co va) := HT2
  have HS3 : Hid (SlI (((w1.setCell ⟨w.heap.size, 1, none⟩ (.slice A1 n1 c2)).setCell ⟨w.heap.size + 1 + 1 + 1 + 1, 0, none⟩ (.int .i64 co)).setCell ⟨w.heap.size + 1 + 1 + 1 + 1, 1, none⟩ (.int .i64 va)) A1 n1 c2 (lY 4 xs a v)) := Lib.hid (((HS1.out.farc (fun hn b hb => by have := HUP.out hn b hb; show b.block ≠ w.heap.size; omega) _).farc (fun hn b hb => by have := HUP.out hn b hb; show b.block ≠ w.heap.size + 1 + 1 + 1 + 1; omega) _).farc (fun hn b hb => by have := HUP.out hn b hb; show b.block ≠ w.heap.size + 1 + 1 + 1 + 1; omega) _)
  clear HT2 HT1 HS1 t1 f1 a0 a1 f2 f3
  generalize ((w1.setCell ⟨w.heap.size, 1, none⟩ (.slice A1 n1 c2)).setCell ⟨w.heap.size + 1 + 1 + 1 + 1, 0, none⟩ (.int .i64 co)).setCell ⟨w.heap.size + 1 + 1 + 1 + 1, 1, none⟩ (.int .i64 va) = W3 at *
  generalize C.setIfInBounds 1 (.slice A1 n1 c2) = C2 at *
  refine wp_region_relyA 3 (fun b => b = w.heap.size + 2) [2] (by kernel_rfl) (by kernel_rfl) ?_
  intro anc HA
  refine wpRely_step (fun K hK => ?_)
  refine .inl ⟨.agg C2, Any, ?_, hK _ _ _ _ ?_⟩
  · simp only [RelyOp, fillE]
    refine ⟨rfl, fun w9 hw9 _ => ?_⟩
    exact relyAt_load_row 49 _ rfl w.heap.size rfl 49 C2 _ ((hw9.block _ HT3.out.thing.lt (by show ¬ w.heap.size = w.heap.size + 2; omega)).trans HT3.out.thing) Tryz.underlying49 rfl HIC.out ⟨⟨rfl, trivial⟩, Keeps.refl _ _⟩
  clear hK K
  try simp only [Act.put, List.setIfInBounds_toArray, List.set_cons_zero, List.set_cons_succ]
  refine wpRely_step (fun K hK => ?_)
  refine .inl ⟨.agg #[.int .i64 co, .int .i64 va], Any, ?_, hK _ _ _ _ ?_⟩
  · simp only [RelyOp, fillE]
    refine ⟨rfl, fun w9 hw9 _ => ?_⟩
    exact relyAt_load_row 51 _ rfl (w.heap.size + 4) rfl 51 #[.int .i64 co, .int .i64 va] _ ((hw9.block _ HT3.out.tmp.lt (by show ¬ w.heap.size + 4 = w.heap.size + 2; omega)).trans HT3.out.tmp) Tryz.underlying51 rfl infoAn ⟨⟨rfl, trivial⟩, Keeps.refl _ _⟩
  clear hK K
  try simp only [Act.put, List.setIfInBounds_toArray, List.set_cons_zero, List.set_cons_succ]
  refine wpRely_step (fun K hK => ?_)
  refine .inl ⟨undef, fun _ w' => Blk w' (w.heap.size + 2) 49 C2, ?_, hK _ _ _ _ ?_⟩
  · simp only [RelyOp, fillE]
    refine ⟨rfl, fun w9 hw9 hmet => ?_⟩
    have hB9 : Blk w9 (w.heap.size + 2) 49 (tz 0) := (hmet.1.block _ HT3.out.res.lt (fun h => calm_out h (by rw [HA.out]; kernel_rfl))).trans HT3.out.res
    exact relyAt_store_row 49 _ _ rfl (w.heap.size + 2) C2 rfl rfl 49 (tz 0) hB9 HIC.out (by rw [HSZ.out]; rfl) HONE.out ⟨⟨rfl, hB9.setRow C2⟩, keeps_setRow (.inl ⟨by decide, rfl⟩) _⟩
  clear hK K
  try simp only [Act.put, List.setIfInBounds_toArray, List.set_cons_zero, List.set_cons_succ]
  refine wpRely_nil ?_
  simp only [fillE]
  intro w9 hw9 hmet
  have HR9 : Hid (Blk w9 (w.heap.size + 2) 49 C2) := Lib.hid (by
    have h1 := hmet.1 rfl
    obtain ⟨w0, k0, k1, hF⟩ := h1
    exact (k1.block _ hF.lt (fun h => calm_out h (by rw [HA.out]; kernel_rfl))).trans hF)
  have HA9 : Hid (Blk w9 (w.heap.size + 3) 51 #[.int .i64 0, .int .i64 0]) := Lib.hid ((hw9.block _ HT3.out.ans.lt (by show ¬ w.heap.size + 3 = w.heap.size + 2; omega)).trans HT3.out.ans)
  have HW9 := Lib.hid (HT3.out.below.trans (hw9.below HT3.out.below.size (fun b hb e => by omega)))
  have HK9 := Lib.hid hw9
  clear hmet hw9
  simp only [List.drop_succ_cons, List.drop_zero]
  go_wp2_with (refine wpList_store_row rfl 51 _ _ rfl (w.heap.size + 3) #[.int .i64 co, .int .i64 va] rfl rfl 51 #[.int .i64 0, .int .i64 0] HA9.out infoAn rfl (two_one _ _) ?_)
  have hR : Blk (w9.setRow (w.heap.size + 3) #[.int .i64 co, .int .i64 va]) (w.heap.size + 2) 49 C2 := (setRow_other _ _ _ _ (by omega)).trans HR9.out
  have hA : Blk (w9.setRow (w.heap.size + 3) #[.int .i64 co, .int .i64 va]) (w.heap.size + 3) 51 #[.int .i64 co, .int .i64 va] := Blk.setRow HA9.out _
  refine bodyPost_ret (results_two_rows Tryz.results27 _ _ (w.heap.size + 2) (w.heap.size + 3) 49 51 C2 #[.int .i64 co, .int .i64 va] _ _ rfl rfl hR hA Tryz.underlying49 rfl HIC.out Tryz.underlying51 rfl infoAn) rfl ⟨below_setRow HW9.out (by omega) _, C2, HSZ.out, HONE.out, by rw [HCO.out, HVA.out], ?_⟩
  exact ⟨A1, n1, c2, HTH.out, (sli_keeps HS3.out HK9.out (fun hn b hb e => by have := HUP.out hn b hb; omega)).setRow (fun hn b hb => by have := HUP.out hn b hb; omega) _, HUP2.out⟩

theorem thingDo_anyO (G : Nat) (C : Array Value) (z : Nat → Int) (kind a k v : Int) (m : Nat) (w : World) (hG : G ≤ w.heap.size) (hw : Wds z) (hz : thingOk kind z) (ho : opOk a k v) (hm : kind = 5 → tabM z a k m) (h : ThOkO G kind z C w) :
    Calls Tryz.prog 27 #[.agg C, .agg #[.int .i64 a, .int .i64 k, .int .i64 v]] w (DoOut (ThOkO G kind (doZ kind z a k v m)) (doC kind z a k v) (doV kind z a k v) w) := by
  by_cases h5 : kind = 5
  · refine (thingDo_any C z kind a k v m w hw hz ho hm h.weak).mono fun e w' ⟨hB, D, h1, h2, h3, h4⟩ => ⟨hB, D, h1, h2, h3, ?_⟩
    unfold ThOk at h4
    unfold ThOkO
    rw [if_pos h5] at h4 ⊢
    exact h4
  by_cases h6 : kind = 6
  · refine (thingDo_any C z kind a k v m w hw hz ho hm h.weak).mono fun e w' ⟨hB, D, h1, h2, h3, h4⟩ => ⟨hB, D, h1, h2, h3, ?_⟩
    unfold ThOk at h4
    unfold ThOkO
    rw [if_neg h5, if_pos h6] at h4 ⊢
    exact h4
  have fit : ∀ {T T' : Array Value → World → Prop} {c x : Int} {e : Ending} {w' : World}, (∀ D w', T D w' → T' D w') → DoOut T c x w e w' → DoOut T' c x w e w' :=
    fun hT ⟨hB, D, h1, h2, h3, h4⟩ => ⟨hB, D, h1, h2, h3, hT _ _ h4⟩
  have hv : -9223372036854775808 ≤ v ∧ v ≤ 9223372036854775807 := by have := ho.2.2.2.2; omega
  unfold thingOk at hz
  unfold ThOkO at h
  unfold doC doV
  simp only [if_neg h5, if_neg h6] at hz h ⊢
  obtain ⟨A, c, hT, hSO⟩ := h
  have hS := hSO.sli
  have hl : listOk z := by
    by_cases h4 : kind = 4
    · rw [if_pos h4] at hz; exact hz.1
    · rw [if_neg h4] at hz; exact hz.2.2
  have hk : kind = 1 ∨ kind = 2 ∨ kind = 3 ∨ kind = 4 := by
    by_cases h4 : kind = 4
    · exact .inr (.inr (.inr h4))
    · rw [if_neg h4] at hz; omega
  have hl' := lY_ok (kind := kind) (zL_ok hw hl) ho
  obtain ⟨_, _, e3⟩ := listW_ok hl'
  have h0 := hl.1
  have h00 := hw 0 (by omega)
  have put : ∀ {D : Array Value} {w' : World}, (∃ A' n' c', ThR D kind A' n' c' (fun _ => 0) 0 ∧ SlI w' A' n' c' (lY kind (zL z) a v) ∧ (0 < n' → ∀ b, A' = some b → (A = some b ∧ 0 < (z 0).toNat) ∨ w.heap.size ≤ b.block)) → ThOkO G kind (doZ kind z a k v m) D w' := by
    rintro D w' ⟨A', n', c', h1, h2, h3⟩
    have hn' := h2.len
    subst hn'
    unfold ThOkO doZ
    simp only [if_neg h5, if_neg h6]
    rw [e3]
    have e0 : (listW (lY kind (zL z) a v).length (lY kind (zL z) a v) 0).toNat = (lY kind (zL z) a v).length := by unfold listW; simp
    rw [e0]
    refine ⟨A', c', h1, h2, fun hn b hb => ?_⟩
    rcases h3 hn b hb with h9 | h9
    · exact hSO.up h9.2 b h9.1
    · omega
  rcases hk with rfl | rfl | rfl | rfl
  · exact (doU_l1 C A _ c _ a k v w hT hS (by omega) hv).mono fun e w' h' => fit (fun E w' hT => put hT) h'
  · exact (doU_l2 C A _ c _ a k v w hT hS (by omega) hv).mono fun e w' h' => fit (fun E w' hT => put hT) h'
  · exact (doU_l3 C A _ c _ a k v w hT hS (by omega) hv).mono fun e w' h' => fit (fun E w' hT => put hT) h'
  · exact (doU_l4 C A _ c _ a k v w hT hS (by omega) hv).mono fun e w' h' => fit (fun E w' hT => put hT) h'
/-- A thing that the words z are; its list lies in a block of P. -/
def ThOkP (P : Nat → Prop) (kind : Int) (z : Nat → Int) (C : Array Value) (w : World) : Prop :=
  if kind = 5 then ThR C 5 none 0 0 z 0 else if kind = 6 then ThR C 6 none 0 0 (fun _ => 0) (z 0) else ∃ A c, ThR C kind A (z 0).toNat c (fun _ => 0) 0 ∧ SlI w A (z 0).toNat c (zL z) ∧ (0 < (z 0).toNat → ∀ b, A = some b → P b.block)
theorem ThOkP.weak {P : Nat → Prop} {kind : Int} {z : Nat → Int} {C : Array Value} {w : World} (h : ThOkP P kind z C w) : ThOk kind z C w := by
  unfold ThOkP at h
  unfold ThOk
  split
  · rename_i e; rwa [if_pos e] at h
  · rename_i e
    rw [if_neg e] at h
    split
    · rename_i e6; rwa [if_pos e6] at h
    · rename_i e6
      rw [if_neg e6] at h
      obtain ⟨A, c, h1, h2, _⟩ := h
      exact ⟨A, c, h1, h2⟩
/-- A thing's list lies below the heap's end. -/
theorem ThOk.inside {kind : Int} {z : Nat → Int} {C : Array Value} {w : World} (h : ThOk kind z C w) : ThOkP (fun b => b < w.heap.size) kind z C w := by
  unfold ThOk at h
  unfold ThOkP
  split
  · rename_i e; rwa [if_pos e] at h
  · rename_i e
    rw [if_neg e] at h
    split
    · rename_i e6; rwa [if_pos e6] at h
    · rename_i e6
      rw [if_neg e6] at h
      obtain ⟨A, c, h1, h2⟩ := h
      exact ⟨A, c, h1, h2, fun hn b hb => by
        obtain ⟨b', off, hA, hlt, _⟩ := h2.at_ hn
        rw [hb] at hA
        cases hA
        exact hlt⟩
theorem ThOkP.mono {P P' : Nat → Prop} {kind : Int} {z : Nat → Int} {C : Array Value} {w : World} (h : ThOkP P kind z C w) (hP : ∀ b, P b → P' b) : ThOkP P' kind z C w := by
  unfold ThOkP at h ⊢
  split
  · rename_i e; rwa [if_pos e] at h
  · rename_i e
    rw [if_neg e] at h
    split
    · rename_i e6; rwa [if_pos e6] at h
    · rename_i e6
      rw [if_neg e6] at h
      obtain ⟨A, c, h1, h2, h3⟩ := h
      exact ⟨A, c, h1, h2, fun hn b hb => hP _ (h3 hn b hb)⟩
theorem ThOkP.keeps {P : Nat → Prop} {kind : Int} {z : Nat → Int} {C : Array Value} {w w' : World} {S : Nat → Prop} (h : ThOkP P kind z C w) (hk : Keeps S w w') (hS : ∀ b, P b → ¬ S b) : ThOkP P kind z C w' := by
  unfold ThOkP at h ⊢
  split
  · rename_i e; rwa [if_pos e] at h
  · rename_i e
    rw [if_neg e] at h
    split
    · rename_i e6; rwa [if_pos e6] at h
    · rename_i e6
      rw [if_neg e6] at h
      obtain ⟨A, c, h1, h2, h3⟩ := h
      exact ⟨A, c, h1, sli_keeps h2 hk (fun hn b hb => hS _ (h3 hn b hb)), h3⟩
theorem thingDo_anyP (P : Nat → Prop) (C : Array Value) (z : Nat → Int) (kind a k v : Int) (m : Nat) (w : World) (hG : ∀ b, w.heap.size ≤ b → P b) (hw : Wds z) (hz : thingOk kind z) (ho : opOk a k v) (hm : kind = 5 → tabM z a k m) (h : ThOkP P kind z C w) :
    Calls Tryz.prog 27 #[.agg C, .agg #[.int .i64 a, .int .i64 k, .int .i64 v]] w (DoOut (ThOkP P kind (doZ kind z a k v m)) (doC kind z a k v) (doV kind z a k v) w) := by
  by_cases h5 : kind = 5
  · refine (thingDo_any C z kind a k v m w hw hz ho hm h.weak).mono fun e w' ⟨hB, D, h1, h2, h3, h4⟩ => ⟨hB, D, h1, h2, h3, ?_⟩
    unfold ThOk at h4
    unfold ThOkP
    rw [if_pos h5] at h4 ⊢
    exact h4
  by_cases h6 : kind = 6
  · refine (thingDo_any C z kind a k v m w hw hz ho hm h.weak).mono fun e w' ⟨hB, D, h1, h2, h3, h4⟩ => ⟨hB, D, h1, h2, h3, ?_⟩
    unfold ThOk at h4
    unfold ThOkP
    rw [if_neg h5, if_pos h6] at h4 ⊢
    exact h4
  have fit : ∀ {T T' : Array Value → World → Prop} {c x : Int} {e : Ending} {w' : World}, (∀ D w', T D w' → T' D w') → DoOut T c x w e w' → DoOut T' c x w e w' :=
    fun hT ⟨hB, D, h1, h2, h3, h4⟩ => ⟨hB, D, h1, h2, h3, hT _ _ h4⟩
  have hv : -9223372036854775808 ≤ v ∧ v ≤ 9223372036854775807 := by have := ho.2.2.2.2; omega
  unfold thingOk at hz
  unfold ThOkP at h
  unfold doC doV
  simp only [if_neg h5, if_neg h6] at hz h ⊢
  obtain ⟨A, c, hT, hS, hUP⟩ := h
  have hl : listOk z := by
    by_cases h4 : kind = 4
    · rw [if_pos h4] at hz; exact hz.1
    · rw [if_neg h4] at hz; exact hz.2.2
  have hk : kind = 1 ∨ kind = 2 ∨ kind = 3 ∨ kind = 4 := by
    by_cases h4 : kind = 4
    · exact .inr (.inr (.inr h4))
    · rw [if_neg h4] at hz; omega
  have hl' := lY_ok (kind := kind) (zL_ok hw hl) ho
  obtain ⟨_, _, e3⟩ := listW_ok hl'
  have h0 := hl.1
  have h00 := hw 0 (by omega)
  have put : ∀ {D : Array Value} {w' : World}, (∃ A' n' c', ThR D kind A' n' c' (fun _ => 0) 0 ∧ SlI w' A' n' c' (lY kind (zL z) a v) ∧ (0 < n' → ∀ b, A' = some b → (A = some b ∧ 0 < (z 0).toNat) ∨ w.heap.size ≤ b.block)) → ThOkP P kind (doZ kind z a k v m) D w' := by
    rintro D w' ⟨A', n', c', h1, h2, h3⟩
    have hn' := h2.len
    subst hn'
    unfold ThOkP doZ
    simp only [if_neg h5, if_neg h6]
    rw [e3]
    have e0 : (listW (lY kind (zL z) a v).length (lY kind (zL z) a v) 0).toNat = (lY kind (zL z) a v).length := by unfold listW; simp
    rw [e0]
    refine ⟨A', c', h1, h2, fun hn b hb => ?_⟩
    rcases h3 hn b hb with h9 | h9
    · exact hUP h9.2 b h9.1
    · exact hG _ h9
  rcases hk with rfl | rfl | rfl | rfl
  · exact (doU_l1 C A _ c _ a k v w hT hS (by omega) hv).mono fun e w' h' => fit (fun E w' hT => put hT) h'
  · exact (doU_l2 C A _ c _ a k v w hT hS (by omega) hv).mono fun e w' h' => fit (fun E w' hT => put hT) h'
  · exact (doU_l3 C A _ c _ a k v w hT hS (by omega) hv).mono fun e w' h' => fit (fun E w' hT => put hT) h'
  · exact (doU_l4 C A _ c _ a k v w hT hS (by omega) hv).mono fun e w' h' => fit (fun E w' hT => put hT) h'
end Go.Proofs.YtkoflhjnpilchaaGreatDoor
