/-
  (record.Record).Done: any record, thread and operation. No condition beyond the premises.
-/
import Derived.Test.YtkoflhjnpilchaaGreatDoorRecR
import Derived.Test.YtkoflhjnpilchaaGreatDoorObjD
import Derived.Test.YtkoflhjnpilchaaGreatDoorLawK
import Derived.Test.YtkoflhjnpilchaaGreatDoorRDone
import Derived.Test.YtkoflhjnpilchaaGreatDoorRowB
import Derived.Test.YtkoflhjnpilchaaGreatDoorOpW
namespace Go.Proofs.YtkoflhjnpilchaaGreatDoor
set_option linter.unusedSimpArgs false
set_option linter.unusedVariables false
set_option linter.unusedSectionVars false
open Go.RowKit
set_option linter.unusedSimpArgs false
set_option linter.unusedVariables false
attribute [local go_sem ↓] Go.wp_at_zero Go.wp_at_succ

theorem infoRx : (Tryz.prog.info? 24).map (·.size) = some 32 := by kernel_rfl
/-- The boxes behind Done's entry: the record's, the operation's, the result's. -/
structure RdSt (w : World) (C : Array Value) (a k v : Int) (w' : World) : Prop where
  rcd : Blk w' w.heap.size 24 C
  op : Blk w' (w.heap.size + 1) 61 #[.int .i64 a, .int .i64 k, .int .i64 v]
  res : Blk w' (w.heap.size + 1 + 1) 24 #[.int .u64 0, .int .u64 0, .int .u64 0, .int .u64 0, .int .u64 0, .int .u64 0, .int .u64 0, .int .u64 0, .int .u64 0, .int .u64 0, .int .u64 0, .int .u64 0, .int .u64 0, .int .u64 0, .int .u64 0, .int .u64 0, .int .u64 0, .int .u64 0, .int .u64 0, .int .u64 0, .int .u64 0, .int .u64 0, .int .u64 0, .int .u64 0, .int .u64 0, .int .u64 0, .int .u64 0, .int .u64 0, .int .u64 0, .int .u64 0, .int .u64 0, .int .u64 0]
  below : Below w.heap.size w w'
theorem RdSt.mk_ (w : World) (C : Array Value) (a k v : Int) : RdSt w C a k v (((w.alloc (.cells C 24)).alloc (.cells #[.int .i64 a, .int .i64 k, .int .i64 v] 61)).alloc (.cells #[.int .u64 0, .int .u64 0, .int .u64 0, .int .u64 0, .int .u64 0, .int .u64 0, .int .u64 0, .int .u64 0, .int .u64 0, .int .u64 0, .int .u64 0, .int .u64 0, .int .u64 0, .int .u64 0, .int .u64 0, .int .u64 0, .int .u64 0, .int .u64 0, .int .u64 0, .int .u64 0, .int .u64 0, .int .u64 0, .int .u64 0, .int .u64 0, .int .u64 0, .int .u64 0, .int .u64 0, .int .u64 0, .int .u64 0, .int .u64 0, .int .u64 0, .int .u64 0] 24)) :=
  ⟨((Blk.new _ _ _).alloc _).alloc _, (Blk.newAt _ _ _ (by simp)).alloc _, Blk.newAt _ _ _ (by simp), by go_grown⟩
theorem RdSt.on {w : World} {C : Array Value} {a k v : Int} {w1 w2 : World} (h : RdSt w C a k v w1) (hb : Below w1.heap.size w1 w2) : RdSt w C a k v w2 :=
  ⟨h.rcd.below hb h.rcd.lt, h.op.below hb h.op.lt, h.res.below hb h.res.lt, h.below.trans (hb.mono h.below.size)⟩
def BadOut (e0 : Int) (w : World) (e : Ending) (w' : World) : Prop := e = .returned (.tuple #[.agg #[.int .u64 0, .int .u64 0, .int .u64 0, .int .u64 0, .int .u64 0, .int .u64 0, .int .u64 0, .int .u64 0, .int .u64 0, .int .u64 0, .int .u64 0, .int .u64 0, .int .u64 0, .int .u64 0, .int .u64 0, .int .u64 0, .int .u64 0, .int .u64 0, .int .u64 0, .int .u64 0, .int .u64 0, .int .u64 0, .int .u64 0, .int .u64 0, .int .u64 0, .int .u64 0, .int .u64 0, .int .u64 0, .int .u64 0, .int .u64 0, .int .u64 0, .int .u64 0], .iface 28 (.int .i64 e0)]) ∧ Below w.heap.size w w'

set_option maxRecDepth 100000 in
theorem rdone_range (C : Array Value) (t a k v : Int) (w : World) (ht : t < 0 ∨ (0 ≤ t ∧ 4 ≤ t)) :
    Calls Tryz.prog 20 #[.agg C, .int .i64 t, .agg #[.int .i64 a, .int .i64 k, .int .i64 v]] w (BadOut 2 w) := by
  have HST := Lib.hid (RdSt.mk_ w C a k v)
  rcases ht with ht | ⟨h0, h4⟩
  all_goals
    go_enter Tryz.func20, Tryz.ntmps20
    generalize hQ : bodyPost Tryz.prog Tryz.f20 (BadOut 2 w) = Q
    have HQ := Lib.hid hQ
    clear hQ
    go_wp2_with (with_reducible refine fStore 24 (w.heap.size + 1 + 1) #[.int .u64 0, .int .u64 0, .int .u64 0, .int .u64 0, .int .u64 0, .int .u64 0, .int .u64 0, .int .u64 0, .int .u64 0, .int .u64 0, .int .u64 0, .int .u64 0, .int .u64 0, .int .u64 0, .int .u64 0, .int .u64 0, .int .u64 0, .int .u64 0, .int .u64 0, .int .u64 0, .int .u64 0, .int .u64 0, .int .u64 0, .int .u64 0, .int .u64 0, .int .u64 0, .int .u64 0, .int .u64 0, .int .u64 0, .int .u64 0, .int .u64 0, .int .u64 0] 24 #[.int .u64 0, .int .u64 0, .int .u64 0, .int .u64 0, .int .u64 0, .int .u64 0, .int .u64 0, .int .u64 0, .int .u64 0, .int .u64 0, .int .u64 0, .int .u64 0, .int .u64 0, .int .u64 0, .int .u64 0, .int .u64 0, .int .u64 0, .int .u64 0, .int .u64 0, .int .u64 0, .int .u64 0, .int .u64 0, .int .u64 0, .int .u64 0, .int .u64 0, .int .u64 0, .int .u64 0, .int .u64 0, .int .u64 0, .int .u64 0, .int .u64 0, .int .u64 0] (by kernel_rfl) (by kernel_rfl) HST.out.res (by kernel_rfl) (by kernel_rfl) (by kernel_rfl) ?_)
    (try simp only [Exit.inBlock, Exit.then])
    rw [← HQ.out]
    with_reducible refine bodyPost_ret (results_row_tmp Tryz.results20 _ _ (w.heap.size + 1 + 1) 24 #[.int .u64 0, .int .u64 0, .int .u64 0, .int .u64 0, .int .u64 0, .int .u64 0, .int .u64 0, .int .u64 0, .int .u64 0, .int .u64 0, .int .u64 0, .int .u64 0, .int .u64 0, .int .u64 0, .int .u64 0, .int .u64 0, .int .u64 0, .int .u64 0, .int .u64 0, .int .u64 0, .int .u64 0, .int .u64 0, .int .u64 0, .int .u64 0, .int .u64 0, .int .u64 0, .int .u64 0, .int .u64 0, .int .u64 0, .int .u64 0, .int .u64 0, .int .u64 0] _ (.iface 28 (.int .i64 2)) (by kernel_rfl) (by kernel_rfl) (Blk.setRow HST.out.res _) Tryz.underlying24 (by kernel_rfl) (by kernel_rfl)) (by kernel_rfl) ?_
    exact ⟨rfl, below_setRow HST.out.below (by omega) _⟩

set_option maxRecDepth 100000 in
theorem rdone_rec (C : Array Value) (z : Nat → Int) (t a k v : Int) (w : World) (h : U64s C 32 z) (ht : 0 ≤ t ∧ t < 4) (hr : ¬ recOk z) :
    Calls Tryz.prog 20 #[.agg C, .int .i64 t, .agg #[.int .i64 a, .int .i64 k, .int .i64 v]] w (BadOut 1 w) := by
  obtain ⟨h0, h4⟩ := ht
  have d0 : ¬ t < 0 := by omega
  have d4 : ¬ 4 ≤ t := by omega
  have HST := Lib.hid (RdSt.mk_ w C a k v)
  have HI : Hid ((Tryz.prog.info? 24).map (·.size) = some C.size) := by show _ = _; rw [infoRx, h.size]
  have hRR := fun W => recRight_any C z false W h ⟨fun e => Bool.noConfusion e, fun e => absurd e hr⟩
  have HRR := Lib.hid hRR
  clear h hr hRR
  go_enter Tryz.func20, Tryz.ntmps20
  generalize hQ : bodyPost Tryz.prog Tryz.f20 (BadOut 1 w) = Q
  have HQ := Lib.hid hQ
  clear hQ
  go_wp2_with (with_reducible refine fLoad 24 w.heap.size 24 C (by kernel_rfl) HST.out.rcd Tryz.underlying24 (by kernel_rfl) HI.out ?_)
  with_reducible refine (HRR.out _).mono ?_
  rintro e w1 ⟨rfl, hb1⟩
  have HS1 := Lib.hid (HST.out.on hb1)
  clear hb1
  go_wp2_with (with_reducible refine fStore 24 (w.heap.size + 1 + 1) #[.int .u64 0, .int .u64 0, .int .u64 0, .int .u64 0, .int .u64 0, .int .u64 0, .int .u64 0, .int .u64 0, .int .u64 0, .int .u64 0, .int .u64 0, .int .u64 0, .int .u64 0, .int .u64 0, .int .u64 0, .int .u64 0, .int .u64 0, .int .u64 0, .int .u64 0, .int .u64 0, .int .u64 0, .int .u64 0, .int .u64 0, .int .u64 0, .int .u64 0, .int .u64 0, .int .u64 0, .int .u64 0, .int .u64 0, .int .u64 0, .int .u64 0, .int .u64 0] 24 #[.int .u64 0, .int .u64 0, .int .u64 0, .int .u64 0, .int .u64 0, .int .u64 0, .int .u64 0, .int .u64 0, .int .u64 0, .int .u64 0, .int .u64 0, .int .u64 0, .int .u64 0, .int .u64 0, .int .u64 0, .int .u64 0, .int .u64 0, .int .u64 0, .int .u64 0, .int .u64 0, .int .u64 0, .int .u64 0, .int .u64 0, .int .u64 0, .int .u64 0, .int .u64 0, .int .u64 0, .int .u64 0, .int .u64 0, .int .u64 0, .int .u64 0, .int .u64 0] (by kernel_rfl) (by kernel_rfl) HS1.out.res (by kernel_rfl) (by kernel_rfl) (by kernel_rfl) ?_)
  (try simp only [Exit.inBlock, Exit.then])
  rw [← HQ.out]
  with_reducible refine bodyPost_ret (results_row_tmp Tryz.results20 _ _ (w.heap.size + 1 + 1) 24 #[.int .u64 0, .int .u64 0, .int .u64 0, .int .u64 0, .int .u64 0, .int .u64 0, .int .u64 0, .int .u64 0, .int .u64 0, .int .u64 0, .int .u64 0, .int .u64 0, .int .u64 0, .int .u64 0, .int .u64 0, .int .u64 0, .int .u64 0, .int .u64 0, .int .u64 0, .int .u64 0, .int .u64 0, .int .u64 0, .int .u64 0, .int .u64 0, .int .u64 0, .int .u64 0, .int .u64 0, .int .u64 0, .int .u64 0, .int .u64 0, .int .u64 0, .int .u64 0] _ (.iface 28 (.int .i64 1)) (by kernel_rfl) (by kernel_rfl) (Blk.setRow HS1.out.res _) Tryz.underlying24 (by kernel_rfl) (by kernel_rfl)) (by kernel_rfl) ?_
  exact ⟨rfl, below_setRow HS1.out.below (by omega) _⟩

/-! The region of three calls. -/
theorem keeps_low {B : Nat} {w w' : World} (h : Keeps (fun b => B ≤ b) w w') (hB : B = w.heap.size) : Below w.heap.size w w' := h.below (Nat.le_refl _) (fun b hb e => by omega)
def NewP (B : Nat) (v : Value) : Prop := ∃ g, v = .pointer (some ⟨g, 0, none⟩) ∧ B ≤ g
def NewAt (B : Nat) (t : TypeId) (cs : Array Value) (v : Value) (w' : World) : Prop := ∃ g, v = .pointer (some ⟨g, 0, none⟩) ∧ Blk w' g t cs
/-- The two boxes behind a store. -/
def TwoAt (p q : Value) (E A : Array Value) (w' : World) : Prop := ∃ g8 g9, p = .pointer (some ⟨g8, 0, none⟩) ∧ q = .pointer (some ⟨g9, 0, none⟩) ∧ Blk w' g8 100 E ∧ Blk w' g9 51 A
theorem boxes_apart {w : World} {g8 g9 : Nat} {E A : Array Value} (h8 : Blk w g8 100 E) (h9 : Blk w g9 51 A) : g8 ≠ g9 := by
  rintro rfl
  have h : w.heap[g8]? = some (.cells E 100 (0, 0)) := h8
  have h' : w.heap[g8]? = some (.cells A 51 (0, 0)) := h9
  rw [h] at h'
  simp at h'
theorem setsA_full {cs E : Array Value} (h : cs.size = E.size) : setsA cs 0 E.toList = E := by
  apply Array.ext_getElem?
  intro i
  by_cases hi : i < E.size
  · rw [setsA_get _ _ _ _ (by omega), if_pos (by rw [Array.length_toList]; omega)]
    simp
  · rw [Array.getElem?_eq_none (by rw [setsA_size]; omega), Array.getElem?_eq_none (by omega)]
set_option maxRecDepth 100000 in
set_option maxHeartbeats 4000000 in
theorem rdone_op (C : Array Value) (z : Nat → Int) (t a k v : Int) (w : World) (h : U64s C 32 z) (ht : 0 ≤ t ∧ t < 4) (hr : recOk z) (ho : opRightB a k v = false) :
    Calls Tryz.prog 20 #[.agg C, .int .i64 t, .agg #[.int .i64 a, .int .i64 k, .int .i64 v]] w (BadOut 1 w) := by
  obtain ⟨h0, h4⟩ := ht
  have d0 : ¬ t < 0 := by omega
  have d4 : ¬ 4 ≤ t := by omega
  have HST := Lib.hid (RdSt.mk_ w C a k v)
  have HI : Hid ((Tryz.prog.info? 24).map (·.size) = some C.size) := by show _ = _; rw [infoRx, h.size]
  have hRR := fun W => recRight_any C z true W h ⟨fun _ => hr, fun _ => rfl⟩
  have HRR := Lib.hid hRR
  obtain ⟨D, hD⟩ : ∃ D, D = C.extract 1 18 := ⟨_, rfl⟩
  have hDU : U64s D 17 (oz z) := by rw [hD]; exact h.cut 1 17 (by decide)
  have HKD : Hid (∀ W : World, Calls Tryz.prog 32 #[.agg C] W fun e w' => e = .returned (.int .i64 (kindR z)) ∧ Below W.heap.size W w') := Lib.hid fun W => kind_any C z W h
  have HOB : Hid (∀ W : World, Calls Tryz.prog 33 #[.agg C] W fun e w' => e = .returned (.agg D) ∧ Below W.heap.size W w') := Lib.hid fun W => object_any C D z W h hD
  have HDO : Hid (∀ W : World, Calls Tryz.prog 37 #[.int .i64 (kindR z), .agg D, .agg #[.int .i64 a, .int .i64 k, .int .i64 v]] W fun e w' => e = .returned (.tuple #[.agg #[.int .u64 0, .int .u64 0, .int .u64 0, .int .u64 0, .int .u64 0, .int .u64 0, .int .u64 0, .int .u64 0, .int .u64 0, .int .u64 0, .int .u64 0, .int .u64 0, .int .u64 0, .int .u64 0, .int .u64 0, .int .u64 0, .int .u64 0], .agg #[.int .i64 0, .int .i64 0], .iface 28 (.int .i64 1)]) ∧ Below W.heap.size W w') := Lib.hid fun W => objDo_op D (oz z) (kindR z) a k v W hDU ho
  generalize kindR z = kv at *
  obtain ⟨E, hE, hE1, hES⟩ : ∃ E : Array Value, E = #[.int .u64 0, .int .u64 0, .int .u64 0, .int .u64 0, .int .u64 0, .int .u64 0, .int .u64 0, .int .u64 0, .int .u64 0, .int .u64 0, .int .u64 0, .int .u64 0, .int .u64 0, .int .u64 0, .int .u64 0, .int .u64 0, .int .u64 0] ∧ E.all (·.oneCell') = true ∧ E.size = 17 := ⟨_, rfl, by kernel_rfl, by kernel_rfl⟩
  rw [← hE] at HDO
  have HE1 := Lib.hid hE1
  have HES := Lib.hid hES
  obtain ⟨co, hco⟩ : ∃ co : Int, co = 0 := ⟨_, rfl⟩
  obtain ⟨va, hva⟩ : ∃ va : Int, va = 0 := ⟨_, rfl⟩
  rw [show (#[Value.int .i64 0, .int .i64 0] : Array Value) = #[.int .i64 co, .int .i64 va] by rw [hco, hva]] at HDO
  clear hco hva
  clear hE hE1 hES
  clear h hr ho hD hDU hRR
  go_enter Tryz.func20, Tryz.ntmps20
  generalize hQ : bodyPost Tryz.prog Tryz.f20 (BadOut 1 w) = Q
  have HQ := Lib.hid hQ
  clear hQ
  go_wp2_with (with_reducible refine fLoad 24 w.heap.size 24 C (by kernel_rfl) HST.out.rcd Tryz.underlying24 (by kernel_rfl) HI.out ?_)
  with_reducible refine (HRR.out _).mono ?_
  rintro e w1 ⟨rfl, hb1⟩
  have HS1 := Lib.hid (HST.out.on hb1)
  clear hb1 HST
  go_wp2
  have o0 := HS1.out.op.cell 0
  have o1 := HS1.out.op.cell 1
  have o2 := HS1.out.op.cell 2
  have hl1 : w.heap.size < w1.heap.size := HS1.out.rcd.lt
  have hl2 : w.heap.size + 1 < w1.heap.size := HS1.out.op.lt
  simp at o0 o1 o2
  obtain ⟨B, hBd⟩ : ∃ B, B = w1.heap.size := ⟨_, rfl⟩
  have HBd := Lib.hid hBd
  refine wp_region_relyA 14 (fun b => B ≤ b) [12, 13] (by kernel_rfl) (by kernel_rfl) ?_
  intro anc HA
  clear hBd
  refine wpRely_step (fun K hK => ?_)
  refine .inl ⟨.agg C, Any, ?_, hK _ _ _ _ ?_⟩
  · simp only [RelyOp, fillE]
    refine ⟨?_, fun w9 hw9 _ => ?_⟩
    · first | rfl | (go_simp; done)
    exact relyAt_load_rowB 24 _ rfl w.heap.size rfl 24 C _ (HS1.out.rcd.below (keeps_low hw9 HBd.out) HS1.out.rcd.lt) Tryz.underlying24 rfl HI.out ⟨⟨rfl, trivial⟩, Keeps.refl _ _⟩
  clear hK K
  try simp only [Act.put, List.setIfInBounds_toArray, List.set_cons_zero, List.set_cons_succ]
  refine wpRely_step (fun K hK => ?_)
  refine .inl ?_
  apply Exists.intro
  refine ⟨Any, ?_, hK _ _ _ _ ?_⟩
  · simp only [RelyOp, fillE]
    refine ⟨?_, fun w9 hw9 _ => ?_⟩
    · first | rfl | (go_simp; done)
    obtain ⟨hc9, hf9⟩ := bcell (keeps_low hw9 HBd.out)
    go_simp
    first
    | exact ⟨⟨rfl, trivial⟩, Keeps.refl _ _⟩
    | (go_at_call 32; exact rely_det (HKD.out _))
    | (go_at_call 33; exact rely_det (HOB.out _))
    | (go_at_call 37; exact rely_det (HDO.out _))
  clear hK K
  try simp only [Act.put, List.setIfInBounds_toArray, List.set_cons_zero, List.set_cons_succ]
  refine wpRely_step (fun K hK => ?_)
  refine .inl ⟨.agg C, Any, ?_, hK _ _ _ _ ?_⟩
  · simp only [RelyOp, fillE]
    refine ⟨?_, fun w9 hw9 _ => ?_⟩
    · first | rfl | (go_simp; done)
    exact relyAt_load_rowB 24 _ rfl w.heap.size rfl 24 C _ (HS1.out.rcd.below (keeps_low hw9 HBd.out) HS1.out.rcd.lt) Tryz.underlying24 rfl HI.out ⟨⟨rfl, trivial⟩, Keeps.refl _ _⟩
  clear hK K
  try simp only [Act.put, List.setIfInBounds_toArray, List.set_cons_zero, List.set_cons_succ]
  iterate 7
    refine wpRely_step (fun K hK => ?_)
    refine .inl ?_
    apply Exists.intro
    refine ⟨Any, ?_, hK _ _ _ _ ?_⟩
    · simp only [RelyOp, fillE]
      refine ⟨?_, fun w9 hw9 _ => ?_⟩
      · first | rfl | (go_simp; done)
      obtain ⟨hc9, hf9⟩ := bcell (keeps_low hw9 HBd.out)
      go_simp
      first
      | exact ⟨⟨rfl, trivial⟩, Keeps.refl _ _⟩
      | (go_at_call 32; exact rely_det (HKD.out _))
      | (go_at_call 33; exact rely_det (HOB.out _))
      | (go_at_call 37; exact rely_det (HDO.out _))
    clear hK K
    try simp only [Act.put, List.setIfInBounds_toArray, List.set_cons_zero, List.set_cons_succ]
  -- the two boxes
  refine wpRely_step (fun K hK => ?_)
  refine .inr (.inr ⟨NewP B, NewAt B 100 #[.int .u64 0, .int .u64 0, .int .u64 0, .int .u64 0, .int .u64 0, .int .u64 0, .int .u64 0, .int .u64 0, .int .u64 0, .int .u64 0, .int .u64 0, .int .u64 0, .int .u64 0, .int .u64 0, .int .u64 0, .int .u64 0, .int .u64 0], ⟨_, B, rfl, Nat.le_refl _⟩, ?_, hK _ _ _ _ ?_⟩)
  · simp only [RelyOp, fillE]
    refine ⟨rfl, fun w9 hw9 _ => ?_⟩
    have hz9 : B ≤ w9.heap.size := by rw [HBd.out]; exact hw9.size
    go_simp
    exact ⟨⟨⟨_, rfl, hz9⟩, ⟨_, rfl, Blk.new _ _ _⟩⟩, Keeps.of_same ((Below.refl _ _).alloc (Nat.le_refl _) _)⟩
  clear hK K
  try simp only [Act.put, List.setIfInBounds_toArray, List.set_cons_zero, List.set_cons_succ]
  refine wpRely_step (fun K hK => ?_)
  refine .inr (.inr ⟨NewP B, NewAt B 51 #[.int .i64 0, .int .i64 0], ⟨_, B, rfl, Nat.le_refl _⟩, ?_, hK _ _ _ _ ?_⟩)
  · simp only [RelyOp, fillE]
    rintro _ ⟨g8, rfl, hg8⟩
    refine ⟨rfl, fun w9 hw9 _ => ?_⟩
    have hz9 : B ≤ w9.heap.size := by rw [HBd.out]; exact hw9.size
    go_simp
    exact ⟨⟨⟨_, rfl, hz9⟩, ⟨_, rfl, Blk.new _ _ _⟩⟩, Keeps.of_same ((Below.refl _ _).alloc (Nat.le_refl _) _)⟩
  clear hK K
  try simp only [Act.put, List.setIfInBounds_toArray, List.set_cons_zero, List.set_cons_succ]
  refine wpRely_step (fun K hK => ?_)
  refine .inl ⟨undef, fun u w' => TwoAt (u 10) (u 11) E #[.int .i64 0, .int .i64 0] w', ?_, hK _ _ _ _ ?_⟩
  · simp only [RelyOp, fillE]
    rintro _ ⟨g9, rfl, hg9⟩ _ ⟨g8, rfl, hg8⟩
    refine ⟨rfl, fun w9 hw9 hmet => ?_⟩
    obtain ⟨w0, k0, k1, ga, hv, hb8⟩ := hmet.2.1 (by rw [HA.out]; kernel_rfl)
    obtain rfl : ga = g8 := by cases hv; rfl
    clear hv
    have hl8 := hb8.below (quiet_keeps k1 (by rw [HA.out]; kernel_rfl)) hb8.lt
    obtain ⟨w0', k0', k1', gb, hv, hb9⟩ := hmet.2.2.1 (by rw [HA.out]; kernel_rfl)
    obtain rfl : gb = g9 := by cases hv; rfl
    clear hv
    have hl9 := hb9.below (quiet_keeps k1' (by rw [HA.out]; kernel_rfl)) hb9.lt
    have hne := boxes_apart hl8 hl9
    clear hmet hb8 hb9 k0 k0' k1 k1'
    refine relyAt_store_mid 100 _ _ rfl ga 0 E rfl rfl (hl8.there (by rw [HES.out]; decide)) (by rw [infoOC, HES.out]) HE1.out ?_
    refine ⟨⟨rfl, ga, gb, by unfold maskV; rw [if_pos (by rw [HA.out]; kernel_rfl)]; rfl, by unfold maskV; rw [if_pos (by rw [HA.out]; kernel_rfl)]; rfl, ?_, hl9.far_cells (fun e => hne e.symm) 0 E.toList⟩, (keeps_setCells (S := fun b => B ≤ b) (.inl hg8) 0 E.toList).mono (fun b h => ⟨by decide, h⟩)⟩
    have h8 := Blk.setCells (vs := E.toList) (o := 0) hl8
    rwa [setsA_full (by rw [HES.out]; rfl)] at h8
  clear hK K
  try simp only [Act.put, List.setIfInBounds_toArray, List.set_cons_zero, List.set_cons_succ]
  refine wpRely_step (fun K hK => ?_)
  refine .inl ⟨undef, fun u w' => TwoAt (u 10) (u 11) E #[.int .i64 co, .int .i64 va] w', ?_, hK _ _ _ _ ?_⟩
  · simp only [RelyOp, fillE]
    rintro _ ⟨g9, rfl, hg9⟩ _ ⟨g8, rfl, hg8⟩
    refine ⟨rfl, fun w9 hw9 hmet => ?_⟩
    obtain ⟨w0, k0, k1, ga, gb, hva, hvb, hb8, hb9⟩ := hmet.2.2.2.1 (by rw [HA.out]; kernel_rfl)
    have ea : ga = g8 := by unfold maskV at hva; rw [if_pos (by rw [HA.out]; kernel_rfl)] at hva; cases hva; rfl
    have eb : gb = g9 := by unfold maskV at hvb; rw [if_pos (by rw [HA.out]; kernel_rfl)] at hvb; cases hvb; rfl
    subst ea
    subst eb
    have hl8 := hb8.below (quiet_keeps k1 (by rw [HA.out]; kernel_rfl)) hb8.lt
    have hl9 := hb9.below (quiet_keeps k1 (by rw [HA.out]; kernel_rfl)) hb9.lt
    have hne := boxes_apart hl8 hl9
    clear hmet hb8 hb9 k0 k1 hva hvb
    refine relyAt_store_mid 51 _ _ rfl gb 0 #[.int .i64 co, .int .i64 va] rfl rfl (hl9.there (by show 0 + 2 ≤ 2; decide)) infoAn (two_one _ _) ?_
    refine ⟨⟨rfl, ga, gb, by unfold maskV; rw [if_pos (by rw [HA.out]; kernel_rfl)]; rfl, by unfold maskV; rw [if_pos (by rw [HA.out]; kernel_rfl)]; rfl, hl8.far_cells hne 0 _, ?_⟩, (keeps_setCells (S := fun b => B ≤ b) (.inl hg9) 0 _).mono (fun b h => ⟨by decide, h⟩)⟩
    have h9 := Blk.setCells (vs := (#[.int .i64 co, .int .i64 va] : Array Value).toList) (o := 0) hl9
    rwa [setsA_full (by rfl)] at h9
  clear hK K
  try simp only [Act.put, List.setIfInBounds_toArray, List.set_cons_zero, List.set_cons_succ]
  refine wpRely_nil ?_
  simp only [fillE]
  rintro _ ⟨g9, rfl, hg9⟩ _ ⟨g8, rfl, hg8⟩ w9 hw9 hmet
  obtain ⟨w0, k0, k1, ga, gb, hva, hvb, hb8, hb9⟩ := hmet.2.2.1 rfl
  have ea : ga = g8 := by unfold maskV at hva; rw [if_pos (by rw [HA.out]; kernel_rfl)] at hva; cases hva; rfl
  have eb : gb = g9 := by unfold maskV at hvb; rw [if_pos (by rw [HA.out]; kernel_rfl)] at hvb; cases hvb; rfl
  subst ea
  subst eb
  have HL8 := Lib.hid (hb8.below (quiet_keeps k1 (by rw [HA.out]; kernel_rfl)) hb8.lt)
  have HL9 := Lib.hid (hb9.below (quiet_keeps k1 (by rw [HA.out]; kernel_rfl)) hb9.lt)
  have HS9 := Lib.hid (HS1.out.on (keeps_low hw9 HBd.out))
  have hga : w1.heap.size ≤ ga := by rw [← HBd.out]; exact hg8
  have hgb : w1.heap.size ≤ gb := by rw [← HBd.out]; exact hg9
  clear hmet hb8 hb9 k0 k1 hva hvb hw9 o0 o1 o2 HA HBd hg8 hg9
  simp only [List.drop_succ_cons, List.drop_zero, List.drop, Act.put, List.setIfInBounds_toArray, List.set_cons_zero, List.set_cons_succ]
  go_wp2_with (with_reducible refine fStore 24 (w.heap.size + 1 + 1) #[.int .u64 0, .int .u64 0, .int .u64 0, .int .u64 0, .int .u64 0, .int .u64 0, .int .u64 0, .int .u64 0, .int .u64 0, .int .u64 0, .int .u64 0, .int .u64 0, .int .u64 0, .int .u64 0, .int .u64 0, .int .u64 0, .int .u64 0, .int .u64 0, .int .u64 0, .int .u64 0, .int .u64 0, .int .u64 0, .int .u64 0, .int .u64 0, .int .u64 0, .int .u64 0, .int .u64 0, .int .u64 0, .int .u64 0, .int .u64 0, .int .u64 0, .int .u64 0] 24 #[.int .u64 0, .int .u64 0, .int .u64 0, .int .u64 0, .int .u64 0, .int .u64 0, .int .u64 0, .int .u64 0, .int .u64 0, .int .u64 0, .int .u64 0, .int .u64 0, .int .u64 0, .int .u64 0, .int .u64 0, .int .u64 0, .int .u64 0, .int .u64 0, .int .u64 0, .int .u64 0, .int .u64 0, .int .u64 0, .int .u64 0, .int .u64 0, .int .u64 0, .int .u64 0, .int .u64 0, .int .u64 0, .int .u64 0, .int .u64 0, .int .u64 0, .int .u64 0] (by kernel_rfl) (by kernel_rfl) HS9.out.res (by kernel_rfl) (by kernel_rfl) (by kernel_rfl) ?_)
  (try simp only [Exit.inBlock, Exit.then])
  rw [← HQ.out]
  with_reducible refine bodyPost_ret (results_row_tmp Tryz.results20 _ _ (w.heap.size + 1 + 1) 24 #[.int .u64 0, .int .u64 0, .int .u64 0, .int .u64 0, .int .u64 0, .int .u64 0, .int .u64 0, .int .u64 0, .int .u64 0, .int .u64 0, .int .u64 0, .int .u64 0, .int .u64 0, .int .u64 0, .int .u64 0, .int .u64 0, .int .u64 0, .int .u64 0, .int .u64 0, .int .u64 0, .int .u64 0, .int .u64 0, .int .u64 0, .int .u64 0, .int .u64 0, .int .u64 0, .int .u64 0, .int .u64 0, .int .u64 0, .int .u64 0, .int .u64 0, .int .u64 0] _ (.iface 28 (.int .i64 1)) (by kernel_rfl) (by kernel_rfl) (Blk.setRow HS9.out.res _) Tryz.underlying24 (by kernel_rfl) (by kernel_rfl)) (by kernel_rfl) ?_
  exact ⟨rfl, below_setRow HS9.out.below (by omega) _⟩

theorem flipN_lt (x : Nat) (a : Int) (hx : x < 18446744073709551616) : flipN x a < 18446744073709551616 := by
  unfold flipN
  split
  · rename_i h
    have h1 : 2 ^ a.toNat < 2 ^ 64 := Nat.pow_lt_pow_right (by decide) (by omega)
    exact Nat.xor_lt_two_pow (n := 64) (by simpa using hx) h1
  · exact hx
/-- The words behind Done. -/
def doneZ (z y : Nat → Int) (t : Nat) (co va : Int) (i : Nat) : Int := if i = 26 then ((flipN (z 26).toNat t : Nat) : Int) else if i = 22 + t then z 28 + 1 else if i = 28 then z 28 + 1 else if i = 18 + t then ansN co va else if 1 ≤ i ∧ i < 18 then y (i - 1) else z i
def OkOut (z y : Nat → Int) (t : Nat) (co va : Int) (w : World) (e : Ending) (w' : World) : Prop := ∃ F, e = .returned (.tuple #[.agg F, .nilIface]) ∧ U64s F 32 (doneZ z y t co va) ∧ Below w.heap.size w w'
set_option maxRecDepth 100000 in
set_option maxHeartbeats 4000000 in
theorem rdone_ok (C : Array Value) (z : Nat → Int) (t : Nat) (a k v : Int) (m : Nat) (w : World) (h : U64s C 32 z) (ht4 : t < 4) (hr : recOk z) (ho : opOk a k v) (hm : kindR z = 5 → tabM (oz z) a k m) :
    Calls Tryz.prog 20 #[.agg C, .int .i64 t, .agg #[.int .i64 a, .int .i64 k, .int .i64 v]] w (OkOut z (doZ (kindR z) (oz z) a k v m) t (doC (kindR z) (oz z) a k v) (doV (kindR z) (oz z) a k v) w) := by
  have ht : 0 ≤ (t : Int) ∧ (t : Int) < 4 := by omega
  obtain ⟨h0, h4⟩ := ht
  have d0 : ¬ (t : Int) < 0 := by omega
  have d4 : ¬ 4 ≤ (t : Int) := by omega
  have HST := Lib.hid (RdSt.mk_ w C a k v)
  have HI : Hid ((Tryz.prog.info? 24).map (·.size) = some C.size) := by show _ = _; rw [infoRx, h.size]
  have hRR := fun W => recRight_any C z true W h ⟨fun _ => hr, fun _ => rfl⟩
  have HRR := Lib.hid hRR
  obtain ⟨D, hD⟩ : ∃ D, D = C.extract 1 18 := ⟨_, rfl⟩
  have hDU : U64s D 17 (oz z) := by rw [hD]; exact h.cut 1 17 (by decide)
  have HKD : Hid (∀ W : World, Calls Tryz.prog 32 #[.agg C] W fun e w' => e = .returned (.int .i64 (kindR z)) ∧ Below W.heap.size W w') := Lib.hid fun W => kind_any C z W h
  have HOB : Hid (∀ W : World, Calls Tryz.prog 33 #[.agg C] W fun e w' => e = .returned (.agg D) ∧ Below W.heap.size W w') := Lib.hid fun W => object_any C D z W h hD
  have hTD := thing_do (fun i hi => h.bd (1 + i) (by omega)) hr.1.1 ho hm
  obtain ⟨E, hEU⟩ := U64s.ex (doZ (kindR z) (oz z) a k v m) 17 hTD.2.1
  have HDO : Hid (∀ W : World, Calls Tryz.prog 37 #[.int .i64 (kindR z), .agg D, .agg #[.int .i64 a, .int .i64 k, .int .i64 v]] W fun e w' => e = .returned (.tuple #[.agg E, .agg #[.int .i64 (doC (kindR z) (oz z) a k v), .int .i64 (doV (kindR z) (oz z) a k v)], .nilIface]) ∧ Below W.heap.size W w') := Lib.hid fun W => objDo_any D E (oz z) (kindR z) a k v m W hDU ho hr.1.1 hm hEU
  have HEU := Lib.hid hEU
  have HCU := Lib.hid h
  have HES := Lib.hid hEU.size
  have HE1 := Lib.hid hEU.one
  have HC28 : Hid (0 ≤ z 28 ∧ z 28 ≤ 1099511627776) := Lib.hid ⟨(h.bd 28 (by decide)).1, hr.1.2.2.1⟩
  generalize doZ (kindR z) (oz z) a k v m = y at *
  generalize doC (kindR z) (oz z) a k v = co at *
  generalize doV (kindR z) (oz z) a k v = va at *
  generalize kindR z = kv at *
  clear h hr ho hD hDU hRR hm hTD hEU
  go_enter Tryz.func20, Tryz.ntmps20
  generalize hQ : bodyPost Tryz.prog Tryz.f20 (OkOut z y t co va w) = Q
  have HQ := Lib.hid hQ
  clear hQ
  go_wp2_with (with_reducible refine fLoad 24 w.heap.size 24 C (by kernel_rfl) HST.out.rcd Tryz.underlying24 (by kernel_rfl) HI.out ?_)
  with_reducible refine (HRR.out _).mono ?_
  rintro e w1 ⟨rfl, hb1⟩
  have HS1 := Lib.hid (HST.out.on hb1)
  clear hb1 HST
  go_wp2
  have o0 := HS1.out.op.cell 0
  have o1 := HS1.out.op.cell 1
  have o2 := HS1.out.op.cell 2
  have hl1 : w.heap.size < w1.heap.size := HS1.out.rcd.lt
  have hl2 : w.heap.size + 1 < w1.heap.size := HS1.out.op.lt
  simp at o0 o1 o2
  obtain ⟨B, hBd⟩ : ∃ B, B = w1.heap.size := ⟨_, rfl⟩
  have HBd := Lib.hid hBd
  refine wp_region_relyA 14 (fun b => B ≤ b) [12, 13] (by kernel_rfl) (by kernel_rfl) ?_
  intro anc HA
  clear hBd
  refine wpRely_step (fun K hK => ?_)
  refine .inl ⟨.agg C, Any, ?_, hK _ _ _ _ ?_⟩
  · simp only [RelyOp, fillE]
    refine ⟨?_, fun w9 hw9 _ => ?_⟩
    · first | rfl | (go_simp; done)
    exact relyAt_load_rowB 24 _ rfl w.heap.size rfl 24 C _ (HS1.out.rcd.below (keeps_low hw9 HBd.out) HS1.out.rcd.lt) Tryz.underlying24 rfl HI.out ⟨⟨rfl, trivial⟩, Keeps.refl _ _⟩
  clear hK K
  try simp only [Act.put, List.setIfInBounds_toArray, List.set_cons_zero, List.set_cons_succ]
  refine wpRely_step (fun K hK => ?_)
  refine .inl ?_
  apply Exists.intro
  refine ⟨Any, ?_, hK _ _ _ _ ?_⟩
  · simp only [RelyOp, fillE]
    refine ⟨?_, fun w9 hw9 _ => ?_⟩
    · first | rfl | (go_simp; done)
    obtain ⟨hc9, hf9⟩ := bcell (keeps_low hw9 HBd.out)
    go_simp
    first
    | exact ⟨⟨rfl, trivial⟩, Keeps.refl _ _⟩
    | (go_at_call 32; exact rely_det (HKD.out _))
    | (go_at_call 33; exact rely_det (HOB.out _))
    | (go_at_call 37; exact rely_det (HDO.out _))
  clear hK K
  try simp only [Act.put, List.setIfInBounds_toArray, List.set_cons_zero, List.set_cons_succ]
  refine wpRely_step (fun K hK => ?_)
  refine .inl ⟨.agg C, Any, ?_, hK _ _ _ _ ?_⟩
  · simp only [RelyOp, fillE]
    refine ⟨?_, fun w9 hw9 _ => ?_⟩
    · first | rfl | (go_simp; done)
    exact relyAt_load_rowB 24 _ rfl w.heap.size rfl 24 C _ (HS1.out.rcd.below (keeps_low hw9 HBd.out) HS1.out.rcd.lt) Tryz.underlying24 rfl HI.out ⟨⟨rfl, trivial⟩, Keeps.refl _ _⟩
  clear hK K
  try simp only [Act.put, List.setIfInBounds_toArray, List.set_cons_zero, List.set_cons_succ]
  iterate 7
    refine wpRely_step (fun K hK => ?_)
    refine .inl ?_
    apply Exists.intro
    refine ⟨Any, ?_, hK _ _ _ _ ?_⟩
    · simp only [RelyOp, fillE]
      refine ⟨?_, fun w9 hw9 _ => ?_⟩
      · first | rfl | (go_simp; done)
      obtain ⟨hc9, hf9⟩ := bcell (keeps_low hw9 HBd.out)
      go_simp
      first
      | exact ⟨⟨rfl, trivial⟩, Keeps.refl _ _⟩
      | (go_at_call 32; exact rely_det (HKD.out _))
      | (go_at_call 33; exact rely_det (HOB.out _))
      | (go_at_call 37; exact rely_det (HDO.out _))
    clear hK K
    try simp only [Act.put, List.setIfInBounds_toArray, List.set_cons_zero, List.set_cons_succ]
  -- the two boxes
  refine wpRely_step (fun K hK => ?_)
  refine .inr (.inr ⟨NewP B, NewAt B 100 #[.int .u64 0, .int .u64 0, .int .u64 0, .int .u64 0, .int .u64 0, .int .u64 0, .int .u64 0, .int .u64 0, .int .u64 0, .int .u64 0, .int .u64 0, .int .u64 0, .int .u64 0, .int .u64 0, .int .u64 0, .int .u64 0, .int .u64 0], ⟨_, B, rfl, Nat.le_refl _⟩, ?_, hK _ _ _ _ ?_⟩)
  · simp only [RelyOp, fillE]
    refine ⟨rfl, fun w9 hw9 _ => ?_⟩
    have hz9 : B ≤ w9.heap.size := by rw [HBd.out]; exact hw9.size
    go_simp
    exact ⟨⟨⟨_, rfl, hz9⟩, ⟨_, rfl, Blk.new _ _ _⟩⟩, Keeps.of_same ((Below.refl _ _).alloc (Nat.le_refl _) _)⟩
  clear hK K
  try simp only [Act.put, List.setIfInBounds_toArray, List.set_cons_zero, List.set_cons_succ]
  refine wpRely_step (fun K hK => ?_)
  refine .inr (.inr ⟨NewP B, NewAt B 51 #[.int .i64 0, .int .i64 0], ⟨_, B, rfl, Nat.le_refl _⟩, ?_, hK _ _ _ _ ?_⟩)
  · simp only [RelyOp, fillE]
    rintro _ ⟨g8, rfl, hg8⟩
    refine ⟨rfl, fun w9 hw9 _ => ?_⟩
    have hz9 : B ≤ w9.heap.size := by rw [HBd.out]; exact hw9.size
    go_simp
    exact ⟨⟨⟨_, rfl, hz9⟩, ⟨_, rfl, Blk.new _ _ _⟩⟩, Keeps.of_same ((Below.refl _ _).alloc (Nat.le_refl _) _)⟩
  clear hK K
  try simp only [Act.put, List.setIfInBounds_toArray, List.set_cons_zero, List.set_cons_succ]
  refine wpRely_step (fun K hK => ?_)
  refine .inl ⟨undef, fun u w' => TwoAt (u 10) (u 11) E #[.int .i64 0, .int .i64 0] w', ?_, hK _ _ _ _ ?_⟩
  · simp only [RelyOp, fillE]
    rintro _ ⟨g9, rfl, hg9⟩ _ ⟨g8, rfl, hg8⟩
    refine ⟨rfl, fun w9 hw9 hmet => ?_⟩
    obtain ⟨w0, k0, k1, ga, hv, hb8⟩ := hmet.2.1 (by rw [HA.out]; kernel_rfl)
    obtain rfl : ga = g8 := by cases hv; rfl
    clear hv
    have hl8 := hb8.below (quiet_keeps k1 (by rw [HA.out]; kernel_rfl)) hb8.lt
    obtain ⟨w0', k0', k1', gb, hv, hb9⟩ := hmet.2.2.1 (by rw [HA.out]; kernel_rfl)
    obtain rfl : gb = g9 := by cases hv; rfl
    clear hv
    have hl9 := hb9.below (quiet_keeps k1' (by rw [HA.out]; kernel_rfl)) hb9.lt
    have hne := boxes_apart hl8 hl9
    clear hmet hb8 hb9 k0 k0' k1 k1'
    refine relyAt_store_mid 100 _ _ rfl ga 0 E rfl rfl (hl8.there (by rw [HES.out]; decide)) (by rw [infoOC, HES.out]) HE1.out ?_
    refine ⟨⟨rfl, ga, gb, by unfold maskV; rw [if_pos (by rw [HA.out]; kernel_rfl)]; rfl, by unfold maskV; rw [if_pos (by rw [HA.out]; kernel_rfl)]; rfl, ?_, hl9.far_cells (fun e => hne e.symm) 0 E.toList⟩, (keeps_setCells (S := fun b => B ≤ b) (.inl hg8) 0 E.toList).mono (fun b h => ⟨by decide, h⟩)⟩
    have h8 := Blk.setCells (vs := E.toList) (o := 0) hl8
    rwa [setsA_full (by rw [HES.out]; rfl)] at h8
  clear hK K
  try simp only [Act.put, List.setIfInBounds_toArray, List.set_cons_zero, List.set_cons_succ]
  refine wpRely_step (fun K hK => ?_)
  refine .inl ⟨undef, fun u w' => TwoAt (u 10) (u 11) E #[.int .i64 co, .int .i64 va] w', ?_, hK _ _ _ _ ?_⟩
  · simp only [RelyOp, fillE]
    rintro _ ⟨g9, rfl, hg9⟩ _ ⟨g8, rfl, hg8⟩
    refine ⟨rfl, fun w9 hw9 hmet => ?_⟩
    obtain ⟨w0, k0, k1, ga, gb, hva, hvb, hb8, hb9⟩ := hmet.2.2.2.1 (by rw [HA.out]; kernel_rfl)
    have ea : ga = g8 := by unfold maskV at hva; rw [if_pos (by rw [HA.out]; kernel_rfl)] at hva; cases hva; rfl
    have eb : gb = g9 := by unfold maskV at hvb; rw [if_pos (by rw [HA.out]; kernel_rfl)] at hvb; cases hvb; rfl
    subst ea
    subst eb
    have hl8 := hb8.below (quiet_keeps k1 (by rw [HA.out]; kernel_rfl)) hb8.lt
    have hl9 := hb9.below (quiet_keeps k1 (by rw [HA.out]; kernel_rfl)) hb9.lt
    have hne := boxes_apart hl8 hl9
    clear hmet hb8 hb9 k0 k1 hva hvb
    refine relyAt_store_mid 51 _ _ rfl gb 0 #[.int .i64 co, .int .i64 va] rfl rfl (hl9.there (by show 0 + 2 ≤ 2; decide)) infoAn (two_one _ _) ?_
    refine ⟨⟨rfl, ga, gb, by unfold maskV; rw [if_pos (by rw [HA.out]; kernel_rfl)]; rfl, by unfold maskV; rw [if_pos (by rw [HA.out]; kernel_rfl)]; rfl, hl8.far_cells hne 0 _, ?_⟩, (keeps_setCells (S := fun b => B ≤ b) (.inl hg9) 0 _).mono (fun b h => ⟨by decide, h⟩)⟩
    have h9 := Blk.setCells (vs := (#[.int .i64 co, .int .i64 va] : Array Value).toList) (o := 0) hl9
    rwa [setsA_full (by rfl)] at h9
  clear hK K
  try simp only [Act.put, List.setIfInBounds_toArray, List.set_cons_zero, List.set_cons_succ]
  refine wpRely_nil ?_
  simp only [fillE]
  rintro _ ⟨g9, rfl, hg9⟩ _ ⟨g8, rfl, hg8⟩ w9 hw9 hmet
  obtain ⟨w0, k0, k1, ga, gb, hva, hvb, hb8, hb9⟩ := hmet.2.2.1 rfl
  have ea : ga = g8 := by unfold maskV at hva; rw [if_pos (by rw [HA.out]; kernel_rfl)] at hva; cases hva; rfl
  have eb : gb = g9 := by unfold maskV at hvb; rw [if_pos (by rw [HA.out]; kernel_rfl)] at hvb; cases hvb; rfl
  subst ea
  subst eb
  have HL8 := Lib.hid (hb8.below (quiet_keeps k1 (by rw [HA.out]; kernel_rfl)) hb8.lt)
  have HL9 := Lib.hid (hb9.below (quiet_keeps k1 (by rw [HA.out]; kernel_rfl)) hb9.lt)
  have HS9 := Lib.hid (HS1.out.on (keeps_low hw9 HBd.out))
  have hga : w1.heap.size ≤ ga := by rw [← HBd.out]; exact hg8
  have hgb : w1.heap.size ≤ gb := by rw [← HBd.out]; exact hg9
  clear hmet hb8 hb9 k0 k1 hva hvb hw9 o0 o1 o2 HA HBd hg8 hg9
  simp only [List.drop_succ_cons, List.drop_zero, List.drop, Act.put, List.setIfInBounds_toArray, List.set_cons_zero, List.set_cons_succ]
  have HB9 := Lib.hid HS9.out.rcd
  go_wp2_with fail
  refine wp_region_rely 2 nowhere [] (by kernel_rfl) (by kernel_rfl) ?_
  iterate 2
    refine wpRely_step (fun K hK => ?_)
    refine .inl ?_
    apply Exists.intro
    refine ⟨Any, ?_, hK _ _ _ _ ?_⟩
    · simp only [RelyOp, fillE]
      refine ⟨rfl, fun w11 hw11 _ => ?_⟩
      go_simp
      exact ⟨⟨rfl, trivial⟩, Keeps.refl _ _⟩
    clear hK K
    try simp only [Act.put, List.setIfInBounds_toArray, List.set_cons_zero, List.set_cons_succ]
  refine wpRely_nil ?_
  simp only [fillE]
  intro w11 hw11 _
  have HL8b := Lib.hid (HL8.out.below hw11.same HL8.out.lt)
  have HL9b := Lib.hid (HL9.out.below hw11.same HL9.out.lt)
  have HSb := Lib.hid (HS9.out.on hw11.same)
  clear HL8 HL9 HS9 HB9 hw11
  simp only [List.drop_succ_cons, List.drop_zero]
  refine wpList_copy_own rfl (.tmp 38) (.tmp 39) 26 26 rfl 22 Tryz.underlying26 (by kernel_rfl) w.heap.size 1 31 31 ⟨ga, 0, none⟩ 17 17 rfl rfl C 24 HSb.out.rcd E.toList (by rw [Array.length_toList, HEU.out.size]; rfl) ?hsrc ?hfit ?hone ?_
  case hsrc =>
    intro j v hj
    rw [Addr.add_lit, Nat.zero_add, HL8b.out.cell j]
    simpa using hj
  case hfit => rw [Array.length_toList, HEU.out.size, HCU.out.size]; decide
  case hone =>
    intro v hv
    have := HEU.out.one
    rw [Array.all_eq_true] at this
    obtain ⟨i, hi, rfl⟩ := List.getElem_of_mem hv
    have h9 := this i (by simpa using hi)
    simpa using h9
  rw [Array.length_toList, HEU.out.size]
  have HU2 := Lib.hid (HCU.out.splice HEU.out (o := 1) (by omega))
  have HB10 := Lib.hid (HSb.out.rcd.setRow (C.toList.take 1 ++ (E.toList ++ C.toList.drop (1 + 17))).toArray)
  have hgb2 : w.heap.size < gb := by omega
  have HL10 : Hid (Blk (w11.setRow w.heap.size (C.toList.take 1 ++ (E.toList ++ C.toList.drop (1 + 17))).toArray) gb 51 #[.int .i64 co, .int .i64 va]) := Lib.hid ((setRow_other _ _ _ _ (by omega)).trans HL9b.out)
  have HR10 : Hid (Blk (w11.setRow w.heap.size (C.toList.take 1 ++ (E.toList ++ C.toList.drop (1 + 17))).toArray) (w.heap.size + 1 + 1) 24 #[.int .u64 0, .int .u64 0, .int .u64 0, .int .u64 0, .int .u64 0, .int .u64 0, .int .u64 0, .int .u64 0, .int .u64 0, .int .u64 0, .int .u64 0, .int .u64 0, .int .u64 0, .int .u64 0, .int .u64 0, .int .u64 0, .int .u64 0, .int .u64 0, .int .u64 0, .int .u64 0, .int .u64 0, .int .u64 0, .int .u64 0, .int .u64 0, .int .u64 0, .int .u64 0, .int .u64 0, .int .u64 0, .int .u64 0, .int .u64 0, .int .u64 0, .int .u64 0]) := Lib.hid ((setRow_other _ _ _ _ (by omega)).trans HSb.out.res)
  have HW10 := Lib.hid (below_setRow HSb.out.below (show w.heap.size ≤ w.heap.size by omega) (C.toList.take 1 ++ (E.toList ++ C.toList.drop (1 + 17))).toArray)
  generalize w11.setRow w.heap.size (C.toList.take 1 ++ (E.toList ++ C.toList.drop (1 + 17))).toArray = W2 at *
  generalize (C.toList.take 1 ++ (E.toList ++ C.toList.drop (1 + 17))).toArray = E1 at *
  clear HSb HL8b HL9b HI HCU HEU hl1 hl2
  have a0 := HL10.out.cell 0
  have a1 := HL10.out.cell 1
  simp at a0 a1
  go_wp2_with fail
  refine (answer_any co va _).mono ?_
  rintro e w3 ⟨rfl, hb3⟩
  have HB3 := Lib.hid (HB10.out.below hb3 HB10.out.lt)
  have HR3 := Lib.hid (HR10.out.below hb3 HR10.out.lt)
  have HW3 := Lib.hid (HW10.out.trans (hb3.mono HW10.out.size))
  clear hb3 HB10 HR10 HW10 HL10 a0 a1
  obtain ⟨zc, hzc⟩ : ∃ zc : Nat → Int, zc = fun i => if 1 ≤ i ∧ i < 1 + 17 then y (i - 1) else z i := ⟨_, rfl⟩
  rw [← hzc] at HU2
  obtain ⟨c, hc⟩ : ∃ c, c = zc 28 := ⟨_, rfl⟩
  obtain ⟨q, hq⟩ : ∃ q, q = (zc 26).toNat := ⟨_, rfl⟩
  have hz26 : zc 26 = (q : Int) := by rw [hq]; have := (HU2.out.bd 26 (by decide)).1; omega
  have HQ64 : Hid (q < 18446744073709551616) := Lib.hid (by have := HU2.out.bd 26 (by decide); omega)
  have hc28 : 0 ≤ c ∧ c ≤ 1099511627776 := by rw [hc, hzc]; exact HC28.out
  have HCC := Lib.hid hc28
  have u1 : (c + 1) % 18446744073709551616 = c + 1 := by omega
  have u2 : IntKind.u64.wrap (c + 1) = c + 1 := IntWalk.u64_in _ (by omega)
  have HZC := Lib.hid (And.intro hzc (And.intro hc hq))
  have x0 := (HB3.out.cell (18 + t)).trans (HU2.out.get (18 + t) (by omega))
  have x1 := (HB3.out.cell (22 + t)).trans (HU2.out.get (22 + t) (by omega))
  have x2 := (HB3.out.cell 26).trans (HU2.out.get 26 (by omega))
  have x3 := (HB3.out.cell 28).trans (HU2.out.get 28 (by omega))
  rw [hz26] at x2
  rw [← hc] at x3
  have f0 := HB3.out.frozen (18 + t)
  have f1 := HB3.out.frozen (22 + t)
  have f2 := HB3.out.frozen 26
  have f3 := HB3.out.frozen 28
  have i18 : (18 : Int) + t = ((18 + t : Nat) : Int) := by omega
  have i22 : (22 : Int) + t = ((22 + t : Nat) : Int) := by omega
  have j18 : ((18 + t : Nat) : Int) < 32 := by omega
  have j22 : ((22 + t : Nat) : Int) < 32 := by omega
  have n1 : ¬ 18 + t = 26 := by omega
  have n2 : ¬ 22 + t = 26 := by omega
  have n3 : ¬ 18 + t = 22 + t := by omega
  have n4 : ¬ 22 + t = 18 + t := by omega
  have n5 : ¬ 26 = 18 + t := by omega
  have n6 : ¬ 26 = 22 + t := by omega
  have n7 : ¬ 28 = 18 + t := by omega
  have n8 : ¬ 28 = 22 + t := by omega
  have n9 : ¬ 18 + t = 28 := by omega
  have n10 : ¬ 22 + t = 28 := by omega
  have HAN := Lib.hid (ansN_bd co va)
  have HT4 := Lib.hid ht4
  clear hzc hq hz26 hc28 hc
  generalize hs : 18 + t = s at *
  generalize hu : 22 + t = u at *
  have HS := Lib.hid (And.intro hs hu)
  clear hs hu ht4
  generalize hane : ansN co va = an at *
  have HANE := Lib.hid hane
  clear hane
  go_wp2_with fail
  refine (flip_any q t _ HQ64.out).mono ?_
  rintro e w4 ⟨rfl, rfl⟩
  obtain ⟨E5, hE5⟩ : ∃ E5, E5 = (((E1.setIfInBounds s (.int .u64 an)).setIfInBounds 28 (.int .u64 (c + 1))).setIfInBounds u (.int .u64 (c + 1))).setIfInBounds 26 (.int .u64 ((flipN q t : Nat) : Int)) := ⟨_, rfl⟩
  have HFL : Hid (flipN q t < 18446744073709551616) := Lib.hid (flipN_lt q t HQ64.out)
  have HU5 : Hid (U64s E5 32 (fun i => if i = 26 then ((flipN q t : Nat) : Int) else if i = u then c + 1 else if i = 28 then c + 1 else if i = s then an else zc i)) := Lib.hid (by
    rw [hE5]
    exact (((HU2.out.set_ (k := s) HAN.out).set_ (k := 28) (v := c + 1) (by have := HCC.out; omega)).set_ (k := u) (v := c + 1) (by have := HCC.out; omega)).set_ (k := 26) (v := ((flipN q t : Nat) : Int)) (by have := HFL.out; omega))
  have HB5 := Lib.hid ((((HB3.out.set_ s (.int .u64 an)).set_ 28 (.int .u64 (c + 1))).set_ u (.int .u64 (c + 1))).set_ 26 (.int .u64 ((flipN q t : Nat) : Int)))
  rw [← hE5] at HB5
  have HR5 := Lib.hid ((((HR3.out.far (p := ⟨w.heap.size, s, none⟩) (by simp; omega) (.int .u64 an)).far (p := ⟨w.heap.size, 28, none⟩) (by simp; omega) (.int .u64 (c + 1))).far (p := ⟨w.heap.size, u, none⟩) (by simp; omega) (.int .u64 (c + 1))).far (p := ⟨w.heap.size, 26, none⟩) (by simp; omega) (.int .u64 ((flipN q t : Nat) : Int)))
  have HW5 := Lib.hid ((((HW3.out.setCell (p := ⟨w.heap.size, s, none⟩) (Nat.le_refl _) (.int .u64 an)).setCell (p := ⟨w.heap.size, 28, none⟩) (Nat.le_refl _) (.int .u64 (c + 1))).setCell (p := ⟨w.heap.size, u, none⟩) (Nat.le_refl _) (.int .u64 (c + 1))).setCell (p := ⟨w.heap.size, 26, none⟩) (Nat.le_refl _) (.int .u64 ((flipN q t : Nat) : Int)))
  have HI5 : Hid ((Tryz.prog.info? 24).map (·.size) = some E5.size) := by show _ = _; rw [infoRx, HU5.out.size]
  have HO5 := Lib.hid HU5.out.one
  clear hE5 HR3 HW3 HB3
  go_wp2_with (first
    | (with_reducible refine fLoad 24 w.heap.size 24 E5 (by kernel_rfl) HB5.out Tryz.underlying24 (by kernel_rfl) HI5.out ?_)
    | (with_reducible refine fStore 24 (w.heap.size + 1 + 1) E5 24 #[.int .u64 0, .int .u64 0, .int .u64 0, .int .u64 0, .int .u64 0, .int .u64 0, .int .u64 0, .int .u64 0, .int .u64 0, .int .u64 0, .int .u64 0, .int .u64 0, .int .u64 0, .int .u64 0, .int .u64 0, .int .u64 0, .int .u64 0, .int .u64 0, .int .u64 0, .int .u64 0, .int .u64 0, .int .u64 0, .int .u64 0, .int .u64 0, .int .u64 0, .int .u64 0, .int .u64 0, .int .u64 0, .int .u64 0, .int .u64 0, .int .u64 0, .int .u64 0] (by kernel_rfl) (by kernel_rfl) HR5.out HI5.out (by rw [HU5.out.size]; kernel_rfl) HO5.out ?_))
  (try simp only [Exit.inBlock, Exit.then])
  rw [← HQ.out]
  with_reducible refine bodyPost_ret (results_row_tmp Tryz.results20 _ _ (w.heap.size + 1 + 1) 24 E5 _ .nilIface (by kernel_rfl) (by kernel_rfl) (Blk.setRow HR5.out _) Tryz.underlying24 (by kernel_rfl) HI5.out) (by kernel_rfl) ?_
  refine ⟨E5, rfl, HU5.out.congr (fun i hi => ?_), below_setRow HW5.out (by omega) _⟩
  obtain ⟨hzc, hc, hq⟩ := HZC.out
  obtain ⟨hs, hu⟩ := HS.out
  rw [hc, hq, hzc]
  unfold doneZ
  subst hs hu
  rw [HANE.out]
  simp only [show ¬ (1 ≤ 26 ∧ 26 < 1 + 17) by decide, show ¬ (1 ≤ 28 ∧ 28 < 1 + 17) by decide, if_false]
end Go.Proofs.YtkoflhjnpilchaaGreatDoor
