/-
  What the reference's Queue, Stack, Deque and Heap return, and the program's, in one wording by kinds: for lists of at most 60 numbers.
  What gristmillref.Thing's Do returns: for a thing that is one, and any operation that is right.
  What gristmillref.Thing's Do returns, at any kind: for a thing that is one, and an operation that is right.
-/
import Derived.Test.YtkoflhjnpilchaaGreatDoorMBase
import Derived.Test.YtkoflhjnpilchaaGreatDoorMSets
import Derived.Test.YtkoflhjnpilchaaGreatDoorMKeep
import Derived.Test.YtkoflhjnpilchaaGreatDoorLists
import Derived.Test.YtkoflhjnpilchaaGreatDoorRDeque
import Derived.Test.YtkoflhjnpilchaaGreatDoorRHeapA
import Derived.Test.YtkoflhjnpilchaaGreatDoorMTh
import Derived.Test.YtkoflhjnpilchaaGreatDoorMRT

namespace Go.Proofs.YtkoflhjnpilchaaGreatDoor
set_option linter.unusedSimpArgs false
set_option linter.unusedVariables false
set_option linter.unusedSectionVars false
set_option linter.unusedSimpArgs false
set_option linter.unusedVariables false
set_option linter.unusedSectionVars false
open Go.RowKit

theorem queue_eq (xs : List Int) (a v : Int) : qsY xs a v 0 = queueY xs a v ∧ qsC xs a = queueC xs a ∧ qsV xs a 0 = queueV xs a := by
  refine ⟨?_, ?_, ?_⟩
  · simp only [qsY, endsY, queueY]
    (repeat' split) <;> first | rfl | (exfalso; omega) | (simp_all; done) | skip
  · simp only [qsC, endsC, queueC]
    (repeat' split) <;> first | rfl | (exfalso; omega) | (simp_all; done) | skip
  · simp only [qsV, endsV, queueV]
    (repeat' split) <;> first | rfl | (exfalso; omega) | (simp_all; done) | skip
theorem stack_eq (xs : List Int) (a v : Int) : qsY xs a v (xs.length - 1) = stackY xs a v ∧ qsC xs a = stackC xs a ∧ qsV xs a (xs.length - 1) = stackV xs a := by
  refine ⟨?_, ?_, ?_⟩
  · simp only [qsY, endsY, stackY]
    (repeat' split) <;> first | rfl | (exfalso; omega) | (simp_all; done) | skip
    · rename_i h1 h2 h3 h4 h5 h6
      have : xs.length - 1 + 1 = xs.length := by omega
      rw [this, List.drop_length, List.append_nil]
    all_goals (have : xs = [] := List.eq_nil_of_length_eq_zero (by omega); subst this; simp)
  · simp only [qsC, endsC, stackC]
    (repeat' split) <;> first | rfl | (exfalso; omega) | (simp_all; done) | skip
  · simp only [qsV, endsV, stackV]
    (repeat' split) <;> first | rfl | (exfalso; omega) | (simp_all; done) | skip
theorem deque_eq (xs : List Int) (a v : Int) : rdqY xs a v = dqY xs a v ∧ rdqC xs a = dqC xs a ∧ rdqV xs a = dqV xs a := by
  have h3 : decide (a = 3) = true ↔ a = 3 := by simp
  refine ⟨?_, ?_, ?_⟩
  · simp only [rdqY, rdqP, endsY, dqY, h3]
    (repeat' split) <;> first | rfl | (exfalso; omega) | (simp_all; done) | skip
    all_goals (have : xs = [] := List.eq_nil_of_length_eq_zero (by omega); subst this; simp)
  · simp only [rdqC, endsC, dqC]
    (repeat' split) <;> first | rfl | (exfalso; omega) | (simp_all; done) | skip
  · simp only [rdqV, rdqP, endsV, dqV]
    (repeat' split) <;> first | rfl | (exfalso; omega) | (simp_all; done) | skip

theorem l1 (xs : List Int) (a v : Int) : lY 1 xs a v = queueY xs a v ∧ lC 1 xs a = queueC xs a ∧ lV 1 xs a = queueV xs a := ⟨rfl, rfl, rfl⟩
theorem l2 (xs : List Int) (a v : Int) : lY 2 xs a v = stackY xs a v ∧ lC 2 xs a = stackC xs a ∧ lV 2 xs a = stackV xs a := ⟨rfl, rfl, rfl⟩
theorem l3 (xs : List Int) (a v : Int) : lY 3 xs a v = dqY xs a v ∧ lC 3 xs a = dqC xs a ∧ lV 3 xs a = dqV xs a := ⟨rfl, rfl, rfl⟩
theorem l4 (xs : List Int) (a v : Int) : lY 4 xs a v = heapY xs a v ∧ lC 4 xs a = heapC xs a ∧ lV 4 xs a = heapV xs a := ⟨rfl, rfl, rfl⟩

section
variable (A : Option Addr) (n c : Nat) (xs : List Int) (a k v : Int) (w : World)
theorem refL1 (h : SlI w A n c xs) (hn : n ≤ 60) (hv : -9223372036854775808 ≤ v ∧ v ≤ 9223372036854775807) :
    Calls Tryz.prog 44 #[.slice A n c, .agg #[.int .i64 a, .int .i64 k, .int .i64 v]] w (RetJ A n (lY 1 xs a v) (lC 1 xs a) (lV 1 xs a) w) := by
  obtain ⟨e1, e2, e3⟩ := l1 xs a v
  obtain ⟨f1, f2, f3⟩ := queue_eq xs a v
  rw [e1, e2, e3, ← f1, ← f2, ← f3]
  exact refQueue_any A n c xs a k v w h hn hv
theorem refL2 (h : SlI w A n c xs) (hn : n ≤ 60) (hv : -9223372036854775808 ≤ v ∧ v ≤ 9223372036854775807) :
    Calls Tryz.prog 45 #[.slice A n c, .agg #[.int .i64 a, .int .i64 k, .int .i64 v]] w (RetJ A n (lY 2 xs a v) (lC 2 xs a) (lV 2 xs a) w) := by
  obtain ⟨e1, e2, e3⟩ := l2 xs a v
  obtain ⟨f1, f2, f3⟩ := stack_eq xs a v
  rw [e1, e2, e3, ← f1, ← f2, ← f3, h.len]
  exact refStack_any A n c xs a k v w h hn hv
theorem refL3 (h : SlI w A n c xs) (hn : n ≤ 60) (hv : -9223372036854775808 ≤ v ∧ v ≤ 9223372036854775807) :
    Calls Tryz.prog 46 #[.slice A n c, .agg #[.int .i64 a, .int .i64 k, .int .i64 v]] w (RetJ A n (lY 3 xs a v) (lC 3 xs a) (lV 3 xs a) w) := by
  obtain ⟨e1, e2, e3⟩ := l3 xs a v
  obtain ⟨f1, f2, f3⟩ := deque_eq xs a v
  rw [e1, e2, e3, ← f1, ← f2, ← f3]
  exact refDeque_any A n c xs a k v w h hn hv
theorem refL4 (h : SlI w A n c xs) (hn : n ≤ 60) (hv : -9223372036854775808 ≤ v ∧ v ≤ 9223372036854775807) :
    Calls Tryz.prog 47 #[.slice A n c, .agg #[.int .i64 a, .int .i64 k, .int .i64 v]] w (RetJ A n (lY 4 xs a v) (lC 4 xs a) (lV 4 xs a) w) := by
  obtain ⟨e1, e2, e3⟩ := l4 xs a v
  rw [e1, e2, e3]
  exact (refHeap_any A n c xs a k v w h hn hv).mono fun _ _ h => h.weakJ A n
theorem proL1 (h : SlI w A n c xs) (hn : n ≤ 60) (hv : -9223372036854775808 ≤ v ∧ v ≤ 9223372036854775807) :
    Calls Tryz.prog 64 #[.slice A n c, .agg #[.int .i64 a, .int .i64 k, .int .i64 v]] w (RetL (lY 1 xs a v) (lC 1 xs a) (lV 1 xs a) w) := by
  obtain ⟨e1, e2, e3⟩ := l1 xs a v
  rw [e1, e2, e3]
  exact (queue_any A n c xs a k v w h hn hv)
theorem proL2 (h : SlI w A n c xs) (hn : n ≤ 60) (hv : -9223372036854775808 ≤ v ∧ v ≤ 9223372036854775807) :
    Calls Tryz.prog 65 #[.slice A n c, .agg #[.int .i64 a, .int .i64 k, .int .i64 v]] w (RetL (lY 2 xs a v) (lC 2 xs a) (lV 2 xs a) w) := by
  obtain ⟨e1, e2, e3⟩ := l2 xs a v
  rw [e1, e2, e3]
  exact (stack_any A n c xs a k v w h hn hv)
theorem proL3 (h : SlI w A n c xs) (hn : n ≤ 60) (hv : -9223372036854775808 ≤ v ∧ v ≤ 9223372036854775807) :
    Calls Tryz.prog 66 #[.slice A n c, .agg #[.int .i64 a, .int .i64 k, .int .i64 v]] w (RetL (lY 3 xs a v) (lC 3 xs a) (lV 3 xs a) w) := by
  obtain ⟨e1, e2, e3⟩ := l3 xs a v
  rw [e1, e2, e3]
  exact (deque_any A n c xs a k v w h hn hv)
theorem proL4 (h : SlI w A n c xs) (hn : n ≤ 60) (hv : -9223372036854775808 ≤ v ∧ v ≤ 9223372036854775807) :
    Calls Tryz.prog 67 #[.slice A n c, .agg #[.int .i64 a, .int .i64 k, .int .i64 v]] w (RetL (lY 4 xs a v) (lC 4 xs a) (lV 4 xs a) w) := by
  obtain ⟨e1, e2, e3⟩ := l4 xs a v
  rw [e1, e2, e3]
  exact (heap_any A n c xs a k v w h hn hv)
end
end Go.Proofs.YtkoflhjnpilchaaGreatDoor

namespace Go.Proofs.YtkoflhjnpilchaaGreatDoor
set_option linter.unusedSimpArgs false
set_option linter.unusedVariables false
set_option linter.unusedSectionVars false
open Go.RowKit
set_option linter.unusedSimpArgs false
set_option linter.unusedVariables false
attribute [local go_sem ↓] Go.wp_at_zero Go.wp_at_succ

/-- A thing and an answer. -/
def DoOut (T : Array Value → World → Prop) (code val : Int) (w : World) (e : Ending) (w' : World) : Prop :=
  Below w.heap.size w w' ∧ ∃ C, C.size = 19 ∧ C.all (·.oneCell') = true ∧ e = .returned (.tuple #[.agg C, .agg #[.int .i64 code, .int .i64 val]]) ∧ T C w'
theorem two_one (c x : Int) : (#[Value.int .i64 c, Value.int .i64 x] : Array Value).all (·.oneCell') = true := by kernel_rfl
theorem infoAn : (Tryz.prog.info? 51).map (·.size) = some 2 := by kernel_rfl
theorem SlI.farc {w : World} {A : Option Addr} {n c : Nat} {xs : List Int} (h : SlI w A n c xs) {p : Addr} (hp : 0 < n → ∀ b, A = some b → b.block ≠ p.block) (u : Value) : SlI (w.setCell p u) A n c xs :=
  ⟨h.len, h.cap, h.cap63, h.bd, fun hn => by
    obtain ⟨b, off, rfl, hlt, hc⟩ := h.at_ hn
    refine ⟨b, off, rfl, by simpa using hlt, fun i hi => ?_⟩
    rw [World.cell?_setCell_far _ _ _ _ (show p.block ≠ b from fun e => hp hn _ rfl e.symm)]
    exact hc i hi⟩
theorem sli_keeps {S : Nat → Prop} {w w' : World} {A : Option Addr} {n c : Nat} {xs : List Int} (h : SlI w A n c xs) (hk : Keeps S w w') (hS : 0 < n → ∀ b, A = some b → ¬ S b.block) : SlI w' A n c xs :=
  ⟨h.len, h.cap, h.cap63, h.bd, fun hn => by
    obtain ⟨b, off, rfl, hlt, hc⟩ := h.at_ hn
    exact ⟨b, off, rfl, Nat.lt_of_lt_of_le hlt hk.size, fun i hi => (hk.cell (p := ⟨b, off + i, none⟩) hlt (hS hn ⟨b, off, none⟩ rfl)).trans (hc i hi)⟩⟩
/-- The boxes that Do lays: the thing, the operation, the two results, the answer. -/
structure DoSt (w W : World) (C : Array Value) (a k v c x : Int) : Prop where
  thing : Blk W w.heap.size 49 C
  op : Blk W (w.heap.size + 1) 61 #[.int .i64 a, .int .i64 k, .int .i64 v]
  res : Blk W (w.heap.size + 2) 49 (tz 0)
  ans : Blk W (w.heap.size + 3) 51 #[.int .i64 0, .int .i64 0]
  tmp : Blk W (w.heap.size + 4) 51 #[.int .i64 c, .int .i64 x]
  below : Below w.heap.size w W
theorem DoSt.mk_ (w : World) (C : Array Value) (a k v : Int) :
    DoSt w (((((w.alloc (.cells C 49)).alloc (.cells #[.int .i64 a, .int .i64 k, .int .i64 v] 61)).alloc (.cells (tz 0) 49)).alloc (.cells #[.int .i64 0, .int .i64 0] 51)).alloc (.cells #[.int .i64 0, .int .i64 0] 51)) C a k v 0 0 :=
  ⟨((((Blk.new _ _ _).alloc _).alloc _).alloc _).alloc _, ((((Blk.newAt _ _ _ (by simp))).alloc _).alloc _).alloc _, (((Blk.newAt _ _ _ (by simp))).alloc _).alloc _, (Blk.newAt _ _ _ (by simp)).alloc _, Blk.newAt _ _ _ (by simp), by go_grown⟩
theorem DoSt.on {w W W' : World} {C : Array Value} {a k v c x : Int} (h : DoSt w W C a k v c x) (hb : Below W.heap.size W W') : DoSt w W' C a k v c x :=
  ⟨h.thing.below hb h.thing.lt, h.op.below hb h.op.lt, h.res.below hb h.res.lt, h.ans.below hb h.ans.lt, h.tmp.below hb h.tmp.lt, h.below.trans (hb.mono h.below.size)⟩
theorem DoSt.answer {w W : World} {C : Array Value} {a k v c x : Int} (h : DoSt w W C a k v c x) (c' x' : Int) :
    DoSt w ((W.setCell ⟨w.heap.size + 4, 0, none⟩ (.int .i64 c')).setCell ⟨w.heap.size + 4, 1, none⟩ (.int .i64 x')) C a k v c' x' :=
  ⟨(h.thing.far (by simp) _).far (by simp) _, (h.op.far (by simp) _).far (by simp) _, (h.res.far (by simp) _).far (by simp) _, (h.ans.far (by simp) _).far (by simp) _, (h.tmp.set_ 0 _).set_ 1 _,
    (h.below.setCell (by show w.heap.size ≤ w.heap.size + 4; omega) _).setCell (by show w.heap.size ≤ w.heap.size + 4; omega) _⟩
theorem DoSt.cell {w W : World} {C : Array Value} {a k v c x : Int} (h : DoSt w W C a k v c x) (i : Nat) (u : Value) : DoSt w (W.setCell ⟨w.heap.size, i, none⟩ u) (C.setIfInBounds i u) a k v c x :=
  ⟨h.thing.set_ i u, h.op.far (by simp) _, h.res.far (by simp) _, h.ans.far (by simp) _, h.tmp.far (by simp) _, h.below.setCell (Nat.le_refl _) _⟩
theorem DoSt.answerRow {w W : World} {C : Array Value} {a k v c x : Int} (h : DoSt w W C a k v c x) (c' x' : Int) : DoSt w (W.setRow (w.heap.size + 4) #[.int .i64 c', .int .i64 x']) C a k v c' x' :=
  ⟨(setRow_other _ _ _ _ (by omega)).trans h.thing, (setRow_other _ _ _ _ (by omega)).trans h.op, (setRow_other _ _ _ _ (by omega)).trans h.res, (setRow_other _ _ _ _ (by omega)).trans h.ans, Blk.setRow h.tmp _, below_setRow h.below (by omega) _⟩
theorem I64s.ex (y : Nat → Int) (n : Nat) (hb : ∀ i, i < n → -9223372036854775808 ≤ y i ∧ y i ≤ 9223372036854775807) : ∃ D, I64s D n y :=
  ⟨((List.range n).map fun i => Value.int .i64 (y i)).toArray, by simp, fun i hi => by simp [hi], hb⟩
theorem ThR.setS {C D : Array Value} {y d : Nat → Int} (h : ThR C 5 none 0 0 d 0) (hD : I64s D 16 y) : ThR (setsA C 2 D.toList) 5 none 0 0 y 0 := by
  have hs := h.size
  have hl : D.toList.length = 16 := by rw [Array.length_toList, hD.size]
  refine ⟨by rw [setsA_size]; exact hs, ?_, ?_, fun i hi => ?_, ?_⟩
  · rw [setsA_out (.inl (by omega))]; exact h.kind_
  · rw [setsA_out (.inl (by omega))]; exact h.list
  · rw [setsA_in (by omega) (by omega), Array.getElem?_toList]; exact hD.get i hi
  · rw [setsA_out (.inr (by omega))]; exact h.num
theorem DoSt.cells {w W : World} {C : Array Value} {a k v c x : Int} (h : DoSt w W C a k v c x) (o : Nat) (vs : List Value) : DoSt w (W.setCells w.heap.size o vs) (setsA C o vs) a k v c x :=
  ⟨h.thing.setCells, h.op.far_cells (by simp) _ _, h.res.far_cells (by simp) _ _, h.ans.far_cells (by simp) _ _, h.tmp.far_cells (by simp) _ _, below_setCells_ h.below (Nat.le_refl _) _ _⟩

set_option maxRecDepth 100000 in
set_option maxHeartbeats 4000000 in
theorem do_l1 (C : Array Value) (A : Option Addr) (n c : Nat) (xs : List Int) (a k v : Int) (w : World) (h : ThR C 1 A n c (fun _ => 0) 0) (hs : SlI w A n c xs) (hn : n ≤ 60) (hv : -9223372036854775808 ≤ v ∧ v ≤ 9223372036854775807) :
    Calls Tryz.prog 27 #[.agg C, .agg #[.int .i64 a, .int .i64 k, .int .i64 v]] w
      (DoOut (fun D w' => ∃ A' n' c', ThR D 1 A' n' c' (fun _ => 0) 0 ∧ SlI w' A' n' c' (lY 1 xs a v)) (lC 1 xs a) (lV 1 xs a) w) := by
  have c0 := h.kind_
  have c1 := h.list
  have H := Lib.hid h
  have HS := Lib.hid hs
  have HV := Lib.hid hv
  have HST := Lib.hid (DoSt.mk_ w C a k v)
  clear h hs hv
  go_enter Tryz.func27, Tryz.ntmps27
  go_wp2_with fail
  refine (refL1 A n c xs a k v _ (HS.out.below HST.out.below) hn HV.out).mono ?_
  rintro e w1 ⟨A1, n1, c2, rfl, hs1, hb1, hup⟩
  have HS1 := Lib.hid hs1
  have HUP : Hid (0 < n1 → ∀ b, A1 = some b → b.block < w.heap.size ∨ w.heap.size + 5 ≤ b.block) := Lib.hid fun hn1 b hb => by
    rcases hup hn1 with ⟨h1, h2⟩ | h1
    · left
      subst h1
      obtain ⟨b', off, he, hlt, _⟩ := HS.out.at_ (by omega)
      rw [hb] at he
      cases he
      exact hlt
    · right
      have := h1 b hb
      simp at this
      omega
  clear hup
  have HT1 := Lib.hid (HST.out.on hb1)
  have t1 := (HT1.out.thing.cell 1).trans c1
  have f1 := HT1.out.thing.frozen 1
  have a0 := HT1.out.tmp.cell 0
  have a1 := HT1.out.tmp.cell 1
  have f2 := HT1.out.tmp.frozen 0
  have f3 := HT1.out.tmp.frozen 1
  simp only [List.getElem?_toArray, List.getElem?_cons_zero, List.getElem?_cons_succ] at a0 a1
  have HT2 := Lib.hid ((HT1.out.cell 1 (.slice A1 n1 c2)).answer (lC 1 xs a) (lV 1 xs a))
  have HTH := Lib.hid (H.out.setL A1 n1 c2)
  have HIC : Hid ((Tryz.prog.info? 49).map (·.size) = some (C.setIfInBounds 1 (.slice A1 n1 c2)).size) := by show _ = _; rw [infoTh, HTH.out.size]
  have HSZ := Lib.hid HTH.out.size
  have HONE := Lib.hid (thr_one HTH.out)
  clear hb1 hs1 c0 c1
  generalize hco : lC 1 xs a = co at *
  generalize hva : lV 1 xs a = va at *
  have HCO := Lib.hid hco
  have HVA := Lib.hid hva
  clear hco hva
  go_wp2_with fail
  have HT3 : Hid (DoSt w (((w1.setCell ⟨w.heap.size, 1, none⟩ (.slice A1 n1 c2)).setCell ⟨w.heap.size + 1 + 1 + 1 + 1, 0, none⟩ (.int .i64 co)).setCell ⟨w.heap.size + 1 + 1 + 1 + 1, 1, none⟩ (.int .i64 va)) (C.setIfInBounds 1 (.slice A1 n1 c2)) a k v co va) := HT2
  have HS3 : Hid (SlI (((w1.setCell ⟨w.heap.size, 1, none⟩ (.slice A1 n1 c2)).setCell ⟨w.heap.size + 1 + 1 + 1 + 1, 0, none⟩ (.int .i64 co)).setCell ⟨w.heap.size + 1 + 1 + 1 + 1, 1, none⟩ (.int .i64 va)) A1 n1 c2 (lY 1 xs a v)) := Lib.hid (((HS1.out.farc (fun hn b hb => by have := HUP.out hn b hb; show b.block ≠ w.heap.size; omega) _).farc (fun hn b hb => by have := HUP.out hn b hb; show b.block ≠ w.heap.size + 1 + 1 + 1 + 1; omega) _).farc (fun hn b hb => by have := HUP.out hn b hb; show b.block ≠ w.heap.size + 1 + 1 + 1 + 1; omega) _)
  clear HT2 HT1 HS1 t1 f1 a0 a1 f2 f3
  generalize ((w1.setCell ⟨w.heap.size, 1, none⟩ (.slice A1 n1 c2)).setCell ⟨w.heap.size + 1 + 1 + 1 + 1, 0, none⟩ (.int .i64 co)).setCell ⟨w.heap.size + 1 + 1 + 1 + 1, 1, none⟩ (.int .i64 va) = W3 at *
  generalize C.setIfInBounds 1 (.slice A1 n1 c2) = C2 at *
  refine wp_region_relyA 3 (fun b => b = w.heap.size + 2) [2] (by kernel_rfl) (by kernel_rfl) ?_
  intro anc HA
  refine wpRely_step (fun K hK => ?_)
  refine .inl ⟨.agg C2, Any, ?_, hK _ _ _ _ ?_⟩
  · simp only [RelyOp, fillE]
    refine ⟨rfl, fun w9 hw9 _ => ?_⟩
    exact relyAt_load_row 49 _ rfl w.heap.size rfl 49 C2 _ ((hw9.block _ HT3.out.thing.lt (by show ¬ w.heap.size = w.heap.size + 2; omega)).trans HT3.out.thing) Tryz.underlying49 rfl HIC.out ⟨⟨rfl, trivial⟩, Keeps.refl _ _⟩
  clear hK K
  try simp only [Act.put, List.setIfInBounds_toArray, List.set_cons_zero, List.set_cons_succ]
  refine wpRely_step (fun K hK => ?_)
  refine .inl ⟨.agg #[.int .i64 co, .int .i64 va], Any, ?_, hK _ _ _ _ ?_⟩
  · simp only [RelyOp, fillE]
    refine ⟨rfl, fun w9 hw9 _ => ?_⟩
    exact relyAt_load_row 51 _ rfl (w.heap.size + 4) rfl 51 #[.int .i64 co, .int .i64 va] _ ((hw9.block _ HT3.out.tmp.lt (by show ¬ w.heap.size + 4 = w.heap.size + 2; omega)).trans HT3.out.tmp) Tryz.underlying51 rfl infoAn ⟨⟨rfl, trivial⟩, Keeps.refl _ _⟩
  clear hK K
  try simp only [Act.put, List.setIfInBounds_toArray, List.set_cons_zero, List.set_cons_succ]
  refine wpRely_step (fun K hK => ?_)
  refine .inl ⟨undef, fun _ w' => Blk w' (w.heap.size + 2) 49 C2, ?_, hK _ _ _ _ ?_⟩
  · simp only [RelyOp, fillE]
    refine ⟨rfl, fun w9 hw9 hmet => ?_⟩
    have hB9 : Blk w9 (w.heap.size + 2) 49 (tz 0) := (hmet.1.block _ HT3.out.res.lt (fun h => calm_out h (by rw [HA.out]; kernel_rfl))).trans HT3.out.res
    exact relyAt_store_row 49 _ _ rfl (w.heap.size + 2) C2 rfl rfl 49 (tz 0) hB9 HIC.out (by rw [HSZ.out]; rfl) HONE.out ⟨⟨rfl, hB9.setRow C2⟩, keeps_setRow (.inl ⟨by decide, rfl⟩) _⟩
  clear hK K
  try simp only [Act.put, List.setIfInBounds_toArray, List.set_cons_zero, List.set_cons_succ]
  refine wpRely_nil ?_
  simp only [fillE]
  intro w9 hw9 hmet
  have HR9 : Hid (Blk w9 (w.heap.size + 2) 49 C2) := Lib.hid (by
    have h1 := hmet.1 rfl
    obtain ⟨w0, k0, k1, hF⟩ := h1
    exact (k1.block _ hF.lt (fun h => calm_out h (by rw [HA.out]; kernel_rfl))).trans hF)
  have HA9 : Hid (Blk w9 (w.heap.size + 3) 51 #[.int .i64 0, .int .i64 0]) := Lib.hid ((hw9.block _ HT3.out.ans.lt (by show ¬ w.heap.size + 3 = w.heap.size + 2; omega)).trans HT3.out.ans)
  have HW9 := Lib.hid (HT3.out.below.trans (hw9.below HT3.out.below.size (fun b hb e => by omega)))
  have HK9 := Lib.hid hw9
  clear hmet hw9
  simp only [List.drop_succ_cons, List.drop_zero]
  go_wp2_with (refine wpList_store_row rfl 51 _ _ rfl (w.heap.size + 3) #[.int .i64 co, .int .i64 va] rfl rfl 51 #[.int .i64 0, .int .i64 0] HA9.out infoAn rfl (two_one _ _) ?_)
  have hR : Blk (w9.setRow (w.heap.size + 3) #[.int .i64 co, .int .i64 va]) (w.heap.size + 2) 49 C2 := (setRow_other _ _ _ _ (by omega)).trans HR9.out
  have hA : Blk (w9.setRow (w.heap.size + 3) #[.int .i64 co, .int .i64 va]) (w.heap.size + 3) 51 #[.int .i64 co, .int .i64 va] := Blk.setRow HA9.out _
  refine bodyPost_ret (results_two_rows Tryz.results27 _ _ (w.heap.size + 2) (w.heap.size + 3) 49 51 C2 #[.int .i64 co, .int .i64 va] _ _ rfl rfl hR hA Tryz.underlying49 rfl HIC.out Tryz.underlying51 rfl infoAn) rfl ⟨below_setRow HW9.out (by omega) _, C2, HSZ.out, HONE.out, by rw [HCO.out, HVA.out], ?_⟩
  exact ⟨A1, n1, c2, HTH.out, (sli_keeps HS3.out HK9.out (fun hn b hb e => by have := HUP.out hn b hb; omega)).setRow (fun hn b hb => by have := HUP.out hn b hb; omega) _⟩

set_option maxRecDepth 100000 in
set_option maxHeartbeats 4000000 in
theorem do_l2 (C : Array Value) (A : Option Addr) (n c : Nat) (xs : List Int) (a k v : Int) (w : World) (h : ThR C 2 A n c (fun _ => 0) 0) (hs : SlI w A n c xs) (hn : n ≤ 60) (hv : -9223372036854775808 ≤ v ∧ v ≤ 9223372036854775807) :
    Calls Tryz.prog 27 #[.agg C, .agg #[.int .i64 a, .int .i64 k, .int .i64 v]] w
      (DoOut (fun D w' => ∃ A' n' c', ThR D 2 A' n' c' (fun _ => 0) 0 ∧ SlI w' A' n' c' (lY 2 xs a v)) (lC 2 xs a) (lV 2 xs a) w) := by
  have c0 := h.kind_
  have c1 := h.list
  have H := Lib.hid h
  have HS := Lib.hid hs
  have HV := Lib.hid hv
  have HST := Lib.hid (DoSt.mk_ w C a k v)
  clear h hs hv
  go_enter Tryz.func27, Tryz.ntmps27
  go_wp2_with fail
  refine (refL2 A n c xs a k v _ (HS.out.below HST.out.below) hn HV.out).mono ?_
  rintro e w1 ⟨A1, n1, c2, rfl, hs1, hb1, hup⟩
  have HS1 := Lib.hid hs1
  have HUP : Hid (0 < n1 → ∀ b, A1 = some b → b.block < w.heap.size ∨ w.heap.size + 5 ≤ b.block) := Lib.hid fun hn1 b hb => by
    rcases hup hn1 with ⟨h1, h2⟩ | h1
    · left
      subst h1
      obtain ⟨b', off, he, hlt, _⟩ := HS.out.at_ (by omega)
      rw [hb] at he
      cases he
      exact hlt
    · right
      have := h1 b hb
      simp at this
      omega
  clear hup
  have HT1 := Lib.hid (HST.out.on hb1)
  have t1 := (HT1.out.thing.cell 1).trans c1
  have f1 := HT1.out.thing.frozen 1
  have a0 := HT1.out.tmp.cell 0
  have a1 := HT1.out.tmp.cell 1
  have f2 := HT1.out.tmp.frozen 0
  have f3 := HT1.out.tmp.frozen 1
  simp only [List.getElem?_toArray, List.getElem?_cons_zero, List.getElem?_cons_succ] at a0 a1
  have HT2 := Lib.hid ((HT1.out.cell 1 (.slice A1 n1 c2)).answer (lC 2 xs a) (lV 2 xs a))
  have HTH := Lib.hid (H.out.setL A1 n1 c2)
  have HIC : Hid ((Tryz.prog.info? 49).map (·.size) = some (C.setIfInBounds 1 (.slice A1 n1 c2)).size) := by show _ = _; rw [infoTh, HTH.out.size]
  have HSZ := Lib.hid HTH.out.size
  have HONE := Lib.hid (thr_one HTH.out)
  clear hb1 hs1 c0 c1
  generalize hco : lC 2 xs a = co at *
  generalize hva : lV 2 xs a = va at *
  have HCO := Lib.hid hco
  have HVA := Lib.hid hva
  clear hco hva
  go_wp2_with fail
  have HT3 : Hid (DoSt w (((w1.setCell ⟨w.heap.size, 1, none⟩ (.slice A1 n1 c2)).setCell ⟨w.heap.size + 1 + 1 + 1 + 1, 0, none⟩ (.int .i64 co)).setCell ⟨w.heap.size + 1 + 1 + 1 + 1, 1, none⟩ (.int .i64 va)) (C.setIfInBounds 1 (.slice A1 n1 c2)) a k v co va) := HT2
  have HS3 : Hid (SlI (((w1.setCell ⟨w.heap.size, 1, none⟩ (.slice A1 n1 c2)).setCell ⟨w.heap.size + 1 + 1 + 1 + 1, 0, none⟩ (.int .i64 co)).setCell ⟨w.heap.size + 1 + 1 + 1 + 1, 1, none⟩ (.int .i64 va)) A1 n1 c2 (lY 2 xs a v)) := Lib.hid (((HS1.out.farc (fun hn b hb => by have := HUP.out hn b hb; show b.block ≠ w.heap.size; omega) _).farc (fun hn b hb => by have := HUP.out hn b hb; show b.block ≠ w.heap.size + 1 + 1 + 1 + 1; omega) _).farc (fun hn b hb => by have := HUP.out hn b hb; show b.block ≠ w.heap.size + 1 + 1 + 1 + 1; omega) _)
  clear HT2 HT1 HS1 t1 f1 a0 a1 f2 f3
  generalize ((w1.setCell ⟨w.heap.size, 1, none⟩ (.slice A1 n1 c2)).setCell ⟨w.heap.size + 1 + 1 + 1 + 1, 0, none⟩ (.int .i64 co)).setCell ⟨w.heap.size + 1 + 1 + 1 + 1, 1, none⟩ (.int .i64 va) = W3 at *
  generalize C.setIfInBounds 1 (.slice A1 n1 c2) = C2 at *
  refine wp_region_relyA 3 (fun b => b = w.heap.size + 2) [2] (by kernel_rfl) (by kernel_rfl) ?_
  intro anc HA
  refine wpRely_step (fun K hK => ?_)
  refine .inl ⟨.agg C2, Any, ?_, hK _ _ _ _ ?_⟩
  · simp only [RelyOp, fillE]
    refine ⟨rfl, fun w9 hw9 _ => ?_⟩
    exact relyAt_load_row 49 _ rfl w.heap.size rfl 49 C2 _ ((hw9.block _ HT3.out.thing.lt (by show ¬ w.heap.size = w.heap.size + 2; omega)).trans HT3.out.thing) Tryz.underlying49 rfl HIC.out ⟨⟨rfl, trivial⟩, Keeps.refl _ _⟩
  clear hK K
  try simp only [Act.put, List.setIfInBounds_toArray, List.set_cons_zero, List.set_cons_succ]
  refine wpRely_step (fun K hK => ?_)
  refine .inl ⟨.agg #[.int .i64 co, .int .i64 va], Any, ?_, hK _ _ _ _ ?_⟩
  · simp only [RelyOp, fillE]
    refine ⟨rfl, fun w9 hw9 _ => ?_⟩
    exact relyAt_load_row 51 _ rfl (w.heap.size + 4) rfl 51 #[.int .i64 co, .int .i64 va] _ ((hw9.block _ HT3.out.tmp.lt (by show ¬ w.heap.size + 4 = w.heap.size + 2; omega)).trans HT3.out.tmp) Tryz.underlying51 rfl infoAn ⟨⟨rfl, trivial⟩, Keeps.refl _ _⟩
  clear hK K
  try simp only [Act.put, List.setIfInBounds_toArray, List.set_cons_zero, List.set_cons_succ]
  refine wpRely_step (fun K hK => ?_)
  refine .inl ⟨undef, fun _ w' => Blk w' (w.heap.size + 2) 49 C2, ?_, hK _ _ _ _ ?_⟩
  · simp only [RelyOp, fillE]
    refine ⟨rfl, fun w9 hw9 hmet => ?_⟩
    have hB9 : Blk w9 (w.heap.size + 2) 49 (tz 0) := (hmet.1.block _ HT3.out.res.lt (fun h => calm_out h (by rw [HA.out]; kernel_rfl))).trans HT3.out.res
    exact relyAt_store_row 49 _ _ rfl (w.heap.size + 2) C2 rfl rfl 49 (tz 0) hB9 HIC.out (by rw [HSZ.out]; rfl) HONE.out ⟨⟨rfl, hB9.setRow C2⟩, keeps_setRow (.inl ⟨by decide, rfl⟩) _⟩
  clear hK K
  try simp only [Act.put, List.setIfInBounds_toArray, List.set_cons_zero, List.set_cons_succ]
  refine wpRely_nil ?_
  simp only [fillE]
  intro w9 hw9 hmet
  have HR9 : Hid (Blk w9 (w.heap.size + 2) 49 C2) := Lib.hid (by
    have h1 := hmet.1 rfl
    obtain ⟨w0, k0, k1, hF⟩ := h1
    exact (k1.block _ hF.lt (fun h => calm_out h (by rw [HA.out]; kernel_rfl))).trans hF)
  have HA9 : Hid (Blk w9 (w.heap.size + 3) 51 #[.int .i64 0, .int .i64 0]) := Lib.hid ((hw9.block _ HT3.out.ans.lt (by show ¬ w.heap.size + 3 = w.heap.size + 2; omega)).trans HT3.out.ans)
  have HW9 := Lib.hid (HT3.out.below.trans (hw9.below HT3.out.below.size (fun b hb e => by omega)))
  have HK9 := Lib.hid hw9
  clear hmet hw9
  simp only [List.drop_succ_cons, List.drop_zero]
  go_wp2_with (refine wpList_store_row rfl 51 _ _ rfl (w.heap.size + 3) #[.int .i64 co, .int .i64 va] rfl rfl 51 #[.int .i64 0, .int .i64 0] HA9.out infoAn rfl (two_one _ _) ?_)
  have hR : Blk (w9.setRow (w.heap.size + 3) #[.int .i64 co, .int .i64 va]) (w.heap.size + 2) 49 C2 := (setRow_other _ _ _ _ (by omega)).trans HR9.out
  have hA : Blk (w9.setRow (w.heap.size + 3) #[.int .i64 co, .int .i64 va]) (w.heap.size + 3) 51 #[.int .i64 co, .int .i64 va] := Blk.setRow HA9.out _
  refine bodyPost_ret (results_two_rows Tryz.results27 _ _ (w.heap.size + 2) (w.heap.size + 3) 49 51 C2 #[.int .i64 co, .int .i64 va] _ _ rfl rfl hR hA Tryz.underlying49 rfl HIC.out Tryz.underlying51 rfl infoAn) rfl ⟨below_setRow HW9.out (by omega) _, C2, HSZ.out, HONE.out, by rw [HCO.out, HVA.out], ?_⟩
  exact ⟨A1, n1, c2, HTH.out, (sli_keeps HS3.out HK9.out (fun hn b hb e => by have := HUP.out hn b hb; omega)).setRow (fun hn b hb => by have := HUP.out hn b hb; omega) _⟩

set_option maxRecDepth 100000 in
set_option maxHeartbeats 4000000 in
theorem do_l3 (C : Array Value) (A : Option Addr) (n c : Nat) (xs : List Int) (a k v : Int) (w : World) (h : ThR C 3 A n c (fun _ => 0) 0) (hs : SlI w A n c xs) (hn : n ≤ 60) (hv : -9223372036854775808 ≤ v ∧ v ≤ 9223372036854775807) :
    Calls Tryz.prog 27 #[.agg C, .agg #[.int .i64 a, .int .i64 k, .int .i64 v]] w
      (DoOut (fun D w' => ∃ A' n' c', ThR D 3 A' n' c' (fun _ => 0) 0 ∧ SlI w' A' n' c' (lY 3 xs a v)) (lC 3 xs a) (lV 3 xs a) w) := by
  have c0 := h.kind_
  have c1 := h.list
  have H := Lib.hid h
  have HS := Lib.hid hs
  have HV := Lib.hid hv
  have HST := Lib.hid (DoSt.mk_ w C a k v)
  clear h hs hv
  go_enter Tryz.func27, Tryz.ntmps27
  go_wp2_with fail
  refine (refL3 A n c xs a k v _ (HS.out.below HST.out.below) hn HV.out).mono ?_
  rintro e w1 ⟨A1, n1, c2, rfl, hs1, hb1, hup⟩
  have HS1 := Lib.hid hs1
  have HUP : Hid (0 < n1 → ∀ b, A1 = some b → b.block < w.heap.size ∨ w.heap.size + 5 ≤ b.block) := Lib.hid fun hn1 b hb => by
    rcases hup hn1 with ⟨h1, h2⟩ | h1
    · left
      subst h1
      obtain ⟨b', off, he, hlt, _⟩ := HS.out.at_ (by omega)
      rw [hb] at he
      cases he
      exact hlt
    · right
      have := h1 b hb
      simp at this
      omega
  clear hup
  have HT1 := Lib.hid (HST.out.on hb1)
  have t1 := (HT1.out.thing.cell 1).trans c1
  have f1 := HT1.out.thing.frozen 1
  have a0 := HT1.out.tmp.cell 0
  have a1 := HT1.out.tmp.cell 1
  have f2 := HT1.out.tmp.frozen 0
  have f3 := HT1.out.tmp.frozen 1
  simp only [List.getElem?_toArray, List.getElem?_cons_zero, List.getElem?_cons_succ] at a0 a1
  have HT2 := Lib.hid ((HT1.out.cell 1 (.slice A1 n1 c2)).answer (lC 3 xs a) (lV 3 xs a))
  have HTH := Lib.hid (H.out.setL A1 n1 c2)
  have HIC : Hid ((Tryz.prog.info? 49).map (·.size) = some (C.setIfInBounds 1 (.slice A1 n1 c2)).size) := by show _ = _; rw [infoTh, HTH.out.size]
  have HSZ := Lib.hid HTH.out.size
  have HONE := Lib.hid (thr_one HTH.out)
  clear hb1 hs1 c0 c1
  generalize hco : lC 3 xs a = co at *
  generalize hva : lV 3 xs a = va at *
  have HCO := Lib.hid hco
  have HVA := Lib.hid hva
  clear hco hva
  go_wp2_with fail
  have HT3 : Hid (DoSt w (((w1.setCell ⟨w.heap.size, 1, none⟩ (.slice A1 n1 c2)).setCell ⟨w.heap.size + 1 + 1 + 1 + 1, 0, none⟩ (.int .i64 co)).setCell ⟨w.heap.size + 1 + 1 + 1 + 1, 1, none⟩ (.int .i64 va)) (C.setIfInBounds 1 (.slice A1 n1 c2)) a k v co va) := HT2
  have HS3 : Hid (SlI (((w1.setCell ⟨w.heap.size, 1, none⟩ (.slice A1 n1 c2)).setCell ⟨w.heap.size + 1 + 1 + 1 + 1, 0, none⟩ (.int .i64 co)).setCell ⟨w.heap.size + 1 + 1 + 1 + 1, 1, none⟩ (.int .i64 va)) A1 n1 c2 (lY 3 xs a v)) := Lib.hid (((HS1.out.farc (fun hn b hb => by have := HUP.out hn b hb; show b.block ≠ w.heap.size; omega) _).farc (fun hn b hb => by have := HUP.out hn b hb; show b.block ≠ w.heap.size + 1 + 1 + 1 + 1; omega) _).farc (fun hn b hb => by have := HUP.out hn b hb; show b.block ≠ w.heap.size + 1 + 1 + 1 + 1; omega) _)
  clear HT2 HT1 HS1 t1 f1 a0 a1 f2 f3
  generalize ((w1.setCell ⟨w.heap.size, 1, none⟩ (.slice A1 n1 c2)).setCell ⟨w.heap.size + 1 + 1 + 1 + 1, 0, none⟩ (.int .i64 co)).setCell ⟨w.heap.size + 1 + 1 + 1 + 1, 1, none⟩ (.int .i64 va) = W3 at *
  generalize C.setIfInBounds 1 (.slice A1 n1 c2) = C2 at *
  refine wp_region_relyA 3 (fun b => b = w.heap.size + 2) [2] (by kernel_rfl) (by kernel_rfl) ?_
  intro anc HA
  refine wpRely_step (fun K hK => ?_)
  refine .inl ⟨.agg C2, Any, ?_, hK _ _ _ _ ?_⟩
  · simp only [RelyOp, fillE]
    refine ⟨rfl, fun w9 hw9 _ => ?_⟩
    exact relyAt_load_row 49 _ rfl w.heap.size rfl 49 C2 _ ((hw9.block _ HT3.out.thing.lt (by show ¬ w.heap.size = w.heap.size + 2; omega)).trans HT3.out.thing) Tryz.underlying49 rfl HIC.out ⟨⟨rfl, trivial⟩, Keeps.refl _ _⟩
  clear hK K
  try simp only [Act.put, List.setIfInBounds_toArray, List.set_cons_zero, List.set_cons_succ]
  refine wpRely_step (fun K hK => ?_)
  refine .inl ⟨.agg #[.int .i64 co, .int .i64 va], Any, ?_, hK _ _ _ _ ?_⟩
  · simp only [RelyOp, fillE]
    refine ⟨rfl, fun w9 hw9 _ => ?_⟩
    exact relyAt_load_row 51 _ rfl (w.heap.size + 4) rfl 51 #[.int .i64 co, .int .i64 va] _ ((hw9.block _ HT3.out.tmp.lt (by show ¬ w.heap.size + 4 = w.heap.size + 2; omega)).trans HT3.out.tmp) Tryz.underlying51 rfl infoAn ⟨⟨rfl, trivial⟩, Keeps.refl _ _⟩
  clear hK K
  try simp only [Act.put, List.setIfInBounds_toArray, List.set_cons_zero, List.set_cons_succ]
  refine wpRely_step (fun K hK => ?_)
  refine .inl ⟨undef, fun _ w' => Blk w' (w.heap.size + 2) 49 C2, ?_, hK _ _ _ _ ?_⟩
  · simp only [RelyOp, fillE]
    refine ⟨rfl, fun w9 hw9 hmet => ?_⟩
    have hB9 : Blk w9 (w.heap.size + 2) 49 (tz 0) := (hmet.1.block _ HT3.out.res.lt (fun h => calm_out h (by rw [HA.out]; kernel_rfl))).trans HT3.out.res
    exact relyAt_store_row 49 _ _ rfl (w.heap.size + 2) C2 rfl rfl 49 (tz 0) hB9 HIC.out (by rw [HSZ.out]; rfl) HONE.out ⟨⟨rfl, hB9.setRow C2⟩, keeps_setRow (.inl ⟨by decide, rfl⟩) _⟩
  clear hK K
  try simp only [Act.put, List.setIfInBounds_toArray, List.set_cons_zero, List.set_cons_succ]
  refine wpRely_nil ?_
  simp only [fillE]
  intro w9 hw9 hmet
  have HR9 : Hid (Blk w9 (w.heap.size + 2) 49 C2) := Lib.hid (by
    have h1 := hmet.1 rfl
    obtain ⟨w0, k0, k1, hF⟩ := h1
    exact (k1.block _ hF.lt (fun h => calm_out h (by rw [HA.out]; kernel_rfl))).trans hF)
  have HA9 : Hid (Blk w9 (w.heap.size + 3) 51 #[.int .i64 0, .int .i64 0]) := Lib.hid ((hw9.block _ HT3.out.ans.lt (by show ¬ w.heap.size + 3 = w.heap.size + 2; omega)).trans HT3.out.ans)
  have HW9 := Lib.hid (HT3.out.below.trans (hw9.below HT3.out.below.size (fun b hb e => by omega)))
  have HK9 := Lib.hid hw9
  clear hmet hw9
  simp only [List.drop_succ_cons, List.drop_zero]
  go_wp2_with (refine wpList_store_row rfl 51 _ _ rfl (w.heap.size + 3) #[.int .i64 co, .int .i64 va] rfl rfl 51 #[.int .i64 0, .int .i64 0] HA9.out infoAn rfl (two_one _ _) ?_)
  have hR : Blk (w9.setRow (w.heap.size + 3) #[.int .i64 co, .int .i64 va]) (w.heap.size + 2) 49 C2 := (setRow_other _ _ _ _ (by omega)).trans HR9.out
  have hA : Blk (w9.setRow (w.heap.size + 3) #[.int .i64 co, .int .i64 va]) (w.heap.size + 3) 51 #[.int .i64 co, .int .i64 va] := Blk.setRow HA9.out _
  refine bodyPost_ret (results_two_rows Tryz.results27 _ _ (w.heap.size + 2) (w.heap.size + 3) 49 51 C2 #[.int .i64 co, .int .i64 va] _ _ rfl rfl hR hA Tryz.underlying49 rfl HIC.out Tryz.underlying51 rfl infoAn) rfl ⟨below_setRow HW9.out (by omega) _, C2, HSZ.out, HONE.out, by rw [HCO.out, HVA.out], ?_⟩
  exact ⟨A1, n1, c2, HTH.out, (sli_keeps HS3.out HK9.out (fun hn b hb e => by have := HUP.out hn b hb; omega)).setRow (fun hn b hb => by have := HUP.out hn b hb; omega) _⟩

set_option maxRecDepth 100000 in
set_option maxHeartbeats 4000000 in
theorem do_l4 (C : Array Value) (A : Option Addr) (n c : Nat) (xs : List Int) (a k v : Int) (w : World) (h : ThR C 4 A n c (fun _ => 0) 0) (hs : SlI w A n c xs) (hn : n ≤ 60) (hv : -9223372036854775808 ≤ v ∧ v ≤ 9223372036854775807) :
    Calls Tryz.prog 27 #[.agg C, .agg #[.int .i64 a, .int .i64 k, .int .i64 v]] w
      (DoOut (fun D w' => ∃ A' n' c', ThR D 4 A' n' c' (fun _ => 0) 0 ∧ SlI w' A' n' c' (lY 4 xs a v)) (lC 4 xs a) (lV 4 xs a) w) := by
  have c0 := h.kind_
  have c1 := h.list
  have H := Lib.hid h
  have HS := Lib.hid hs
  have HV := Lib.hid hv
  have HST := Lib.hid (DoSt.mk_ w C a k v)
  clear h hs hv
  go_enter Tryz.func27, Tryz.ntmps27
  go_wp2_with fail
  refine (refL4 A n c xs a k v _ (HS.out.below HST.out.below) hn HV.out).mono ?_
  rintro e w1 ⟨A1, n1, c2, rfl, hs1, hb1, hup⟩
  have HS1 := Lib.hid hs1
  have HUP : Hid (0 < n1 → ∀ b, A1 = some b → b.block < w.heap.size ∨ w.heap.size + 5 ≤ b.block) := Lib.hid fun hn1 b hb => by
    rcases hup hn1 with ⟨h1, h2⟩ | h1
    · left
      subst h1
      obtain ⟨b', off, he, hlt, _⟩ := HS.out.at_ (by omega)
      rw [hb] at he
      cases he
      exact hlt
    · right
      have := h1 b hb
      simp at this
      omega
  clear hup
  have HT1 := Lib.hid (HST.out.on hb1)
  have t1 := (HT1.out.thing.cell 1).trans c1
  have f1 := HT1.out.thing.frozen 1
  have a0 := HT1.out.tmp.cell 0
  have a1 := HT1.out.tmp.cell 1
  have f2 := HT1.out.tmp.frozen 0
  have f3 := HT1.out.tmp.frozen 1
  simp only [List.getElem?_toArray, List.getElem?_cons_zero, List.getElem?_cons_succ] at a0 a1
  have HT2 := Lib.hid ((HT1.out.cell 1 (.slice A1 n1 c2)).answer (lC 4 xs a) (lV 4 xs a))
  have HTH := Lib.hid (H.out.setL A1 n1 c2)
  have HIC : Hid ((Tryz.prog.info? 49).map (·.size) = some (C.setIfInBounds 1 (.slice A1 n1 c2)).size) := by show _ = _; rw [infoTh, HTH.out.size]
  have HSZ := Lib.hid HTH.out.size
  have HONE := Lib.hid (thr_one HTH.out)
  clear hb1 hs1 c0 c1
  generalize hco : lC 4 xs a = co at *
  generalize hva : lV 4 xs a = va at *
  have HCO := Lib.hid hco
  have HVA := Lib.hid hva
  clear hco hva
  go_wp2_with fail
  have HT3 : Hid (DoSt w (((w1.setCell ⟨w.heap.size, 1, none⟩ (.slice A1 n1 c2)).setCell ⟨w.heap.size + 1 + 1 + 1 + 1, 0, none⟩ (.int .i64 co)).setCell ⟨w.heap.size + 1 + 1 + 1 + 1, 1, none⟩ (.int .i64 va)) (C.setIfInBounds 1 (.slice A1 n1 c2)) a k v co va) := HT2
  have HS3 : Hid (SlI (((w1.setCell ⟨w.heap.size, 1, none⟩ (.slice A1 n1 c2)).setCell ⟨w.heap.size + 1 + 1 + 1 + 1, 0, none⟩ (.int .i64 co)).setCell ⟨w.heap.size + 1 + 1 + 1 + 1, 1, none⟩ (.int .i64 va)) A1 n1 c2 (lY 4 xs a v)) := Lib.hid (((HS1.out.farc (fun hn b hb => by have := HUP.out hn b hb; show b.block ≠ w.heap.size; omega) _).farc (fun hn b hb => by have := HUP.out hn b hb; show b.block ≠ w.heap.size + 1 + 1 + 1 + 1; omega) _).farc (fun hn b hb => by have := HUP.out hn b hb; show b.block ≠ w.heap.size + 1 + 1 + 1 + 1; omega) _)
  clear HT2 HT1 HS1 t1 f1 a0 a1 f2 f3
  generalize ((w1.setCell ⟨w.heap.size, 1, none⟩ (.slice A1 n1 c2)).setCell ⟨w.heap.size + 1 + 1 + 1 + 1, 0, none⟩ (.int .i64 co)).setCell ⟨w.heap.size + 1 + 1 + 1 + 1, 1, none⟩ (.int .i64 va) = W3 at *
  generalize C.setIfInBounds 1 (.slice A1 n1 c2) = C2 at *
  refine wp_region_relyA 3 (fun b => b = w.heap.size + 2) [2] (by kernel_rfl) (by kernel_rfl) ?_
  intro anc HA
  refine wpRely_step (fun K hK => ?_)
  refine .inl ⟨.agg C2, Any, ?_, hK _ _ _ _ ?_⟩
  · simp only [RelyOp, fillE]
    refine ⟨rfl, fun w9 hw9 _ => ?_⟩
    exact relyAt_load_row 49 _ rfl w.heap.size rfl 49 C2 _ ((hw9.block _ HT3.out.thing.lt (by show ¬ w.heap.size = w.heap.size + 2; omega)).trans HT3.out.thing) Tryz.underlying49 rfl HIC.out ⟨⟨rfl, trivial⟩, Keeps.refl _ _⟩
  clear hK K
  try simp only [Act.put, List.setIfInBounds_toArray, List.set_cons_zero, List.set_cons_succ]
  refine wpRely_step (fun K hK => ?_)
  refine .inl ⟨.agg #[.int .i64 co, .int .i64 va], Any, ?_, hK _ _ _ _ ?_⟩
  · simp only [RelyOp, fillE]
    refine ⟨rfl, fun w9 hw9 _ => ?_⟩
    exact relyAt_load_row 51 _ rfl (w.heap.size + 4) rfl 51 #[.int .i64 co, .int .i64 va] _ ((hw9.block _ HT3.out.tmp.lt (by show ¬ w.heap.size + 4 = w.heap.size + 2; omega)).trans HT3.out.tmp) Tryz.underlying51 rfl infoAn ⟨⟨rfl, trivial⟩, Keeps.refl _ _⟩
  clear hK K
  try simp only [Act.put, List.setIfInBounds_toArray, List.set_cons_zero, List.set_cons_succ]
  refine wpRely_step (fun K hK => ?_)
  refine .inl ⟨undef, fun _ w' => Blk w' (w.heap.size + 2) 49 C2, ?_, hK _ _ _ _ ?_⟩
  · simp only [RelyOp, fillE]
    refine ⟨rfl, fun w9 hw9 hmet => ?_⟩
    have hB9 : Blk w9 (w.heap.size + 2) 49 (tz 0) := (hmet.1.block _ HT3.out.res.lt (fun h => calm_out h (by rw [HA.out]; kernel_rfl))).trans HT3.out.res
    exact relyAt_store_row 49 _ _ rfl (w.heap.size + 2) C2 rfl rfl 49 (tz 0) hB9 HIC.out (by rw [HSZ.out]; rfl) HONE.out ⟨⟨rfl, hB9.setRow C2⟩, keeps_setRow (.inl ⟨by decide, rfl⟩) _⟩
  clear hK K
  try simp only [Act.put, List.setIfInBounds_toArray, List.set_cons_zero, List.set_cons_succ]
  refine wpRely_nil ?_
  simp only [fillE]
  intro w9 hw9 hmet
  have HR9 : Hid (Blk w9 (w.heap.size + 2) 49 C2) := Lib.hid (by
    have h1 := hmet.1 rfl
    obtain ⟨w0, k0, k1, hF⟩ := h1
    exact (k1.block _ hF.lt (fun h => calm_out h (by rw [HA.out]; kernel_rfl))).trans hF)
  have HA9 : Hid (Blk w9 (w.heap.size + 3) 51 #[.int .i64 0, .int .i64 0]) := Lib.hid ((hw9.block _ HT3.out.ans.lt (by show ¬ w.heap.size + 3 = w.heap.size + 2; omega)).trans HT3.out.ans)
  have HW9 := Lib.hid (HT3.out.below.trans (hw9.below HT3.out.below.size (fun b hb e => by omega)))
  have HK9 := Lib.hid hw9
  clear hmet hw9
  simp only [List.drop_succ_cons, List.drop_zero]
  go_wp2_with (refine wpList_store_row rfl 51 _ _ rfl (w.heap.size + 3) #[.int .i64 co, .int .i64 va] rfl rfl 51 #[.int .i64 0, .int .i64 0] HA9.out infoAn rfl (two_one _ _) ?_)
  have hR : Blk (w9.setRow (w.heap.size + 3) #[.int .i64 co, .int .i64 va]) (w.heap.size + 2) 49 C2 := (setRow_other _ _ _ _ (by omega)).trans HR9.out
  have hA : Blk (w9.setRow (w.heap.size + 3) #[.int .i64 co, .int .i64 va]) (w.heap.size + 3) 51 #[.int .i64 co, .int .i64 va] := Blk.setRow HA9.out _
  refine bodyPost_ret (results_two_rows Tryz.results27 _ _ (w.heap.size + 2) (w.heap.size + 3) 49 51 C2 #[.int .i64 co, .int .i64 va] _ _ rfl rfl hR hA Tryz.underlying49 rfl HIC.out Tryz.underlying51 rfl infoAn) rfl ⟨below_setRow HW9.out (by omega) _, C2, HSZ.out, HONE.out, by rw [HCO.out, HVA.out], ?_⟩
  exact ⟨A1, n1, c2, HTH.out, (sli_keeps HS3.out HK9.out (fun hn b hb e => by have := HUP.out hn b hb; omega)).setRow (fun hn b hb => by have := HUP.out hn b hb; omega) _⟩

set_option maxRecDepth 100000 in
set_option maxHeartbeats 4000000 in
theorem do_table (C D : Array Value) (z : Nat → Int) (a k v : Int) (m : Nat) (w : World) (h : ThR C 5 none 0 0 z 0) (hz : ∀ i, i < 16 → -9223372036854775808 ≤ z i ∧ z i ≤ 9223372036854775807) (hr : rightT z = true) (hv : -9223372036854775808 ≤ v ∧ v ≤ 9223372036854775807) (hm : tabM z a k m) (hD : I64s D 16 (tabY z a k v m)) :
    Calls Tryz.prog 27 #[.agg C, .agg #[.int .i64 a, .int .i64 k, .int .i64 v]] w
      (DoOut (fun D w' => ThR D 5 none 0 0 (tabY z a k v m) 0) (tabC z a k) (tabV z a k) w) := by
  have c0 := h.kind_
  obtain ⟨E, hE⟩ : ∃ E, E = C.extract 2 18 := ⟨_, rfl⟩
  have hI : I64s E 16 z := by
    have hs := h.size
    refine ⟨by rw [hE]; simp; omega, fun i hi => ?_, hz⟩
    rw [hE, Array.getElem?_extract, if_pos (by omega)]
    exact h.slot i hi
  have H := Lib.hid h
  have HE := Lib.hid hE
  have HI := Lib.hid hI
  have HES := Lib.hid hI.size
  have HDS := Lib.hid hD.size
  have HD := Lib.hid hD
  have HCALL : Hid (∀ W : World, Calls Tryz.prog 48 #[.agg E, .agg #[.int .i64 a, .int .i64 k, .int .i64 v]] W fun e w' => e = .returned (.tuple #[.agg D, .agg #[.int .i64 (tabC z a k), .int .i64 (tabV z a k)]]) ∧ Below W.heap.size W w') := Lib.hid fun W => rtab_any E D z a k v m W hI hr hv hm hD
  have HST := Lib.hid (DoSt.mk_ w C a k v)
  clear h hE hI hD hz hr hv hm
  generalize hco : tabC z a k = co at *
  generalize hva : tabV z a k = va at *
  have HCO := Lib.hid hco
  have HVA := Lib.hid hva
  clear hco hva
  go_enter Tryz.func27, Tryz.ntmps27
  go_wp2_with (refine wpList_load_mid rfl 47 _ rfl w.heap.size 2 rfl E.toList _ ?hc Tryz.underlying47 rfl ?hi ?_)
  case hc =>
    rw [HE.out]
    exact World.rangeAt_of_block (t := 49) (fr := (0, 0)) HST.out.thing 2 16
  case hi => rw [info52, Array.length_toList, HES.out]
  go_wp2_with fail
  refine (HCALL.out _).mono ?_
  rintro e w1 ⟨rfl, hb1⟩
  have HT1 := Lib.hid (HST.out.on hb1)
  have HTH := Lib.hid (H.out.setS HD.out)
  have HIC : Hid ((Tryz.prog.info? 49).map (·.size) = some (setsA C 2 D.toList).size) := by show _ = _; rw [infoTh, HTH.out.size]
  have HSZ := Lib.hid HTH.out.size
  have HONE := Lib.hid (thr_one HTH.out)
  have HT3 : Hid (DoSt w ((w1.setCells w.heap.size 2 D.toList).setRow (w.heap.size + 4) #[.int .i64 co, .int .i64 va]) (setsA C 2 D.toList) a k v co va) := Lib.hid ((HT1.out.cells 2 D.toList).answerRow co va)
  clear hb1 c0
  go_wp2_with (first
    | (refine wpList_store_mid rfl 47 _ _ rfl w.heap.size 2 D rfl rfl (HT1.out.thing.there (by rw [HDS.out, H.out.size]; decide)) (by rw [info52, HDS.out]) HD.out.one ?_)
    | (refine wpList_store_row rfl 51 _ _ rfl (w.heap.size + 4) #[.int .i64 co, .int .i64 va] rfl rfl 51 #[.int .i64 0, .int .i64 0] (HT1.out.cells 2 D.toList).tmp infoAn rfl (two_one _ _) ?_))
  clear HT1
  generalize (w1.setCells w.heap.size 2 D.toList).setRow (w.heap.size + 4) #[.int .i64 co, .int .i64 va] = W3 at *
  generalize setsA C 2 D.toList = C2 at *
  refine wp_region_relyA 3 (fun b => b = w.heap.size + 2) [2] (by kernel_rfl) (by kernel_rfl) ?_
  intro anc HA
  refine wpRely_step (fun K hK => ?_)
  refine .inl ⟨.agg C2, Any, ?_, hK _ _ _ _ ?_⟩
  · simp only [RelyOp, fillE]
    refine ⟨rfl, fun w9 hw9 _ => ?_⟩
    exact relyAt_load_row 49 _ rfl w.heap.size rfl 49 C2 _ ((hw9.block _ HT3.out.thing.lt (by show ¬ w.heap.size = w.heap.size + 2; omega)).trans HT3.out.thing) Tryz.underlying49 rfl HIC.out ⟨⟨rfl, trivial⟩, Keeps.refl _ _⟩
  clear hK K
  try simp only [Act.put, List.setIfInBounds_toArray, List.set_cons_zero, List.set_cons_succ]
  refine wpRely_step (fun K hK => ?_)
  refine .inl ⟨.agg #[.int .i64 co, .int .i64 va], Any, ?_, hK _ _ _ _ ?_⟩
  · simp only [RelyOp, fillE]
    refine ⟨rfl, fun w9 hw9 _ => ?_⟩
    exact relyAt_load_row 51 _ rfl (w.heap.size + 4) rfl 51 #[.int .i64 co, .int .i64 va] _ ((hw9.block _ HT3.out.tmp.lt (by show ¬ w.heap.size + 4 = w.heap.size + 2; omega)).trans HT3.out.tmp) Tryz.underlying51 rfl infoAn ⟨⟨rfl, trivial⟩, Keeps.refl _ _⟩
  clear hK K
  try simp only [Act.put, List.setIfInBounds_toArray, List.set_cons_zero, List.set_cons_succ]
  refine wpRely_step (fun K hK => ?_)
  refine .inl ⟨undef, fun _ w' => Blk w' (w.heap.size + 2) 49 C2, ?_, hK _ _ _ _ ?_⟩
  · simp only [RelyOp, fillE]
    refine ⟨rfl, fun w9 hw9 hmet => ?_⟩
    have hB9 : Blk w9 (w.heap.size + 2) 49 (tz 0) := (hmet.1.block _ HT3.out.res.lt (fun h => calm_out h (by rw [HA.out]; kernel_rfl))).trans HT3.out.res
    exact relyAt_store_row 49 _ _ rfl (w.heap.size + 2) C2 rfl rfl 49 (tz 0) hB9 HIC.out (by rw [HSZ.out]; rfl) HONE.out ⟨⟨rfl, hB9.setRow C2⟩, keeps_setRow (.inl ⟨by decide, rfl⟩) _⟩
  clear hK K
  try simp only [Act.put, List.setIfInBounds_toArray, List.set_cons_zero, List.set_cons_succ]
  refine wpRely_nil ?_
  simp only [fillE]
  intro w9 hw9 hmet
  have HR9 : Hid (Blk w9 (w.heap.size + 2) 49 C2) := Lib.hid (by
    have h1 := hmet.1 rfl
    obtain ⟨w0, k0, k1, hF⟩ := h1
    exact (k1.block _ hF.lt (fun h => calm_out h (by rw [HA.out]; kernel_rfl))).trans hF)
  have HA9 : Hid (Blk w9 (w.heap.size + 3) 51 #[.int .i64 0, .int .i64 0]) := Lib.hid ((hw9.block _ HT3.out.ans.lt (by show ¬ w.heap.size + 3 = w.heap.size + 2; omega)).trans HT3.out.ans)
  have HW9 := Lib.hid (HT3.out.below.trans (hw9.below HT3.out.below.size (fun b hb e => by omega)))
  have HK9 := Lib.hid hw9
  clear hmet hw9
  simp only [List.drop_succ_cons, List.drop_zero]
  go_wp2_with (refine wpList_store_row rfl 51 _ _ rfl (w.heap.size + 3) #[.int .i64 co, .int .i64 va] rfl rfl 51 #[.int .i64 0, .int .i64 0] HA9.out infoAn rfl (two_one _ _) ?_)
  have hR : Blk (w9.setRow (w.heap.size + 3) #[.int .i64 co, .int .i64 va]) (w.heap.size + 2) 49 C2 := (setRow_other _ _ _ _ (by omega)).trans HR9.out
  have hA : Blk (w9.setRow (w.heap.size + 3) #[.int .i64 co, .int .i64 va]) (w.heap.size + 3) 51 #[.int .i64 co, .int .i64 va] := Blk.setRow HA9.out _
  refine bodyPost_ret (results_two_rows Tryz.results27 _ _ (w.heap.size + 2) (w.heap.size + 3) 49 51 C2 #[.int .i64 co, .int .i64 va] _ _ rfl rfl hR hA Tryz.underlying49 rfl HIC.out Tryz.underlying51 rfl infoAn) rfl ⟨below_setRow HW9.out (by omega) _, C2, HSZ.out, HONE.out, rfl, ?_⟩
  exact HTH.out

set_option maxRecDepth 100000 in
set_option maxHeartbeats 4000000 in
theorem do_tally (C : Array Value) (n a k v : Int) (w : World) (h : ThR C 6 none 0 0 (fun _ => 0) n) (h0 : 0 ≤ n) (h1 : n ≤ 4294967295) (h2 : 0 ≤ v) (h3 : v ≤ 4294967295) :
    Calls Tryz.prog 27 #[.agg C, .agg #[.int .i64 a, .int .i64 k, .int .i64 v]] w
      (DoOut (fun D w' => ThR D 6 none 0 0 (fun _ => 0) (tallyN n a v)) (tallyC n a v) (tallyV n a v) w) := by
  have c0 := h.kind_
  have c18 := h.num
  have H := Lib.hid h
  have HCALL : Hid (∀ W : World, Calls Tryz.prog 49 #[.int .i64 n, .agg #[.int .i64 a, .int .i64 k, .int .i64 v]] W fun e w' => e = .returned (.tuple #[.int .i64 (tallyN n a v), .agg #[.int .i64 (tallyC n a v), .int .i64 (tallyV n a v)]]) ∧ Below W.heap.size W w') := Lib.hid fun W => refTally_any n a k v W h0 h1 h2 h3
  have HST := Lib.hid (DoSt.mk_ w C a k v)
  clear h
  generalize tallyN n a v = nn at *
  generalize tallyC n a v = co at *
  generalize tallyV n a v = va at *
  go_enter Tryz.func27, Tryz.ntmps27
  go_wp2_with fail
  refine (HCALL.out _).mono ?_
  rintro e w1 ⟨rfl, hb1⟩
  have HT1 := Lib.hid (HST.out.on hb1)
  have t1 := (HT1.out.thing.cell 18).trans c18
  have f1 := HT1.out.thing.frozen 18
  have a0 := HT1.out.tmp.cell 0
  have a1 := HT1.out.tmp.cell 1
  have f2 := HT1.out.tmp.frozen 0
  have f3 := HT1.out.tmp.frozen 1
  simp only [List.getElem?_toArray, List.getElem?_cons_zero, List.getElem?_cons_succ] at a0 a1
  have HTH := Lib.hid (H.out.setN nn)
  have HIC : Hid ((Tryz.prog.info? 49).map (·.size) = some (C.setIfInBounds 18 (.int .i64 nn)).size) := by show _ = _; rw [infoTh, HTH.out.size]
  have HSZ := Lib.hid HTH.out.size
  have HONE := Lib.hid (thr_one HTH.out)
  have HT3 : Hid (DoSt w (((w1.setCell ⟨w.heap.size, 18, none⟩ (.int .i64 nn)).setCell ⟨w.heap.size + 1 + 1 + 1 + 1, 0, none⟩ (.int .i64 co)).setCell ⟨w.heap.size + 1 + 1 + 1 + 1, 1, none⟩ (.int .i64 va)) (C.setIfInBounds 18 (.int .i64 nn)) a k v co va) := Lib.hid ((HT1.out.cell 18 (.int .i64 nn)).answer co va)
  clear hb1 c0 c18
  go_wp2_with fail
  clear HT1 t1 f1 a0 a1 f2 f3
  generalize ((w1.setCell ⟨w.heap.size, 18, none⟩ (.int .i64 nn)).setCell ⟨w.heap.size + 1 + 1 + 1 + 1, 0, none⟩ (.int .i64 co)).setCell ⟨w.heap.size + 1 + 1 + 1 + 1, 1, none⟩ (.int .i64 va) = W3 at *
  generalize C.setIfInBounds 18 (.int .i64 nn) = C2 at *
  refine wp_region_relyA 3 (fun b => b = w.heap.size + 2) [2] (by kernel_rfl) (by kernel_rfl) ?_
  intro anc HA
  refine wpRely_step (fun K hK => ?_)
  refine .inl ⟨.agg C2, Any, ?_, hK _ _ _ _ ?_⟩
  · simp only [RelyOp, fillE]
    refine ⟨rfl, fun w9 hw9 _ => ?_⟩
    exact relyAt_load_row 49 _ rfl w.heap.size rfl 49 C2 _ ((hw9.block _ HT3.out.thing.lt (by show ¬ w.heap.size = w.heap.size + 2; omega)).trans HT3.out.thing) Tryz.underlying49 rfl HIC.out ⟨⟨rfl, trivial⟩, Keeps.refl _ _⟩
  clear hK K
  try simp only [Act.put, List.setIfInBounds_toArray, List.set_cons_zero, List.set_cons_succ]
  refine wpRely_step (fun K hK => ?_)
  refine .inl ⟨.agg #[.int .i64 co, .int .i64 va], Any, ?_, hK _ _ _ _ ?_⟩
  · simp only [RelyOp, fillE]
    refine ⟨rfl, fun w9 hw9 _ => ?_⟩
    exact relyAt_load_row 51 _ rfl (w.heap.size + 4) rfl 51 #[.int .i64 co, .int .i64 va] _ ((hw9.block _ HT3.out.tmp.lt (by show ¬ w.heap.size + 4 = w.heap.size + 2; omega)).trans HT3.out.tmp) Tryz.underlying51 rfl infoAn ⟨⟨rfl, trivial⟩, Keeps.refl _ _⟩
  clear hK K
  try simp only [Act.put, List.setIfInBounds_toArray, List.set_cons_zero, List.set_cons_succ]
  refine wpRely_step (fun K hK => ?_)
  refine .inl ⟨undef, fun _ w' => Blk w' (w.heap.size + 2) 49 C2, ?_, hK _ _ _ _ ?_⟩
  · simp only [RelyOp, fillE]
    refine ⟨rfl, fun w9 hw9 hmet => ?_⟩
    have hB9 : Blk w9 (w.heap.size + 2) 49 (tz 0) := (hmet.1.block _ HT3.out.res.lt (fun h => calm_out h (by rw [HA.out]; kernel_rfl))).trans HT3.out.res
    exact relyAt_store_row 49 _ _ rfl (w.heap.size + 2) C2 rfl rfl 49 (tz 0) hB9 HIC.out (by rw [HSZ.out]; rfl) HONE.out ⟨⟨rfl, hB9.setRow C2⟩, keeps_setRow (.inl ⟨by decide, rfl⟩) _⟩
  clear hK K
  try simp only [Act.put, List.setIfInBounds_toArray, List.set_cons_zero, List.set_cons_succ]
  refine wpRely_nil ?_
  simp only [fillE]
  intro w9 hw9 hmet
  have HR9 : Hid (Blk w9 (w.heap.size + 2) 49 C2) := Lib.hid (by
    have h1 := hmet.1 rfl
    obtain ⟨w0, k0, k1, hF⟩ := h1
    exact (k1.block _ hF.lt (fun h => calm_out h (by rw [HA.out]; kernel_rfl))).trans hF)
  have HA9 : Hid (Blk w9 (w.heap.size + 3) 51 #[.int .i64 0, .int .i64 0]) := Lib.hid ((hw9.block _ HT3.out.ans.lt (by show ¬ w.heap.size + 3 = w.heap.size + 2; omega)).trans HT3.out.ans)
  have HW9 := Lib.hid (HT3.out.below.trans (hw9.below HT3.out.below.size (fun b hb e => by omega)))
  have HK9 := Lib.hid hw9
  clear hmet hw9
  simp only [List.drop_succ_cons, List.drop_zero]
  go_wp2_with (refine wpList_store_row rfl 51 _ _ rfl (w.heap.size + 3) #[.int .i64 co, .int .i64 va] rfl rfl 51 #[.int .i64 0, .int .i64 0] HA9.out infoAn rfl (two_one _ _) ?_)
  have hR : Blk (w9.setRow (w.heap.size + 3) #[.int .i64 co, .int .i64 va]) (w.heap.size + 2) 49 C2 := (setRow_other _ _ _ _ (by omega)).trans HR9.out
  have hA : Blk (w9.setRow (w.heap.size + 3) #[.int .i64 co, .int .i64 va]) (w.heap.size + 3) 51 #[.int .i64 co, .int .i64 va] := Blk.setRow HA9.out _
  refine bodyPost_ret (results_two_rows Tryz.results27 _ _ (w.heap.size + 2) (w.heap.size + 3) 49 51 C2 #[.int .i64 co, .int .i64 va] _ _ rfl rfl hR hA Tryz.underlying49 rfl HIC.out Tryz.underlying51 rfl infoAn) rfl ⟨below_setRow HW9.out (by omega) _, C2, HSZ.out, HONE.out, rfl, ?_⟩
  exact HTH.out
end Go.Proofs.YtkoflhjnpilchaaGreatDoor

namespace Go.Proofs.YtkoflhjnpilchaaGreatDoor
set_option linter.unusedSimpArgs false
set_option linter.unusedVariables false
set_option linter.unusedSectionVars false
open Go.RowKit

theorem thingDo_any (C : Array Value) (z : Nat → Int) (kind a k v : Int) (m : Nat) (w : World) (hw : Wds z) (hz : thingOk kind z) (ho : opOk a k v) (hm : kind = 5 → tabM z a k m) (h : ThOk kind z C w) :
    Calls Tryz.prog 27 #[.agg C, .agg #[.int .i64 a, .int .i64 k, .int .i64 v]] w (DoOut (ThOk kind (doZ kind z a k v m)) (doC kind z a k v) (doV kind z a k v) w) := by
  have fit : ∀ {T T' : Array Value → World → Prop} {c x : Int} {e : Ending} {w' : World}, (∀ D w', T D w' → T' D w') → DoOut T c x w e w' → DoOut T' c x w e w' :=
    fun hT ⟨hB, D, h1, h2, h3, h4⟩ => ⟨hB, D, h1, h2, h3, hT _ _ h4⟩
  have hv : -9223372036854775808 ≤ v ∧ v ≤ 9223372036854775807 := by have := ho.2.2.2.2; omega
  unfold thingOk at hz
  unfold ThOk at h
  unfold doC doV
  by_cases h5 : kind = 5
  · subst h5
    simp only [if_true] at hz h ⊢
    have hy := tabY_right hz.2.2 ho (hm rfl)
    have bd : ∀ {d : Nat → Int}, rightT d = true → ∀ i, i < 16 → -9223372036854775808 ≤ d i ∧ d i ≤ 9223372036854775807 := fun {d} hd i hi => by
      have := slot_bd hd (k := i / 2) (by omega)
      rcases Nat.mod_two_eq_zero_or_one i with e | e
      · rw [show 2 * (i / 2) = i by omega] at this; omega
      · rw [show 2 * (i / 2) + 1 = i by omega] at this; omega
    obtain ⟨D, hD⟩ := I64s.ex (tabY z a k v m) 16 (bd hy)
    refine (do_table C D z a k v m w h (bd hz.2.2) hz.2.2 hv (hm rfl) hD).mono fun e w' h' => fit (fun E w' hT => ?_) h'
    unfold ThOk doZ
    simp only [if_true]
    exact ⟨hT.size, hT.kind_, hT.list, fun i hi => by rw [show slotK 8 (tabY z a k v m) i = tabY z a k v m i from if_pos (by omega)]; exact hT.slot i hi, hT.num⟩
  simp only [if_neg h5] at hz h ⊢
  by_cases h6 : kind = 6
  · subst h6
    simp only [if_true] at hz h ⊢
    have h0 := hw 0 (by omega)
    refine (do_tally C (z 0) a k v w h h0.1 hz.1 ho.2.2.2.2.1 ho.2.2.2.2.2).mono fun e w' h' => fit (fun E w' hT => ?_) h'
    unfold ThOk doZ
    exact hT
  simp only [if_neg h6] at hz h ⊢
  obtain ⟨A, c, hT, hS⟩ := h
  have hl : listOk z := by
    by_cases h4 : kind = 4
    · rw [if_pos h4] at hz; exact hz.1
    · rw [if_neg h4] at hz; exact hz.2.2
  have hk : kind = 1 ∨ kind = 2 ∨ kind = 3 ∨ kind = 4 := by
    by_cases h4 : kind = 4
    · exact .inr (.inr (.inr h4))
    · rw [if_neg h4] at hz; omega
  have hl' := lY_ok (kind := kind) (zL_ok hw hl) ho
  obtain ⟨_, _, e3⟩ := listW_ok hl'
  have h0 := hl.1
  have h00 := hw 0 (by omega)
  have put : ∀ {D : Array Value} {w' : World}, (∃ A' n' c', ThR D kind A' n' c' (fun _ => 0) 0 ∧ SlI w' A' n' c' (lY kind (zL z) a v)) → ThOk kind (doZ kind z a k v m) D w' := by
    rintro D w' ⟨A', n', c', h1, h2⟩
    have hn' := h2.len
    subst hn'
    unfold ThOk doZ
    simp only [if_neg h5, if_neg h6]
    rw [e3]
    have e0 : (listW (lY kind (zL z) a v).length (lY kind (zL z) a v) 0).toNat = (lY kind (zL z) a v).length := by unfold listW; simp
    rw [e0]
    exact ⟨A', c', h1, h2⟩
  rcases hk with rfl | rfl | rfl | rfl
  · exact (do_l1 C A _ c _ a k v w hT hS (by omega) hv).mono fun e w' h' => fit (fun E w' hT => put hT) h'
  · exact (do_l2 C A _ c _ a k v w hT hS (by omega) hv).mono fun e w' h' => fit (fun E w' hT => put hT) h'
  · exact (do_l3 C A _ c _ a k v w hT hS (by omega) hv).mono fun e w' h' => fit (fun E w' hT => put hT) h'
  · exact (do_l4 C A _ c _ a k v w hT hS (by omega) hv).mono fun e w' h' => fit (fun E w' hT => put hT) h'
end Go.Proofs.YtkoflhjnpilchaaGreatDoor
