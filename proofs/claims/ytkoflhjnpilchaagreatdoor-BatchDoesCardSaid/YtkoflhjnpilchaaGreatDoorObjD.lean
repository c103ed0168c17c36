/-
  What object.Do returns, and what it calls: for every kind, every seventeen words and every operation.
-/
import Derived.Test.YtkoflhjnpilchaaGreatDoorMTD
import Derived.Test.YtkoflhjnpilchaaGreatDoorMBase
namespace Go.Proofs.YtkoflhjnpilchaaGreatDoor
set_option linter.unusedSimpArgs false
set_option linter.unusedVariables false
set_option linter.unusedSectionVars false
open Go.RowKit Go.Maps
set_option linter.unusedSimpArgs false
set_option linter.unusedVariables false
attribute [local go_sem ↓] Go.wp_at_zero Go.wp_at_succ

theorem opRightB_iff {a k v : Int} : opRightB a k v = true ↔ opOk a k v := by unfold opRightB opOk; rw [decide_eq_true_iff]
theorem objOpRight_any (a k v : Int) (w : World) : Calls Tryz.prog 61 #[.agg #[.int .i64 a, .int .i64 k, .int .i64 v]] w fun e w' => e = .returned (.bool (opRightB a k v)) ∧ Below w.heap.size w w' := by
  go_enter Tryz.func61, Tryz.ntmps61
  go_wp2
  all_goals (go_ret; refine ⟨ret_bool ?_, by go_grown⟩; simp [opRightB]; try omega)

theorem results_rows3 {P : Program} {fn : Func} {p q r : Tmp} {ty tz : TypeId} (h : fn.results = #[.cell p ty, .cell q tz, .tmp r]) (tmps : Array Value) (w : World) (g g' : Nat) (t t' : TypeId) (cs cs' : Array Value) (d d' : TypeDesc) (v : Value)
    (hp : tmps.getD p undef = .pointer (some ⟨g, 0, none⟩)) (hq : tmps.getD q undef = .pointer (some ⟨g', 0, none⟩)) (hr : tmps.getD r undef = v) (hg : Blk w g t cs) (hg' : Blk w g' t' cs')
    (hu : P.underlying ty = some d) (hd : (match d with | .struct _ | .array _ _ => true | _ => false) = true) (hi : (P.info? ty).map (·.size) = some cs.size)
    (hu' : P.underlying tz = some d') (hd' : (match d' with | .struct _ | .array _ _ => true | _ => false) = true) (hi' : (P.info? tz).map (·.size) = some cs'.size) :
    (results fn tmps).run P w = .ok (.tuple #[.agg cs, .agg cs', v]) w := by
  have hp' : tmps[p]?.getD undef = .pointer (some ⟨g, 0, none⟩) := by simpa using hp
  have hq' : tmps[q]?.getD undef = .pointer (some ⟨g', 0, none⟩) := by simpa using hq
  have hr' : tmps[r]?.getD undef = v := by simpa using hr
  simp [results, h, hp', hq', hr', asAddr, run_loadVar_row w g t ty cs (0, 0) d hg hu hd hi, run_loadVar_row w g' t' tz cs' (0, 0) d' hg' hu' hd' hi']

set_option maxRecDepth 100000 in
set_option maxHeartbeats 2000000 in
theorem listed_any (A : Option Addr) (n c : Nat) (xs : List Int) (w : World) (hl : SlI w A n c xs) (hn : n ≤ 16) (hx : ∀ i : Nat, i < n → 0 ≤ xs[i]?.getD 0) (D : Array Value) (hD : U64s D 17 (listW n xs)) :
    Calls Tryz.prog 68 #[.slice A n c] w fun e w' => e = .returned (.agg D) ∧ Below w.heap.size w w' := by
  have HD := Lib.hid hD
  have HX := Lib.hid hx
  have HL := Lib.hid hl
  have hw : (n : Int) % 18446744073709551616 = n := by omega
  have hn0 : 0 ≤ (n : Int) := by omega
  have HS := Lib.hid hD.size
  clear hx hl hD
  have HU0 : Hid (U64s (#[.int .u64 0, .int .u64 0, .int .u64 0, .int .u64 0, .int .u64 0, .int .u64 0, .int .u64 0, .int .u64 0, .int .u64 0, .int .u64 0, .int .u64 0, .int .u64 0, .int .u64 0, .int .u64 0, .int .u64 0, .int .u64 0, .int .u64 0].setIfInBounds 0 (.int .u64 n)) 17 (listK n 0 xs)) := Lib.hid (((show U64s #[.int .u64 0, .int .u64 0, .int .u64 0, .int .u64 0, .int .u64 0, .int .u64 0, .int .u64 0, .int .u64 0, .int .u64 0, .int .u64 0, .int .u64 0, .int .u64 0, .int .u64 0, .int .u64 0, .int .u64 0, .int .u64 0, .int .u64 0] 17 (fun _ => 0) from U64s.zero 17).set_ (k := 0) (v := n) (by omega)).congr (fun i hi => by
    unfold listK
    by_cases h0 : i = 0
    · rw [if_pos h0, if_pos h0]
    · rw [if_neg h0, if_neg h0, if_neg (by omega)]))
  go_enter Tryz.func68, Tryz.ntmps68
  go_wp2_with (refine wpList_store_row rfl 100 _ _ rfl (w.heap.size + 1) (#[.int .u64 0, .int .u64 0, .int .u64 0, .int .u64 0, .int .u64 0, .int .u64 0, .int .u64 0, .int .u64 0, .int .u64 0, .int .u64 0, .int .u64 0, .int .u64 0, .int .u64 0, .int .u64 0, .int .u64 0, .int .u64 0, .int .u64 0].setIfInBounds 0 (.int .u64 n)) rfl ?hy 100 #[.int .u64 0, .int .u64 0, .int .u64 0, .int .u64 0, .int .u64 0, .int .u64 0, .int .u64 0, .int .u64 0, .int .u64 0, .int .u64 0, .int .u64 0, .int .u64 0, .int .u64 0, .int .u64 0, .int .u64 0, .int .u64 0, .int .u64 0] ?hg ?hi rfl ?h1 ?_)
  case hy => kernel_rfl
  case hg => exact Blk.newAt _ _ _ (by simp)
  case hi => rw [infoOC, HU0.out.size]
  case h1 => exact HU0.out.one
  go_wp2
  go_loopw [12] (fun i wr => ∃ k : Nat, k ≤ n ∧ i = .int .i64 k ∧ Hid (∃ E, Blk wr (w.heap.size + 1) 100 E ∧ U64s E 17 (listK n k xs)) ∧ Hid (Blk wr w.heap.size 100 #[.int .u64 0, .int .u64 0, .int .u64 0, .int .u64 0, .int .u64 0, .int .u64 0, .int .u64 0, .int .u64 0, .int .u64 0, .int .u64 0, .int .u64 0, .int .u64 0, .int .u64 0, .int .u64 0, .int .u64 0, .int .u64 0, .int .u64 0]) ∧ Below w.heap.size w wr) (fun i _ => n - (intOf i).toNat)
  case atStart => exact ⟨0, by omega, rfl, Lib.hid ⟨_, Blk.setRow (Blk.newAt _ _ _ (by simp)) _, HU0.out⟩, Lib.hid ((setRow_other _ _ _ _ (by omega)).trans ((Blk.new _ _ _).alloc _)), below_setRow (by go_grown) (by omega) _⟩
  case round =>
    obtain ⟨k, hk, rfl, hE, hR, hb⟩ := hrel
    obtain ⟨E, hblk, hU⟩ := hE.out
    clear hE
    have HU := Lib.hid hU
    have HBl := Lib.hid hblk
    clear hU hblk
    have hbz := hb.size
    by_cases hkn : k < n
    · obtain ⟨b, off, rfl, hblt, hcell⟩ := HL.out.at_ (by omega)
      have hc := (hb.cell (p := ⟨b, off + k, none⟩) hblt).trans (hcell k hkn)
      clear hcell
      have bd1 := HL.out.bd k
      have bd0 := HX.out k hkn
      have hq : wr.cell? ⟨w.heap.size + 1, k + 1, none⟩ = some (.int .u64 (listK n k xs (k + 1))) := by rw [HBl.out.cell, HU.out.get (k + 1) (by omega)]
      have hf : wr.frozen? ⟨w.heap.size + 1, k + 1, none⟩ = false := HBl.out.frozen (k + 1)
      have q1 : (k : Int) < n := by omega
      have q2 : (k : Int) + 1 < 17 := by omega
      generalize hv : xs[k]?.getD 0 = v at hc bd1 bd0
      have HV := Lib.hid hv
      clear hv
      have hw2 : v % 18446744073709551616 = v := by omega
      go_wp2
      go_roundw
      case rel => exact ⟨k + 1, by omega, by go_num, Lib.hid ⟨_, HBl.out.set_ (k + 1) _, (HU.out.set_ (k := k + 1) (v := v) (by omega)).congr (fun i hi => by
        have hv := HV.out
        unfold listK
        by_cases h0 : i = k + 1
        · subst h0
          rw [if_pos rfl, if_neg (by omega), if_pos (by omega), Nat.add_sub_cancel, hv]
        · rw [if_neg h0]
          by_cases h1 : i = 0
          · rw [if_pos h1, if_pos h1]
          · rw [if_neg h1, if_neg h1]
            by_cases h2 : i ≤ k
            · rw [if_pos h2, if_pos (by omega)]
            · rw [if_neg h2, if_neg (by omega)])⟩, Lib.hid (hR.out.far (by simp) _), hb.setCell (by show w.heap.size ≤ w.heap.size + 1; omega) _⟩
      case measure => simp [intOf]; omega
    · obtain rfl : k = n := by omega
      have hED : E = D := HU.out.ext HD.out
      subst hED
      have hD1 := HD.out.one
      go_wp2_with (first
        | (refine wpList_load_row rfl 100 _ rfl (w.heap.size + 1) rfl 100 E (0, 0) _ HBl.out Tryz.underlying100 rfl (by rw [infoOC, HS.out]) ?_)
        | (refine wpList_store_row rfl 100 _ _ rfl w.heap.size E rfl rfl 100 #[.int .u64 0, .int .u64 0, .int .u64 0, .int .u64 0, .int .u64 0, .int .u64 0, .int .u64 0, .int .u64 0, .int .u64 0, .int .u64 0, .int .u64 0, .int .u64 0, .int .u64 0, .int .u64 0, .int .u64 0, .int .u64 0, .int .u64 0] hR.out (by rw [infoOC, HS.out]) (by rw [HS.out]; rfl) hD1 ?_))
      refine bodyPost_ret (results_cell_row Tryz.results68 _ _ w.heap.size 100 E (0, 0) _ rfl (hR.out.setRow E) Tryz.underlying100 rfl (by rw [infoOC, HS.out])) rfl ⟨rfl, below_setRow hb (Nat.le_refl _) _⟩
/-! ### object.Do -/
theorem wpList_insert_own {H : Type} {P : Program} (w : World) {ops : Array Oper} {rest : List Oper} {o : Oper} {a : Act} {Q : Exit → Act → World → Prop}
    (hg : o.guard = none) (m x v : Operand) (t : TypeId) (hop : o.op = Op.insert t m x v)
    (k e : TypeId) (K : Keyed P k) (ht : P.underlying t = some (.map k e)) (R : Value → Option (DataW H × List MemPlace)) (b n : Nat) (D : DataW H)
    (hm : a.eval m = .map (some b)) (hown : w.ownsMap P k R b n D) (hn : n < maxLen) (key val : Value) (kl : Lit) (hx : a.eval x = key) (hv : a.eval v = val) (hkey : keyOf P k key = some kl)
    (d : DataW H) (ps : List MemPlace) (hval : R val = some (d, ps))
    (hK : ∀ w', w'.ownsMap P k R b (n + 1) (D.put kl d) → w.grownBy w' (some b) → wpList P ops Q rest (a.put o.dst undef) w') :
    wpList P ops Q (o :: rest) a w := by
  refine wpList_plain hg fun K' hK' => ?_
  obtain ⟨w', hrun, r1, r2⟩ := hown.update K ht hn hkey hval
  unfold Oper.wp
  simp [execOp, hop, hm, hx, hv, hrun, Result.andThen]
  exact hK' _ _ (hK w' r1 r2)
/-- A function's value reads as its number. -/
def fnR (v : Value) : Option (DataW Unit × List MemPlace) :=
  match v with
  | .func (.func f) a b => if a.size = 0 ∧ b.size = 0 then some (.lit (.int .i64 f), []) else none
  | .nilFunc => some (.lit (.bool false), [])
  | _ => none
theorem fnR_inv {v : Value} {f : Nat} {ps : List MemPlace} (h : fnR v = some (.lit (.int .i64 f), ps)) : v = .func (.func f) #[] #[] := by
  unfold fnR at h
  split at h
  · rename_i f' a b
    by_cases e : a.size = 0 ∧ b.size = 0
    · rw [if_pos e] at h
      obtain ⟨e1, e2⟩ := e
      obtain rfl := Array.eq_empty_of_size_eq_zero e1
      obtain rfl := Array.eq_empty_of_size_eq_zero e2
      simp at h
      have e : f' = f := Int.ofNat.inj h.1
      rw [e]
    · rw [if_neg e] at h
      cases h
  · simp at h
  · cases h
theorem keyI : Keyed Tryz.prog 3 := int_keyed Tryz.underlying3
def fns : DataW Unit := ((((DataW.map []).put (.int .i64 1) (.lit (.int .i64 64))).put (.int .i64 2) (.lit (.int .i64 65))).put (.int .i64 3) (.lit (.int .i64 66))).put (.int .i64 4) (.lit (.int .i64 67))

theorem infoOp : (Tryz.prog.info? 61).map (·.size) = some 3 := by kernel_rfl
/-- The boxes that object.Do lays: the words, the operation, the two results. -/
structure OdSt (w W : World) (C : Array Value) (a k v : Int) : Prop where
  words : Blk W w.heap.size 100 C
  op : Blk W (w.heap.size + 1) 61 #[.int .i64 a, .int .i64 k, .int .i64 v]
  res : Blk W (w.heap.size + 2) 100 #[.int .u64 0, .int .u64 0, .int .u64 0, .int .u64 0, .int .u64 0, .int .u64 0, .int .u64 0, .int .u64 0, .int .u64 0, .int .u64 0, .int .u64 0, .int .u64 0, .int .u64 0, .int .u64 0, .int .u64 0, .int .u64 0, .int .u64 0]
  ans : Blk W (w.heap.size + 3) 51 #[.int .i64 0, .int .i64 0]
  below : Below w.heap.size w W
theorem OdSt.mk_ (w : World) (C : Array Value) (a k v : Int) :
    OdSt w ((((w.alloc (.cells C 100)).alloc (.cells #[.int .i64 a, .int .i64 k, .int .i64 v] 61)).alloc (.cells #[.int .u64 0, .int .u64 0, .int .u64 0, .int .u64 0, .int .u64 0, .int .u64 0, .int .u64 0, .int .u64 0, .int .u64 0, .int .u64 0, .int .u64 0, .int .u64 0, .int .u64 0, .int .u64 0, .int .u64 0, .int .u64 0, .int .u64 0] 100)).alloc (.cells #[.int .i64 0, .int .i64 0] 51)) C a k v :=
  ⟨(((Blk.new _ _ _).alloc _).alloc _).alloc _, (((Blk.newAt _ _ _ (by simp))).alloc _).alloc _, (((Blk.newAt _ _ _ (by simp)))).alloc _, Blk.newAt _ _ _ (by simp), by go_grown⟩
section
variable {w W W' : World} {C : Array Value} {a k v : Int}
theorem OdSt.on (h : OdSt w W C a k v) (hb : Below W.heap.size W W') : OdSt w W' C a k v :=
  ⟨h.words.below hb h.words.lt, h.op.below hb h.op.lt, h.res.below hb h.res.lt, h.ans.below hb h.ans.lt, h.below.trans (hb.mono h.below.size)⟩
theorem OdSt.lt (h : OdSt w W C a k v) : w.heap.size + 3 < W.heap.size := h.ans.lt
theorem OdSt.alloc (h : OdSt w W C a k v) (o : Obj) : OdSt w (W.alloc o) C a k v := h.on (Below.alloc (Below.refl _ _) (Nat.le_refl _) o)
theorem OdSt.cell (h : OdSt w W C a k v) {p : Addr} (hp : w.heap.size + 3 < p.block) (u : Value) : OdSt w (W.setCell p u) C a k v :=
  ⟨h.words.far (by omega) u, h.op.far (by omega) u, h.res.far (by omega) u, h.ans.far (by omega) u, h.below.setCell (by omega) u⟩
theorem OdSt.row (h : OdSt w W C a k v) {g : Nat} (hp : w.heap.size + 3 < g) (cs : Array Value) : OdSt w (W.setRow g cs) C a k v :=
  ⟨(setRow_other _ _ _ _ (by omega)).trans h.words, (setRow_other _ _ _ _ (by omega)).trans h.op, (setRow_other _ _ _ _ (by omega)).trans h.res, (setRow_other _ _ _ _ (by omega)).trans h.ans, below_setRow h.below (by omega) cs⟩
theorem Blk.far_row {w : World} {g g' : Nat} {t : TypeId} {cs : Array Value} (h : Blk w g t cs) (hg : g ≠ g') (r : Array Value) : Blk (w.setRow g' r) g t cs := (setRow_other _ _ _ _ hg).trans h
theorem OdSt.drew (h : OdSt w W C a k v) : OdSt w W.drew C a k v := ⟨h.words, h.op, h.res, h.ans, h.below.drew⟩
end
theorem below_grow {B b : Nat} {w w' : World} (hg : w.grownBy w' (some b)) (hb : B ≤ b) (hs : B ≤ w.heap.size) : Below B w w' :=
  ⟨hg.os, hg.tape, hg.output, hg.size, fun i hi => hg.block i (by omega) (by simp; omega)⟩
set_option maxRecDepth 100000 in
set_option maxHeartbeats 4000000 in
theorem objDo_op (C : Array Value) (z : Nat → Int) (kind a k v : Int) (w : World) (h : U64s C 17 z) (hr0 : opRightB a k v = false) :
    Calls Tryz.prog 37 #[.int .i64 kind, .agg C, .agg #[.int .i64 a, .int .i64 k, .int .i64 v]] w fun e w' => e = .returned (.tuple #[.agg #[.int .u64 0, .int .u64 0, .int .u64 0, .int .u64 0, .int .u64 0, .int .u64 0, .int .u64 0, .int .u64 0, .int .u64 0, .int .u64 0, .int .u64 0, .int .u64 0, .int .u64 0, .int .u64 0, .int .u64 0, .int .u64 0, .int .u64 0], .agg #[.int .i64 0, .int .i64 0], .iface 28 (.int .i64 1)]) ∧ Below w.heap.size w w' := by
  have HIE : Hid ((Tryz.prog.info? 100).map (·.size) = some C.size) := by show _ = _; rw [infoOC, h.size]
  have HC := Lib.hid h
  have HST := Lib.hid (OdSt.mk_ w C a k v)
  have HR0 := Lib.hid hr0
  clear h hr0
  go_enter Tryz.func37, Tryz.ntmps37
  go_wp2_with fail
  refine (objOpRight_any a k v _).mono ?_
  rintro e w1 ⟨rfl, hb1⟩
  rw [HR0.out]
  have HB1 := Lib.hid (HST.out.on hb1)
  clear hb1 HST
  have HB := HB1
  clear HB1
  go_wp2_with (first
    | (refine wpList_store_row rfl 100 _ _ rfl (w.heap.size + 2) #[.int .u64 0, .int .u64 0, .int .u64 0, .int .u64 0, .int .u64 0, .int .u64 0, .int .u64 0, .int .u64 0, .int .u64 0, .int .u64 0, .int .u64 0, .int .u64 0, .int .u64 0, .int .u64 0, .int .u64 0, .int .u64 0, .int .u64 0] rfl rfl 100 #[.int .u64 0, .int .u64 0, .int .u64 0, .int .u64 0, .int .u64 0, .int .u64 0, .int .u64 0, .int .u64 0, .int .u64 0, .int .u64 0, .int .u64 0, .int .u64 0, .int .u64 0, .int .u64 0, .int .u64 0, .int .u64 0, .int .u64 0] HB.out.res infoOC rfl (by kernel_rfl) ?_)
    | (refine wpList_store_row rfl 51 _ _ rfl (w.heap.size + 3) #[.int .i64 0, .int .i64 0] rfl rfl 51 #[.int .i64 0, .int .i64 0] ((setRow_other _ _ _ _ (by omega)).trans HB.out.ans) infoAn rfl (two_one 0 0) ?_))
  refine bodyPost_ret (results_rows3 Tryz.results37 _ _ (w.heap.size + 2) (w.heap.size + 3) 100 51 #[.int .u64 0, .int .u64 0, .int .u64 0, .int .u64 0, .int .u64 0, .int .u64 0, .int .u64 0, .int .u64 0, .int .u64 0, .int .u64 0, .int .u64 0, .int .u64 0, .int .u64 0, .int .u64 0, .int .u64 0, .int .u64 0, .int .u64 0] #[.int .i64 0, .int .i64 0] _ _ (.iface 28 (.int .i64 1)) rfl rfl rfl ((setRow_other _ _ _ _ (by omega)).trans (Blk.setRow HB.out.res _)) (Blk.setRow ((setRow_other _ _ _ _ (by omega)).trans HB.out.ans) _) Tryz.underlying100 rfl infoOC Tryz.underlying51 rfl infoAn) rfl ⟨rfl, below_setRow (below_setRow HB.out.below (by omega) _) (by omega) _⟩

set_option maxRecDepth 100000 in
set_option maxHeartbeats 4000000 in
theorem objDo_bad (C : Array Value) (z : Nat → Int) (kind a k v : Int) (w : World) (h : U64s C 17 z) (hr0 : opRightB a k v = true) (hr : ¬ thingOk kind z) :
    Calls Tryz.prog 37 #[.int .i64 kind, .agg C, .agg #[.int .i64 a, .int .i64 k, .int .i64 v]] w fun e w' => e = .returned (.tuple #[.agg #[.int .u64 0, .int .u64 0, .int .u64 0, .int .u64 0, .int .u64 0, .int .u64 0, .int .u64 0, .int .u64 0, .int .u64 0, .int .u64 0, .int .u64 0, .int .u64 0, .int .u64 0, .int .u64 0, .int .u64 0, .int .u64 0, .int .u64 0], .agg #[.int .i64 0, .int .i64 0], .iface 28 (.int .i64 1)]) ∧ Below w.heap.size w w' := by
  have HIE : Hid ((Tryz.prog.info? 100).map (·.size) = some C.size) := by show _ = _; rw [infoOC, h.size]
  have HC := Lib.hid h
  have HST := Lib.hid (OdSt.mk_ w C a k v)
  have HR0 := Lib.hid hr0
  have HR := Lib.hid hr
  clear h hr0 hr
  go_enter Tryz.func37, Tryz.ntmps37
  go_wp2_with fail
  refine (objOpRight_any a k v _).mono ?_
  rintro e w1 ⟨rfl, hb1⟩
  rw [HR0.out]
  have HB1 := Lib.hid (HST.out.on hb1)
  clear hb1 HST
  go_wp2_with (refine wpList_load_row_g rfl 100 _ rfl w.heap.size rfl 100 C (0, 0) _ HB1.out.words Tryz.underlying100 rfl HIE.out ?_)
  refine (objRight_any C z kind false _ HC.out ⟨fun h => Bool.noConfusion h, fun h => absurd h HR.out⟩).mono ?_
  rintro e w2 ⟨rfl, hb2⟩
  have HB := Lib.hid (HB1.out.on hb2)
  clear hb2 HB1
  go_wp2_with (first
    | (refine wpList_store_row rfl 100 _ _ rfl (w.heap.size + 2) #[.int .u64 0, .int .u64 0, .int .u64 0, .int .u64 0, .int .u64 0, .int .u64 0, .int .u64 0, .int .u64 0, .int .u64 0, .int .u64 0, .int .u64 0, .int .u64 0, .int .u64 0, .int .u64 0, .int .u64 0, .int .u64 0, .int .u64 0] rfl rfl 100 #[.int .u64 0, .int .u64 0, .int .u64 0, .int .u64 0, .int .u64 0, .int .u64 0, .int .u64 0, .int .u64 0, .int .u64 0, .int .u64 0, .int .u64 0, .int .u64 0, .int .u64 0, .int .u64 0, .int .u64 0, .int .u64 0, .int .u64 0] HB.out.res infoOC rfl (by kernel_rfl) ?_)
    | (refine wpList_store_row rfl 51 _ _ rfl (w.heap.size + 3) #[.int .i64 0, .int .i64 0] rfl rfl 51 #[.int .i64 0, .int .i64 0] ((setRow_other _ _ _ _ (by omega)).trans HB.out.ans) infoAn rfl (two_one 0 0) ?_))
  refine bodyPost_ret (results_rows3 Tryz.results37 _ _ (w.heap.size + 2) (w.heap.size + 3) 100 51 #[.int .u64 0, .int .u64 0, .int .u64 0, .int .u64 0, .int .u64 0, .int .u64 0, .int .u64 0, .int .u64 0, .int .u64 0, .int .u64 0, .int .u64 0, .int .u64 0, .int .u64 0, .int .u64 0, .int .u64 0, .int .u64 0, .int .u64 0] #[.int .i64 0, .int .i64 0] _ _ (.iface 28 (.int .i64 1)) rfl rfl rfl ((setRow_other _ _ _ _ (by omega)).trans (Blk.setRow HB.out.res _)) (Blk.setRow ((setRow_other _ _ _ _ (by omega)).trans HB.out.ans) _) Tryz.underlying100 rfl infoOC Tryz.underlying51 rfl infoAn) rfl ⟨rfl, below_setRow (below_setRow HB.out.below (by omega) _) (by omega) _⟩

set_option maxRecDepth 100000 in
set_option maxHeartbeats 4000000 in
theorem objDo_tally (C D : Array Value) (z : Nat → Int) (a k v : Int) (w : World) (h : U64s C 17 z) (ho : opOk a k v) (hz : thingOk 6 z) (hD : U64s D 17 (fun i => if i = 0 then tallyN (z 0) a v else 0)) :
    Calls Tryz.prog 37 #[.int .i64 6, .agg C, .agg #[.int .i64 a, .int .i64 k, .int .i64 v]] w fun e w' => e = .returned (.tuple #[.agg D, .agg #[.int .i64 (tallyC (z 0) a v), .int .i64 (tallyV (z 0) a v)], .nilIface]) ∧ Below w.heap.size w w' := by
  have HIE : Hid ((Tryz.prog.info? 100).map (·.size) = some C.size) := by show _ = _; rw [infoOC, h.size]
  have HC := Lib.hid h
  have HST := Lib.hid (OdSt.mk_ w C a k v)
  have HR0 : Hid (opRightB a k v = true) := Lib.hid (opRightB_iff.2 ho)
  have HR : Hid (thingOk 6 z) := Lib.hid hz
  have HDS := Lib.hid hD.size
  have HD1 := Lib.hid hD.one
  have HD := Lib.hid hD
  have HID : Hid ((Tryz.prog.info? 100).map (·.size) = some D.size) := by show _ = _; rw [infoOC, hD.size]
  have h0 := h.bd 0 (by omega)
  have h1 : z 0 ≤ 4294967295 := by
    unfold thingOk at hz
    rw [if_neg (by decide), if_pos rfl] at hz
    exact hz.1
  have hnn : 0 ≤ tallyN (z 0) a v ∧ tallyN (z 0) a v ≤ 4294967295 := (tally_ok (a := a) (n := z 0) (v := v) ⟨h0.1, h1⟩ ⟨ho.2.2.2.2.1, ho.2.2.2.2.2⟩).1
  have c0 := h.get 0 (by omega)
  have HCALL : Hid (∀ W : World, Calls Tryz.prog 63 #[.int .i64 (z 0), .agg #[.int .i64 a, .int .i64 k, .int .i64 v]] W fun e w' => e = .returned (.tuple #[.int .i64 (tallyN (z 0) a v), .agg #[.int .i64 (tallyC (z 0) a v), .int .i64 (tallyV (z 0) a v)]]) ∧ Below W.heap.size W w') := Lib.hid fun W => tally_any (z 0) a k v W h0.1 h1 ho.2.2.2.2.1 ho.2.2.2.2.2
  clear h hz ho hD
  generalize tallyN (z 0) a v = nn at *
  generalize tallyC (z 0) a v = co at *
  generalize tallyV (z 0) a v = va at *
  generalize hz0 : z 0 = z0 at c0 h0 h1 HCALL
  have HZ0 := Lib.hid hz0
  clear hz0
  have ew : nn % 18446744073709551616 = nn := by omega
  have ez : IntKind.i64.wrap z0 = z0 := IntWalk.i64_in _ (by omega)
  go_enter Tryz.func37, Tryz.ntmps37
  go_wp2_with fail
  refine (objOpRight_any a k v _).mono ?_
  rintro e w1 ⟨rfl, hb1⟩
  rw [HR0.out]
  have HB1 := Lib.hid (HST.out.on hb1)
  clear hb1 HST
  go_wp2_with (refine wpList_load_row_g rfl 100 _ rfl w.heap.size rfl 100 C (0, 0) _ HB1.out.words Tryz.underlying100 rfl HIE.out ?_)
  refine (objRight_any C z 6 true _ HC.out ⟨fun _ => HR.out, fun _ => rfl⟩).mono ?_
  rintro e w2 ⟨rfl, hb2⟩
  have HB := Lib.hid (HB1.out.on hb2)
  clear hb2 HB1
  have s0 : w2.cell? ⟨w.heap.size, 0, none⟩ = some (.int .u64 z0) := (HB.out.words.cell 0).trans c0
  clear c0
  go_wp2_with (refine wpList_load_row rfl 61 _ rfl (w.heap.size + 1) rfl 61 #[.int .i64 a, .int .i64 k, .int .i64 v] (0, 0) _ HB.out.op Tryz.underlying61 rfl infoOp ?_)
  refine (HCALL.out _).mono ?_
  rintro e w3 ⟨rfl, hb3⟩
  have HB3 := Lib.hid (HB.out.on hb3)
  clear hb3 s0
  have HT3 := Lib.hid (HB3.out.alloc (.cells #[.int .i64 co, .int .i64 va] 51))
  have HAN := Lib.hid (Blk.new w3 51 #[.int .i64 co, .int .i64 va])
  have HG := Lib.hid HB3.out.lt
  have hde : D = #[.int .u64 0, .int .u64 0, .int .u64 0, .int .u64 0, .int .u64 0, .int .u64 0, .int .u64 0, .int .u64 0, .int .u64 0, .int .u64 0, .int .u64 0, .int .u64 0, .int .u64 0, .int .u64 0, .int .u64 0, .int .u64 0, .int .u64 0].setIfInBounds 0 (.int .u64 nn) := HD.out.ext ((show U64s #[.int .u64 0, .int .u64 0, .int .u64 0, .int .u64 0, .int .u64 0, .int .u64 0, .int .u64 0, .int .u64 0, .int .u64 0, .int .u64 0, .int .u64 0, .int .u64 0, .int .u64 0, .int .u64 0, .int .u64 0, .int .u64 0, .int .u64 0] 17 (fun _ => 0) from U64s.zero 17).set_ (k := 0) (v := nn) (by omega))
  go_wp2_with fail
  generalize hG : w3.heap.size = G at *
  generalize w3.alloc (.cells #[.int .i64 co, .int .i64 va] 51) = W3 at *
  subst hde
  refine wp_region_relyA 5 (fun b => b = w.heap.size + 2) [4] (by kernel_rfl) (by kernel_rfl) ?_
  intro anc HA0
  refine wpRely_step (fun K hK => ?_)
  refine .inl ?_
  apply Exists.intro
  refine ⟨Any, ?_, hK _ _ _ _ ?_⟩
  · simp only [RelyOp, fillE]
    refine ⟨?_, fun w9 hw9 _ => ?_⟩
    · first | rfl | (go_simp; done)
    go_simp
    first
    | exact ⟨⟨rfl, trivial⟩, Keeps.refl _ _⟩
  clear hK K
  try simp only [Act.put, List.setIfInBounds_toArray, List.set_cons_zero, List.set_cons_succ]
  refine wpRely_step (fun K hK => ?_)
  refine .inl ⟨.int .u64 nn, Any, ?_, hK _ _ _ _ ?_⟩
  · simp only [RelyOp, fillE]
    refine ⟨rfl, fun w9 hw9 _ => ?_⟩
    go_simp
    first
    | exact ⟨⟨rfl, trivial⟩, Keeps.refl _ _⟩
    | (rw [ew]; exact ⟨⟨rfl, trivial⟩, Keeps.refl _ _⟩)
    | (refine ⟨⟨?_, trivial⟩, Keeps.refl _ _⟩; exact congrArg _ ew)
    | (refine ⟨⟨?_, trivial⟩, Keeps.refl _ _⟩; exact congrArg _ (IntWalk.u64_in _ (by omega)))
  clear hK K
  try simp only [Act.put, List.setIfInBounds_toArray, List.set_cons_zero, List.set_cons_succ]
  refine wpRely_step (fun K hK => ?_)
  refine .inl ?_
  apply Exists.intro
  refine ⟨Any, ?_, hK _ _ _ _ ?_⟩
  · simp only [RelyOp, fillE]
    refine ⟨?_, fun w9 hw9 _ => ?_⟩
    · first | rfl | (go_simp; done)
    go_simp
    first
    | exact ⟨⟨rfl, trivial⟩, Keeps.refl _ _⟩
  clear hK K
  try simp only [Act.put, List.setIfInBounds_toArray, List.set_cons_zero, List.set_cons_succ]
  refine wpRely_step (fun K hK => ?_)
  refine .inl ⟨.agg #[.int .i64 co, .int .i64 va], Any, ?_, hK _ _ _ _ ?_⟩
  · simp only [RelyOp, fillE]
    refine ⟨rfl, fun w9 hw9 _ => ?_⟩
    exact relyAt_load_row 51 _ rfl G rfl 51 #[.int .i64 co, .int .i64 va] _ ((hw9.block _ HAN.out.lt (by show ¬ G = w.heap.size + 2; have := HG.out; omega)).trans HAN.out) Tryz.underlying51 rfl infoAn ⟨⟨rfl, trivial⟩, Keeps.refl _ _⟩
  clear hK K
  try simp only [Act.put, List.setIfInBounds_toArray, List.set_cons_zero, List.set_cons_succ]
  refine wpRely_step (fun K hK => ?_)
  refine .inl ⟨undef, fun _ w' => Blk w' (w.heap.size + 2) 100 (#[.int .u64 0, .int .u64 0, .int .u64 0, .int .u64 0, .int .u64 0, .int .u64 0, .int .u64 0, .int .u64 0, .int .u64 0, .int .u64 0, .int .u64 0, .int .u64 0, .int .u64 0, .int .u64 0, .int .u64 0, .int .u64 0, .int .u64 0].setIfInBounds 0 (.int .u64 nn)), ?_, hK _ _ _ _ ?_⟩
  · simp only [RelyOp, fillE]
    refine ⟨rfl, fun w9 hw9 hmet => ?_⟩
    have hB9 : Blk w9 (w.heap.size + 2) 100 #[.int .u64 0, .int .u64 0, .int .u64 0, .int .u64 0, .int .u64 0, .int .u64 0, .int .u64 0, .int .u64 0, .int .u64 0, .int .u64 0, .int .u64 0, .int .u64 0, .int .u64 0, .int .u64 0, .int .u64 0, .int .u64 0, .int .u64 0] := (hmet.1.block _ HT3.out.res.lt (fun h => calm_out h (by rw [HA0.out]; kernel_rfl))).trans HT3.out.res
    refine relyAt_store_row 100 _ _ rfl (w.heap.size + 2) (#[.int .u64 0, .int .u64 0, .int .u64 0, .int .u64 0, .int .u64 0, .int .u64 0, .int .u64 0, .int .u64 0, .int .u64 0, .int .u64 0, .int .u64 0, .int .u64 0, .int .u64 0, .int .u64 0, .int .u64 0, .int .u64 0, .int .u64 0].setIfInBounds 0 (.int .u64 nn)) rfl ?_ 100 #[.int .u64 0, .int .u64 0, .int .u64 0, .int .u64 0, .int .u64 0, .int .u64 0, .int .u64 0, .int .u64 0, .int .u64 0, .int .u64 0, .int .u64 0, .int .u64 0, .int .u64 0, .int .u64 0, .int .u64 0, .int .u64 0, .int .u64 0] hB9 HID.out (by rw [HDS.out]; rfl) HD1.out ⟨⟨rfl, hB9.setRow (#[.int .u64 0, .int .u64 0, .int .u64 0, .int .u64 0, .int .u64 0, .int .u64 0, .int .u64 0, .int .u64 0, .int .u64 0, .int .u64 0, .int .u64 0, .int .u64 0, .int .u64 0, .int .u64 0, .int .u64 0, .int .u64 0, .int .u64 0].setIfInBounds 0 (.int .u64 nn))⟩, keeps_setRow (.inl ⟨by decide, rfl⟩) _⟩
    kernel_rfl
  clear hK K
  try simp only [Act.put, List.setIfInBounds_toArray, List.set_cons_zero, List.set_cons_succ]
  refine wpRely_nil ?_
  simp only [fillE]
  intro w9 hw9 hmet
  have HR9 : Hid (Blk w9 (w.heap.size + 2) 100 (#[.int .u64 0, .int .u64 0, .int .u64 0, .int .u64 0, .int .u64 0, .int .u64 0, .int .u64 0, .int .u64 0, .int .u64 0, .int .u64 0, .int .u64 0, .int .u64 0, .int .u64 0, .int .u64 0, .int .u64 0, .int .u64 0, .int .u64 0].setIfInBounds 0 (.int .u64 nn))) := Lib.hid (by
    have h1 := hmet.1 rfl
    obtain ⟨w0, k0, k1, hF⟩ := h1
    exact (k1.block _ hF.lt (fun h => calm_out h (by rw [HA0.out]; kernel_rfl))).trans hF)
  have HA9 : Hid (Blk w9 (w.heap.size + 3) 51 #[.int .i64 0, .int .i64 0]) := Lib.hid ((hw9.block _ HT3.out.ans.lt (by show ¬ w.heap.size + 3 = w.heap.size + 2; omega)).trans HT3.out.ans)
  have HW9 := Lib.hid (HT3.out.below.trans (hw9.below HT3.out.below.size (fun b hb e => by omega)))
  clear hmet hw9
  simp only [List.drop_succ_cons, List.drop_zero]
  go_wp2_with (refine wpList_store_row rfl 51 _ _ rfl (w.heap.size + 3) #[.int .i64 co, .int .i64 va] rfl rfl 51 #[.int .i64 0, .int .i64 0] HA9.out infoAn rfl (two_one _ _) ?_)
  have hR : Blk (w9.setRow (w.heap.size + 3) #[.int .i64 co, .int .i64 va]) (w.heap.size + 2) 100 (#[.int .u64 0, .int .u64 0, .int .u64 0, .int .u64 0, .int .u64 0, .int .u64 0, .int .u64 0, .int .u64 0, .int .u64 0, .int .u64 0, .int .u64 0, .int .u64 0, .int .u64 0, .int .u64 0, .int .u64 0, .int .u64 0, .int .u64 0].setIfInBounds 0 (.int .u64 nn)) := (setRow_other _ _ _ _ (by omega)).trans HR9.out
  have hA : Blk (w9.setRow (w.heap.size + 3) #[.int .i64 co, .int .i64 va]) (w.heap.size + 3) 51 #[.int .i64 co, .int .i64 va] := Blk.setRow HA9.out _
  refine bodyPost_ret (results_rows3 Tryz.results37 _ _ (w.heap.size + 2) (w.heap.size + 3) 100 51 (#[.int .u64 0, .int .u64 0, .int .u64 0, .int .u64 0, .int .u64 0, .int .u64 0, .int .u64 0, .int .u64 0, .int .u64 0, .int .u64 0, .int .u64 0, .int .u64 0, .int .u64 0, .int .u64 0, .int .u64 0, .int .u64 0, .int .u64 0].setIfInBounds 0 (.int .u64 nn)) #[.int .i64 co, .int .i64 va] _ _ .nilIface rfl rfl rfl hR hA Tryz.underlying100 rfl HID.out Tryz.underlying51 rfl infoAn) rfl ⟨rfl, below_setRow HW9.out (by omega) _⟩

set_option maxRecDepth 100000 in
set_option maxHeartbeats 4000000 in
theorem objDo_table (C D : Array Value) (z : Nat → Int) (a k v : Int) (w : World) (h : U64s C 17 z) (ho : opOk a k v) (hz : thingOk 5 z) (m : Nat) (hm : tabM z a k m) (hD : U64s D 17 (slotK 8 (tabY z a k v m))) :
    Calls Tryz.prog 37 #[.int .i64 5, .agg C, .agg #[.int .i64 a, .int .i64 k, .int .i64 v]] w fun e w' => e = .returned (.tuple #[.agg D, .agg #[.int .i64 (tabC z a k), .int .i64 (tabV z a k)], .nilIface]) ∧ Below w.heap.size w w' := by
  have HIE : Hid ((Tryz.prog.info? 100).map (·.size) = some C.size) := by show _ = _; rw [infoOC, h.size]
  have HC := Lib.hid h
  have HST := Lib.hid (OdSt.mk_ w C a k v)
  have HR0 : Hid (opRightB a k v = true) := Lib.hid (opRightB_iff.2 ho)
  have HR : Hid (thingOk 5 z) := Lib.hid hz
  have HDS := Lib.hid hD.size
  have HD1 := Lib.hid hD.one
  have HD := Lib.hid hD
  have HID : Hid ((Tryz.prog.info? 100).map (·.size) = some D.size) := by show _ = _; rw [infoOC, hD.size]
  have hsl : slotsOk z := by
    unfold thingOk at hz
    rwa [if_pos rfl] at hz
  have hv : -9223372036854775808 ≤ v ∧ v ≤ 9223372036854775807 := by have := ho.2.2.2.2; omega
  have hy := tabY_right hsl.2.2 ho hm
  have bd : ∀ i, i < 16 → 0 ≤ tabY z a k v m i ∧ tabY z a k v m i ≤ 4294967295 := fun i hi => by
    have := slot_bd hy (k := i / 2) (by omega)
    rcases Nat.mod_two_eq_zero_or_one i with e | e
    · rw [show 2 * (i / 2) = i by omega] at this; omega
    · rw [show 2 * (i / 2) + 1 = i by omega] at this; omega
  obtain ⟨E, hE⟩ := I64s.ex (tabY z a k v m) 16 (fun i hi => by have := bd i hi; omega)
  have HCALL : Hid (∀ (S : Array Value) (W : World), I64s S 16 z → Calls Tryz.prog 62 #[.agg S, .agg #[.int .i64 a, .int .i64 k, .int .i64 v]] W fun e w' => e = .returned (.tuple #[.agg E, .agg #[.int .i64 (tabC z a k), .int .i64 (tabV z a k)]]) ∧ Below W.heap.size W w') := Lib.hid fun S W hS => tab_any S E z a k v m W hS hsl.2.2 hv hm hE
  have HSL := Lib.hid hsl
  have HBD := Lib.hid bd
  have HE := Lib.hid hE
  have HEE : Hid ((Tryz.prog.info? 131).map (·.size) = some E.size) := by show _ = _; rw [infoTS, hE.size]
  have HES := Lib.hid hE.size
  have HE1 := Lib.hid hE.one
  clear h hz ho hD hsl bd hE hm hv hy
  generalize tabC z a k = co at *
  generalize tabV z a k = va at *
  generalize tabY z a k v m = yy at *
  go_enter Tryz.func37, Tryz.ntmps37
  go_wp2_with fail
  refine (objOpRight_any a k v _).mono ?_
  rintro e w1 ⟨rfl, hb1⟩
  rw [HR0.out]
  have HB1 := Lib.hid (HST.out.on hb1)
  clear hb1 HST
  go_wp2_with (refine wpList_load_row_g rfl 100 _ rfl w.heap.size rfl 100 C (0, 0) _ HB1.out.words Tryz.underlying100 rfl HIE.out ?_)
  refine (objRight_any C z 5 true _ HC.out ⟨fun _ => HR.out, fun _ => rfl⟩).mono ?_
  rintro e w2 ⟨rfl, hb2⟩
  have HB := Lib.hid (HB1.out.on hb2)
  clear hb2 HB1
  go_wp2_with (refine wpList_load_row rfl 100 _ rfl w.heap.size rfl 100 C (0, 0) _ HB.out.words Tryz.underlying100 rfl HIE.out ?_)
  refine (slots_any C z _ HC.out).mono ?_
  rintro e w3 ⟨hb3, S, y, b, rfl, hI, hbb, hy⟩
  obtain rfl : b = true := hbb.2 HSL.out
  have HI : Hid (I64s S 16 z) := Lib.hid (hI.congr (fun i hi => (hy rfl i hi).symm))
  have HIS : Hid ((Tryz.prog.info? 131).map (·.size) = some S.size) := by show _ = _; rw [infoTS, hI.size]
  have HS1 := Lib.hid hI.one
  have HSZ := Lib.hid hI.size
  have HB3 := Lib.hid (HB.out.on hb3)
  clear hb3 hI hbb hy HB
  have HT := Lib.hid ((HB3.out.alloc (.cells #[.int .i64 0, .int .i64 0, .int .i64 0, .int .i64 0, .int .i64 0, .int .i64 0, .int .i64 0, .int .i64 0, .int .i64 0, .int .i64 0, .int .i64 0, .int .i64 0, .int .i64 0, .int .i64 0, .int .i64 0, .int .i64 0] 131)).row HB3.out.lt S)
  have HTB := Lib.hid (Blk.setRow (Blk.new w3 131 #[.int .i64 0, .int .i64 0, .int .i64 0, .int .i64 0, .int .i64 0, .int .i64 0, .int .i64 0, .int .i64 0, .int .i64 0, .int .i64 0, .int .i64 0, .int .i64 0, .int .i64 0, .int .i64 0, .int .i64 0, .int .i64 0]) S)
  go_wp2_with (first
    | (refine wpList_store_row rfl 131 _ _ rfl w3.heap.size S rfl rfl 131 #[.int .i64 0, .int .i64 0, .int .i64 0, .int .i64 0, .int .i64 0, .int .i64 0, .int .i64 0, .int .i64 0, .int .i64 0, .int .i64 0, .int .i64 0, .int .i64 0, .int .i64 0, .int .i64 0, .int .i64 0, .int .i64 0] (Blk.new _ _ _) HIS.out (by rw [HSZ.out]; rfl) HS1.out ?_)
    | (refine wpList_load_row rfl 131 _ rfl w3.heap.size rfl 131 S (0, 0) _ HTB.out Tryz.underlying131 rfl HIS.out ?_)
    | (refine wpList_load_row rfl 61 _ rfl (w.heap.size + 1) rfl 61 #[.int .i64 a, .int .i64 k, .int .i64 v] (0, 0) _ HT.out.op Tryz.underlying61 rfl infoOp ?_))
  refine (HCALL.out S _ HI.out).mono ?_
  rintro e w4 ⟨rfl, hb4⟩
  have hG3 : w3.heap.size < w4.heap.size := Nat.lt_of_lt_of_le (by simp) hb4.size
  have HB4 := Lib.hid (HT.out.on hb4)
  have HTB4 := Lib.hid (HTB.out.below hb4 HTB.out.lt)
  have hG0 := HB3.out.lt
  clear hb4 HT HTB HB3 HCALL
  have HT5 := Lib.hid ((((HB4.out.alloc (.cells #[.int .i64 0, .int .i64 0] 51)).row (g := w3.heap.size) hG0 E).row HB4.out.lt #[.int .i64 co, .int .i64 va]).alloc (.cells #[.int .u64 0, .int .u64 0, .int .u64 0, .int .u64 0, .int .u64 0, .int .u64 0, .int .u64 0, .int .u64 0, .int .u64 0, .int .u64 0, .int .u64 0, .int .u64 0, .int .u64 0, .int .u64 0, .int .u64 0, .int .u64 0, .int .u64 0] 100))
  have HTB5 := Lib.hid ((Blk.far_row (Blk.setRow (HTB4.out.alloc (.cells #[.int .i64 0, .int .i64 0] 51)) E) (show w3.heap.size ≠ w4.heap.size by omega) #[.int .i64 co, .int .i64 va]).alloc (.cells #[.int .u64 0, .int .u64 0, .int .u64 0, .int .u64 0, .int .u64 0, .int .u64 0, .int .u64 0, .int .u64 0, .int .u64 0, .int .u64 0, .int .u64 0, .int .u64 0, .int .u64 0, .int .u64 0, .int .u64 0, .int .u64 0, .int .u64 0] 100))
  have HAN5 := Lib.hid ((Blk.setRow (Blk.far_row (Blk.new w4 51 #[.int .i64 0, .int .i64 0]) (show w4.heap.size ≠ w3.heap.size by omega) E) #[.int .i64 co, .int .i64 va]).alloc (.cells #[.int .u64 0, .int .u64 0, .int .u64 0, .int .u64 0, .int .u64 0, .int .u64 0, .int .u64 0, .int .u64 0, .int .u64 0, .int .u64 0, .int .u64 0, .int .u64 0, .int .u64 0, .int .u64 0, .int .u64 0, .int .u64 0, .int .u64 0] 100))
  have HCE5 : Hid (Blk ((((w4.alloc (.cells #[.int .i64 0, .int .i64 0] 51)).setRow w3.heap.size E).setRow w4.heap.size #[.int .i64 co, .int .i64 va]).alloc (.cells #[.int .u64 0, .int .u64 0, .int .u64 0, .int .u64 0, .int .u64 0, .int .u64 0, .int .u64 0, .int .u64 0, .int .u64 0, .int .u64 0, .int .u64 0, .int .u64 0, .int .u64 0, .int .u64 0, .int .u64 0, .int .u64 0, .int .u64 0] 100)) (w4.heap.size + 1) 100 #[.int .u64 0, .int .u64 0, .int .u64 0, .int .u64 0, .int .u64 0, .int .u64 0, .int .u64 0, .int .u64 0, .int .u64 0, .int .u64 0, .int .u64 0, .int .u64 0, .int .u64 0, .int .u64 0, .int .u64 0, .int .u64 0, .int .u64 0]) := Lib.hid (Blk.newAt _ _ _ (by simp [World.setRow]))
  go_wp2_with (first
    | (refine wpList_store_row rfl 131 _ _ rfl w3.heap.size E rfl rfl 131 S (HTB4.out.alloc _) HEE.out (by rw [HSZ.out, HES.out]) HE1.out ?_)
    | (refine wpList_store_row rfl 51 _ _ rfl w4.heap.size #[.int .i64 co, .int .i64 va] rfl rfl 51 #[.int .i64 0, .int .i64 0] (Blk.far_row (Blk.new w4 51 #[.int .i64 0, .int .i64 0]) (show w4.heap.size ≠ w3.heap.size by omega) E) infoAn rfl (two_one _ _) ?_)
    | (refine wpList_load_row rfl 131 _ rfl w3.heap.size rfl 131 E (0, 0) _ HTB5.out Tryz.underlying131 rfl HEE.out ?_))
  have HE16 := HE
  have HG : Hid (w.heap.size + 3 < w4.heap.size) := Lib.hid (by omega)
  clear HTB5 HTB4 HB4
  go_loopw [48] (fun i wr => ∃ q : Nat, q ≤ 8 ∧ i = .int .i64 q ∧ Hid (∃ F, Blk wr (w4.heap.size + 1) 100 F ∧ U64s F 17 (slotK q yy)) ∧ Hid (OdSt w wr C a k v) ∧ Hid (Blk wr w4.heap.size 51 #[.int .i64 co, .int .i64 va])) (fun i _ => 8 - (intOf i).toNat)
  case atStart => exact ⟨0, by omega, rfl, Lib.hid ⟨_, HCE5.out, (show U64s #[.int .u64 0, .int .u64 0, .int .u64 0, .int .u64 0, .int .u64 0, .int .u64 0, .int .u64 0, .int .u64 0, .int .u64 0, .int .u64 0, .int .u64 0, .int .u64 0, .int .u64 0, .int .u64 0, .int .u64 0, .int .u64 0, .int .u64 0] 17 (fun _ => 0) from U64s.zero 17).congr (fun i hi => by unfold slotK; rw [if_neg (by omega)])⟩, HT5, HAN5⟩
  case round =>
    obtain ⟨q, hq, rfl, hF, HT, HAN⟩ := hrel
    clear HT5 HAN5 HCE5
    by_cases hq8 : q < 8
    · have b1 : (q : Int) < 8 := by omega
      obtain ⟨F, hB, hU⟩ := hF.out
      clear hF
      have hix := run_index_slot HE.out q hq8
      have hx := HBD.out (2 * q) (by omega)
      have hy := HBD.out (2 * q + 1) (by omega)
      have HK : Hid (∀ i, slotK (q + 1) yy i = if i = 2 * q + 1 then yy (2 * q + 1) else if i = 2 * q then yy (2 * q) else slotK q yy i) := Lib.hid fun i => by
        have := slotK_put yy q i
        rwa [show q * 2 = 2 * q by omega] at this
      generalize hdx : yy (2 * q) = x at hx hix HK
      generalize hdy : yy (2 * q + 1) = y at hy hix HK
      have HDX := Lib.hid hdx
      have HDY := Lib.hid hdy
      clear hdx hdy
      have hwx : x % 18446744073709551616 = x := by omega
      have hwy : y % 18446744073709551616 = y := by omega
      have q0 := (hB.alloc (.cells #[.int .i64 x, .int .i64 y] 129)).cell (2 * q)
      rw [hU.get (2 * q) (by omega)] at q0
      have q1 := (hB.alloc (.cells #[.int .i64 x, .int .i64 y] 129)).cell (2 * q + 1)
      rw [hU.get (2 * q + 1) (by omega)] at q1
      have f0 := (hB.alloc (.cells #[.int .i64 x, .int .i64 y] 129)).frozen (2 * q)
      have f1 := (hB.alloc (.cells #[.int .i64 x, .int .i64 y] 129)).frozen (2 * q + 1)
      have s0 := (Blk.new wr 129 #[.int .i64 x, .int .i64 y]).cell 0
      have s1 := (Blk.new wr 129 #[.int .i64 x, .int .i64 y]).cell 1
      simp only [List.getElem?_toArray, List.getElem?_cons_zero, List.getElem?_cons_succ] at s0 s1
      have hlt := hB.lt
      have hne : w4.heap.size + 1 ≠ wr.heap.size := by omega
      have HB5 := Lib.hid (hB.alloc (.cells #[.int .i64 x, .int .i64 y] 129))
      have HTT := Lib.hid (HT.out.alloc (.cells #[.int .i64 x, .int .i64 y] 129))
      have HAA := Lib.hid (HAN.out.alloc (.cells #[.int .i64 x, .int .i64 y] 129))
      have HUU := Lib.hid hU
      clear hB hU HT HAN
      go_wp2
      generalize wr.alloc (.cells #[.int .i64 x, .int .i64 y] 129) = w5 at *
      generalize wr.heap.size = gs at *
      go_region
      apply_assumption
      go_wp2
      go_roundw
      case rel => exact ⟨q + 1, by omega, by go_num, Lib.hid ⟨_, ((HB5.out.set_ (2 * q) _).set_ (2 * q + 1) _).drew, ((HUU.out.set_ (k := 2 * q) (v := x) (by omega)).set_ (k := 2 * q + 1) (v := y) (by omega)).congr (fun i hi => HK.out i)⟩,
        Lib.hid ((HTT.out.cell (p := ⟨w4.heap.size + 1, 2 * q, none⟩) (by have := HG.out; show _ < w4.heap.size + 1; omega) _).cell (p := ⟨w4.heap.size + 1, 2 * q + 1, none⟩) (by have := HG.out; show _ < w4.heap.size + 1; omega) _).drew, Lib.hid ((HAA.out.far (p := ⟨w4.heap.size + 1, 2 * q, none⟩) (by simp) _).far (p := ⟨w4.heap.size + 1, 2 * q + 1, none⟩) (by simp) _).drew⟩
      case measure => simp [intOf]; omega
    · obtain rfl : q = 8 := by omega
      obtain ⟨F, hB, hU⟩ := hF.out
      have hFD : D = F := HD.out.ext hU
      subst hFD
      have HT3 := HT
      have HFB := Lib.hid hB
      clear hB hU hF
      go_wp2_with fail
      generalize hG : w4.heap.size = G at *
      refine wp_region_relyA 3 (fun b => b = w.heap.size + 2) [2] (by kernel_rfl) (by kernel_rfl) ?_
      intro anc HA0
      refine wpRely_step (fun K hK => ?_)
      refine .inl ⟨.agg D, Any, ?_, hK _ _ _ _ ?_⟩
      · simp only [RelyOp, fillE]
        refine ⟨rfl, fun w9 hw9 _ => ?_⟩
        exact relyAt_load_row 100 _ rfl (G + 1) rfl 100 D _ ((hw9.block _ HFB.out.lt (by show ¬ G + 1 = w.heap.size + 2; have := HG.out; omega)).trans HFB.out) Tryz.underlying100 rfl HID.out ⟨⟨rfl, trivial⟩, Keeps.refl _ _⟩
      clear hK K
      try simp only [Act.put, List.setIfInBounds_toArray, List.set_cons_zero, List.set_cons_succ]
      refine wpRely_step (fun K hK => ?_)
      refine .inl ⟨.agg #[.int .i64 co, .int .i64 va], Any, ?_, hK _ _ _ _ ?_⟩
      · simp only [RelyOp, fillE]
        refine ⟨rfl, fun w9 hw9 _ => ?_⟩
        exact relyAt_load_row 51 _ rfl G rfl 51 #[.int .i64 co, .int .i64 va] _ ((hw9.block _ HAN.out.lt (by show ¬ G = w.heap.size + 2; have := HG.out; omega)).trans HAN.out) Tryz.underlying51 rfl infoAn ⟨⟨rfl, trivial⟩, Keeps.refl _ _⟩
      clear hK K
      try simp only [Act.put, List.setIfInBounds_toArray, List.set_cons_zero, List.set_cons_succ]
      refine wpRely_step (fun K hK => ?_)
      refine .inl ⟨undef, fun _ w' => Blk w' (w.heap.size + 2) 100 D, ?_, hK _ _ _ _ ?_⟩
      · simp only [RelyOp, fillE]
        refine ⟨rfl, fun w9 hw9 hmet => ?_⟩
        have hB9 : Blk w9 (w.heap.size + 2) 100 #[.int .u64 0, .int .u64 0, .int .u64 0, .int .u64 0, .int .u64 0, .int .u64 0, .int .u64 0, .int .u64 0, .int .u64 0, .int .u64 0, .int .u64 0, .int .u64 0, .int .u64 0, .int .u64 0, .int .u64 0, .int .u64 0, .int .u64 0] := (hmet.1.block _ HT3.out.res.lt (fun h => calm_out h (by rw [HA0.out]; kernel_rfl))).trans HT3.out.res
        refine relyAt_store_row 100 _ _ rfl (w.heap.size + 2) D rfl ?_ 100 #[.int .u64 0, .int .u64 0, .int .u64 0, .int .u64 0, .int .u64 0, .int .u64 0, .int .u64 0, .int .u64 0, .int .u64 0, .int .u64 0, .int .u64 0, .int .u64 0, .int .u64 0, .int .u64 0, .int .u64 0, .int .u64 0, .int .u64 0] hB9 HID.out (by rw [HDS.out]; rfl) HD1.out ⟨⟨rfl, hB9.setRow D⟩, keeps_setRow (.inl ⟨by decide, rfl⟩) _⟩
        kernel_rfl
      clear hK K
      try simp only [Act.put, List.setIfInBounds_toArray, List.set_cons_zero, List.set_cons_succ]
      refine wpRely_nil ?_
      simp only [fillE]
      intro w9 hw9 hmet
      have HR9 : Hid (Blk w9 (w.heap.size + 2) 100 D) := Lib.hid (by
        have h1 := hmet.1 rfl
        obtain ⟨w0, k0, k1, hF⟩ := h1
        exact (k1.block _ hF.lt (fun h => calm_out h (by rw [HA0.out]; kernel_rfl))).trans hF)
      have HA9 : Hid (Blk w9 (w.heap.size + 3) 51 #[.int .i64 0, .int .i64 0]) := Lib.hid ((hw9.block _ HT3.out.ans.lt (by show ¬ w.heap.size + 3 = w.heap.size + 2; omega)).trans HT3.out.ans)
      have HW9 := Lib.hid (HT3.out.below.trans (hw9.below HT3.out.below.size (fun b hb e => by omega)))
      clear hmet hw9
      simp only [List.drop_succ_cons, List.drop_zero]
      go_wp2_with (refine wpList_store_row rfl 51 _ _ rfl (w.heap.size + 3) #[.int .i64 co, .int .i64 va] rfl rfl 51 #[.int .i64 0, .int .i64 0] HA9.out infoAn rfl (two_one _ _) ?_)
      have hR : Blk (w9.setRow (w.heap.size + 3) #[.int .i64 co, .int .i64 va]) (w.heap.size + 2) 100 D := (setRow_other _ _ _ _ (by omega)).trans HR9.out
      have hA : Blk (w9.setRow (w.heap.size + 3) #[.int .i64 co, .int .i64 va]) (w.heap.size + 3) 51 #[.int .i64 co, .int .i64 va] := Blk.setRow HA9.out _
      refine bodyPost_ret (results_rows3 Tryz.results37 _ _ (w.heap.size + 2) (w.heap.size + 3) 100 51 D #[.int .i64 co, .int .i64 va] _ _ .nilIface rfl rfl rfl hR hA Tryz.underlying100 rfl HID.out Tryz.underlying51 rfl infoAn) rfl ⟨rfl, below_setRow HW9.out (by omega) _⟩


set_option maxRecDepth 100000 in
set_option maxHeartbeats 4000000 in
theorem objDo_l1 (C D : Array Value) (z : Nat → Int) (a k v : Int) (w : World) (h : U64s C 17 z) (ho : opOk a k v) (hz : thingOk 1 z) (hD : U64s D 17 (listW (lY 1 (zL z) a v).length (lY 1 (zL z) a v))) :
    Calls Tryz.prog 37 #[.int .i64 1, .agg C, .agg #[.int .i64 a, .int .i64 k, .int .i64 v]] w fun e w' => e = .returned (.tuple #[.agg D, .agg #[.int .i64 (lC 1 (zL z) a), .int .i64 (lV 1 (zL z) a)], .nilIface]) ∧ Below w.heap.size w w' := by
  have HIE : Hid ((Tryz.prog.info? 100).map (·.size) = some C.size) := by show _ = _; rw [infoOC, h.size]
  have HC := Lib.hid h
  have HST := Lib.hid (OdSt.mk_ w C a k v)
  have HR0 : Hid (opRightB a k v = true) := Lib.hid (opRightB_iff.2 ho)
  have HR : Hid (thingOk 1 z) := Lib.hid hz
  have HDS := Lib.hid hD.size
  have HD1 := Lib.hid hD.one
  have HD := Lib.hid hD
  have HID : Hid ((Tryz.prog.info? 100).map (·.size) = some D.size) := by show _ = _; rw [infoOC, hD.size]
  have hl : listOk z := by
    unfold thingOk at hz
    simp only [if_neg (show ¬ (1 : Int) = 5 by decide), if_neg (show ¬ (1 : Int) = 6 by decide)] at hz
    rw [if_neg (by decide)] at hz
    exact hz.2.2
  have hv : -9223372036854775808 ≤ v ∧ v ≤ 9223372036854775807 := by have := ho.2.2.2.2; omega
  have hw : Wds z := fun i hi => h.bd i hi
  have hlk := zL_ok hw hl
  have hy := lY_ok (kind := 1) hlk ho
  have h0 := hl.1
  have h00 := hw 0 (by omega)
  have HCALL : Hid (∀ (A : Option Addr) (c : Nat) (W : World), SlI W A (z 0).toNat c (zL z) → Calls Tryz.prog 64 #[.slice A (z 0).toNat c, .agg #[.int .i64 a, .int .i64 k, .int .i64 v]] W (RetL (lY 1 (zL z) a v) (lC 1 (zL z) a) (lV 1 (zL z) a) W)) := Lib.hid fun A c W hS => proL1 A _ c _ a k v W hS (by omega) hv
  have HSL := Lib.hid hl
  have HY := Lib.hid hy
  have HLK := Lib.hid hlk
  clear h hz ho hD hl hv hw hy h0 h00 hlk
  generalize lC 1 (zL z) a = co at *
  generalize lV 1 (zL z) a = va at *
  generalize lY 1 (zL z) a v = yy at *
  go_enter Tryz.func37, Tryz.ntmps37
  go_wp2_with fail
  refine (objOpRight_any a k v _).mono ?_
  rintro e w1 ⟨rfl, hb1⟩
  rw [HR0.out]
  have HB1 := Lib.hid (HST.out.on hb1)
  clear hb1 HST
  go_wp2_with (refine wpList_load_row_g rfl 100 _ rfl w.heap.size rfl 100 C (0, 0) _ HB1.out.words Tryz.underlying100 rfl HIE.out ?_)
  refine (objRight_any C z 1 true _ HC.out ⟨fun _ => HR.out, fun _ => rfl⟩).mono ?_
  rintro e w2 ⟨rfl, hb2⟩
  have HB := Lib.hid (HB1.out.on hb2)
  clear hb2 HB1
  go_wp2_with (refine wpList_load_row rfl 100 _ rfl w.heap.size rfl 100 C (0, 0) _ HB.out.words Tryz.underlying100 rfl HIE.out ?_)
  refine (list_any C z _ HC.out).mono ?_
  rintro e w3 ⟨hb3, hor⟩
  have hlo : ∃ A c, e = .returned (.tuple #[.slice A (z 0).toNat c, .bool true]) ∧ SlI w3 A (z 0).toNat c (zL z) := by
    rcases hor with ⟨_, A, c, he, hO⟩ | ⟨hno, _⟩
    · refine ⟨A, c, he, hO.sli (fun i => ?_)⟩
      have := HLK.out.num i
      unfold gI Num zL at this
      exact ⟨by have := this.1; omega, by have := this.2; omega⟩
    · exact absurd HSL.out hno
  clear hor
  refine Exists.elim hlo (fun A hlo2 => ?_)
  refine Exists.elim hlo2 (fun c hlo3 => ?_)
  obtain ⟨rfl, hs⟩ := hlo3
  clear hlo hlo2
  have HS := Lib.hid hs
  have HB3 := Lib.hid (HB.out.on hb3)
  clear hs hb3 HB
  have hmm := @run_makeMap Tryz.prog
  go_wp2_with (refine wpList_insert_own _ rfl _ _ _ 149 rfl 3 121 keyI Tryz.underlying149 fnR w3.heap.size 0 (DataW.map [] : DataW Unit) rfl (World.ownsMap_made w3 Tryz.prog 3 fnR) (by unfold maxLen; omega) _ _ (.int .i64 1) rfl rfl rfl (.lit (.int .i64 64)) [] rfl ?_)
  intro m1 own1 grow1
  have bl1 : Below w3.heap.size w3 m1 := ((Below.refl w3.heap.size w3).alloc (Nat.le_refl _) (.map #[] 0)).trans (below_grow grow1 (Nat.le_refl _) (by simp))
  go_wp2_with (refine wpList_insert_own _ rfl _ _ _ 149 rfl 3 121 keyI Tryz.underlying149 fnR w3.heap.size 1 ((DataW.map [] : DataW Unit).put (.int .i64 1) (.lit (.int .i64 64))) rfl own1 (by unfold maxLen; omega) _ _ (.int .i64 2) rfl rfl rfl (.lit (.int .i64 65)) [] rfl ?_)
  intro m2 own2 grow2
  have bl2 : Below w3.heap.size w3 m2 := bl1.trans (below_grow grow2 (Nat.le_refl _) bl1.size)
  go_wp2_with (refine wpList_insert_own _ rfl _ _ _ 149 rfl 3 121 keyI Tryz.underlying149 fnR w3.heap.size 2 (((DataW.map [] : DataW Unit).put (.int .i64 1) (.lit (.int .i64 64))).put (.int .i64 2) (.lit (.int .i64 65))) rfl own2 (by unfold maxLen; omega) _ _ (.int .i64 3) rfl rfl rfl (.lit (.int .i64 66)) [] rfl ?_)
  intro m3 own3 grow3
  have bl3 : Below w3.heap.size w3 m3 := bl2.trans (below_grow grow3 (Nat.le_refl _) bl2.size)
  go_wp2_with (refine wpList_insert_own _ rfl _ _ _ 149 rfl 3 121 keyI Tryz.underlying149 fnR w3.heap.size 3 ((((DataW.map [] : DataW Unit).put (.int .i64 1) (.lit (.int .i64 64))).put (.int .i64 2) (.lit (.int .i64 65))).put (.int .i64 3) (.lit (.int .i64 66))) rfl own3 (by unfold maxLen; omega) _ _ (.int .i64 4) rfl rfl rfl (.lit (.int .i64 67)) [] rfl ?_)
  intro m4 own4 grow4
  have bl4 : Below w3.heap.size w3 m4 := bl3.trans (below_grow grow4 (Nat.le_refl _) bl3.size)
  have hlk : ∃ ps, (Instr.lookup 149 (.map (some w3.heap.size)) (.int .i64 1) false).run Tryz.prog m4 = .ok (.func (.func 64) #[] #[]) m4 ∧ (ps : List MemPlace) = ps := by
    obtain ⟨u, ps, hrun, hu⟩ := own4.lookup keyI Tryz.underlying149 (z := .nilFunc) (by kernel_rfl) (zd := .lit (.bool false)) (zp := []) rfl (key := .int .i64 1) (kl := .int .i64 1) rfl
    rw [fnR_inv (f := 64) (ps := ps) (hu.trans (by kernel_rfl))] at hrun
    exact ⟨ps, hrun, rfl⟩
  obtain ⟨_, hrun, _⟩ := hlk
  have HB5 := Lib.hid (HB3.out.on bl4)
  have HS5 := Lib.hid (HS.out.below bl4)
  clear own1 own2 own3 own4 grow1 grow2 grow3 grow4 bl1 bl2 bl3 bl4 HB3 HS
  go_wp2_with (refine wpList_load_row rfl 61 _ rfl (w.heap.size + 1) rfl 61 #[.int .i64 a, .int .i64 k, .int .i64 v] (0, 0) _ HB5.out.op Tryz.underlying61 rfl infoOp ?_)
  refine (HCALL.out A c _ HS5.out).mono ?_
  rintro e w6 ⟨A', n', c', rfl, hO, hb6⟩
  have hn6 := hO.sli.len
  subst hn6
  have HB6 := Lib.hid (HB5.out.on hb6)
  have HG0 := Lib.hid HB5.out.lt
  have HT3 := Lib.hid (HB6.out.alloc (.cells #[.int .i64 co, .int .i64 va] 51))
  have HAN := Lib.hid (Blk.new w6 51 #[.int .i64 co, .int .i64 va])
  have HG := Lib.hid HB6.out.lt
  have HSA := Lib.hid (hO.alloc (.cells #[.int .i64 co, .int .i64 va] 51))
  clear hO hb6 hrun HCALL HS5 HB5 HB6
  go_wp2_with fail
  generalize hG : w6.heap.size = G at *
  generalize w6.alloc (.cells #[.int .i64 co, .int .i64 va] 51) = W3 at *
  refine wp_region_relyA 4 (fun b => b = w.heap.size + 2) [3] (by kernel_rfl) (by kernel_rfl) ?_
  intro anc HA0
  refine wpRely_step (fun K hK => ?_)
  refine .inl ?_
  apply Exists.intro
  refine ⟨Any, ?_, hK _ _ _ _ ?_⟩
  · simp only [RelyOp, fillE]
    refine ⟨?_, fun w9 hw9 _ => ?_⟩
    · first | rfl | (go_simp; done)
    go_simp
    first
    | exact ⟨⟨rfl, trivial⟩, Keeps.refl _ _⟩
  clear hK K
  try simp only [Act.put, List.setIfInBounds_toArray, List.set_cons_zero, List.set_cons_succ]
  refine wpRely_step (fun K hK => ?_)
  refine .inl ⟨.agg D, Any, ?_, hK _ _ _ _ ?_⟩
  · simp only [RelyOp, fillE]
    refine ⟨rfl, fun w9 hw9 _ => ?_⟩
    go_simp
    go_at_call 68
    exact rely_det (listed_any A' _ c' yy _ (sli_keeps HSA.out.sli hw9 (fun hn b hb e => by have := HSA.out.up hn b hb; have := HG0.out; omega)) (by have := HY.out.1; omega) (fun i hi => (HY.out.num i).1) D HD.out)
  clear hK K
  try simp only [Act.put, List.setIfInBounds_toArray, List.set_cons_zero, List.set_cons_succ]
  refine wpRely_step (fun K hK => ?_)
  refine .inl ⟨.agg #[.int .i64 co, .int .i64 va], Any, ?_, hK _ _ _ _ ?_⟩
  · simp only [RelyOp, fillE]
    refine ⟨rfl, fun w9 hw9 _ => ?_⟩
    exact relyAt_load_row 51 _ rfl G rfl 51 #[.int .i64 co, .int .i64 va] _ ((hw9.block _ HAN.out.lt (by show ¬ G = w.heap.size + 2; have := HG.out; omega)).trans HAN.out) Tryz.underlying51 rfl infoAn ⟨⟨rfl, trivial⟩, Keeps.refl _ _⟩
  clear hK K
  try simp only [Act.put, List.setIfInBounds_toArray, List.set_cons_zero, List.set_cons_succ]
  refine wpRely_step (fun K hK => ?_)
  refine .inl ⟨undef, fun _ w' => Blk w' (w.heap.size + 2) 100 D, ?_, hK _ _ _ _ ?_⟩
  · simp only [RelyOp, fillE]
    refine ⟨rfl, fun w9 hw9 hmet => ?_⟩
    have hB9 : Blk w9 (w.heap.size + 2) 100 #[.int .u64 0, .int .u64 0, .int .u64 0, .int .u64 0, .int .u64 0, .int .u64 0, .int .u64 0, .int .u64 0, .int .u64 0, .int .u64 0, .int .u64 0, .int .u64 0, .int .u64 0, .int .u64 0, .int .u64 0, .int .u64 0, .int .u64 0] := (hmet.1.block _ HT3.out.res.lt (fun h => calm_out h (by rw [HA0.out]; kernel_rfl))).trans HT3.out.res
    refine relyAt_store_row 100 _ _ rfl (w.heap.size + 2) D rfl ?_ 100 #[.int .u64 0, .int .u64 0, .int .u64 0, .int .u64 0, .int .u64 0, .int .u64 0, .int .u64 0, .int .u64 0, .int .u64 0, .int .u64 0, .int .u64 0, .int .u64 0, .int .u64 0, .int .u64 0, .int .u64 0, .int .u64 0, .int .u64 0] hB9 HID.out (by rw [HDS.out]; rfl) HD1.out ⟨⟨rfl, hB9.setRow D⟩, keeps_setRow (.inl ⟨by decide, rfl⟩) _⟩
    kernel_rfl
  clear hK K
  try simp only [Act.put, List.setIfInBounds_toArray, List.set_cons_zero, List.set_cons_succ]
  refine wpRely_nil ?_
  simp only [fillE]
  intro w9 hw9 hmet
  have HR9 : Hid (Blk w9 (w.heap.size + 2) 100 D) := Lib.hid (by
    have h1 := hmet.1 rfl
    obtain ⟨w0, k0, k1, hF⟩ := h1
    exact (k1.block _ hF.lt (fun h => calm_out h (by rw [HA0.out]; kernel_rfl))).trans hF)
  have HA9 : Hid (Blk w9 (w.heap.size + 3) 51 #[.int .i64 0, .int .i64 0]) := Lib.hid ((hw9.block _ HT3.out.ans.lt (by show ¬ w.heap.size + 3 = w.heap.size + 2; omega)).trans HT3.out.ans)
  have HW9 := Lib.hid (HT3.out.below.trans (hw9.below HT3.out.below.size (fun b hb e => by omega)))
  clear hmet hw9
  simp only [List.drop_succ_cons, List.drop_zero]
  go_wp2_with (refine wpList_store_row rfl 51 _ _ rfl (w.heap.size + 3) #[.int .i64 co, .int .i64 va] rfl rfl 51 #[.int .i64 0, .int .i64 0] HA9.out infoAn rfl (two_one _ _) ?_)
  have hR : Blk (w9.setRow (w.heap.size + 3) #[.int .i64 co, .int .i64 va]) (w.heap.size + 2) 100 D := (setRow_other _ _ _ _ (by omega)).trans HR9.out
  have hA : Blk (w9.setRow (w.heap.size + 3) #[.int .i64 co, .int .i64 va]) (w.heap.size + 3) 51 #[.int .i64 co, .int .i64 va] := Blk.setRow HA9.out _
  refine bodyPost_ret (results_rows3 Tryz.results37 _ _ (w.heap.size + 2) (w.heap.size + 3) 100 51 D #[.int .i64 co, .int .i64 va] _ _ .nilIface rfl rfl rfl hR hA Tryz.underlying100 rfl HID.out Tryz.underlying51 rfl infoAn) rfl ⟨rfl, below_setRow HW9.out (by omega) _⟩

set_option maxRecDepth 100000 in
set_option maxHeartbeats 4000000 in
theorem objDo_l2 (C D : Array Value) (z : Nat → Int) (a k v : Int) (w : World) (h : U64s C 17 z) (ho : opOk a k v) (hz : thingOk 2 z) (hD : U64s D 17 (listW (lY 2 (zL z) a v).length (lY 2 (zL z) a v))) :
    Calls Tryz.prog 37 #[.int .i64 2, .agg C, .agg #[.int .i64 a, .int .i64 k, .int .i64 v]] w fun e w' => e = .returned (.tuple #[.agg D, .agg #[.int .i64 (lC 2 (zL z) a), .int .i64 (lV 2 (zL z) a)], .nilIface]) ∧ Below w.heap.size w w' := by
  have HIE : Hid ((Tryz.prog.info? 100).map (·.size) = some C.size) := by show _ = _; rw [infoOC, h.size]
  have HC := Lib.hid h
  have HST := Lib.hid (OdSt.mk_ w C a k v)
  have HR0 : Hid (opRightB a k v = true) := Lib.hid (opRightB_iff.2 ho)
  have HR : Hid (thingOk 2 z) := Lib.hid hz
  have HDS := Lib.hid hD.size
  have HD1 := Lib.hid hD.one
  have HD := Lib.hid hD
  have HID : Hid ((Tryz.prog.info? 100).map (·.size) = some D.size) := by show _ = _; rw [infoOC, hD.size]
  have hl : listOk z := by
    unfold thingOk at hz
    simp only [if_neg (show ¬ (2 : Int) = 5 by decide), if_neg (show ¬ (2 : Int) = 6 by decide)] at hz
    rw [if_neg (by decide)] at hz
    exact hz.2.2
  have hv : -9223372036854775808 ≤ v ∧ v ≤ 9223372036854775807 := by have := ho.2.2.2.2; omega
  have hw : Wds z := fun i hi => h.bd i hi
  have hlk := zL_ok hw hl
  have hy := lY_ok (kind := 2) hlk ho
  have h0 := hl.1
  have h00 := hw 0 (by omega)
  have HCALL : Hid (∀ (A : Option Addr) (c : Nat) (W : World), SlI W A (z 0).toNat c (zL z) → Calls Tryz.prog 65 #[.slice A (z 0).toNat c, .agg #[.int .i64 a, .int .i64 k, .int .i64 v]] W (RetL (lY 2 (zL z) a v) (lC 2 (zL z) a) (lV 2 (zL z) a) W)) := Lib.hid fun A c W hS => proL2 A _ c _ a k v W hS (by omega) hv
  have HSL := Lib.hid hl
  have HY := Lib.hid hy
  have HLK := Lib.hid hlk
  clear h hz ho hD hl hv hw hy h0 h00 hlk
  generalize lC 2 (zL z) a = co at *
  generalize lV 2 (zL z) a = va at *
  generalize lY 2 (zL z) a v = yy at *
  go_enter Tryz.func37, Tryz.ntmps37
  go_wp2_with fail
  refine (objOpRight_any a k v _).mono ?_
  rintro e w1 ⟨rfl, hb1⟩
  rw [HR0.out]
  have HB1 := Lib.hid (HST.out.on hb1)
  clear hb1 HST
  go_wp2_with (refine wpList_load_row_g rfl 100 _ rfl w.heap.size rfl 100 C (0, 0) _ HB1.out.words Tryz.underlying100 rfl HIE.out ?_)
  refine (objRight_any C z 2 true _ HC.out ⟨fun _ => HR.out, fun _ => rfl⟩).mono ?_
  rintro e w2 ⟨rfl, hb2⟩
  have HB := Lib.hid (HB1.out.on hb2)
  clear hb2 HB1
  go_wp2_with (refine wpList_load_row rfl 100 _ rfl w.heap.size rfl 100 C (0, 0) _ HB.out.words Tryz.underlying100 rfl HIE.out ?_)
  refine (list_any C z _ HC.out).mono ?_
  rintro e w3 ⟨hb3, hor⟩
  have hlo : ∃ A c, e = .returned (.tuple #[.slice A (z 0).toNat c, .bool true]) ∧ SlI w3 A (z 0).toNat c (zL z) := by
    rcases hor with ⟨_, A, c, he, hO⟩ | ⟨hno, _⟩
    · refine ⟨A, c, he, hO.sli (fun i => ?_)⟩
      have := HLK.out.num i
      unfold gI Num zL at this
      exact ⟨by have := this.1; omega, by have := this.2; omega⟩
    · exact absurd HSL.out hno
  clear hor
  refine Exists.elim hlo (fun A hlo2 => ?_)
  refine Exists.elim hlo2 (fun c hlo3 => ?_)
  obtain ⟨rfl, hs⟩ := hlo3
  clear hlo hlo2
  have HS := Lib.hid hs
  have HB3 := Lib.hid (HB.out.on hb3)
  clear hs hb3 HB
  have hmm := @run_makeMap Tryz.prog
  go_wp2_with (refine wpList_insert_own _ rfl _ _ _ 149 rfl 3 121 keyI Tryz.underlying149 fnR w3.heap.size 0 (DataW.map [] : DataW Unit) rfl (World.ownsMap_made w3 Tryz.prog 3 fnR) (by unfold maxLen; omega) _ _ (.int .i64 1) rfl rfl rfl (.lit (.int .i64 64)) [] rfl ?_)
  intro m1 own1 grow1
  have bl1 : Below w3.heap.size w3 m1 := ((Below.refl w3.heap.size w3).alloc (Nat.le_refl _) (.map #[] 0)).trans (below_grow grow1 (Nat.le_refl _) (by simp))
  go_wp2_with (refine wpList_insert_own _ rfl _ _ _ 149 rfl 3 121 keyI Tryz.underlying149 fnR w3.heap.size 1 ((DataW.map [] : DataW Unit).put (.int .i64 1) (.lit (.int .i64 64))) rfl own1 (by unfold maxLen; omega) _ _ (.int .i64 2) rfl rfl rfl (.lit (.int .i64 65)) [] rfl ?_)
  intro m2 own2 grow2
  have bl2 : Below w3.heap.size w3 m2 := bl1.trans (below_grow grow2 (Nat.le_refl _) bl1.size)
  go_wp2_with (refine wpList_insert_own _ rfl _ _ _ 149 rfl 3 121 keyI Tryz.underlying149 fnR w3.heap.size 2 (((DataW.map [] : DataW Unit).put (.int .i64 1) (.lit (.int .i64 64))).put (.int .i64 2) (.lit (.int .i64 65))) rfl own2 (by unfold maxLen; omega) _ _ (.int .i64 3) rfl rfl rfl (.lit (.int .i64 66)) [] rfl ?_)
  intro m3 own3 grow3
  have bl3 : Below w3.heap.size w3 m3 := bl2.trans (below_grow grow3 (Nat.le_refl _) bl2.size)
  go_wp2_with (refine wpList_insert_own _ rfl _ _ _ 149 rfl 3 121 keyI Tryz.underlying149 fnR w3.heap.size 3 ((((DataW.map [] : DataW Unit).put (.int .i64 1) (.lit (.int .i64 64))).put (.int .i64 2) (.lit (.int .i64 65))).put (.int .i64 3) (.lit (.int .i64 66))) rfl own3 (by unfold maxLen; omega) _ _ (.int .i64 4) rfl rfl rfl (.lit (.int .i64 67)) [] rfl ?_)
  intro m4 own4 grow4
  have bl4 : Below w3.heap.size w3 m4 := bl3.trans (below_grow grow4 (Nat.le_refl _) bl3.size)
  have hlk : ∃ ps, (Instr.lookup 149 (.map (some w3.heap.size)) (.int .i64 2) false).run Tryz.prog m4 = .ok (.func (.func 65) #[] #[]) m4 ∧ (ps : List MemPlace) = ps := by
    obtain ⟨u, ps, hrun, hu⟩ := own4.lookup keyI Tryz.underlying149 (z := .nilFunc) (by kernel_rfl) (zd := .lit (.bool false)) (zp := []) rfl (key := .int .i64 2) (kl := .int .i64 2) rfl
    rw [fnR_inv (f := 65) (ps := ps) (hu.trans (by kernel_rfl))] at hrun
    exact ⟨ps, hrun, rfl⟩
  obtain ⟨_, hrun, _⟩ := hlk
  have HB5 := Lib.hid (HB3.out.on bl4)
  have HS5 := Lib.hid (HS.out.below bl4)
  clear own1 own2 own3 own4 grow1 grow2 grow3 grow4 bl1 bl2 bl3 bl4 HB3 HS
  go_wp2_with (refine wpList_load_row rfl 61 _ rfl (w.heap.size + 1) rfl 61 #[.int .i64 a, .int .i64 k, .int .i64 v] (0, 0) _ HB5.out.op Tryz.underlying61 rfl infoOp ?_)
  refine (HCALL.out A c _ HS5.out).mono ?_
  rintro e w6 ⟨A', n', c', rfl, hO, hb6⟩
  have hn6 := hO.sli.len
  subst hn6
  have HB6 := Lib.hid (HB5.out.on hb6)
  have HG0 := Lib.hid HB5.out.lt
  have HT3 := Lib.hid (HB6.out.alloc (.cells #[.int .i64 co, .int .i64 va] 51))
  have HAN := Lib.hid (Blk.new w6 51 #[.int .i64 co, .int .i64 va])
  have HG := Lib.hid HB6.out.lt
  have HSA := Lib.hid (hO.alloc (.cells #[.int .i64 co, .int .i64 va] 51))
  clear hO hb6 hrun HCALL HS5 HB5 HB6
  go_wp2_with fail
  generalize hG : w6.heap.size = G at *
  generalize w6.alloc (.cells #[.int .i64 co, .int .i64 va] 51) = W3 at *
  refine wp_region_relyA 4 (fun b => b = w.heap.size + 2) [3] (by kernel_rfl) (by kernel_rfl) ?_
  intro anc HA0
  refine wpRely_step (fun K hK => ?_)
  refine .inl ?_
  apply Exists.intro
  refine ⟨Any, ?_, hK _ _ _ _ ?_⟩
  · simp only [RelyOp, fillE]
    refine ⟨?_, fun w9 hw9 _ => ?_⟩
    · first | rfl | (go_simp; done)
    go_simp
    first
    | exact ⟨⟨rfl, trivial⟩, Keeps.refl _ _⟩
  clear hK K
  try simp only [Act.put, List.setIfInBounds_toArray, List.set_cons_zero, List.set_cons_succ]
  refine wpRely_step (fun K hK => ?_)
  refine .inl ⟨.agg D, Any, ?_, hK _ _ _ _ ?_⟩
  · simp only [RelyOp, fillE]
    refine ⟨rfl, fun w9 hw9 _ => ?_⟩
    go_simp
    go_at_call 68
    exact rely_det (listed_any A' _ c' yy _ (sli_keeps HSA.out.sli hw9 (fun hn b hb e => by have := HSA.out.up hn b hb; have := HG0.out; omega)) (by have := HY.out.1; omega) (fun i hi => (HY.out.num i).1) D HD.out)
  clear hK K
  try simp only [Act.put, List.setIfInBounds_toArray, List.set_cons_zero, List.set_cons_succ]
  refine wpRely_step (fun K hK => ?_)
  refine .inl ⟨.agg #[.int .i64 co, .int .i64 va], Any, ?_, hK _ _ _ _ ?_⟩
  · simp only [RelyOp, fillE]
    refine ⟨rfl, fun w9 hw9 _ => ?_⟩
    exact relyAt_load_row 51 _ rfl G rfl 51 #[.int .i64 co, .int .i64 va] _ ((hw9.block _ HAN.out.lt (by show ¬ G = w.heap.size + 2; have := HG.out; omega)).trans HAN.out) Tryz.underlying51 rfl infoAn ⟨⟨rfl, trivial⟩, Keeps.refl _ _⟩
  clear hK K
  try simp only [Act.put, List.setIfInBounds_toArray, List.set_cons_zero, List.set_cons_succ]
  refine wpRely_step (fun K hK => ?_)
  refine .inl ⟨undef, fun _ w' => Blk w' (w.heap.size + 2) 100 D, ?_, hK _ _ _ _ ?_⟩
  · simp only [RelyOp, fillE]
    refine ⟨rfl, fun w9 hw9 hmet => ?_⟩
    have hB9 : Blk w9 (w.heap.size + 2) 100 #[.int .u64 0, .int .u64 0, .int .u64 0, .int .u64 0, .int .u64 0, .int .u64 0, .int .u64 0, .int .u64 0, .int .u64 0, .int .u64 0, .int .u64 0, .int .u64 0, .int .u64 0, .int .u64 0, .int .u64 0, .int .u64 0, .int .u64 0] := (hmet.1.block _ HT3.out.res.lt (fun h => calm_out h (by rw [HA0.out]; kernel_rfl))).trans HT3.out.res
    refine relyAt_store_row 100 _ _ rfl (w.heap.size + 2) D rfl ?_ 100 #[.int .u64 0, .int .u64 0, .int .u64 0, .int .u64 0, .int .u64 0, .int .u64 0, .int .u64 0, .int .u64 0, .int .u64 0, .int .u64 0, .int .u64 0, .int .u64 0, .int .u64 0, .int .u64 0, .int .u64 0, .int .u64 0, .int .u64 0] hB9 HID.out (by rw [HDS.out]; rfl) HD1.out ⟨⟨rfl, hB9.setRow D⟩, keeps_setRow (.inl ⟨by decide, rfl⟩) _⟩
    kernel_rfl
  clear hK K
  try simp only [Act.put, List.setIfInBounds_toArray, List.set_cons_zero, List.set_cons_succ]
  refine wpRely_nil ?_
  simp only [fillE]
  intro w9 hw9 hmet
  have HR9 : Hid (Blk w9 (w.heap.size + 2) 100 D) := Lib.hid (by
    have h1 := hmet.1 rfl
    obtain ⟨w0, k0, k1, hF⟩ := h1
    exact (k1.block _ hF.lt (fun h => calm_out h (by rw [HA0.out]; kernel_rfl))).trans hF)
  have HA9 : Hid (Blk w9 (w.heap.size + 3) 51 #[.int .i64 0, .int .i64 0]) := Lib.hid ((hw9.block _ HT3.out.ans.lt (by show ¬ w.heap.size + 3 = w.heap.size + 2; omega)).trans HT3.out.ans)
  have HW9 := Lib.hid (HT3.out.below.trans (hw9.below HT3.out.below.size (fun b hb e => by omega)))
  clear hmet hw9
  simp only [List.drop_succ_cons, List.drop_zero]
  go_wp2_with (refine wpList_store_row rfl 51 _ _ rfl (w.heap.size + 3) #[.int .i64 co, .int .i64 va] rfl rfl 51 #[.int .i64 0, .int .i64 0] HA9.out infoAn rfl (two_one _ _) ?_)
  have hR : Blk (w9.setRow (w.heap.size + 3) #[.int .i64 co, .int .i64 va]) (w.heap.size + 2) 100 D := (setRow_other _ _ _ _ (by omega)).trans HR9.out
  have hA : Blk (w9.setRow (w.heap.size + 3) #[.int .i64 co, .int .i64 va]) (w.heap.size + 3) 51 #[.int .i64 co, .int .i64 va] := Blk.setRow HA9.out _
  refine bodyPost_ret (results_rows3 Tryz.results37 _ _ (w.heap.size + 2) (w.heap.size + 3) 100 51 D #[.int .i64 co, .int .i64 va] _ _ .nilIface rfl rfl rfl hR hA Tryz.underlying100 rfl HID.out Tryz.underlying51 rfl infoAn) rfl ⟨rfl, below_setRow HW9.out (by omega) _⟩

set_option maxRecDepth 100000 in
set_option maxHeartbeats 4000000 in
theorem objDo_l3 (C D : Array Value) (z : Nat → Int) (a k v : Int) (w : World) (h : U64s C 17 z) (ho : opOk a k v) (hz : thingOk 3 z) (hD : U64s D 17 (listW (lY 3 (zL z) a v).length (lY 3 (zL z) a v))) :
    Calls Tryz.prog 37 #[.int .i64 3, .agg C, .agg #[.int .i64 a, .int .i64 k, .int .i64 v]] w fun e w' => e = .returned (.tuple #[.agg D, .agg #[.int .i64 (lC 3 (zL z) a), .int .i64 (lV 3 (zL z) a)], .nilIface]) ∧ Below w.heap.size w w' := by
  have HIE : Hid ((Tryz.prog.info? 100).map (·.size) = some C.size) := by show _ = _; rw [infoOC, h.size]
  have HC := Lib.hid h
  have HST := Lib.hid (OdSt.mk_ w C a k v)
  have HR0 : Hid (opRightB a k v = true) := Lib.hid (opRightB_iff.2 ho)
  have HR : Hid (thingOk 3 z) := Lib.hid hz
  have HDS := Lib.hid hD.size
  have HD1 := Lib.hid hD.one
  have HD := Lib.hid hD
  have HID : Hid ((Tryz.prog.info? 100).map (·.size) = some D.size) := by show _ = _; rw [infoOC, hD.size]
  have hl : listOk z := by
    unfold thingOk at hz
    simp only [if_neg (show ¬ (3 : Int) = 5 by decide), if_neg (show ¬ (3 : Int) = 6 by decide)] at hz
    rw [if_neg (by decide)] at hz
    exact hz.2.2
  have hv : -9223372036854775808 ≤ v ∧ v ≤ 9223372036854775807 := by have := ho.2.2.2.2; omega
  have hw : Wds z := fun i hi => h.bd i hi
  have hlk := zL_ok hw hl
  have hy := lY_ok (kind := 3) hlk ho
  have h0 := hl.1
  have h00 := hw 0 (by omega)
  have HCALL : Hid (∀ (A : Option Addr) (c : Nat) (W : World), SlI W A (z 0).toNat c (zL z) → Calls Tryz.prog 66 #[.slice A (z 0).toNat c, .agg #[.int .i64 a, .int .i64 k, .int .i64 v]] W (RetL (lY 3 (zL z) a v) (lC 3 (zL z) a) (lV 3 (zL z) a) W)) := Lib.hid fun A c W hS => proL3 A _ c _ a k v W hS (by omega) hv
  have HSL := Lib.hid hl
  have HY := Lib.hid hy
  have HLK := Lib.hid hlk
  clear h hz ho hD hl hv hw hy h0 h00 hlk
  generalize lC 3 (zL z) a = co at *
  generalize lV 3 (zL z) a = va at *
  generalize lY 3 (zL z) a v = yy at *
  go_enter Tryz.func37, Tryz.ntmps37
  go_wp2_with fail
  refine (objOpRight_any a k v _).mono ?_
  rintro e w1 ⟨rfl, hb1⟩
  rw [HR0.out]
  have HB1 := Lib.hid (HST.out.on hb1)
  clear hb1 HST
  go_wp2_with (refine wpList_load_row_g rfl 100 _ rfl w.heap.size rfl 100 C (0, 0) _ HB1.out.words Tryz.underlying100 rfl HIE.out ?_)
  refine (objRight_any C z 3 true _ HC.out ⟨fun _ => HR.out, fun _ => rfl⟩).mono ?_
  rintro e w2 ⟨rfl, hb2⟩
  have HB := Lib.hid (HB1.out.on hb2)
  clear hb2 HB1
  go_wp2_with (refine wpList_load_row rfl 100 _ rfl w.heap.size rfl 100 C (0, 0) _ HB.out.words Tryz.underlying100 rfl HIE.out ?_)
  refine (list_any C z _ HC.out).mono ?_
  rintro e w3 ⟨hb3, hor⟩
  have hlo : ∃ A c, e = .returned (.tuple #[.slice A (z 0).toNat c, .bool true]) ∧ SlI w3 A (z 0).toNat c (zL z) := by
    rcases hor with ⟨_, A, c, he, hO⟩ | ⟨hno, _⟩
    · refine ⟨A, c, he, hO.sli (fun i => ?_)⟩
      have := HLK.out.num i
      unfold gI Num zL at this
      exact ⟨by have := this.1; omega, by have := this.2; omega⟩
    · exact absurd HSL.out hno
  clear hor
  refine Exists.elim hlo (fun A hlo2 => ?_)
  refine Exists.elim hlo2 (fun c hlo3 => ?_)
  obtain ⟨rfl, hs⟩ := hlo3
  clear hlo hlo2
  have HS := Lib.hid hs
  have HB3 := Lib.hid (HB.out.on hb3)
  clear hs hb3 HB
  have hmm := @run_makeMap Tryz.prog
  go_wp2_with (refine wpList_insert_own _ rfl _ _ _ 149 rfl 3 121 keyI Tryz.underlying149 fnR w3.heap.size 0 (DataW.map [] : DataW Unit) rfl (World.ownsMap_made w3 Tryz.prog 3 fnR) (by unfold maxLen; omega) _ _ (.int .i64 1) rfl rfl rfl (.lit (.int .i64 64)) [] rfl ?_)
  intro m1 own1 grow1
  have bl1 : Below w3.heap.size w3 m1 := ((Below.refl w3.heap.size w3).alloc (Nat.le_refl _) (.map #[] 0)).trans (below_grow grow1 (Nat.le_refl _) (by simp))
  go_wp2_with (refine wpList_insert_own _ rfl _ _ _ 149 rfl 3 121 keyI Tryz.underlying149 fnR w3.heap.size 1 ((DataW.map [] : DataW Unit).put (.int .i64 1) (.lit (.int .i64 64))) rfl own1 (by unfold maxLen; omega) _ _ (.int .i64 2) rfl rfl rfl (.lit (.int .i64 65)) [] rfl ?_)
  intro m2 own2 grow2
  have bl2 : Below w3.heap.size w3 m2 := bl1.trans (below_grow grow2 (Nat.le_refl _) bl1.size)
  go_wp2_with (refine wpList_insert_own _ rfl _ _ _ 149 rfl 3 121 keyI Tryz.underlying149 fnR w3.heap.size 2 (((DataW.map [] : DataW Unit).put (.int .i64 1) (.lit (.int .i64 64))).put (.int .i64 2) (.lit (.int .i64 65))) rfl own2 (by unfold maxLen; omega) _ _ (.int .i64 3) rfl rfl rfl (.lit (.int .i64 66)) [] rfl ?_)
  intro m3 own3 grow3
  have bl3 : Below w3.heap.size w3 m3 := bl2.trans (below_grow grow3 (Nat.le_refl _) bl2.size)
  go_wp2_with (refine wpList_insert_own _ rfl _ _ _ 149 rfl 3 121 keyI Tryz.underlying149 fnR w3.heap.size 3 ((((DataW.map [] : DataW Unit).put (.int .i64 1) (.lit (.int .i64 64))).put (.int .i64 2) (.lit (.int .i64 65))).put (.int .i64 3) (.lit (.int .i64 66))) rfl own3 (by unfold maxLen; omega) _ _ (.int .i64 4) rfl rfl rfl (.lit (.int .i64 67)) [] rfl ?_)
  intro m4 own4 grow4
  have bl4 : Below w3.heap.size w3 m4 := bl3.trans (below_grow grow4 (Nat.le_refl _) bl3.size)
  have hlk : ∃ ps, (Instr.lookup 149 (.map (some w3.heap.size)) (.int .i64 3) false).run Tryz.prog m4 = .ok (.func (.func 66) #[] #[]) m4 ∧ (ps : List MemPlace) = ps := by
    obtain ⟨u, ps, hrun, hu⟩ := own4.lookup keyI Tryz.underlying149 (z := .nilFunc) (by kernel_rfl) (zd := .lit (.bool false)) (zp := []) rfl (key := .int .i64 3) (kl := .int .i64 3) rfl
    rw [fnR_inv (f := 66) (ps := ps) (hu.trans (by kernel_rfl))] at hrun
    exact ⟨ps, hrun, rfl⟩
  obtain ⟨_, hrun, _⟩ := hlk
  have HB5 := Lib.hid (HB3.out.on bl4)
  have HS5 := Lib.hid (HS.out.below bl4)
  clear own1 own2 own3 own4 grow1 grow2 grow3 grow4 bl1 bl2 bl3 bl4 HB3 HS
  go_wp2_with (refine wpList_load_row rfl 61 _ rfl (w.heap.size + 1) rfl 61 #[.int .i64 a, .int .i64 k, .int .i64 v] (0, 0) _ HB5.out.op Tryz.underlying61 rfl infoOp ?_)
  refine (HCALL.out A c _ HS5.out).mono ?_
  rintro e w6 ⟨A', n', c', rfl, hO, hb6⟩
  have hn6 := hO.sli.len
  subst hn6
  have HB6 := Lib.hid (HB5.out.on hb6)
  have HG0 := Lib.hid HB5.out.lt
  have HT3 := Lib.hid (HB6.out.alloc (.cells #[.int .i64 co, .int .i64 va] 51))
  have HAN := Lib.hid (Blk.new w6 51 #[.int .i64 co, .int .i64 va])
  have HG := Lib.hid HB6.out.lt
  have HSA := Lib.hid (hO.alloc (.cells #[.int .i64 co, .int .i64 va] 51))
  clear hO hb6 hrun HCALL HS5 HB5 HB6
  go_wp2_with fail
  generalize hG : w6.heap.size = G at *
  generalize w6.alloc (.cells #[.int .i64 co, .int .i64 va] 51) = W3 at *
  refine wp_region_relyA 4 (fun b => b = w.heap.size + 2) [3] (by kernel_rfl) (by kernel_rfl) ?_
  intro anc HA0
  refine wpRely_step (fun K hK => ?_)
  refine .inl ?_
  apply Exists.intro
  refine ⟨Any, ?_, hK _ _ _ _ ?_⟩
  · simp only [RelyOp, fillE]
    refine ⟨?_, fun w9 hw9 _ => ?_⟩
    · first | rfl | (go_simp; done)
    go_simp
    first
    | exact ⟨⟨rfl, trivial⟩, Keeps.refl _ _⟩
  clear hK K
  try simp only [Act.put, List.setIfInBounds_toArray, List.set_cons_zero, List.set_cons_succ]
  refine wpRely_step (fun K hK => ?_)
  refine .inl ⟨.agg D, Any, ?_, hK _ _ _ _ ?_⟩
  · simp only [RelyOp, fillE]
    refine ⟨rfl, fun w9 hw9 _ => ?_⟩
    go_simp
    go_at_call 68
    exact rely_det (listed_any A' _ c' yy _ (sli_keeps HSA.out.sli hw9 (fun hn b hb e => by have := HSA.out.up hn b hb; have := HG0.out; omega)) (by have := HY.out.1; omega) (fun i hi => (HY.out.num i).1) D HD.out)
  clear hK K
  try simp only [Act.put, List.setIfInBounds_toArray, List.set_cons_zero, List.set_cons_succ]
  refine wpRely_step (fun K hK => ?_)
  refine .inl ⟨.agg #[.int .i64 co, .int .i64 va], Any, ?_, hK _ _ _ _ ?_⟩
  · simp only [RelyOp, fillE]
    refine ⟨rfl, fun w9 hw9 _ => ?_⟩
    exact relyAt_load_row 51 _ rfl G rfl 51 #[.int .i64 co, .int .i64 va] _ ((hw9.block _ HAN.out.lt (by show ¬ G = w.heap.size + 2; have := HG.out; omega)).trans HAN.out) Tryz.underlying51 rfl infoAn ⟨⟨rfl, trivial⟩, Keeps.refl _ _⟩
  clear hK K
  try simp only [Act.put, List.setIfInBounds_toArray, List.set_cons_zero, List.set_cons_succ]
  refine wpRely_step (fun K hK => ?_)
  refine .inl ⟨undef, fun _ w' => Blk w' (w.heap.size + 2) 100 D, ?_, hK _ _ _ _ ?_⟩
  · simp only [RelyOp, fillE]
    refine ⟨rfl, fun w9 hw9 hmet => ?_⟩
    have hB9 : Blk w9 (w.heap.size + 2) 100 #[.int .u64 0, .int .u64 0, .int .u64 0, .int .u64 0, .int .u64 0, .int .u64 0, .int .u64 0, .int .u64 0, .int .u64 0, .int .u64 0, .int .u64 0, .int .u64 0, .int .u64 0, .int .u64 0, .int .u64 0, .int .u64 0, .int .u64 0] := (hmet.1.block _ HT3.out.res.lt (fun h => calm_out h (by rw [HA0.out]; kernel_rfl))).trans HT3.out.res
    refine relyAt_store_row 100 _ _ rfl (w.heap.size + 2) D rfl ?_ 100 #[.int .u64 0, .int .u64 0, .int .u64 0, .int .u64 0, .int .u64 0, .int .u64 0, .int .u64 0, .int .u64 0, .int .u64 0, .int .u64 0, .int .u64 0, .int .u64 0, .int .u64 0, .int .u64 0, .int .u64 0, .int .u64 0, .int .u64 0] hB9 HID.out (by rw [HDS.out]; rfl) HD1.out ⟨⟨rfl, hB9.setRow D⟩, keeps_setRow (.inl ⟨by decide, rfl⟩) _⟩
    kernel_rfl
  clear hK K
  try simp only [Act.put, List.setIfInBounds_toArray, List.set_cons_zero, List.set_cons_succ]
  refine wpRely_nil ?_
  simp only [fillE]
  intro w9 hw9 hmet
  have HR9 : Hid (Blk w9 (w.heap.size + 2) 100 D) := Lib.hid (by
    have h1 := hmet.1 rfl
    obtain ⟨w0, k0, k1, hF⟩ := h1
    exact (k1.block _ hF.lt (fun h => calm_out h (by rw [HA0.out]; kernel_rfl))).trans hF)
  have HA9 : Hid (Blk w9 (w.heap.size + 3) 51 #[.int .i64 0, .int .i64 0]) := Lib.hid ((hw9.block _ HT3.out.ans.lt (by show ¬ w.heap.size + 3 = w.heap.size + 2; omega)).trans HT3.out.ans)
  have HW9 := Lib.hid (HT3.out.below.trans (hw9.below HT3.out.below.size (fun b hb e => by omega)))
  clear hmet hw9
  simp only [List.drop_succ_cons, List.drop_zero]
  go_wp2_with (refine wpList_store_row rfl 51 _ _ rfl (w.heap.size + 3) #[.int .i64 co, .int .i64 va] rfl rfl 51 #[.int .i64 0, .int .i64 0] HA9.out infoAn rfl (two_one _ _) ?_)
  have hR : Blk (w9.setRow (w.heap.size + 3) #[.int .i64 co, .int .i64 va]) (w.heap.size + 2) 100 D := (setRow_other _ _ _ _ (by omega)).trans HR9.out
  have hA : Blk (w9.setRow (w.heap.size + 3) #[.int .i64 co, .int .i64 va]) (w.heap.size + 3) 51 #[.int .i64 co, .int .i64 va] := Blk.setRow HA9.out _
  refine bodyPost_ret (results_rows3 Tryz.results37 _ _ (w.heap.size + 2) (w.heap.size + 3) 100 51 D #[.int .i64 co, .int .i64 va] _ _ .nilIface rfl rfl rfl hR hA Tryz.underlying100 rfl HID.out Tryz.underlying51 rfl infoAn) rfl ⟨rfl, below_setRow HW9.out (by omega) _⟩

set_option maxRecDepth 100000 in
set_option maxHeartbeats 4000000 in
theorem objDo_l4 (C D : Array Value) (z : Nat → Int) (a k v : Int) (w : World) (h : U64s C 17 z) (ho : opOk a k v) (hz : thingOk 4 z) (hD : U64s D 17 (listW (lY 4 (zL z) a v).length (lY 4 (zL z) a v))) :
    Calls Tryz.prog 37 #[.int .i64 4, .agg C, .agg #[.int .i64 a, .int .i64 k, .int .i64 v]] w fun e w' => e = .returned (.tuple #[.agg D, .agg #[.int .i64 (lC 4 (zL z) a), .int .i64 (lV 4 (zL z) a)], .nilIface]) ∧ Below w.heap.size w w' := by
  have HIE : Hid ((Tryz.prog.info? 100).map (·.size) = some C.size) := by show _ = _; rw [infoOC, h.size]
  have HC := Lib.hid h
  have HST := Lib.hid (OdSt.mk_ w C a k v)
  have HR0 : Hid (opRightB a k v = true) := Lib.hid (opRightB_iff.2 ho)
  have HR : Hid (thingOk 4 z) := Lib.hid hz
  have HDS := Lib.hid hD.size
  have HD1 := Lib.hid hD.one
  have HD := Lib.hid hD
  have HID : Hid ((Tryz.prog.info? 100).map (·.size) = some D.size) := by show _ = _; rw [infoOC, hD.size]
  have hl : listOk z := by
    unfold thingOk at hz
    simp only [if_neg (show ¬ (4 : Int) = 5 by decide), if_neg (show ¬ (4 : Int) = 6 by decide)] at hz
    exact hz.1
  have hv : -9223372036854775808 ≤ v ∧ v ≤ 9223372036854775807 := by have := ho.2.2.2.2; omega
  have hw : Wds z := fun i hi => h.bd i hi
  have hlk := zL_ok hw hl
  have hy := lY_ok (kind := 4) hlk ho
  have h0 := hl.1
  have h00 := hw 0 (by omega)
  have HCALL : Hid (∀ (A : Option Addr) (c : Nat) (W : World), SlI W A (z 0).toNat c (zL z) → Calls Tryz.prog 67 #[.slice A (z 0).toNat c, .agg #[.int .i64 a, .int .i64 k, .int .i64 v]] W (RetL (lY 4 (zL z) a v) (lC 4 (zL z) a) (lV 4 (zL z) a) W)) := Lib.hid fun A c W hS => proL4 A _ c _ a k v W hS (by omega) hv
  have HSL := Lib.hid hl
  have HY := Lib.hid hy
  have HLK := Lib.hid hlk
  clear h hz ho hD hl hv hw hy h0 h00 hlk
  generalize lC 4 (zL z) a = co at *
  generalize lV 4 (zL z) a = va at *
  generalize lY 4 (zL z) a v = yy at *
  go_enter Tryz.func37, Tryz.ntmps37
  go_wp2_with fail
  refine (objOpRight_any a k v _).mono ?_
  rintro e w1 ⟨rfl, hb1⟩
  rw [HR0.out]
  have HB1 := Lib.hid (HST.out.on hb1)
  clear hb1 HST
  go_wp2_with (refine wpList_load_row_g rfl 100 _ rfl w.heap.size rfl 100 C (0, 0) _ HB1.out.words Tryz.underlying100 rfl HIE.out ?_)
  refine (objRight_any C z 4 true _ HC.out ⟨fun _ => HR.out, fun _ => rfl⟩).mono ?_
  rintro e w2 ⟨rfl, hb2⟩
  have HB := Lib.hid (HB1.out.on hb2)
  clear hb2 HB1
  go_wp2_with (refine wpList_load_row rfl 100 _ rfl w.heap.size rfl 100 C (0, 0) _ HB.out.words Tryz.underlying100 rfl HIE.out ?_)
  refine (list_any C z _ HC.out).mono ?_
  rintro e w3 ⟨hb3, hor⟩
  have hlo : ∃ A c, e = .returned (.tuple #[.slice A (z 0).toNat c, .bool true]) ∧ SlI w3 A (z 0).toNat c (zL z) := by
    rcases hor with ⟨_, A, c, he, hO⟩ | ⟨hno, _⟩
    · refine ⟨A, c, he, hO.sli (fun i => ?_)⟩
      have := HLK.out.num i
      unfold gI Num zL at this
      exact ⟨by have := this.1; omega, by have := this.2; omega⟩
    · exact absurd HSL.out hno
  clear hor
  refine Exists.elim hlo (fun A hlo2 => ?_)
  refine Exists.elim hlo2 (fun c hlo3 => ?_)
  obtain ⟨rfl, hs⟩ := hlo3
  clear hlo hlo2
  have HS := Lib.hid hs
  have HB3 := Lib.hid (HB.out.on hb3)
  clear hs hb3 HB
  have hmm := @run_makeMap Tryz.prog
  go_wp2_with (refine wpList_insert_own _ rfl _ _ _ 149 rfl 3 121 keyI Tryz.underlying149 fnR w3.heap.size 0 (DataW.map [] : DataW Unit) rfl (World.ownsMap_made w3 Tryz.prog 3 fnR) (by unfold maxLen; omega) _ _ (.int .i64 1) rfl rfl rfl (.lit (.int .i64 64)) [] rfl ?_)
  intro m1 own1 grow1
  have bl1 : Below w3.heap.size w3 m1 := ((Below.refl w3.heap.size w3).alloc (Nat.le_refl _) (.map #[] 0)).trans (below_grow grow1 (Nat.le_refl _) (by simp))
  go_wp2_with (refine wpList_insert_own _ rfl _ _ _ 149 rfl 3 121 keyI Tryz.underlying149 fnR w3.heap.size 1 ((DataW.map [] : DataW Unit).put (.int .i64 1) (.lit (.int .i64 64))) rfl own1 (by unfold maxLen; omega) _ _ (.int .i64 2) rfl rfl rfl (.lit (.int .i64 65)) [] rfl ?_)
  intro m2 own2 grow2
  have bl2 : Below w3.heap.size w3 m2 := bl1.trans (below_grow grow2 (Nat.le_refl _) bl1.size)
  go_wp2_with (refine wpList_insert_own _ rfl _ _ _ 149 rfl 3 121 keyI Tryz.underlying149 fnR w3.heap.size 2 (((DataW.map [] : DataW Unit).put (.int .i64 1) (.lit (.int .i64 64))).put (.int .i64 2) (.lit (.int .i64 65))) rfl own2 (by unfold maxLen; omega) _ _ (.int .i64 3) rfl rfl rfl (.lit (.int .i64 66)) [] rfl ?_)
  intro m3 own3 grow3
  have bl3 : Below w3.heap.size w3 m3 := bl2.trans (below_grow grow3 (Nat.le_refl _) bl2.size)
  go_wp2_with (refine wpList_insert_own _ rfl _ _ _ 149 rfl 3 121 keyI Tryz.underlying149 fnR w3.heap.size 3 ((((DataW.map [] : DataW Unit).put (.int .i64 1) (.lit (.int .i64 64))).put (.int .i64 2) (.lit (.int .i64 65))).put (.int .i64 3) (.lit (.int .i64 66))) rfl own3 (by unfold maxLen; omega) _ _ (.int .i64 4) rfl rfl rfl (.lit (.int .i64 67)) [] rfl ?_)
  intro m4 own4 grow4
  have bl4 : Below w3.heap.size w3 m4 := bl3.trans (below_grow grow4 (Nat.le_refl _) bl3.size)
  have hlk : ∃ ps, (Instr.lookup 149 (.map (some w3.heap.size)) (.int .i64 4) false).run Tryz.prog m4 = .ok (.func (.func 67) #[] #[]) m4 ∧ (ps : List MemPlace) = ps := by
    obtain ⟨u, ps, hrun, hu⟩ := own4.lookup keyI Tryz.underlying149 (z := .nilFunc) (by kernel_rfl) (zd := .lit (.bool false)) (zp := []) rfl (key := .int .i64 4) (kl := .int .i64 4) rfl
    rw [fnR_inv (f := 67) (ps := ps) (hu.trans (by kernel_rfl))] at hrun
    exact ⟨ps, hrun, rfl⟩
  obtain ⟨_, hrun, _⟩ := hlk
  have HB5 := Lib.hid (HB3.out.on bl4)
  have HS5 := Lib.hid (HS.out.below bl4)
  clear own1 own2 own3 own4 grow1 grow2 grow3 grow4 bl1 bl2 bl3 bl4 HB3 HS
  go_wp2_with (refine wpList_load_row rfl 61 _ rfl (w.heap.size + 1) rfl 61 #[.int .i64 a, .int .i64 k, .int .i64 v] (0, 0) _ HB5.out.op Tryz.underlying61 rfl infoOp ?_)
  refine (HCALL.out A c _ HS5.out).mono ?_
  rintro e w6 ⟨A', n', c', rfl, hO, hb6⟩
  have hn6 := hO.sli.len
  subst hn6
  have HB6 := Lib.hid (HB5.out.on hb6)
  have HG0 := Lib.hid HB5.out.lt
  have HT3 := Lib.hid (HB6.out.alloc (.cells #[.int .i64 co, .int .i64 va] 51))
  have HAN := Lib.hid (Blk.new w6 51 #[.int .i64 co, .int .i64 va])
  have HG := Lib.hid HB6.out.lt
  have HSA := Lib.hid (hO.alloc (.cells #[.int .i64 co, .int .i64 va] 51))
  clear hO hb6 hrun HCALL HS5 HB5 HB6
  go_wp2_with fail
  generalize hG : w6.heap.size = G at *
  generalize w6.alloc (.cells #[.int .i64 co, .int .i64 va] 51) = W3 at *
  refine wp_region_relyA 4 (fun b => b = w.heap.size + 2) [3] (by kernel_rfl) (by kernel_rfl) ?_
  intro anc HA0
  refine wpRely_step (fun K hK => ?_)
  refine .inl ?_
  apply Exists.intro
  refine ⟨Any, ?_, hK _ _ _ _ ?_⟩
  · simp only [RelyOp, fillE]
    refine ⟨?_, fun w9 hw9 _ => ?_⟩
    · first | rfl | (go_simp; done)
    go_simp
    first
    | exact ⟨⟨rfl, trivial⟩, Keeps.refl _ _⟩
  clear hK K
  try simp only [Act.put, List.setIfInBounds_toArray, List.set_cons_zero, List.set_cons_succ]
  refine wpRely_step (fun K hK => ?_)
  refine .inl ⟨.agg D, Any, ?_, hK _ _ _ _ ?_⟩
  · simp only [RelyOp, fillE]
    refine ⟨rfl, fun w9 hw9 _ => ?_⟩
    go_simp
    go_at_call 68
    exact rely_det (listed_any A' _ c' yy _ (sli_keeps HSA.out.sli hw9 (fun hn b hb e => by have := HSA.out.up hn b hb; have := HG0.out; omega)) (by have := HY.out.1; omega) (fun i hi => (HY.out.num i).1) D HD.out)
  clear hK K
  try simp only [Act.put, List.setIfInBounds_toArray, List.set_cons_zero, List.set_cons_succ]
  refine wpRely_step (fun K hK => ?_)
  refine .inl ⟨.agg #[.int .i64 co, .int .i64 va], Any, ?_, hK _ _ _ _ ?_⟩
  · simp only [RelyOp, fillE]
    refine ⟨rfl, fun w9 hw9 _ => ?_⟩
    exact relyAt_load_row 51 _ rfl G rfl 51 #[.int .i64 co, .int .i64 va] _ ((hw9.block _ HAN.out.lt (by show ¬ G = w.heap.size + 2; have := HG.out; omega)).trans HAN.out) Tryz.underlying51 rfl infoAn ⟨⟨rfl, trivial⟩, Keeps.refl _ _⟩
  clear hK K
  try simp only [Act.put, List.setIfInBounds_toArray, List.set_cons_zero, List.set_cons_succ]
  refine wpRely_step (fun K hK => ?_)
  refine .inl ⟨undef, fun _ w' => Blk w' (w.heap.size + 2) 100 D, ?_, hK _ _ _ _ ?_⟩
  · simp only [RelyOp, fillE]
    refine ⟨rfl, fun w9 hw9 hmet => ?_⟩
    have hB9 : Blk w9 (w.heap.size + 2) 100 #[.int .u64 0, .int .u64 0, .int .u64 0, .int .u64 0, .int .u64 0, .int .u64 0, .int .u64 0, .int .u64 0, .int .u64 0, .int .u64 0, .int .u64 0, .int .u64 0, .int .u64 0, .int .u64 0, .int .u64 0, .int .u64 0, .int .u64 0] := (hmet.1.block _ HT3.out.res.lt (fun h => calm_out h (by rw [HA0.out]; kernel_rfl))).trans HT3.out.res
    refine relyAt_store_row 100 _ _ rfl (w.heap.size + 2) D rfl ?_ 100 #[.int .u64 0, .int .u64 0, .int .u64 0, .int .u64 0, .int .u64 0, .int .u64 0, .int .u64 0, .int .u64 0, .int .u64 0, .int .u64 0, .int .u64 0, .int .u64 0, .int .u64 0, .int .u64 0, .int .u64 0, .int .u64 0, .int .u64 0] hB9 HID.out (by rw [HDS.out]; rfl) HD1.out ⟨⟨rfl, hB9.setRow D⟩, keeps_setRow (.inl ⟨by decide, rfl⟩) _⟩
    kernel_rfl
  clear hK K
  try simp only [Act.put, List.setIfInBounds_toArray, List.set_cons_zero, List.set_cons_succ]
  refine wpRely_nil ?_
  simp only [fillE]
  intro w9 hw9 hmet
  have HR9 : Hid (Blk w9 (w.heap.size + 2) 100 D) := Lib.hid (by
    have h1 := hmet.1 rfl
    obtain ⟨w0, k0, k1, hF⟩ := h1
    exact (k1.block _ hF.lt (fun h => calm_out h (by rw [HA0.out]; kernel_rfl))).trans hF)
  have HA9 : Hid (Blk w9 (w.heap.size + 3) 51 #[.int .i64 0, .int .i64 0]) := Lib.hid ((hw9.block _ HT3.out.ans.lt (by show ¬ w.heap.size + 3 = w.heap.size + 2; omega)).trans HT3.out.ans)
  have HW9 := Lib.hid (HT3.out.below.trans (hw9.below HT3.out.below.size (fun b hb e => by omega)))
  clear hmet hw9
  simp only [List.drop_succ_cons, List.drop_zero]
  go_wp2_with (refine wpList_store_row rfl 51 _ _ rfl (w.heap.size + 3) #[.int .i64 co, .int .i64 va] rfl rfl 51 #[.int .i64 0, .int .i64 0] HA9.out infoAn rfl (two_one _ _) ?_)
  have hR : Blk (w9.setRow (w.heap.size + 3) #[.int .i64 co, .int .i64 va]) (w.heap.size + 2) 100 D := (setRow_other _ _ _ _ (by omega)).trans HR9.out
  have hA : Blk (w9.setRow (w.heap.size + 3) #[.int .i64 co, .int .i64 va]) (w.heap.size + 3) 51 #[.int .i64 co, .int .i64 va] := Blk.setRow HA9.out _
  refine bodyPost_ret (results_rows3 Tryz.results37 _ _ (w.heap.size + 2) (w.heap.size + 3) 100 51 D #[.int .i64 co, .int .i64 va] _ _ .nilIface rfl rfl rfl hR hA Tryz.underlying100 rfl HID.out Tryz.underlying51 rfl infoAn) rfl ⟨rfl, below_setRow HW9.out (by omega) _⟩

/-- object.Do of a right operation with a right object. -/
theorem objDo_any (C D : Array Value) (z : Nat → Int) (kind a k v : Int) (m : Nat) (w : World) (h : U64s C 17 z) (ho : opOk a k v) (hz : thingOk kind z) (hm : kind = 5 → tabM z a k m) (hD : U64s D 17 (doZ kind z a k v m)) :
    Calls Tryz.prog 37 #[.int .i64 kind, .agg C, .agg #[.int .i64 a, .int .i64 k, .int .i64 v]] w fun e w' => e = .returned (.tuple #[.agg D, .agg #[.int .i64 (doC kind z a k v), .int .i64 (doV kind z a k v)], .nilIface]) ∧ Below w.heap.size w w' := by
  unfold doZ at hD
  unfold doC doV
  by_cases h5 : kind = 5
  · subst h5
    simp only [if_true] at hD ⊢
    exact objDo_table C D z a k v w h ho hz m (hm rfl) hD
  simp only [if_neg h5] at hD ⊢
  by_cases h6 : kind = 6
  · subst h6
    simp only [if_true] at hD ⊢
    exact objDo_tally C D z a k v w h ho hz hD
  simp only [if_neg h6] at hD ⊢
  have hk : kind = 1 ∨ kind = 2 ∨ kind = 3 ∨ kind = 4 := by
    have hz2 := hz
    unfold thingOk at hz2
    simp only [if_neg h5, if_neg h6] at hz2
    by_cases h4 : kind = 4
    · exact .inr (.inr (.inr h4))
    · rw [if_neg h4] at hz2; omega
  rcases hk with rfl | rfl | rfl | rfl
  · exact objDo_l1 C D z a k v w h ho hz hD
  · exact objDo_l2 C D z a k v w h ho hz hD
  · exact objDo_l3 C D z a k v w h ho hz hD
  · exact objDo_l4 C D z a k v w h ho hz hD
end Go.Proofs.YtkoflhjnpilchaaGreatDoor
