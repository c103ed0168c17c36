/-
  What table.Do returns. For every table that is one.
-/
import Derived.Test.YtkoflhjnpilchaaGreatDoorMThing
namespace Go.Proofs.YtkoflhjnpilchaaGreatDoor
set_option linter.unusedSimpArgs false
set_option linter.unusedVariables false
set_option linter.unusedSectionVars false
open Go.RowKit
set_option linter.unusedSimpArgs false
set_option linter.unusedVariables false
attribute [local go_sem ↓] Go.wp_at_zero Go.wp_at_succ

/-- A table and an answer. -/
def RetT (z : Nat → Int) (code val : Int) (w : World) (e : Ending) (w' : World) : Prop :=
  ∃ D, I64s D 16 z ∧ e = .returned (.tuple #[.agg D, .agg #[.int .i64 code, .int .i64 val]]) ∧ Below w.heap.size w w'

theorem RetT.det {z : Nat → Int} {code val : Int} {w w' : World} {e : Ending} {D : Array Value} (h : RetT z code val w e w') (hD : I64s D 16 z) : e = .returned (.tuple #[.agg D, .agg #[.int .i64 code, .int .i64 val]]) ∧ Below w.heap.size w w' := by
  obtain ⟨E, hE, he, hb⟩ := h
  rw [hE.ext hD] at he
  exact ⟨he, hb⟩

theorem results_two_rows {P : Program} {fn : Func} {p q : Tmp} {ty tz : TypeId} (h : fn.results = #[.cell p ty, .cell q tz]) (tmps : Array Value) (w : World) (g g' : Nat) (t t' : TypeId) (cs cs' : Array Value) (d d' : TypeDesc)
    (hp : tmps.getD p undef = .pointer (some ⟨g, 0, none⟩)) (hq : tmps.getD q undef = .pointer (some ⟨g', 0, none⟩)) (hg : Blk w g t cs) (hg' : Blk w g' t' cs')
    (hu : P.underlying ty = some d) (hd : (match d with | .struct _ | .array _ _ => true | _ => false) = true) (hi : (P.info? ty).map (·.size) = some cs.size)
    (hu' : P.underlying tz = some d') (hd' : (match d' with | .struct _ | .array _ _ => true | _ => false) = true) (hi' : (P.info? tz).map (·.size) = some cs'.size) :
    (results fn tmps).run P w = .ok (.tuple #[.agg cs, .agg cs']) w := by
  have hp' : tmps[p]?.getD undef = .pointer (some ⟨g, 0, none⟩) := by simpa using hp
  have hq' : tmps[q]?.getD undef = .pointer (some ⟨g', 0, none⟩) := by simpa using hq
  simp [results, h, hp', hq', asAddr, run_loadVar_row w g t ty cs (0, 0) d hg hu hd hi, run_loadVar_row w g' t' tz cs' (0, 0) d' hg' hu' hd' hi']

theorem calm_out {c : Bool} {p : Prop} (h : c = false ∧ p) (hc : c = true) : False := by rw [hc] at h; cases h.1
theorem keeps_setRow {S : Nat → Prop} {w : World} {g : Nat} (h : S g ∨ w.heap.size ≤ g) (cs : Array Value) : Keeps S w (w.setRow g cs) :=
  ⟨rfl, rfl, rfl, by simp [World.setRow], fun k hk hs => setRow_other w g k cs (by
    rintro rfl
    rcases h with h | h
    · exact hs h
    · omega)⟩
/-- A store of a whole row. -/
theorem relyAt_store_row {P : Program} {o : Oper} {a : Act} {w : World} {T : Value → World → Prop} (ty : TypeId) (x y : Operand) (ho : o.op = .store ty x y) (g : Nat) (cells : Array Value) (hx : a.eval x = .pointer (some ⟨g, 0, none⟩)) (hy : a.eval y = .agg cells)
    (t : TypeId) (old : Array Value) (hg : Blk w g t old) (hi : (P.info? ty).map (·.size) = some cells.size) (hold : old.size = cells.size) (h1 : cells.all (·.oneCell') = true)
    (hT : T undef (w.setRow g cells)) : relyAt P o a w T := by
  unfold relyAt execOp
  simp only [ho, hx, hy, Instr.storeAt, Instr.sureAddr, Sem.run_bind, Sem.run_pure, Result.andThen_ok, run_storeVar_row w g t ty old cells hg hi hold h1]
  exact hT

/-- A load of a whole row behind a guard. -/
theorem wpList_load_row_g {P : Program} {ops : Array Oper} {rest : List Oper} {o : Oper} {a : Act} {w : World} {Q : Exit → Act → World → Prop} (hw : Region.wanted o (yielded ops a.tmps) = true) (ty : TypeId) (x : Operand) (ho : o.op = .load ty x)
    (g : Nat) (hx : a.eval x = .pointer (some ⟨g, 0, none⟩)) (t : TypeId) (cs : Array Value) (fr : Nat × Nat) (d : TypeDesc) (hg : w.heap[g]? = some (.cells cs t fr))
    (hu : P.underlying ty = some d) (hd : (match d with | .struct _ | .array _ _ => true | _ => false) = true) (hi : (P.info? ty).map (·.size) = some cs.size)
    (h : wpList P ops Q rest (a.put o.dst (.agg cs)) w) : wpList P ops Q (o :: rest) a w :=
  wpList_step fun K hK => by rw [if_pos hw]; exact wp_load_row ty x ho g hx t cs fr d hg hu hd hi (hK _ _ h)

theorem infoA : (Tryz.prog.info? 51).map (·.size) = some 2 := by kernel_rfl

/-- What lies in memory behind the first operations of such a function. -/
structure Laid (w W : World) (ts : TypeId) (C : Array Value) (a k v : Int) : Prop where
  tab : Blk W w.heap.size ts C
  op : Blk W (w.heap.size + 1) 61 #[.int .i64 a, .int .i64 k, .int .i64 v]
  res : Blk W (w.heap.size + 2) ts #[.int .i64 0, .int .i64 0, .int .i64 0, .int .i64 0, .int .i64 0, .int .i64 0, .int .i64 0, .int .i64 0, .int .i64 0, .int .i64 0, .int .i64 0, .int .i64 0, .int .i64 0, .int .i64 0, .int .i64 0, .int .i64 0]
  ans : Blk W (w.heap.size + 3) 51 #[.int .i64 0, .int .i64 0]
  below : Below w.heap.size w W
theorem laid_mk (w : World) (ts : TypeId) (C : Array Value) (a k v : Int) :
    Laid w ((((w.alloc (.cells C ts)).alloc (.cells #[.int .i64 a, .int .i64 k, .int .i64 v] 61)).alloc (.cells #[.int .i64 0, .int .i64 0, .int .i64 0, .int .i64 0, .int .i64 0, .int .i64 0, .int .i64 0, .int .i64 0, .int .i64 0, .int .i64 0, .int .i64 0, .int .i64 0, .int .i64 0, .int .i64 0, .int .i64 0, .int .i64 0] ts)).alloc (.cells #[.int .i64 0, .int .i64 0] 51)) ts C a k v :=
  ⟨(((Blk.new _ _ _).alloc _).alloc _).alloc _, ((Blk.newAt _ _ _ (by simp)).alloc _).alloc _, (Blk.newAt _ _ _ (by simp)).alloc _, Blk.newAt _ _ _ (by simp), by go_grown⟩
theorem Laid.on {w W W' : World} {ts : TypeId} {C : Array Value} {a k v : Int} (h : Laid w W ts C a k v) (hb : Below W.heap.size W W') : Laid w W' ts C a k v :=
  ⟨h.tab.below hb h.tab.lt, h.op.below hb h.op.lt, h.res.below hb h.res.lt, h.ans.below hb h.ans.lt, h.below.trans (hb.mono h.below.size)⟩
theorem Laid.ops {w W : World} {ts : TypeId} {C : Array Value} {a k v : Int} (h : Laid w W ts C a k v) :
    (W.cell? ⟨w.heap.size + 1, 0, none⟩ = some (.int .i64 a) ∧ W.cell? ⟨w.heap.size + 1, 1, none⟩ = some (.int .i64 k) ∧ W.cell? ⟨w.heap.size + 1, 2, none⟩ = some (.int .i64 v)) ∧
    (W.cell? ⟨w.heap.size + 3, 0, none⟩ = some (.int .i64 0) ∧ W.cell? ⟨w.heap.size + 3, 1, none⟩ = some (.int .i64 0) ∧ W.frozen? ⟨w.heap.size + 3, 0, none⟩ = false ∧ W.frozen? ⟨w.heap.size + 3, 1, none⟩ = false) ∧ w.heap.size + 3 < W.heap.size :=
  ⟨⟨h.op.cell 0, h.op.cell 1, h.op.cell 2⟩, ⟨h.ans.cell 0, h.ans.cell 1, h.ans.frozen 0, h.ans.frozen 1⟩, h.ans.lt⟩

theorem Laid.row {w W : World} {ts : TypeId} {C : Array Value} {a k v : Int} (h : Laid w W ts C a k v) (D : Array Value) :
    (((W.setRow (w.heap.size + 2) D).cell? ⟨w.heap.size + 3, 0, none⟩ = some (.int .i64 0) ∧ (W.setRow (w.heap.size + 2) D).cell? ⟨w.heap.size + 3, 1, none⟩ = some (.int .i64 0)) ∧
    ((W.setRow (w.heap.size + 2) D).frozen? ⟨w.heap.size + 3, 0, none⟩ = false ∧ (W.setRow (w.heap.size + 2) D).frozen? ⟨w.heap.size + 3, 1, none⟩ = false)) := by
  have hb : Blk (W.setRow (w.heap.size + 2) D) (w.heap.size + 3) 51 #[.int .i64 0, .int .i64 0] := (setRow_other W _ _ D (by omega)).trans h.ans
  exact ⟨⟨hb.cell 0, hb.cell 1⟩, ⟨hb.frozen 0, hb.frozen 1⟩⟩
theorem Laid.fin {w W : World} {ts : TypeId} {C : Array Value} {a k v : Int} (h : Laid w W ts C a k v) (D : Array Value) (c l : Int) :
    Blk (((W.setRow (w.heap.size + 2) D).setCell ⟨w.heap.size + 3, 0, none⟩ (.int .i64 c)).setCell ⟨w.heap.size + 3, 1, none⟩ (.int .i64 l)) (w.heap.size + 2) ts D ∧
    Blk (((W.setRow (w.heap.size + 2) D).setCell ⟨w.heap.size + 3, 0, none⟩ (.int .i64 c)).setCell ⟨w.heap.size + 3, 1, none⟩ (.int .i64 l)) (w.heap.size + 3) 51 #[.int .i64 c, .int .i64 l] ∧
    Below w.heap.size w (((W.setRow (w.heap.size + 2) D).setCell ⟨w.heap.size + 3, 0, none⟩ (.int .i64 c)).setCell ⟨w.heap.size + 3, 1, none⟩ (.int .i64 l)) := by
  have hb : Blk (W.setRow (w.heap.size + 2) D) (w.heap.size + 3) 51 #[.int .i64 0, .int .i64 0] := (setRow_other W _ _ D (by omega)).trans h.ans
  exact ⟨((h.res.setRow D).far (by simp) _).far (by simp) _, (hb.set_ _ _).set_ _ _, ((below_setRow h.below (by omega) D).setCell (by show w.heap.size ≤ w.heap.size + 3; omega) _).setCell (by show w.heap.size ≤ w.heap.size + 3; omega) _⟩

set_option maxRecDepth 100000 in
set_option maxHeartbeats 2000000 in
theorem tab_count (C : Array Value) (z : Nat → Int) (k v : Int) (w : World) (h : I64s C 16 z) :
    Calls Tryz.prog 62 #[.agg C, .agg #[.int .i64 6, .int .i64 k, .int .i64 v]] w (RetT z 1 (lenT z 8) w) := by
  have H := Lib.hid h
  have hI := h.size
  have HI : Hid ((Tryz.prog.info? 131).map (·.size) = some C.size) := by show _ = _; rw [hI, infoT]
  have HJ : Hid (C.size = 16) := hI
  have h1 := h.one
  clear h hI
  go_enter Tryz.func62, Tryz.ntmps62
  go_upto_region 1 with (fail)
  have hL := laid_mk w 131 C 6 k v
  generalize (((w.alloc (.cells C 131)).alloc (.cells #[.int .i64 6, .int .i64 k, .int .i64 v] 61)).alloc (.cells #[.int .i64 0, .int .i64 0, .int .i64 0, .int .i64 0, .int .i64 0, .int .i64 0, .int .i64 0, .int .i64 0, .int .i64 0, .int .i64 0, .int .i64 0, .int .i64 0, .int .i64 0, .int .i64 0, .int .i64 0, .int .i64 0] 131)).alloc (.cells #[.int .i64 0, .int .i64 0] 51) = W at *
  have HL := Lib.hid hL
  obtain ⟨⟨o0, o1, o2⟩, ⟨a0, a1, b0, b1⟩, hsz⟩ := hL.ops
  clear hL
  go_wp2
  refine wp_region_rely 5 (fun b => b = w.heap.size + 2) [4] (by kernel_rfl) (by kernel_rfl) ?_
  iterate 4
    refine wpRely_step (fun K hK => ?_)
    refine .inl ?_
    apply Exists.intro
    refine ⟨Any, ?_, hK _ _ _ _ ?_⟩
    · simp only [RelyOp, fillE]
      refine ⟨?_, fun w9 hw9 _ => ?_⟩
      · first | rfl | (go_simp; done)
      first
      | exact relyAt_load_row 131 _ rfl w.heap.size rfl 131 C _ ((hw9.block w.heap.size HL.out.tab.lt (by omega)).trans HL.out.tab) Tryz.underlying131 rfl HI.out ⟨⟨rfl, trivial⟩, Keeps.refl _ _⟩
      | (go_simp
         first
         | exact ⟨⟨rfl, trivial⟩, Keeps.refl _ _⟩
         | (go_at_call 80; exact rely_det (len_any C z _ H.out)))
    clear hK K
    try simp only [Act.put, List.setIfInBounds_toArray, List.set_cons_zero, List.set_cons_succ]
  refine wpRely_step (fun K hK => ?_)
  refine .inl ⟨undef, fun _ w' => Blk w' (w.heap.size + 2) 131 C, ?_, hK _ _ _ _ ?_⟩
  · simp only [RelyOp, fillE]
    refine ⟨?_, fun w9 hw9 hm9 => ?_⟩
    · first | rfl | (go_simp; done)
    have hB9 : Blk w9 (w.heap.size + 2) 131 #[.int .i64 0, .int .i64 0, .int .i64 0, .int .i64 0, .int .i64 0, .int .i64 0, .int .i64 0, .int .i64 0, .int .i64 0, .int .i64 0, .int .i64 0, .int .i64 0, .int .i64 0, .int .i64 0, .int .i64 0, .int .i64 0] := (hm9.1.block _ HL.out.res.lt (fun h => calm_out h (by kernel_rfl))).trans HL.out.res
    exact relyAt_store_row 131 _ _ rfl (w.heap.size + 2) C rfl rfl 131 #[.int .i64 0, .int .i64 0, .int .i64 0, .int .i64 0, .int .i64 0, .int .i64 0, .int .i64 0, .int .i64 0, .int .i64 0, .int .i64 0, .int .i64 0, .int .i64 0, .int .i64 0, .int .i64 0, .int .i64 0, .int .i64 0] hB9 HI.out (by rw [HJ.out]; rfl) h1 ⟨⟨rfl, hB9.setRow C⟩, keeps_setRow (.inl ⟨by decide, rfl⟩) _⟩
  clear hK K
  refine wpRely_nil ?_
  simp only [fillE]
  intro w9 hw9 hmet
  obtain ⟨w0, k0, k1, hF⟩ := hmet.1 rfl
  have hB9 : Blk w9 (w.heap.size + 2) 131 C := (k1.block _ hF.lt (fun h => calm_out h (by kernel_rfl))).trans hF
  have hans : Blk w9 (w.heap.size + 3) 51 #[.int .i64 0, .int .i64 0] := (hw9.block _ HL.out.ans.lt (by omega)).trans HL.out.ans
  have hb9 : Below w.heap.size w w9 := HL.out.below.trans (hw9.below HL.out.below.size (fun b hb e => by omega))
  have hsz9 := hans.lt
  have c0 := hans.cell 0
  have c1 := hans.cell 1
  simp only [List.getElem?_toArray, List.getElem?_cons_zero, List.getElem?_cons_succ] at c0 c1
  have f0 := hans.frozen 0
  have f1 := hans.frozen 1
  have HB9 := Lib.hid hB9
  have HAN := Lib.hid hans
  clear hmet hF hB9 hans k0 k1 a0 a1 b0 b1 o0 o1 o2
  go_wp2
  refine bodyPost_ret (results_two_rows Tryz.results62 _ _ (w.heap.size + 2) (w.heap.size + 3) 131 51 C #[.int .i64 1, .int .i64 (lenT z 8)] _ _ rfl rfl ((HB9.out.far (by simp) _).far (by simp) _) ((HAN.out.set_ 0 _).set_ 1 _) Tryz.underlying131 rfl HI.out Tryz.underlying51 rfl infoA) rfl ⟨C, H.out, rfl, (hb9.setCell (by simp; omega) _).setCell (by simp; omega) _⟩

theorem Laid.set_ {w W : World} {ts : TypeId} {C : Array Value} {a k v : Int} (h : Laid w W ts C a k v) (i : Nat) (x y : Int) :
    Laid w ((W.setCell ⟨w.heap.size, i * 2, none⟩ (.int .i64 x)).setCell ⟨w.heap.size, i * 2 + 1, none⟩ (.int .i64 y)) ts ((C.setIfInBounds (i * 2) (.int .i64 x)).setIfInBounds (i * 2 + 1) (.int .i64 y)) a k v :=
  ⟨(h.tab.set_ _ _).set_ _ _, (h.op.far (by simp) _).far (by simp) _, (h.res.far (by simp) _).far (by simp) _, (h.ans.far (by simp) _).far (by simp) _, (h.below.setCell (by simp) _).setCell (by simp) _⟩
theorem Laid.setTab {w W : World} {ts : TypeId} {C : Array Value} {a k v : Int} (h : Laid w W ts C a k v) (D : Array Value) : Laid w (W.setRow w.heap.size D) ts D a k v :=
  ⟨h.tab.setRow D, (setRow_other W _ _ D (by omega)).trans h.op, (setRow_other W _ _ D (by omega)).trans h.res, (setRow_other W _ _ D (by omega)).trans h.ans, below_setRow h.below (Nat.le_refl _) D⟩
theorem Laid.drewN {w W : World} {ts : TypeId} {C : Array Value} {a k v : Int} (h : Laid w W ts C a k v) (n : Nat) : Laid w (W.drewN n) ts C a k v := ⟨h.tab.drewN n, h.op.drewN n, h.res.drewN n, h.ans.drewN n, below_drewN h.below n⟩
theorem setI_s {C : Array Value} {z : Nat → Int} (h : I64s C 16 z) (i : Nat) {k v : Int} (hk : -9223372036854775808 ≤ k ∧ k ≤ 9223372036854775807) (hv : -9223372036854775808 ≤ v ∧ v ≤ 9223372036854775807) :
    I64s ((C.setIfInBounds (i * 2) (.int .i64 k)).setIfInBounds (i * 2 + 1) (.int .i64 v)) 16 (setS z i k v) := ((h.set_ hk).set_ hv).congr (fun j _ => by
  unfold setS
  by_cases e1 : j = i * 2 + 1
  · subst e1; rw [if_neg (by omega), if_pos (by omega), if_pos rfl]
  · by_cases e2 : j = i * 2
    · subst e2; rw [if_pos (by omega), if_neg e1, if_pos rfl]
    · rw [if_neg (by omega), if_neg (by omega), if_neg e1, if_neg e2])
/-- A table that is one has a place for any key. -/
theorem at_exists {z : Nat → Int} (h : rightT z = true) (key : Nat) : ∃ i : Nat, i < 8 ∧ atT z key = (i : Int) ∧ (z (2 * i) = key ∨ z (2 * i) = 0) := by
  have hx : ∃ x, x < 8 ∧ z (2 * x) = 0 := by
    by_cases hall : ∀ x, x < 8 → z (2 * x) ≠ 0
    · have := rightT_len h
      rw [lenT_full hall] at this
      omega
    · simp only [Classical.not_forall, ne_eq, Classical.not_not] at hall
      obtain ⟨x, h1, h2⟩ := hall
      exact ⟨x, h1, h2⟩
  obtain ⟨x, hx8, hx0⟩ := hx
  obtain ⟨d, hd, hr⟩ := rowP_surj key x hx8
  obtain ⟨a, _, hat, hh⟩ := at_first (z := z) (key := key) hd (by rw [hr]; exact hx0)
  refine ⟨rowP key a, rowP_lt _ _, hat, ?_⟩
  unfold hitB at hh
  simpa using hh

set_option maxRecDepth 100000 in
set_option maxHeartbeats 2000000 in
theorem tab_wrong (C : Array Value) (z : Nat → Int) (a k v : Int) (w : World) (h : I64s C 16 z) (h6 : a ≠ 6) (hb : ¬ (a = 1 ∨ a = 2 ∨ a = 5) ∨ k < 1 ∨ 1000 < k) :
    Calls Tryz.prog 62 #[.agg C, .agg #[.int .i64 a, .int .i64 k, .int .i64 v]] w (RetT z 5 0 w) := by
  have H := Lib.hid h
  have hI := h.size
  have HIE : Hid ((Tryz.prog.info? 131).map (·.size) = some C.size) := by show _ = _; rw [hI, infoT]
  have HJE : Hid (C.size = 16) := hI
  have h1 := h.one
  clear h hI
  have d6 : (a == 6) = false := by simpa using h6
  have HB := Lib.hid hb
  clear hb h6
  go_enter Tryz.func62, Tryz.ntmps62
  go_upto_region 1 with (fail)
  have hL := laid_mk w 131 C a k v
  generalize (((w.alloc (.cells C 131)).alloc (.cells #[.int .i64 a, .int .i64 k, .int .i64 v] 61)).alloc (.cells #[.int .i64 0, .int .i64 0, .int .i64 0, .int .i64 0, .int .i64 0, .int .i64 0, .int .i64 0, .int .i64 0, .int .i64 0, .int .i64 0, .int .i64 0, .int .i64 0, .int .i64 0, .int .i64 0, .int .i64 0, .int .i64 0] 131)).alloc (.cells #[.int .i64 0, .int .i64 0] 51) = W at *
  have HLx := Lib.hid hL
  obtain ⟨⟨o0, o1, o2⟩, ⟨a0, a1, b0, b1⟩, hsz⟩ := hL.ops
  clear hL
  go_wp2_with (first
    | (refine wpList_load_row rfl 131 _ rfl w.heap.size rfl 131 C (0, 0) _ ?_ Tryz.underlying131 rfl ?_ ?_; (exact HLx.out.tab); (exact HIE.out))
    | (refine wpList_store_row rfl 131 _ _ rfl (w.heap.size + 2) C rfl rfl 131 #[.int .i64 0, .int .i64 0, .int .i64 0, .int .i64 0, .int .i64 0, .int .i64 0, .int .i64 0, .int .i64 0, .int .i64 0, .int .i64 0, .int .i64 0, .int .i64 0, .int .i64 0, .int .i64 0, .int .i64 0, .int .i64 0] ?_ ?_ ?_ h1 ?_; (exact HLx.out.res); (exact HIE.out); (rw [HJE.out]; rfl); obtain ⟨⟨c0, c1⟩, f0, f1⟩ := HLx.out.row C; obtain ⟨gA, gB, gC⟩ := HLx.out.fin C 5 0; have GA := Lib.hid gA; have GB := Lib.hid gB; have GC := Lib.hid gC; clear gA gB gC)
    | (go_at_call 81; exfalso; have hh := HB.out; simp only [bne_iff_ne, bne_eq_false_iff_eq, beq_iff_eq, beq_eq_false_iff_ne, ne_eq] at *; omega))
  all_goals exact bodyPost_ret (results_two_rows Tryz.results62 _ _ (w.heap.size + 2) (w.heap.size + 3) 131 51 C #[.int .i64 5, .int .i64 0] _ _ rfl rfl GA.out GB.out Tryz.underlying131 rfl HIE.out Tryz.underlying51 rfl infoA) rfl ⟨C, H.out, rfl, GC.out⟩

set_option maxRecDepth 100000 in
set_option maxHeartbeats 4000000 in
theorem tab_absent2 (C D : Array Value) (z : Nat → Int) (key i : Nat) (v y : Int) (w : World) (h : I64s C 16 z) (hk0 : 1 ≤ key) (hk1 : key ≤ 1000) (hi8 : i < 8) (hat : atT z key = (i : Int)) (hy : z (2 * i) = y) (hth : (y == (key : Int)) = false)  :
    Calls Tryz.prog 62 #[.agg C, .agg #[.int .i64 2, .int .i64 (key : Int), .int .i64 v]] w (RetT z 4 0 w) := by
  have H := Lib.hid h
  have hI := h.size
  have HIE : Hid ((Tryz.prog.info? 131).map (·.size) = some C.size) := by show _ = _; rw [hI, infoT]
  have HJE : Hid (C.size = 16) := hI
  have h1 := h.one
  clear h hI
  have HAT := Lib.hid hat
  have HY := Lib.hid hy
  have hi8' : (i : Int) < 8 := by omega
  have hq1 : (1 : Int) ≤ key := by omega
  have hq2 : (key : Int) ≤ 1000 := by omega
  clear hat hy
  go_enter Tryz.func62, Tryz.ntmps62
  go_upto_region 1 with (fail)
  have hL := laid_mk w 131 C 2 key v
  generalize (((w.alloc (.cells C 131)).alloc (.cells #[.int .i64 2, .int .i64 (key : Int), .int .i64 v] 61)).alloc (.cells #[.int .i64 0, .int .i64 0, .int .i64 0, .int .i64 0, .int .i64 0, .int .i64 0, .int .i64 0, .int .i64 0, .int .i64 0, .int .i64 0, .int .i64 0, .int .i64 0, .int .i64 0, .int .i64 0, .int .i64 0, .int .i64 0] 131)).alloc (.cells #[.int .i64 0, .int .i64 0] 51) = W at *
  have HLx := Lib.hid hL
  obtain ⟨⟨o0, o1, o2⟩, _, hsz⟩ := hL.ops
  clear hL
  go_wp2_with (go_at_call 81; refine (at_any C z w.heap.size key _ H.out HLx.out.tab hk1).mono ?_; rintro e w1 ⟨rfl, hb1⟩; rw [HAT.out])
  have hL1 := HLx.out.on hb1
  have HL1 := Lib.hid hL1
  obtain ⟨⟨p0, p1, p2⟩, _, hsz1⟩ := hL1.ops
  have y0 : w1.cell? ⟨w.heap.size, i * 2, none⟩ = some (.int .i64 y) := by rw [hL1.tab.cell, Nat.mul_comm, H.out.get _ (by omega), HY.out]
  clear hL1 o0 o1 o2 hsz HLx
  go_quiet (fail)
  have hL2 := HL1.out.drewN nq
  generalize w1.drewN nq = W2 at *
  have HL2 := Lib.hid hL2
  clear p0 p1 p2 y0 hb1
  obtain ⟨⟨p0, p1, p2⟩, _, hsz2⟩ := hL2.ops
  have y0 : W2.cell? ⟨w.heap.size, i * 2, none⟩ = some (.int .i64 y) := by rw [hL2.tab.cell, Nat.mul_comm, H.out.get _ (by omega), HY.out]
  have y1 : W2.cell? ⟨w.heap.size, i * 2 + 1, none⟩ = some (.int .i64 (z (2 * i + 1))) := by rw [hL2.tab.cell, Nat.mul_comm, H.out.get _ (by omega)]
  have f0 : W2.frozen? ⟨w.heap.size, i * 2, none⟩ = false := hL2.tab.frozen _
  have f1 : W2.frozen? ⟨w.heap.size, i * 2 + 1, none⟩ = false := hL2.tab.frozen _
  have hls : w.heap.size < W2.heap.size := by omega
  clear hL2 hsz1
  have h1' := h1
  go_wp2_with (first
    | (refine wpList_load_row rfl 131 _ rfl w.heap.size rfl 131 C (0, 0) _ ?_ Tryz.underlying131 rfl ?_ ?_; (exact HL2.out.tab); (exact HIE.out))
    | (refine wpList_store_row rfl 131 _ _ rfl (w.heap.size + 2) C rfl rfl 131 #[.int .i64 0, .int .i64 0, .int .i64 0, .int .i64 0, .int .i64 0, .int .i64 0, .int .i64 0, .int .i64 0, .int .i64 0, .int .i64 0, .int .i64 0, .int .i64 0, .int .i64 0, .int .i64 0, .int .i64 0, .int .i64 0] ?_ ?_ ?_ h1 ?_; (exact HL2.out.res); (exact HIE.out); (rw [HJE.out]; rfl); obtain ⟨⟨c0, c1⟩, f0, f1⟩ := HL2.out.row C; obtain ⟨gA, gB, gC⟩ := HL2.out.fin C 4 0; have GA := Lib.hid gA; have GB := Lib.hid gB; have GC := Lib.hid gC; clear gA gB gC))
  exact bodyPost_ret (results_two_rows Tryz.results62 _ _ (w.heap.size + 2) (w.heap.size + 3) 131 51 C #[.int .i64 4, .int .i64 0] _ _ rfl rfl GA.out GB.out Tryz.underlying131 rfl HIE.out Tryz.underlying51 rfl infoA) rfl ⟨C, H.out, rfl, GC.out⟩

set_option maxRecDepth 100000 in
set_option maxHeartbeats 4000000 in
theorem tab_absent5 (C D : Array Value) (z : Nat → Int) (key i : Nat) (v y : Int) (w : World) (h : I64s C 16 z) (hk0 : 1 ≤ key) (hk1 : key ≤ 1000) (hi8 : i < 8) (hat : atT z key = (i : Int)) (hy : z (2 * i) = y) (hth : (y == (key : Int)) = false)  :
    Calls Tryz.prog 62 #[.agg C, .agg #[.int .i64 5, .int .i64 (key : Int), .int .i64 v]] w (RetT z 4 0 w) := by
  have H := Lib.hid h
  have hI := h.size
  have HIE : Hid ((Tryz.prog.info? 131).map (·.size) = some C.size) := by show _ = _; rw [hI, infoT]
  have HJE : Hid (C.size = 16) := hI
  have h1 := h.one
  clear h hI
  have HAT := Lib.hid hat
  have HY := Lib.hid hy
  have hi8' : (i : Int) < 8 := by omega
  have hq1 : (1 : Int) ≤ key := by omega
  have hq2 : (key : Int) ≤ 1000 := by omega
  clear hat hy
  go_enter Tryz.func62, Tryz.ntmps62
  go_upto_region 1 with (fail)
  have hL := laid_mk w 131 C 5 key v
  generalize (((w.alloc (.cells C 131)).alloc (.cells #[.int .i64 5, .int .i64 (key : Int), .int .i64 v] 61)).alloc (.cells #[.int .i64 0, .int .i64 0, .int .i64 0, .int .i64 0, .int .i64 0, .int .i64 0, .int .i64 0, .int .i64 0, .int .i64 0, .int .i64 0, .int .i64 0, .int .i64 0, .int .i64 0, .int .i64 0, .int .i64 0, .int .i64 0] 131)).alloc (.cells #[.int .i64 0, .int .i64 0] 51) = W at *
  have HLx := Lib.hid hL
  obtain ⟨⟨o0, o1, o2⟩, _, hsz⟩ := hL.ops
  clear hL
  go_wp2_with (go_at_call 81; refine (at_any C z w.heap.size key _ H.out HLx.out.tab hk1).mono ?_; rintro e w1 ⟨rfl, hb1⟩; rw [HAT.out])
  have hL1 := HLx.out.on hb1
  have HL1 := Lib.hid hL1
  obtain ⟨⟨p0, p1, p2⟩, _, hsz1⟩ := hL1.ops
  have y0 : w1.cell? ⟨w.heap.size, i * 2, none⟩ = some (.int .i64 y) := by rw [hL1.tab.cell, Nat.mul_comm, H.out.get _ (by omega), HY.out]
  clear hL1 o0 o1 o2 hsz HLx
  go_quiet (fail)
  have hL2 := HL1.out.drewN nq
  generalize w1.drewN nq = W2 at *
  have HL2 := Lib.hid hL2
  clear p0 p1 p2 y0 hb1
  obtain ⟨⟨p0, p1, p2⟩, _, hsz2⟩ := hL2.ops
  have y0 : W2.cell? ⟨w.heap.size, i * 2, none⟩ = some (.int .i64 y) := by rw [hL2.tab.cell, Nat.mul_comm, H.out.get _ (by omega), HY.out]
  have y1 : W2.cell? ⟨w.heap.size, i * 2 + 1, none⟩ = some (.int .i64 (z (2 * i + 1))) := by rw [hL2.tab.cell, Nat.mul_comm, H.out.get _ (by omega)]
  have f0 : W2.frozen? ⟨w.heap.size, i * 2, none⟩ = false := hL2.tab.frozen _
  have f1 : W2.frozen? ⟨w.heap.size, i * 2 + 1, none⟩ = false := hL2.tab.frozen _
  have hls : w.heap.size < W2.heap.size := by omega
  clear hL2 hsz1
  have h1' := h1
  go_wp2_with (first
    | (refine wpList_load_row rfl 131 _ rfl w.heap.size rfl 131 C (0, 0) _ ?_ Tryz.underlying131 rfl ?_ ?_; (exact HL2.out.tab); (exact HIE.out))
    | (refine wpList_store_row rfl 131 _ _ rfl (w.heap.size + 2) C rfl rfl 131 #[.int .i64 0, .int .i64 0, .int .i64 0, .int .i64 0, .int .i64 0, .int .i64 0, .int .i64 0, .int .i64 0, .int .i64 0, .int .i64 0, .int .i64 0, .int .i64 0, .int .i64 0, .int .i64 0, .int .i64 0, .int .i64 0] ?_ ?_ ?_ h1 ?_; (exact HL2.out.res); (exact HIE.out); (rw [HJE.out]; rfl); obtain ⟨⟨c0, c1⟩, f0, f1⟩ := HL2.out.row C; obtain ⟨gA, gB, gC⟩ := HL2.out.fin C 4 0; have GA := Lib.hid gA; have GB := Lib.hid gB; have GC := Lib.hid gC; clear gA gB gC))
  exact bodyPost_ret (results_two_rows Tryz.results62 _ _ (w.heap.size + 2) (w.heap.size + 3) 131 51 C #[.int .i64 4, .int .i64 0] _ _ rfl rfl GA.out GB.out Tryz.underlying131 rfl HIE.out Tryz.underlying51 rfl infoA) rfl ⟨C, H.out, rfl, GC.out⟩

set_option maxRecDepth 100000 in
set_option maxHeartbeats 4000000 in
theorem tab_peek (C D : Array Value) (z : Nat → Int) (key i : Nat) (v y : Int) (w : World) (h : I64s C 16 z) (hk0 : 1 ≤ key) (hk1 : key ≤ 1000) (hi8 : i < 8) (hat : atT z key = (i : Int)) (hy : z (2 * i) = y) (hth : (y == (key : Int)) = true)  :
    Calls Tryz.prog 62 #[.agg C, .agg #[.int .i64 5, .int .i64 (key : Int), .int .i64 v]] w (RetT z 1 (z (2 * i + 1)) w) := by
  have H := Lib.hid h
  have hI := h.size
  have HIE : Hid ((Tryz.prog.info? 131).map (·.size) = some C.size) := by show _ = _; rw [hI, infoT]
  have HJE : Hid (C.size = 16) := hI
  have h1 := h.one
  clear h hI
  have HAT := Lib.hid hat
  have HY := Lib.hid hy
  have hi8' : (i : Int) < 8 := by omega
  have hq1 : (1 : Int) ≤ key := by omega
  have hq2 : (key : Int) ≤ 1000 := by omega
  clear hat hy
  go_enter Tryz.func62, Tryz.ntmps62
  go_upto_region 1 with (fail)
  have hL := laid_mk w 131 C 5 key v
  generalize (((w.alloc (.cells C 131)).alloc (.cells #[.int .i64 5, .int .i64 (key : Int), .int .i64 v] 61)).alloc (.cells #[.int .i64 0, .int .i64 0, .int .i64 0, .int .i64 0, .int .i64 0, .int .i64 0, .int .i64 0, .int .i64 0, .int .i64 0, .int .i64 0, .int .i64 0, .int .i64 0, .int .i64 0, .int .i64 0, .int .i64 0, .int .i64 0] 131)).alloc (.cells #[.int .i64 0, .int .i64 0] 51) = W at *
  have HLx := Lib.hid hL
  obtain ⟨⟨o0, o1, o2⟩, _, hsz⟩ := hL.ops
  clear hL
  go_wp2_with (go_at_call 81; refine (at_any C z w.heap.size key _ H.out HLx.out.tab hk1).mono ?_; rintro e w1 ⟨rfl, hb1⟩; rw [HAT.out])
  have hL1 := HLx.out.on hb1
  have HL1 := Lib.hid hL1
  obtain ⟨⟨p0, p1, p2⟩, _, hsz1⟩ := hL1.ops
  have y0 : w1.cell? ⟨w.heap.size, i * 2, none⟩ = some (.int .i64 y) := by rw [hL1.tab.cell, Nat.mul_comm, H.out.get _ (by omega), HY.out]
  clear hL1 o0 o1 o2 hsz HLx
  go_quiet (fail)
  have hL2 := HL1.out.drewN nq
  generalize w1.drewN nq = W2 at *
  have HL2 := Lib.hid hL2
  clear p0 p1 p2 y0 hb1
  obtain ⟨⟨p0, p1, p2⟩, _, hsz2⟩ := hL2.ops
  have y0 : W2.cell? ⟨w.heap.size, i * 2, none⟩ = some (.int .i64 y) := by rw [hL2.tab.cell, Nat.mul_comm, H.out.get _ (by omega), HY.out]
  have y1 : W2.cell? ⟨w.heap.size, i * 2 + 1, none⟩ = some (.int .i64 (z (2 * i + 1))) := by rw [hL2.tab.cell, Nat.mul_comm, H.out.get _ (by omega)]
  have f0 : W2.frozen? ⟨w.heap.size, i * 2, none⟩ = false := hL2.tab.frozen _
  have f1 : W2.frozen? ⟨w.heap.size, i * 2 + 1, none⟩ = false := hL2.tab.frozen _
  have hls : w.heap.size < W2.heap.size := by omega
  clear hL2 hsz1
  go_wp2_with (first
    | (refine wpList_load_row rfl 131 _ rfl w.heap.size rfl 131 C (0, 0) _ ?_ Tryz.underlying131 rfl ?_ ?_; (exact HL2.out.tab); (exact HIE.out))
    | (refine wpList_store_row rfl 131 _ _ rfl (w.heap.size + 2) C rfl rfl 131 #[.int .i64 0, .int .i64 0, .int .i64 0, .int .i64 0, .int .i64 0, .int .i64 0, .int .i64 0, .int .i64 0, .int .i64 0, .int .i64 0, .int .i64 0, .int .i64 0, .int .i64 0, .int .i64 0, .int .i64 0, .int .i64 0] ?_ ?_ ?_ h1 ?_; (exact HL2.out.res); (exact HIE.out); (rw [HJE.out]; rfl); obtain ⟨⟨c0, c1⟩, f0, f1⟩ := HL2.out.row C; obtain ⟨gA, gB, gC⟩ := HL2.out.fin C 1 (z (2 * i + 1)); have GA := Lib.hid gA; have GB := Lib.hid gB; have GC := Lib.hid gC; clear gA gB gC))
  exact bodyPost_ret (results_two_rows Tryz.results62 _ _ (w.heap.size + 2) (w.heap.size + 3) 131 51 C #[.int .i64 1, .int .i64 (z (2 * i + 1))] _ _ rfl rfl GA.out GB.out Tryz.underlying131 rfl HIE.out Tryz.underlying51 rfl infoA) rfl ⟨C, H.out, rfl, GC.out⟩

set_option maxRecDepth 100000 in
set_option maxHeartbeats 4000000 in
theorem tab_full (C D : Array Value) (z : Nat → Int) (key i : Nat) (v y : Int) (w : World) (h : I64s C 16 z) (hk0 : 1 ≤ key) (hk1 : key ≤ 1000) (hi8 : i < 8) (hat : atT z key = (i : Int)) (hy : z (2 * i) = y) (hth : (y == (key : Int)) = false) (l : Int) (hl : lenT z 8 = l) (hl6 : 6 ≤ l) :
    Calls Tryz.prog 62 #[.agg C, .agg #[.int .i64 1, .int .i64 (key : Int), .int .i64 v]] w (RetT z 3 0 w) := by
  have H := Lib.hid h
  have hI := h.size
  have HIE : Hid ((Tryz.prog.info? 131).map (·.size) = some C.size) := by show _ = _; rw [hI, infoT]
  have HJE : Hid (C.size = 16) := hI
  have h1 := h.one
  clear h hI
  have HAT := Lib.hid hat
  have HY := Lib.hid hy
  have hi8' : (i : Int) < 8 := by omega
  have hq1 : (1 : Int) ≤ key := by omega
  have hq2 : (key : Int) ≤ 1000 := by omega
  clear hat hy
  have HLEN := Lib.hid hl
  clear hl
  go_enter Tryz.func62, Tryz.ntmps62
  go_upto_region 1 with (fail)
  have hL := laid_mk w 131 C 1 key v
  generalize (((w.alloc (.cells C 131)).alloc (.cells #[.int .i64 1, .int .i64 (key : Int), .int .i64 v] 61)).alloc (.cells #[.int .i64 0, .int .i64 0, .int .i64 0, .int .i64 0, .int .i64 0, .int .i64 0, .int .i64 0, .int .i64 0, .int .i64 0, .int .i64 0, .int .i64 0, .int .i64 0, .int .i64 0, .int .i64 0, .int .i64 0, .int .i64 0] 131)).alloc (.cells #[.int .i64 0, .int .i64 0] 51) = W at *
  have HLx := Lib.hid hL
  obtain ⟨⟨o0, o1, o2⟩, _, hsz⟩ := hL.ops
  clear hL
  go_wp2_with (go_at_call 81; refine (at_any C z w.heap.size key _ H.out HLx.out.tab hk1).mono ?_; rintro e w1 ⟨rfl, hb1⟩; rw [HAT.out])
  have hL1 := HLx.out.on hb1
  have HL1 := Lib.hid hL1
  obtain ⟨⟨p0, p1, p2⟩, _, hsz1⟩ := hL1.ops
  have y0 : w1.cell? ⟨w.heap.size, i * 2, none⟩ = some (.int .i64 y) := by rw [hL1.tab.cell, Nat.mul_comm, H.out.get _ (by omega), HY.out]
  clear hL1 o0 o1 o2 hsz HLx
  go_quiet (fail)
  have hL2 := HL1.out.drewN nq
  generalize w1.drewN nq = W2 at *
  have HL2 := Lib.hid hL2
  clear p0 p1 p2 y0 hb1
  obtain ⟨⟨p0, p1, p2⟩, _, hsz2⟩ := hL2.ops
  have y0 : W2.cell? ⟨w.heap.size, i * 2, none⟩ = some (.int .i64 y) := by rw [hL2.tab.cell, Nat.mul_comm, H.out.get _ (by omega), HY.out]
  have y1 : W2.cell? ⟨w.heap.size, i * 2 + 1, none⟩ = some (.int .i64 (z (2 * i + 1))) := by rw [hL2.tab.cell, Nat.mul_comm, H.out.get _ (by omega)]
  have f0 : W2.frozen? ⟨w.heap.size, i * 2, none⟩ = false := hL2.tab.frozen _
  have f1 : W2.frozen? ⟨w.heap.size, i * 2 + 1, none⟩ = false := hL2.tab.frozen _
  have hls : w.heap.size < W2.heap.size := by omega
  clear hL2 hsz1
  go_wp2_with (first
    | (refine wpList_load_row_g ?_ 131 _ rfl w.heap.size rfl 131 C (0, 0) _ ?_ Tryz.underlying131 rfl ?_ ?_; (first | rfl | (go_simp; done)); (exact HL2.out.tab); (exact HIE.out))
    | (go_at_call 80; refine (len_any C z _ H.out).mono ?_; rintro e w3 ⟨rfl, hb3⟩; rw [HLEN.out]; have hL3 := HL2.out.on hb3; have HL3 := Lib.hid hL3; obtain ⟨⟨q0, q1, q2⟩, _, hsz3⟩ := hL3.ops; have x0 : w3.cell? ⟨w.heap.size, i * 2, none⟩ = some (.int .i64 y) := (by rw [hL3.tab.cell, Nat.mul_comm, H.out.get _ (by omega), HY.out]); have x1 : w3.cell? ⟨w.heap.size, i * 2 + 1, none⟩ = some (.int .i64 (z (2 * i + 1))) := (by rw [hL3.tab.cell, Nat.mul_comm, H.out.get _ (by omega)]); have g0 : w3.frozen? ⟨w.heap.size, i * 2, none⟩ = false := hL3.tab.frozen _; have g1 : w3.frozen? ⟨w.heap.size, i * 2 + 1, none⟩ = false := hL3.tab.frozen _; have hls3 : w.heap.size < w3.heap.size := (by omega); clear hL3)
    | (refine wpList_load_row rfl 131 _ rfl w.heap.size rfl 131 C (0, 0) _ ?_ Tryz.underlying131 rfl ?_ ?_; (exact HL3.out.tab); (exact HIE.out))
    | (refine wpList_store_row rfl 131 _ _ rfl (w.heap.size + 2) C rfl rfl 131 #[.int .i64 0, .int .i64 0, .int .i64 0, .int .i64 0, .int .i64 0, .int .i64 0, .int .i64 0, .int .i64 0, .int .i64 0, .int .i64 0, .int .i64 0, .int .i64 0, .int .i64 0, .int .i64 0, .int .i64 0, .int .i64 0] ?_ ?_ ?_ h1 ?_; (exact HL3.out.res); (exact HIE.out); (rw [HJE.out]; rfl); obtain ⟨⟨c0, c1⟩, f0, f1⟩ := HL3.out.row C; obtain ⟨gA, gB, gC⟩ := HL3.out.fin C 3 0; have GA := Lib.hid gA; have GB := Lib.hid gB; have GC := Lib.hid gC; clear gA gB gC))
  exact bodyPost_ret (results_two_rows Tryz.results62 _ _ (w.heap.size + 2) (w.heap.size + 3) 131 51 C #[.int .i64 3, .int .i64 0] _ _ rfl rfl GA.out GB.out Tryz.underlying131 rfl HIE.out Tryz.underlying51 rfl infoA) rfl ⟨C, H.out, rfl, GC.out⟩

set_option maxRecDepth 100000 in
set_option maxHeartbeats 4000000 in
theorem tab_new (C D : Array Value) (z : Nat → Int) (key i : Nat) (v y : Int) (w : World) (h : I64s C 16 z) (hk0 : 1 ≤ key) (hk1 : key ≤ 1000) (hi8 : i < 8) (hat : atT z key = (i : Int)) (hy : z (2 * i) = y) (hth : (y == (key : Int)) = false) (l : Int) (hl : lenT z 8 = l) (hl6 : l < 6) (hv : -9223372036854775808 ≤ v ∧ v ≤ 9223372036854775807) :
    Calls Tryz.prog 62 #[.agg C, .agg #[.int .i64 1, .int .i64 (key : Int), .int .i64 v]] w (RetT (setS z i key v) 1 0 w) := by
  have H := Lib.hid h
  have hI := h.size
  have HIE : Hid ((Tryz.prog.info? 131).map (·.size) = some C.size) := by show _ = _; rw [hI, infoT]
  have HJE : Hid (C.size = 16) := hI
  have h1 := h.one
  clear h hI
  have HAT := Lib.hid hat
  have HY := Lib.hid hy
  have hi8' : (i : Int) < 8 := by omega
  have hq1 : (1 : Int) ≤ key := by omega
  have hq2 : (key : Int) ≤ 1000 := by omega
  clear hat hy
  have HLEN := Lib.hid hl
  clear hl
  obtain ⟨E, hE⟩ : ∃ E, E = (C.setIfInBounds (i * 2) (.int .i64 (key : Int))).setIfInBounds (i * 2 + 1) (.int .i64 v) := ⟨_, rfl⟩
  have hIE2 : I64s E 16 (setS z i key v) := by rw [hE]; exact setI_s H.out i (by omega) hv
  have HE := Lib.hid hIE2
  have hEE := Lib.hid hE
  have HIE2 : Hid ((Tryz.prog.info? 131).map (·.size) = some E.size) := by show _ = _; rw [hIE2.size, infoT]
  have HJE2 : Hid (E.size = 16) := hIE2.size
  have h2 := hIE2.one
  clear hIE2 hE
  go_enter Tryz.func62, Tryz.ntmps62
  go_upto_region 1 with (fail)
  have hL := laid_mk w 131 C 1 key v
  generalize (((w.alloc (.cells C 131)).alloc (.cells #[.int .i64 1, .int .i64 (key : Int), .int .i64 v] 61)).alloc (.cells #[.int .i64 0, .int .i64 0, .int .i64 0, .int .i64 0, .int .i64 0, .int .i64 0, .int .i64 0, .int .i64 0, .int .i64 0, .int .i64 0, .int .i64 0, .int .i64 0, .int .i64 0, .int .i64 0, .int .i64 0, .int .i64 0] 131)).alloc (.cells #[.int .i64 0, .int .i64 0] 51) = W at *
  have HLx := Lib.hid hL
  obtain ⟨⟨o0, o1, o2⟩, _, hsz⟩ := hL.ops
  clear hL
  go_wp2_with (go_at_call 81; refine (at_any C z w.heap.size key _ H.out HLx.out.tab hk1).mono ?_; rintro e w1 ⟨rfl, hb1⟩; rw [HAT.out])
  have hL1 := HLx.out.on hb1
  have HL1 := Lib.hid hL1
  obtain ⟨⟨p0, p1, p2⟩, _, hsz1⟩ := hL1.ops
  have y0 : w1.cell? ⟨w.heap.size, i * 2, none⟩ = some (.int .i64 y) := by rw [hL1.tab.cell, Nat.mul_comm, H.out.get _ (by omega), HY.out]
  clear hL1 o0 o1 o2 hsz HLx
  go_quiet (fail)
  have hL2 := HL1.out.drewN nq
  generalize w1.drewN nq = W2 at *
  have HL2 := Lib.hid hL2
  clear p0 p1 p2 y0 hb1
  obtain ⟨⟨p0, p1, p2⟩, _, hsz2⟩ := hL2.ops
  have y0 : W2.cell? ⟨w.heap.size, i * 2, none⟩ = some (.int .i64 y) := by rw [hL2.tab.cell, Nat.mul_comm, H.out.get _ (by omega), HY.out]
  have y1 : W2.cell? ⟨w.heap.size, i * 2 + 1, none⟩ = some (.int .i64 (z (2 * i + 1))) := by rw [hL2.tab.cell, Nat.mul_comm, H.out.get _ (by omega)]
  have f0 : W2.frozen? ⟨w.heap.size, i * 2, none⟩ = false := hL2.tab.frozen _
  have f1 : W2.frozen? ⟨w.heap.size, i * 2 + 1, none⟩ = false := hL2.tab.frozen _
  have hls : w.heap.size < W2.heap.size := by omega
  clear hL2 hsz1
  go_wp2_with (first
    | (refine wpList_load_row_g ?_ 131 _ rfl w.heap.size rfl 131 C (0, 0) _ ?_ Tryz.underlying131 rfl ?_ ?_; (first | rfl | (go_simp; done)); (exact HL2.out.tab); (exact HIE.out))
    | (go_at_call 80; refine (len_any C z _ H.out).mono ?_; rintro e w3 ⟨rfl, hb3⟩; rw [HLEN.out]; have hL3 := HL2.out.on hb3; have HL3 := Lib.hid hL3; obtain ⟨⟨q0, q1, q2⟩, _, hsz3⟩ := hL3.ops; have x0 : w3.cell? ⟨w.heap.size, i * 2, none⟩ = some (.int .i64 y) := (by rw [hL3.tab.cell, Nat.mul_comm, H.out.get _ (by omega), HY.out]); have x1 : w3.cell? ⟨w.heap.size, i * 2 + 1, none⟩ = some (.int .i64 (z (2 * i + 1))) := (by rw [hL3.tab.cell, Nat.mul_comm, H.out.get _ (by omega)]); have g0 : w3.frozen? ⟨w.heap.size, i * 2, none⟩ = false := hL3.tab.frozen _; have g1 : w3.frozen? ⟨w.heap.size, i * 2 + 1, none⟩ = false := hL3.tab.frozen _; have hls3 : w.heap.size < w3.heap.size := (by omega); have HL4 := Lib.hid (hL3.set_ i (key : Int) v); rw [← hEE.out] at HL4; clear hL3)
    | (refine wpList_load_row rfl 131 _ rfl w.heap.size rfl 131 E (0, 0) _ ?_ Tryz.underlying131 rfl ?_ ?_; (exact HL4.out.tab); (exact HIE2.out))
    | (refine wpList_store_row rfl 131 _ _ rfl (w.heap.size + 2) E rfl rfl 131 #[.int .i64 0, .int .i64 0, .int .i64 0, .int .i64 0, .int .i64 0, .int .i64 0, .int .i64 0, .int .i64 0, .int .i64 0, .int .i64 0, .int .i64 0, .int .i64 0, .int .i64 0, .int .i64 0, .int .i64 0, .int .i64 0] ?_ ?_ ?_ h2 ?_; (exact HL4.out.res); (exact HIE2.out); (rw [HJE2.out]; rfl); obtain ⟨⟨c0, c1⟩, f0, f1⟩ := HL4.out.row E; obtain ⟨gA, gB, gC⟩ := HL4.out.fin E 1 0; have GA := Lib.hid gA; have GB := Lib.hid gB; have GC := Lib.hid gC; clear gA gB gC))
  exact bodyPost_ret (results_two_rows Tryz.results62 _ _ (w.heap.size + 2) (w.heap.size + 3) 131 51 E #[.int .i64 1, .int .i64 0] _ _ rfl rfl GA.out GB.out Tryz.underlying131 rfl HIE2.out Tryz.underlying51 rfl infoA) rfl ⟨E, HE.out, rfl, GC.out⟩

set_option maxRecDepth 100000 in
set_option maxHeartbeats 4000000 in
theorem tab_old (C D : Array Value) (z : Nat → Int) (key i : Nat) (v y : Int) (w : World) (h : I64s C 16 z) (hk0 : 1 ≤ key) (hk1 : key ≤ 1000) (hi8 : i < 8) (hat : atT z key = (i : Int)) (hy : z (2 * i) = y) (hth : (y == (key : Int)) = true) (hv : -9223372036854775808 ≤ v ∧ v ≤ 9223372036854775807) :
    Calls Tryz.prog 62 #[.agg C, .agg #[.int .i64 1, .int .i64 (key : Int), .int .i64 v]] w (RetT (setS z i key v) 1 0 w) := by
  have H := Lib.hid h
  have hI := h.size
  have HIE : Hid ((Tryz.prog.info? 131).map (·.size) = some C.size) := by show _ = _; rw [hI, infoT]
  have HJE : Hid (C.size = 16) := hI
  have h1 := h.one
  clear h hI
  have HAT := Lib.hid hat
  have HY := Lib.hid hy
  have hi8' : (i : Int) < 8 := by omega
  have hq1 : (1 : Int) ≤ key := by omega
  have hq2 : (key : Int) ≤ 1000 := by omega
  clear hat hy
  obtain ⟨E, hE⟩ : ∃ E, E = (C.setIfInBounds (i * 2) (.int .i64 (key : Int))).setIfInBounds (i * 2 + 1) (.int .i64 v) := ⟨_, rfl⟩
  have hIE2 : I64s E 16 (setS z i key v) := by rw [hE]; exact setI_s H.out i (by omega) hv
  have HE := Lib.hid hIE2
  have hEE := Lib.hid hE
  have HIE2 : Hid ((Tryz.prog.info? 131).map (·.size) = some E.size) := by show _ = _; rw [hIE2.size, infoT]
  have HJE2 : Hid (E.size = 16) := hIE2.size
  have h2 := hIE2.one
  clear hIE2 hE
  go_enter Tryz.func62, Tryz.ntmps62
  go_upto_region 1 with (fail)
  have hL := laid_mk w 131 C 1 key v
  generalize (((w.alloc (.cells C 131)).alloc (.cells #[.int .i64 1, .int .i64 (key : Int), .int .i64 v] 61)).alloc (.cells #[.int .i64 0, .int .i64 0, .int .i64 0, .int .i64 0, .int .i64 0, .int .i64 0, .int .i64 0, .int .i64 0, .int .i64 0, .int .i64 0, .int .i64 0, .int .i64 0, .int .i64 0, .int .i64 0, .int .i64 0, .int .i64 0] 131)).alloc (.cells #[.int .i64 0, .int .i64 0] 51) = W at *
  have HLx := Lib.hid hL
  obtain ⟨⟨o0, o1, o2⟩, _, hsz⟩ := hL.ops
  clear hL
  go_wp2_with (go_at_call 81; refine (at_any C z w.heap.size key _ H.out HLx.out.tab hk1).mono ?_; rintro e w1 ⟨rfl, hb1⟩; rw [HAT.out])
  have hL1 := HLx.out.on hb1
  have HL1 := Lib.hid hL1
  obtain ⟨⟨p0, p1, p2⟩, _, hsz1⟩ := hL1.ops
  have y0 : w1.cell? ⟨w.heap.size, i * 2, none⟩ = some (.int .i64 y) := by rw [hL1.tab.cell, Nat.mul_comm, H.out.get _ (by omega), HY.out]
  clear hL1 o0 o1 o2 hsz HLx
  go_quiet (fail)
  have hL2 := HL1.out.drewN nq
  generalize w1.drewN nq = W2 at *
  have HL2 := Lib.hid hL2
  clear p0 p1 p2 y0 hb1
  obtain ⟨⟨p0, p1, p2⟩, _, hsz2⟩ := hL2.ops
  have y0 : W2.cell? ⟨w.heap.size, i * 2, none⟩ = some (.int .i64 y) := by rw [hL2.tab.cell, Nat.mul_comm, H.out.get _ (by omega), HY.out]
  have y1 : W2.cell? ⟨w.heap.size, i * 2 + 1, none⟩ = some (.int .i64 (z (2 * i + 1))) := by rw [hL2.tab.cell, Nat.mul_comm, H.out.get _ (by omega)]
  have f0 : W2.frozen? ⟨w.heap.size, i * 2, none⟩ = false := hL2.tab.frozen _
  have f1 : W2.frozen? ⟨w.heap.size, i * 2 + 1, none⟩ = false := hL2.tab.frozen _
  have hls : w.heap.size < W2.heap.size := by omega
  clear hL2 hsz1
  have HL4 := Lib.hid (HL2.out.set_ i (key : Int) v)
  rw [← hEE.out] at HL4
  go_wp2_with (first
    | (refine wpList_load_row rfl 131 _ rfl w.heap.size rfl 131 E (0, 0) _ ?_ Tryz.underlying131 rfl ?_ ?_; (exact HL4.out.tab); (exact HIE2.out))
    | (refine wpList_store_row rfl 131 _ _ rfl (w.heap.size + 2) E rfl rfl 131 #[.int .i64 0, .int .i64 0, .int .i64 0, .int .i64 0, .int .i64 0, .int .i64 0, .int .i64 0, .int .i64 0, .int .i64 0, .int .i64 0, .int .i64 0, .int .i64 0, .int .i64 0, .int .i64 0, .int .i64 0, .int .i64 0] ?_ ?_ ?_ h2 ?_; (exact HL4.out.res); (exact HIE2.out); (rw [HJE2.out]; rfl); obtain ⟨⟨c0, c1⟩, f0, f1⟩ := HL4.out.row E; obtain ⟨gA, gB, gC⟩ := HL4.out.fin E 1 0; have GA := Lib.hid gA; have GB := Lib.hid gB; have GC := Lib.hid gC; clear gA gB gC))
  exact bodyPost_ret (results_two_rows Tryz.results62 _ _ (w.heap.size + 2) (w.heap.size + 3) 131 51 E #[.int .i64 1, .int .i64 0] _ _ rfl rfl GA.out GB.out Tryz.underlying131 rfl HIE2.out Tryz.underlying51 rfl infoA) rfl ⟨E, HE.out, rfl, GC.out⟩

set_option maxRecDepth 100000 in
set_option maxHeartbeats 4000000 in
theorem tab_take (C D : Array Value) (z : Nat → Int) (key i : Nat) (v y : Int) (w : World) (h : I64s C 16 z) (hk0 : 1 ≤ key) (hk1 : key ≤ 1000) (hi8 : i < 8) (hat : atT z key = (i : Int)) (hy : z (2 * i) = y) (hth : (y == (key : Int)) = true) (m : Nat) (hbe : Beh z i m) (hD : I64s D 16 (runT z i m)) :
    Calls Tryz.prog 62 #[.agg C, .agg #[.int .i64 2, .int .i64 (key : Int), .int .i64 v]] w (RetT (runT z i m) 1 (z (2 * i + 1)) w) := by
  have H := Lib.hid h
  have hI := h.size
  have HIE : Hid ((Tryz.prog.info? 131).map (·.size) = some C.size) := by show _ = _; rw [hI, infoT]
  have HJE : Hid (C.size = 16) := hI
  have h1 := h.one
  clear h hI
  have HAT := Lib.hid hat
  have HY := Lib.hid hy
  have hi8' : (i : Int) < 8 := by omega
  have hq1 : (1 : Int) ≤ key := by omega
  have hq2 : (key : Int) ≤ 1000 := by omega
  clear hat hy
  have HBE := Lib.hid hbe
  have HD := Lib.hid hD
  have HIE2 : Hid ((Tryz.prog.info? 131).map (·.size) = some D.size) := by show _ = _; rw [hD.size, infoT]
  have HJE2 : Hid (D.size = 16) := hD.size
  have h2 := hD.one
  clear hbe hD
  go_enter Tryz.func62, Tryz.ntmps62
  go_upto_region 1 with (fail)
  have hL := laid_mk w 131 C 2 key v
  generalize (((w.alloc (.cells C 131)).alloc (.cells #[.int .i64 2, .int .i64 (key : Int), .int .i64 v] 61)).alloc (.cells #[.int .i64 0, .int .i64 0, .int .i64 0, .int .i64 0, .int .i64 0, .int .i64 0, .int .i64 0, .int .i64 0, .int .i64 0, .int .i64 0, .int .i64 0, .int .i64 0, .int .i64 0, .int .i64 0, .int .i64 0, .int .i64 0] 131)).alloc (.cells #[.int .i64 0, .int .i64 0] 51) = W at *
  have HLx := Lib.hid hL
  obtain ⟨⟨o0, o1, o2⟩, _, hsz⟩ := hL.ops
  clear hL
  go_wp2_with (go_at_call 81; refine (at_any C z w.heap.size key _ H.out HLx.out.tab hk1).mono ?_; rintro e w1 ⟨rfl, hb1⟩; rw [HAT.out])
  have hL1 := HLx.out.on hb1
  have HL1 := Lib.hid hL1
  obtain ⟨⟨p0, p1, p2⟩, _, hsz1⟩ := hL1.ops
  have y0 : w1.cell? ⟨w.heap.size, i * 2, none⟩ = some (.int .i64 y) := by rw [hL1.tab.cell, Nat.mul_comm, H.out.get _ (by omega), HY.out]
  clear hL1 o0 o1 o2 hsz HLx
  go_quiet (fail)
  have hL2 := HL1.out.drewN nq
  generalize w1.drewN nq = W2 at *
  have HL2 := Lib.hid hL2
  clear p0 p1 p2 y0 hb1
  obtain ⟨⟨p0, p1, p2⟩, _, hsz2⟩ := hL2.ops
  have y0 : W2.cell? ⟨w.heap.size, i * 2, none⟩ = some (.int .i64 y) := by rw [hL2.tab.cell, Nat.mul_comm, H.out.get _ (by omega), HY.out]
  have y1 : W2.cell? ⟨w.heap.size, i * 2 + 1, none⟩ = some (.int .i64 (z (2 * i + 1))) := by rw [hL2.tab.cell, Nat.mul_comm, H.out.get _ (by omega)]
  have f0 : W2.frozen? ⟨w.heap.size, i * 2, none⟩ = false := hL2.tab.frozen _
  have f1 : W2.frozen? ⟨w.heap.size, i * 2 + 1, none⟩ = false := hL2.tab.frozen _
  have hls : w.heap.size < W2.heap.size := by omega
  clear hL2 hsz1
  go_wp2_with (first
    | (refine wpList_load_row rfl 131 _ rfl w.heap.size rfl 131 C (0, 0) _ ?_ Tryz.underlying131 rfl ?_ ?_; (exact HL2.out.tab); (exact HIE.out))
    | (go_at_call 82; refine (closed_any C D z i m _ H.out HBE.out HD.out).mono ?_; rintro e w5 ⟨rfl, hb5⟩; have HL5 := Lib.hid (HL2.out.on hb5); have HL6 := Lib.hid ((HL2.out.on hb5).setTab D))
    | (refine wpList_store_row rfl 131 _ _ rfl w.heap.size D rfl rfl 131 C ?_ ?_ ?_ h2 ?_; (exact HL5.out.tab); (exact HIE2.out); (rw [HJE.out, HJE2.out]))
    | (refine wpList_load_row rfl 131 _ rfl w.heap.size rfl 131 D (0, 0) _ ?_ Tryz.underlying131 rfl ?_ ?_; (exact HL6.out.tab); (exact HIE2.out))
    | (refine wpList_store_row rfl 131 _ _ rfl (w.heap.size + 2) D rfl rfl 131 #[.int .i64 0, .int .i64 0, .int .i64 0, .int .i64 0, .int .i64 0, .int .i64 0, .int .i64 0, .int .i64 0, .int .i64 0, .int .i64 0, .int .i64 0, .int .i64 0, .int .i64 0, .int .i64 0, .int .i64 0, .int .i64 0] ?_ ?_ ?_ h2 ?_; (exact HL6.out.res); (exact HIE2.out); (rw [HJE2.out]; rfl); obtain ⟨⟨c0, c1⟩, f0, f1⟩ := HL6.out.row D; obtain ⟨gA, gB, gC⟩ := HL6.out.fin D 1 (z (2 * i + 1)); have GA := Lib.hid gA; have GB := Lib.hid gB; have GC := Lib.hid gC; clear gA gB gC))
  exact bodyPost_ret (results_two_rows Tryz.results62 _ _ (w.heap.size + 2) (w.heap.size + 3) 131 51 D #[.int .i64 1, .int .i64 (z (2 * i + 1))] _ _ rfl rfl GA.out GB.out Tryz.underlying131 rfl HIE2.out Tryz.underlying51 rfl infoA) rfl ⟨D, HD.out, rfl, GC.out⟩

/-- What comes of any operation with a table: m is how many stand behind what is taken out. -/
def tabY (z : Nat → Int) (a k v : Int) (m : Nat) : Nat → Int :=
  if (a = 1 ∨ a = 2 ∨ a = 5) ∧ 1 ≤ k ∧ k ≤ 1000 then
    (if a = 1 then (if z (2 * (atT z k.toNat).toNat) ≠ k ∧ 6 ≤ lenT z 8 then z else setS z (atT z k.toNat).toNat k v)
     else if z (2 * (atT z k.toNat).toNat) ≠ k then z else if a = 2 then runT z (atT z k.toNat).toNat m else z)
  else z
def tabC (z : Nat → Int) (a k : Int) : Int :=
  if a = 6 then 1 else if (a = 1 ∨ a = 2 ∨ a = 5) ∧ 1 ≤ k ∧ k ≤ 1000 then
    (if a = 1 then (if z (2 * (atT z k.toNat).toNat) ≠ k ∧ 6 ≤ lenT z 8 then 3 else 1)
     else if z (2 * (atT z k.toNat).toNat) ≠ k then 4 else 1)
  else 5
def tabV (z : Nat → Int) (a k : Int) : Int :=
  if a = 6 then lenT z 8 else if (a = 2 ∨ a = 5) ∧ 1 ≤ k ∧ k ≤ 1000 then
    (if z (2 * (atT z k.toNat).toNat) ≠ k then 0 else z (2 * (atT z k.toNat).toNat + 1))
  else 0
/-- m is the number of those behind, where one is taken out. -/
def tabM (z : Nat → Int) (a k : Int) (m : Nat) : Prop := a = 2 → 1 ≤ k → k ≤ 1000 → z (2 * (atT z k.toNat).toNat) = k → Beh z (atT z k.toNat).toNat m
theorem tabM_exists {z : Nat → Int} (h : rightT z = true) (a k : Int) : ∃ m, tabM z a k m := by
  by_cases hc : a = 2 ∧ 1 ≤ k ∧ k ≤ 1000 ∧ z (2 * (atT z k.toNat).toNat) = k
  · obtain ⟨i, hi, hat, _⟩ := at_exists h k.toNat
    have e : (atT z k.toNat).toNat = i := by rw [hat]; rfl
    obtain ⟨_, hk, _, hz⟩ := hc
    rw [e] at hz
    obtain ⟨m, hm⟩ := beh_exists h hi (by omega)
    exact ⟨m, fun _ _ _ _ => by rw [e]; exact hm⟩
  · exact ⟨0, fun h1 h2 h3 h4 => absurd ⟨h1, h2, h3, h4⟩ hc⟩

theorem tab_any (C D : Array Value) (z : Nat → Int) (a k v : Int) (m : Nat) (w : World) (h : I64s C 16 z) (hr : rightT z = true) (hv : -9223372036854775808 ≤ v ∧ v ≤ 9223372036854775807) (hm : tabM z a k m) (hD : I64s D 16 (tabY z a k v m)) :
    Calls Tryz.prog 62 #[.agg C, .agg #[.int .i64 a, .int .i64 k, .int .i64 v]] w fun e w' => e = .returned (.tuple #[.agg D, .agg #[.int .i64 (tabC z a k), .int .i64 (tabV z a k)]]) ∧ Below w.heap.size w w' := by
  suffices hs : Calls Tryz.prog 62 #[.agg C, .agg #[.int .i64 a, .int .i64 k, .int .i64 v]] w (RetT (tabY z a k v m) (tabC z a k) (tabV z a k) w) from hs.mono fun e w' h' => h'.det hD
  by_cases a6 : a = 6
  · subst a6
    exact tab_count C z k v w h
  · by_cases hc : (a = 1 ∨ a = 2 ∨ a = 5) ∧ 1 ≤ k ∧ k ≤ 1000
    · obtain ⟨ha, hk1, hk2⟩ := hc
      obtain ⟨key, rfl⟩ := Int.eq_ofNat_of_zero_le (show (0 : Int) ≤ k by omega)
      have q1 : 1 ≤ key := by omega
      have q2 : key ≤ 1000 := by omega
      obtain ⟨i, hi, hat, hor⟩ := at_exists hr key
      have e : (atT z ((key : Nat) : Int).toNat).toNat = i := by rw [Int.toNat_natCast, hat]; rfl
      have hM : a = 2 → z (2 * i) = key → Beh z i m := fun e1 e2 => by have := hm e1 hk1 hk2 (by rw [e]; exact e2); rwa [e] at this
      by_cases hth : z (2 * i) = key
      · have hb : (z (2 * i) == (key : Int)) = true := by simpa using hth
        rcases ha with rfl | rfl | rfl
        · have e1 : tabY z 1 key v m = setS z i key v := by simp [tabY, hk1, hk2, hat, hth]
          have e2 : tabC z 1 key = 1 := by simp [tabC, hk1, hk2, hat, hth]
          have e3 : tabV z 1 key = 0 := by simp [tabV]
          rw [e1, e2, e3]
          exact tab_old C C z key i v _ w h q1 q2 hi hat rfl hb hv
        · have hB := hM rfl hth
          have e1 : tabY z 2 key v m = runT z i m := by simp [tabY, hk1, hk2, hat, hth]
          have e2 : tabC z 2 key = 1 := by simp [tabC, hk1, hk2, hat, hth]
          have e3 : tabV z 2 key = z (2 * i + 1) := by simp [tabV, hk1, hk2, hat, hth]
          rw [e1] at hD ⊢
          rw [e2, e3]
          exact tab_take C D z key i v _ w h q1 q2 hi hat rfl hb m hB hD
        · have e1 : tabY z 5 key v m = z := by simp [tabY, hat, hth]
          have e2 : tabC z 5 key = 1 := by simp [tabC, hk1, hk2, hat, hth]
          have e3 : tabV z 5 key = z (2 * i + 1) := by simp [tabV, hk1, hk2, hat, hth]
          rw [e1, e2, e3]
          exact tab_peek C C z key i v _ w h q1 q2 hi hat rfl hb
      · have hb : (z (2 * i) == (key : Int)) = false := by simpa using hth
        rcases ha with rfl | rfl | rfl
        · by_cases hl : 6 ≤ lenT z 8
          · have e1 : tabY z 1 key v m = z := by simp [tabY, hat, hth, hl]
            have e2 : tabC z 1 key = 3 := by simp [tabC, hk1, hk2, hat, hth, hl]
            have e3 : tabV z 1 key = 0 := by simp [tabV]
            rw [e1, e2, e3]
            exact tab_full C C z key i v _ w h q1 q2 hi hat rfl hb _ rfl hl
          · have e1 : tabY z 1 key v m = setS z i key v := by simp [tabY, hk1, hk2, hat, hl]
            have e2 : tabC z 1 key = 1 := by simp [tabC, hk1, hk2, hat, hl]
            have e3 : tabV z 1 key = 0 := by simp [tabV]
            rw [e1, e2, e3]
            exact tab_new C C z key i v _ w h q1 q2 hi hat rfl hb _ rfl (by omega) hv
        · have e1 : tabY z 2 key v m = z := by simp [tabY, hat, hth]
          have e2 : tabC z 2 key = 4 := by simp [tabC, hk1, hk2, hat, hth]
          have e3 : tabV z 2 key = 0 := by simp [tabV, hat, hth]
          rw [e1, e2, e3]
          exact tab_absent2 C C z key i v _ w h q1 q2 hi hat rfl hb
        · have e1 : tabY z 5 key v m = z := by simp [tabY, hat, hth]
          have e2 : tabC z 5 key = 4 := by simp [tabC, hk1, hk2, hat, hth]
          have e3 : tabV z 5 key = 0 := by simp [tabV, hat, hth]
          rw [e1, e2, e3]
          exact tab_absent5 C C z key i v _ w h q1 q2 hi hat rfl hb
    · have e1 : tabY z a k v m = z := by simp only [tabY, if_neg hc]
      have e2 : tabC z a k = 5 := by simp only [tabC, if_neg hc, if_neg a6]
      have e3 : tabV z a k = 0 := by simp only [tabV, if_neg a6]; rw [if_neg (by omega)]
      rw [e1, e2, e3]
      exact tab_wrong C z a k v w h a6 (by omega)
end Go.Proofs.YtkoflhjnpilchaaGreatDoor
