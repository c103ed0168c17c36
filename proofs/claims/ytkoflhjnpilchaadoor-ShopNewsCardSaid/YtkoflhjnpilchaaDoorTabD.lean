/-
  What table.Do returns. For every table that is one.
-/
import Derived.Test.YtkoflhjnpilchaaDoorMThing
namespace Go.Proofs.YtkoflhjnpilchaaDoor
set_option linter.unusedSimpArgs false
set_option linter.unusedVariables false
set_option linter.unusedSectionVars false
open Go.RowKit
set_option linter.unusedSimpArgs false
set_option linter.unusedVariables false
attribute [local go_sem ↓] Go.wp_at_zero Go.wp_at_succ

/-- A table and an answer. -/
def RetT (z : Nat → Int) (code val : Int) (w : World) (e : Ending) (w' : World) : Prop :=
  ∃ D, I64s D 16 z ∧ e = .returned (.tuple #[.agg D, .agg #[.int .i64 code, .int .i64 val]]) ∧ Below w.heap.size w w'

theorem RetT.det {z : Nat → Int} {code val : Int} {w w' : World} {e : Ending} {D : Array Value} (h : RetT z code val w e w') (hD : I64s D 16 z) : e = .returned (.tuple #[.agg D, .agg #[.int .i64 code, .int .i64 val]]) ∧ Below w.heap.size w w' := by
  obtain ⟨E, hE, he, hb⟩ := h
  rw [hE.ext hD] at he
  exact ⟨he, hb⟩

theorem results_two_rows {P : Program} {fn : Func} {p q : Tmp} {ty tz : TypeId} (h : fn.results = #[.cell p ty, .cell q tz]) (tmps : Array Value) (w : World) (g g' : Nat) (t t' : TypeId) (cs cs' : Array Value) (d d' : TypeDesc)
    (hp : tmps.getD p undef = .pointer (some ⟨g, 0, none⟩)) (hq : tmps.getD q undef = .pointer (some ⟨g', 0, none⟩)) (hg : Blk w g t cs) (hg' : Blk w g' t' cs')
    (hu : P.underlying ty = some d) (hd : (match d with | .struct _ | .array _ _ => true | _ => false) = true) (hi : (P.info? ty).map (·.size) = some cs.size)
    (hu' : P.underlying tz = some d') (hd' : (match d' with | .struct _ | .array _ _ => true | _ => false) = true) (hi' : (P.info? tz).map (·.size) = some cs'.size) :
    (results fn tmps).run P w = .ok (.tuple #[.agg cs, .agg cs']) w := by
  have hp' : tmps[p]?.getD undef = .pointer (some ⟨g, 0, none⟩) := by simpa using hp
  have hq' : tmps[q]?.getD undef = .pointer (some ⟨g', 0, none⟩) := by simpa using hq
  simp [results, h, hp', hq', asAddr, run_loadVar_row w g t ty cs (0, 0) d hg hu hd hi, run_loadVar_row w g' t' tz cs' (0, 0) d' hg' hu' hd' hi']

theorem calm_out {c : Bool} {p : Prop} (h : c = false ∧ p) (hc : c = true) : False := by rw [hc] at h; cases h.1
theorem keeps_setRow {S : Nat → Prop} {w : World} {g : Nat} (h : S g ∨ w.heap.size ≤ g) (cs : Array Value) : Keeps S w (w.setRow g cs) :=
  ⟨rfl, rfl, rfl, by simp [World.setRow], fun k hk hs => setRow_other w g k cs (by
    rintro rfl
    rcases h with h | h
    · exact hs h
    · omega)⟩
/-- A store of a whole row. -/
theorem relyAt_store_row {P : Program} {o : Oper} {a : Act} {w : World} {T : Value → World → Prop} (ty : TypeId) (x y : Operand) (ho : o.op = .store ty x y) (g : Nat) (cells : Array Value) (hx : a.eval x = .pointer (some ⟨g, 0, none⟩)) (hy : a.eval y = .agg cells)
    (t : TypeId) (old : Array Value) (hg : Blk w g t old) (hi : (P.info? ty).map (·.size) = some cells.size) (hold : old.size = cells.size) (h1 : cells.all (·.oneCell') = true)
    (hT : T undef (w.setRow g cells)) : relyAt P o a w T := by
  unfold relyAt execOp
  simp only [ho, hx, hy, Instr.storeAt, Instr.sureAddr, Sem.run_bind, Sem.run_pure, Result.andThen_ok, run_storeVar_row w g t ty old cells hg hi hold h1]
  exact hT

/-- A load of a whole row behind a guard. -/
theorem wpList_load_row_g {P : Program} {ops : Array Oper} {rest : List Oper} {o : Oper} {a : Act} {w : World} {Q : Exit → Act → World → Prop} (hw : Region.wanted o (yielded ops a.tmps) = true) (ty : TypeId) (x : Operand) (ho : o.op = .load ty x)
    (g : Nat) (hx : a.eval x = .pointer (some ⟨g, 0, none⟩)) (t : TypeId) (cs : Array Value) (fr : Nat × Nat) (d : TypeDesc) (hg : w.heap[g]? = some (.cells cs t fr))
    (hu : P.underlying ty = some d) (hd : (match d with | .struct _ | .array _ _ => true | _ => false) = true) (hi : (P.info? ty).map (·.size) = some cs.size)
    (h : wpList P ops Q rest (a.put o.dst (.agg cs)) w) : wpList P ops Q (o :: rest) a w :=
  wpList_step fun K hK => by rw [if_pos hw]; exact wp_load_row ty x ho g hx t cs fr d hg hu hd hi (hK _ _ h)

theorem infoA : (Tryd.prog.info? 45).map (·.size) = some 2 := by kernel_rfl

/-- What lies in memory behind the first operations of such a function. -/
structure Laid (w W : World) (ts : TypeId) (C : Array Value) (a k v : Int) : Prop where
  tab : Blk W w.heap.size ts C
  op : Blk W (w.heap.size + 1) 74 #[.int .i64 a, .int .i64 k, .int .i64 v]
  res : Blk W (w.heap.size + 2) ts #[.int .i64 0, .int .i64 0, .int .i64 0, .int .i64 0, .int .i64 0, .int .i64 0, .int .i64 0, .int .i64 0, .int .i64 0, .int .i64 0, .int .i64 0, .int .i64 0, .int .i64 0, .int .i64 0, .int .i64 0, .int .i64 0]
  ans : Blk W (w.heap.size + 3) 45 #[.int .i64 0, .int .i64 0]
  below : Below w.heap.size w W
theorem laid_mk (w : World) (ts : TypeId) (C : Array Value) (a k v : Int) :
    Laid w ((((w.alloc (.cells C ts)).alloc (.cells #[.int .i64 a, .int .i64 k, .int .i64 v] 74)).alloc (.cells #[.int .i64 0, .int .i64 0, .int .i64 0, .int .i64 0, .int .i64 0, .int .i64 0, .int .i64 0, .int .i64 0, .int .i64 0, .int .i64 0, .int .i64 0, .int .i64 0, .int .i64 0, .int .i64 0, .int .i64 0, .int .i64 0] ts)).alloc (.cells #[.int .i64 0, .int .i64 0] 45)) ts C a k v :=
  ⟨(((Blk.new _ _ _).alloc _).alloc _).alloc _, ((Blk.newAt _ _ _ (by simp)).alloc _).alloc _, (Blk.newAt _ _ _ (by simp)).alloc _, Blk.newAt _ _ _ (by simp), by go_grown⟩
theorem Laid.on {w W W' : World} {ts : TypeId} {C : Array Value} {a k v : Int} (h : Laid w W ts C a k v) (hb : Below W.heap.size W W') : Laid w W' ts C a k v :=
  ⟨h.tab.below hb h.tab.lt, h.op.below hb h.op.lt, h.res.below hb h.res.lt, h.ans.below hb h.ans.lt, h.below.trans (hb.mono h.below.size)⟩
theorem Laid.ops {w W : World} {ts : TypeId} {C : Array Value} {a k v : Int} (h : Laid w W ts C a k v) :
    (W.cell? ⟨w.heap.size + 1, 0, none⟩ = some (.int .i64 a) ∧ W.cell? ⟨w.heap.size + 1, 1, none⟩ = some (.int .i64 k) ∧ W.cell? ⟨w.heap.size + 1, 2, none⟩ = some (.int .i64 v)) ∧
    (W.cell? ⟨w.heap.size + 3, 0, none⟩ = some (.int .i64 0) ∧ W.cell? ⟨w.heap.size + 3, 1, none⟩ = some (.int .i64 0) ∧ W.frozen? ⟨w.heap.size + 3, 0, none⟩ = false ∧ W.frozen? ⟨w.heap.size + 3, 1, none⟩ = false) ∧ w.heap.size + 3 < W.heap.size :=
  ⟨⟨h.op.cell 0, h.op.cell 1, h.op.cell 2⟩, ⟨h.ans.cell 0, h.ans.cell 1, h.ans.frozen 0, h.ans.frozen 1⟩, h.ans.lt⟩

theorem Laid.row {w W : World} {ts : TypeId} {C : Array Value} {a k v : Int} (h : Laid w W ts C a k v) (D : Array Value) :
    (((W.setRow (w.heap.size + 2) D).cell? ⟨w.heap.size + 3, 0, none⟩ = some (.int .i64 0) ∧ (W.setRow (w.heap.size + 2) D).cell? ⟨w.heap.size + 3, 1, none⟩ = some (.int .i64 0)) ∧
    ((W.setRow (w.heap.size + 2) D).frozen? ⟨w.heap.size + 3, 0, none⟩ = false ∧ (W.setRow (w.heap.size + 2) D).frozen? ⟨w.heap.size + 3, 1, none⟩ = false)) := by
  have hb : Blk (W.setRow (w.heap.size + 2) D) (w.heap.size + 3) 45 #[.int .i64 0, .int .i64 0] := (setRow_other W _ _ D (by omega)).trans h.ans
  exact ⟨⟨hb.cell 0, hb.cell 1⟩, ⟨hb.frozen 0, hb.frozen 1⟩⟩
theorem Laid.fin {w W : World} {ts : TypeId} {C : Array Value} {a k v : Int} (h : Laid w W ts C a k v) (D : Array Value) (c l : Int) :
    Blk (((W.setRow (w.heap.size + 2) D).setCell ⟨w.heap.size + 3, 0, none⟩ (.int .i64 c)).setCell ⟨w.heap.size + 3, 1, none⟩ (.int .i64 l)) (w.heap.size + 2) ts D ∧
    Blk (((W.setRow (w.heap.size + 2) D).setCell ⟨w.heap.size + 3, 0, none⟩ (.int .i64 c)).setCell ⟨w.heap.size + 3, 1, none⟩ (.int .i64 l)) (w.heap.size + 3) 45 #[.int .i64 c, .int .i64 l] ∧
    Below w.heap.size w (((W.setRow (w.heap.size + 2) D).setCell ⟨w.heap.size + 3, 0, none⟩ (.int .i64 c)).setCell ⟨w.heap.size + 3, 1, none⟩ (.int .i64 l)) := by
  have hb : Blk (W.setRow (w.heap.size + 2) D) (w.heap.size + 3) 45 #[.int .i64 0, .int .i64 0] := (setRow_other W _ _ D (by omega)).trans h.ans
  exact ⟨((h.res.setRow D).far (by simp) _).far (by simp) _, (hb.set_ _ _).set_ _ _, ((below_setRow h.below (by omega) D).setCell (by show w.heap.size ≤ w.heap.size + 3; omega) _).setCell (by show w.heap.size ≤ w.heap.size + 3; omega) _⟩

theorem Laid.set_ {w W : World} {ts : TypeId} {C : Array Value} {a k v : Int} (h : Laid w W ts C a k v) (i : Nat) (x y : Int) :
    Laid w ((W.setCell ⟨w.heap.size, i * 2, none⟩ (.int .i64 x)).setCell ⟨w.heap.size, i * 2 + 1, none⟩ (.int .i64 y)) ts ((C.setIfInBounds (i * 2) (.int .i64 x)).setIfInBounds (i * 2 + 1) (.int .i64 y)) a k v :=
  ⟨(h.tab.set_ _ _).set_ _ _, (h.op.far (by simp) _).far (by simp) _, (h.res.far (by simp) _).far (by simp) _, (h.ans.far (by simp) _).far (by simp) _, (h.below.setCell (by simp) _).setCell (by simp) _⟩
theorem Laid.setTab {w W : World} {ts : TypeId} {C : Array Value} {a k v : Int} (h : Laid w W ts C a k v) (D : Array Value) : Laid w (W.setRow w.heap.size D) ts D a k v :=
  ⟨h.tab.setRow D, (setRow_other W _ _ D (by omega)).trans h.op, (setRow_other W _ _ D (by omega)).trans h.res, (setRow_other W _ _ D (by omega)).trans h.ans, below_setRow h.below (Nat.le_refl _) D⟩
theorem Laid.drewN {w W : World} {ts : TypeId} {C : Array Value} {a k v : Int} (h : Laid w W ts C a k v) (n : Nat) : Laid w (W.drewN n) ts C a k v := ⟨h.tab.drewN n, h.op.drewN n, h.res.drewN n, h.ans.drewN n, below_drewN h.below n⟩
theorem setI_s {C : Array Value} {z : Nat → Int} (h : I64s C 16 z) (i : Nat) {k v : Int} (hk : -9223372036854775808 ≤ k ∧ k ≤ 9223372036854775807) (hv : -9223372036854775808 ≤ v ∧ v ≤ 9223372036854775807) :
    I64s ((C.setIfInBounds (i * 2) (.int .i64 k)).setIfInBounds (i * 2 + 1) (.int .i64 v)) 16 (setS z i k v) := ((h.set_ hk).set_ hv).congr (fun j _ => by
  unfold setS
  by_cases e1 : j = i * 2 + 1
  · subst e1; rw [if_neg (by omega), if_pos (by omega), if_pos rfl]
  · by_cases e2 : j = i * 2
    · subst e2; rw [if_pos (by omega), if_neg e1, if_pos rfl]
    · rw [if_neg (by omega), if_neg (by omega), if_neg e1, if_neg e2])
/-- A table that is one has a place for any key. -/
theorem at_exists {z : Nat → Int} (h : rightT z = true) (key : Nat) : ∃ i : Nat, i < 8 ∧ atT z key = (i : Int) ∧ (z (2 * i) = key ∨ z (2 * i) = 0) := by
  have hx : ∃ x, x < 8 ∧ z (2 * x) = 0 := by
    by_cases hall : ∀ x, x < 8 → z (2 * x) ≠ 0
    · have := rightT_len h
      rw [lenT_full hall] at this
      omega
    · simp only [Classical.not_forall, ne_eq, Classical.not_not] at hall
      obtain ⟨x, h1, h2⟩ := hall
      exact ⟨x, h1, h2⟩
  obtain ⟨x, hx8, hx0⟩ := hx
  obtain ⟨d, hd, hr⟩ := rowP_surj key x hx8
  obtain ⟨a, _, hat, hh⟩ := at_first (z := z) (key := key) hd (by rw [hr]; exact hx0)
  refine ⟨rowP key a, rowP_lt _ _, hat, ?_⟩
  unfold hitB at hh
  simpa using hh

/-- What comes of any operation with a table: m is how many stand behind what is taken out. -/
def tabY (z : Nat → Int) (a k v : Int) (m : Nat) : Nat → Int :=
  if (a = 1 ∨ a = 2 ∨ a = 5) ∧ 1 ≤ k ∧ k ≤ 1000 then
    (if a = 1 then (if z (2 * (atT z k.toNat).toNat) ≠ k ∧ 6 ≤ lenT z 8 then z else setS z (atT z k.toNat).toNat k v)
     else if z (2 * (atT z k.toNat).toNat) ≠ k then z else if a = 2 then runT z (atT z k.toNat).toNat m else z)
  else z
def tabC (z : Nat → Int) (a k : Int) : Int :=
  if a = 6 then 1 else if (a = 1 ∨ a = 2 ∨ a = 5) ∧ 1 ≤ k ∧ k ≤ 1000 then
    (if a = 1 then (if z (2 * (atT z k.toNat).toNat) ≠ k ∧ 6 ≤ lenT z 8 then 3 else 1)
     else if z (2 * (atT z k.toNat).toNat) ≠ k then 4 else 1)
  else 5
def tabV (z : Nat → Int) (a k : Int) : Int :=
  if a = 6 then lenT z 8 else if (a = 2 ∨ a = 5) ∧ 1 ≤ k ∧ k ≤ 1000 then
    (if z (2 * (atT z k.toNat).toNat) ≠ k then 0 else z (2 * (atT z k.toNat).toNat + 1))
  else 0
/-- m is the number of those behind, where one is taken out. -/
def tabM (z : Nat → Int) (a k : Int) (m : Nat) : Prop := a = 2 → 1 ≤ k → k ≤ 1000 → z (2 * (atT z k.toNat).toNat) = k → Beh z (atT z k.toNat).toNat m
theorem tabM_exists {z : Nat → Int} (h : rightT z = true) (a k : Int) : ∃ m, tabM z a k m := by
  by_cases hc : a = 2 ∧ 1 ≤ k ∧ k ≤ 1000 ∧ z (2 * (atT z k.toNat).toNat) = k
  · obtain ⟨i, hi, hat, _⟩ := at_exists h k.toNat
    have e : (atT z k.toNat).toNat = i := by rw [hat]; rfl
    obtain ⟨_, hk, _, hz⟩ := hc
    rw [e] at hz
    obtain ⟨m, hm⟩ := beh_exists h hi (by omega)
    exact ⟨m, fun _ _ _ _ => by rw [e]; exact hm⟩
  · exact ⟨0, fun h1 h2 h3 h4 => absurd ⟨h1, h2, h3, h4⟩ hc⟩

end Go.Proofs.YtkoflhjnpilchaaDoor
