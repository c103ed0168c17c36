/-
  Stores of rows into the middle of a block that is known whole. No condition.
-/
import Derived.Test.YtdogjdgfidbfhaaDoorMBase
namespace Go.Proofs.YtdogjdgfidbfhaaDoor
set_option linter.unusedSimpArgs false
set_option linter.unusedVariables false
set_option linter.unusedSectionVars false
open Go.RowKit

/-- A row of cells over which others are laid from place o on. -/
def setsA (cs : Array Value) : Nat → List Value → Array Value
  | _, [] => cs
  | o, v :: r => setsA (cs.setIfInBounds o v) (o + 1) r
theorem setsA_size : ∀ (vs : List Value) (o : Nat) (cs : Array Value), (setsA cs o vs).size = cs.size
  | [], _, _ => rfl
  | v :: r, o, cs => by rw [setsA, setsA_size r]; simp
theorem setsA_get : ∀ (vs : List Value) (o : Nat) (cs : Array Value) (i : Nat), i < cs.size → (setsA cs o vs)[i]? = if o ≤ i ∧ i < o + vs.length then vs[i - o]? else cs[i]?
  | [], o, cs, i, _ => by rw [setsA, if_neg (by simp only [List.length_nil]; omega)]
  | v :: r, o, cs, i, hi => by
    rw [setsA, setsA_get r (o + 1) _ i (by simpa using hi), Array.getElem?_setIfInBounds]
    by_cases h : o = i
    · subst h
      rw [if_neg (by omega), if_pos rfl, if_pos hi, if_pos (by simp), Nat.sub_self]; try rfl
    · rw [if_neg h]
      by_cases h2 : o + 1 ≤ i ∧ i < o + 1 + r.length
      · rw [if_pos h2, if_pos (by simp only [List.length_cons]; omega), show i - o = (i - (o + 1)) + 1 by omega]; try rfl
      · rw [if_neg h2, if_neg (by simp only [List.length_cons]; omega)]
theorem setsA_in {vs : List Value} {o i : Nat} {cs : Array Value} (hi : i < vs.length) (h : o + vs.length ≤ cs.size) : (setsA cs o vs)[o + i]? = vs[i]? := by
  rw [setsA_get vs o cs _ (by omega), if_pos (by omega), Nat.add_sub_cancel_left]
theorem setsA_out {vs : List Value} {o i : Nat} {cs : Array Value} (hi : i < o ∨ o + vs.length ≤ i) : (setsA cs o vs)[i]? = cs[i]? := by
  rcases Nat.lt_or_ge i cs.size with h | h
  · rw [setsA_get vs o cs _ h, if_neg (by omega)]
  · rw [Array.getElem?_eq_none (by rw [setsA_size]; exact h), Array.getElem?_eq_none h]
theorem setsA_one {vs : List Value} {o : Nat} {cs : Array Value} (hc : cs.all (·.oneCell') = true) (hv : ∀ v ∈ vs, v.oneCell' = true) : (setsA cs o vs).all (·.oneCell') = true := by
  rw [Array.all_eq_true] at hc ⊢
  intro i hi
  have hi' : i < cs.size := by rwa [setsA_size] at hi
  have e := setsA_get vs o cs i hi'
  rw [Array.getElem?_eq_getElem hi] at e
  by_cases h : o ≤ i ∧ i < o + vs.length
  · rw [if_pos h, List.getElem?_eq_getElem (by omega)] at e
    rw [Option.some.inj e]
    exact hv _ (List.getElem_mem _)
  · rw [if_neg h, Array.getElem?_eq_getElem hi'] at e
    rw [Option.some.inj e]
    exact hc i hi'
theorem Blk.setCells {g : Nat} {t : TypeId} : ∀ {vs : List Value} {o : Nat} {w : World} {cs : Array Value}, Blk w g t cs → Blk (w.setCells g o vs) g t (setsA cs o vs)
  | [], _, _, _, h => h
  | v :: r, o, w, cs, h => by
    rw [World.setCells, setsA]
    exact Blk.setCells (h.set_ o v)
theorem heap_setCells (g : Nat) : ∀ (vs : List Value) (o : Nat) (w : World) (k : Nat), k ≠ g → (w.setCells g o vs).heap[k]? = w.heap[k]?
  | [], _, _, _, _ => rfl
  | v :: r, o, w, k, h => by
    rw [World.setCells, heap_setCells g r _ _ k h]
    exact Below.heap_setCell w _ v k h
theorem size_setCells_ (g : Nat) : ∀ (vs : List Value) (o : Nat) (w : World), (w.setCells g o vs).heap.size = w.heap.size
  | [], _, _ => rfl
  | v :: r, o, w => by rw [World.setCells, size_setCells_ g r]; simp
theorem rest_setCells (g : Nat) : ∀ (vs : List Value) (o : Nat) (w : World), (w.setCells g o vs).os = w.os ∧ (w.setCells g o vs).tape = w.tape ∧ (w.setCells g o vs).output = w.output
  | [], _, _ => ⟨rfl, rfl, rfl⟩
  | v :: r, o, w => by
    obtain ⟨a, b, c⟩ := rest_setCells g r (o + 1) (w.setCell ⟨g, o, none⟩ v)
    exact ⟨a, b, c⟩
theorem Blk.far_cells {w : World} {g g' : Nat} {t : TypeId} {cs : Array Value} (h : Blk w g' t cs) (hg : g' ≠ g) (o : Nat) (vs : List Value) : Blk (w.setCells g o vs) g' t cs := (heap_setCells g vs o w g' hg).trans h
theorem keeps_setCells {S : Nat → Prop} {w : World} {g : Nat} (h : S g ∨ w.heap.size ≤ g) (o : Nat) (vs : List Value) : Keeps S w (w.setCells g o vs) := by
  obtain ⟨a, b, c⟩ := rest_setCells g vs o w
  refine ⟨a, b, c, by rw [size_setCells_]; exact Nat.le_refl _, fun k hk hn => heap_setCells g vs o w k (fun e => ?_)⟩
  subst e
  rcases h with h | h
  · exact hn h
  · omega
theorem below_setCells_ {B g : Nat} {a w : World} (h : Below B a w) (hg : B ≤ g) (o : Nat) (vs : List Value) : Below B a (w.setCells g o vs) := by
  obtain ⟨x, y, z⟩ := rest_setCells g vs o w
  exact h.trans ⟨x, y, z, by rw [size_setCells_]; exact Nat.le_refl _, fun k hk => heap_setCells g vs o w k (by omega)⟩
theorem relyAt_store_mid {P : Program} {o : Oper} {a : Act} {w : World} {T : Value → World → Prop} (ty : TypeId) (x y : Operand) (ho : o.op = .store ty x y) (b off : Nat) (cells : Array Value) (hx : a.eval x = .pointer (some ⟨b, off, none⟩)) (hy : a.eval y = .agg cells)
    (ht : w.there b off cells.size) (hi : (P.info? ty).map (·.size) = some cells.size) (h1 : cells.all (·.oneCell') = true) (hT : T undef (w.setCells b off cells.toList)) : relyAt P o a w T := by
  unfold relyAt execOp
  simp only [ho, hx, hy, Instr.storeAt, Instr.sureAddr, Sem.run_bind, Sem.run_pure, Result.andThen_ok, run_storeVar_mid w b off ty cells ht hi h1]
  exact hT
theorem Blk.there {w : World} {g : Nat} {t : TypeId} {cs : Array Value} (h : Blk w g t cs) {o n : Nat} (hn : o + n ≤ cs.size) : w.there g o n := fun j hj =>
  ⟨by rw [h.cell, Array.getElem?_eq_getElem (by omega)]; rfl, h.frozen _⟩
/-- The region law, the order of the operations behind a name: what must have come up ahead is asked for one by one ('by rw [HA.out]; kernel_rfl'). -/
theorem wp_region_relyA {P : Program} {id : Nat} {l : List Oper} {Q : Exit → Act → World → Prop} {a : Act} {w : World} (m : Nat) (S : Nat → Prop) (wl : List Nat) (hm : P.follows .mixedOrders = true) (hB : Rely.okB l.toArray m = true)
    (h : ∀ anc : Nat → Nat → Bool, Hid (anc = ancB (masks l.toArray l.toArray.size)) → wpRely P l.toArray w S wl anc (fun a w => wpList P l.toArray Q (l.drop m) a w) (l.take m) 0 [] [] a (fun _ => undef)) : (Code.region id l.toArray true).wp P Q a w :=
  wp_region_rely m S wl hm hB (h _ (Lib.hid rfl))
theorem results_row_tmp {P : Program} {fn : Func} {p q : Tmp} {ty : TypeId} (h : fn.results = #[.cell p ty, .tmp q]) (tmps : Array Value) (w : World) (g : Nat) (t : TypeId) (cs : Array Value) (d : TypeDesc) (v : Value)
    (hp : tmps.getD p undef = .pointer (some ⟨g, 0, none⟩)) (hq : tmps.getD q undef = v) (hg : Blk w g t cs)
    (hu : P.underlying ty = some d) (hd : (match d with | .struct _ | .array _ _ => true | _ => false) = true) (hi : (P.info? ty).map (·.size) = some cs.size) :
    (results fn tmps).run P w = .ok (.tuple #[.agg cs, v]) w := by
  have hp' : tmps[p]?.getD undef = .pointer (some ⟨g, 0, none⟩) := by simpa using hp
  have hq' : tmps[q]?.getD undef = v := by simpa using hq
  simp [results, h, hp', hq', asAddr, run_loadVar_row w g t ty cs (0, 0) d hg hu hd hi]

theorem relyAt_load_mid {P : Program} {o : Oper} {a : Act} {w : World} {T : Value → World → Prop} (ty : TypeId) (x : Operand) (ho : o.op = .load ty x) (b off : Nat) (hx : a.eval x = .pointer (some ⟨b, off, none⟩))
    (cs : List Value) (d : TypeDesc) (hc : w.rangeAt b off cs) (hu : P.underlying ty = some d) (hd : d.isRow = true) (hi : (P.info? ty).map (·.size) = some cs.length) (hT : T (.agg cs.toArray) w) : relyAt P o a w T := by
  unfold relyAt execOp
  simp only [ho, hx, Instr.loadAt, Instr.sureAddr, Sem.run_bind, Sem.run_pure, Result.andThen_ok, run_loadVar_mid w b off ty cs d hc hu hd hi, relyUpon]
  exact hT

theorem relyAt_load_midA {P : Program} {o : Oper} {a : Act} {w : World} {T : Value → World → Prop} (ty : TypeId) (x : Operand) (ho : o.op = .load ty x) (b off : Nat) (hx : a.eval x = .pointer (some ⟨b, off, none⟩))
    (C : Array Value) (d : TypeDesc) (hc : w.rangeAt b off C.toList) (hu : P.underlying ty = some d) (hd : d.isRow = true) (hi : (P.info? ty).map (·.size) = some C.size) (hT : T (.agg C) w) : relyAt P o a w T :=
  relyAt_load_mid ty x ho b off hx C.toList d hc hu hd (by rw [hi, Array.length_toList]) (by rw [Array.toArray_toList]; exact hT)
section
variable {P : Program} {ops : Array Oper} {rest : List Oper} {a : Act} {w : World} {Q : Exit → Act → World → Prop} {ty' : TypeId} {pos : String} {af : Array Edge}
theorem fStoreMid (ty : TypeId) {x y : Operand} (b o : Nat) (cells : Array Value) (hx : a.eval x = .pointer (some ⟨b, o, none⟩)) (hy : a.eval y = .agg cells)
    (ht : w.there b o cells.size) (hi : (P.info? ty).map (·.size) = some cells.size) (h1 : cells.all (·.oneCell') = true)
    (h : wpList P ops Q rest a (w.setCells b o cells.toList)) : wpList P ops Q ({ dst := none, op := .store ty x y, type := ty', pos := pos, after := af, guard := none } :: rest) a w :=
  wpList_store_mid rfl ty x y rfl b o cells hx hy ht hi h1 h
theorem fLoadMid (ty : TypeId) {x : Operand} {d : Option Tmp} (b o : Nat) (C : Array Value) {dd : TypeDesc} (hx : a.eval x = .pointer (some ⟨b, o, none⟩)) (hc : w.rangeAt b o C.toList) (hu : P.underlying ty = some dd)
    (hd : dd.isRow = true) (hi : (P.info? ty).map (·.size) = some C.size)
    (h : wpList P ops Q rest (a.put d (.agg C)) w) : wpList P ops Q ({ dst := d, op := .load ty x, type := ty', pos := pos, after := af, guard := none } :: rest) a w :=
  wpList_load_mid rfl ty x rfl b o hx C.toList dd hc hu hd (by rw [hi, Array.length_toList]) (by rw [Array.toArray_toList]; exact h)
end
end Go.Proofs.YtdogjdgfidbfhaaDoor
