/-
  Small helpers for the walks of this family: cells behind a call that makes memory, results that are bools or numbers. No condition.
  A law's last step, for any program: where a law's walk returns true and leaves all old memory as it was ('Below'), the law's statement holds at that input: the arguments read as they did. Condition: the parameter types are readable (a closed fact).
  What the tests of operations return: op.Right, gristmillref.OpRight, gristmillref.within. For every input.
  Plain facts on the bits of numbers: a number is read off its list of bits, bits are turned, cut out and laid in. No program in sight. No condition.
  A region that draws its order, for any program: one walk in the order of the text serves every order. Of each operation it is told what it yields by a predicate, and which blocks it may turn; what stands behind the first m operations is walked as it stands. Conditions: closed facts on the region (Rely.okB).
  An error as a value: none, or a bare Errno.
  Arguments opened: a value built of integers alone (structs and arrays of integers, however deep) is its cells, each an integer of its kind; a slice of ints reads as a list. For any program; the shape is a closed fact.
  A slice of structs (or arrays) of integers, opened: its cells, each an integer of its kind.
  gristmillref.said returns its two numbers as an answer. For every input.
  The laws of loads, stores and map writes once more, with the operation written out in the conclusion: to be used under 'with_reducible refine', so that nothing looks into the program. No condition.
  '==' on arrays: element by element, whatever the program; arrays of integers, and arrays of structs of two integers. Closed facts on the types are the conditions.
-/
import Derived.WalkKit
import Derived.Handy
import Derived.Lib.Hide
import Derived.Lib.SmallJoins
import Derived.WalkLawsBesides
import Derived.WalkSpells
import Derived.BigGuardPart
import Derived.BigQuiet
import Derived.Deep.QuietTactic
import Derived.Deep.RegionWith
import Derived.Deep.RegionHeld3
import Derived.Deep.RegionLaw
import Derived.Deep.DrawnRows
import Derived.Deep.LoopGhost
import Derived.Deep.DeepCutAuto
import Derived.Deep.DeepFit
import Derived.Deep.AppendLies
import Derived.Deep.OwnRows
import Derived.Laws.AppendOwnNone
import Derived.Laws.CopyOwn
import Derived.Maps.AppendAt
import Derived.Laws.EntriesVeiled
import Derived.Deep.MidRow
import Derived.ProofKit
import Derived.OpenShut
import Derived.SizedLaws
import Derived.Deep.Slices
import Derived.Deep.Draws
import Derived.Handed
import Derived.LaidLaws
import Derived.Test.YtdogjdgfidbfhaaDoorProg
import Derived.Orders
import Derived.Tactics
import Derived.Below
import Derived.Attr
import Derived.Maps.OwnSet
namespace Go.Proofs.YtdogjdgfidbfhaaDoor
set_option linter.unusedSimpArgs false
set_option linter.unusedVariables false
set_option linter.unusedSectionVars false
open Go.RowKit

theorem bcell {W w1 : World} {B : Nat} (hb : Below B W w1) : (∀ b o, b < B → w1.cell? ⟨b, o, none⟩ = W.cell? ⟨b, o, none⟩) ∧ (∀ b o, b < B → w1.frozen? ⟨b, o, none⟩ = W.frozen? ⟨b, o, none⟩) :=
  ⟨fun b o h => hb.cell (p := ⟨b, o, none⟩) h, fun b o h => hb.frozen (p := ⟨b, o, none⟩) h⟩
theorem below_drewN {B : Nat} {a w : World} (h : Below B a w) (n : Nat) : Below B a (w.drewN n) := ⟨h.os, h.tape, h.output, h.size, h.block⟩
theorem ret_bool {a b : Bool} (h : a = true ↔ b = true) : Ending.returned (.bool a) = .returned (.bool b) := by rw [Bool.eq_iff_iff.2 h]
theorem ret_int {k : IntKind} {a b : Int} (h : a = b) : Ending.returned (.int k a) = .returned (.int k b) := by rw [h]
theorem val_int {k : IntKind} {a b : Int} (h : a = b) : Value.int k a = .int k b := by rw [h]

/-- A slice of ints that reads as a list; nil let in. -/
structure SlI (w : World) (A : Option Addr) (n c : Nat) (xs : List Int) : Prop where
  len : xs.length = n
  cap : n ≤ c
  cap63 : c ≤ 9223372036854775807
  bd : ∀ i : Nat, -9223372036854775808 ≤ xs[i]?.getD 0 ∧ xs[i]?.getD 0 ≤ 9223372036854775807
  at_ : 0 < n → ∃ b off, A = some ⟨b, off, none⟩ ∧ b < w.heap.size ∧ ∀ i : Nat, i < n → w.cell? ⟨b, off + i, none⟩ = some (.int .i64 (xs[i]?.getD 0))

theorem SlI.below {w w' : World} {A : Option Addr} {n c : Nat} {xs : List Int} (h : SlI w A n c xs) (hb : Below w.heap.size w w') : SlI w' A n c xs :=
  ⟨h.len, h.cap, h.cap63, h.bd, fun hn => by
    obtain ⟨b, off, rfl, hlt, hc⟩ := h.at_ hn
    exact ⟨b, off, rfl, Nat.lt_of_lt_of_le hlt hb.size, fun i hi => (hb.cell (p := ⟨b, off + i, none⟩) hlt).trans (hc i hi)⟩⟩

/-- Block g is just the cells cs of element type t, none frozen. -/
def Blk (w : World) (g : Nat) (t : TypeId) (cs : Array Value) : Prop := w.heap[g]? = some (.cells cs t (0, 0))
section
variable {w w' : World} {g : Nat} {t : TypeId} {cs : Array Value}
theorem Blk.lt (h : Blk w g t cs) : g < w.heap.size := by
  rcases Nat.lt_or_ge g w.heap.size with hlt | hge
  · exact hlt
  · unfold Blk at h; rw [Array.getElem?_eq_none hge] at h; cases h
theorem Blk.cell (h : Blk w g t cs) (i : Nat) : w.cell? ⟨g, i, none⟩ = cs[i]? := cell_of_row w g i cs t (0, 0) h
theorem Blk.frozen (h : Blk w g t cs) (i : Nat) : w.frozen? ⟨g, i, none⟩ = false := by
  unfold Blk at h
  simp [World.frozen?, h]
theorem Blk.new (w : World) (t : TypeId) (cs : Array Value) : Blk (w.alloc (.cells cs t)) w.heap.size t cs := heap_alloc_new w _
theorem Blk.newAt (w : World) (t : TypeId) (cs : Array Value) {n : Nat} (hn : n = w.heap.size) : Blk (w.alloc (.cells cs t)) n t cs := by subst hn; exact Blk.new w t cs
theorem Blk.drew (h : Blk w g t cs) : Blk w.drew g t cs := h
theorem Blk.drewN (h : Blk w g t cs) (n : Nat) : Blk (w.drewN n) g t cs := h
theorem Blk.alloc (h : Blk w g t cs) (o : Obj) : Blk (w.alloc o) g t cs := (Below.heap_alloc w o g h.lt).trans h
theorem Blk.set_ (h : Blk w g t cs) (i : Nat) (u : Value) : Blk (w.setCell ⟨g, i, none⟩ u) g t (cs.setIfInBounds i u) := by
  unfold Blk at h ⊢
  simp [World.setCell, Array.getElem?_modify, h]
theorem Blk.far (h : Blk w g t cs) {p : Addr} (hp : g ≠ p.block) (u : Value) : Blk (w.setCell p u) g t cs := (Below.heap_setCell w p u g hp).trans h
theorem Blk.below {B : Nat} (h : Blk w g t cs) (hb : Below B w w') (hg : g < B) : Blk w' g t cs := (hb.block g hg).trans h
end

theorem below_setRow {B : Nat} {a w : World} {g : Nat} (h : Below B a w) (hg : B ≤ g) (cs : Array Value) : Below B a (w.setRow g cs) :=
  h.trans ⟨rfl, rfl, rfl, by simp [World.setRow], fun k hk => setRow_other w g k cs (by omega)⟩
theorem Blk.setRow {w : World} {g : Nat} {t : TypeId} {cs : Array Value} (h : Blk w g t cs) (cs' : Array Value) : Blk (w.setRow g cs') g t cs' := setRow_heap w g cs cs' t (0, 0) h

theorem Blk.rt {w : World} {g n : Nat} {t : TypeId} {cs : Array Value} (h : Blk w g t cs) (hn : cs.size = n) : w.rangeAt g 0 cs.toList ∧ w.there g 0 n :=
  ⟨fun j v hv => by rw [Nat.zero_add, h.cell]; simpa using hv, fun j hj => ⟨by rw [Nat.zero_add, h.cell, Array.getElem?_eq_getElem (by omega)]; rfl, by rw [Nat.zero_add]; exact h.frozen j⟩⟩

/-- n words, z. -/
structure U64s (C : Array Value) (n : Nat) (z : Nat → Int) : Prop where
  size : C.size = n
  get : ∀ i, i < n → C[i]? = some (.int .u64 (z i))
  bd : ∀ i, i < n → 0 ≤ z i ∧ z i < 18446744073709551616
theorem U64s.one {C : Array Value} {n : Nat} {z : Nat → Int} (h : U64s C n z) : C.all (·.oneCell') = true := by
  rw [Array.all_eq_true]
  intro i hi
  have e := h.get i (by rw [← h.size]; exact hi)
  rw [Array.getElem?_eq_getElem hi] at e
  rw [Option.some.inj e]
  rfl
theorem U64s.cut {C : Array Value} {n : Nat} {z : Nat → Int} (h : U64s C n z) (o m : Nat) (hm : o + m ≤ n) : U64s (C.extract o (o + m)) m (fun i => z (o + i)) :=
  ⟨by simp [h.size]; omega, fun i hi => by
    have e2 := h.get (o + i) (by omega)
    have hs := h.size
    rw [Array.getElem?_extract]
    rw [if_pos (by omega)]
    exact e2, fun i hi => h.bd (o + i) (by omega)⟩
theorem U64s.congr {C : Array Value} {n : Nat} {z z' : Nat → Int} (h : U64s C n z) (e : ∀ i, i < n → z' i = z i) : U64s C n z' :=
  ⟨h.size, fun i hi => by rw [e i hi]; exact h.get i hi, fun i hi => by rw [e i hi]; exact h.bd i hi⟩
theorem U64s.set_ {C : Array Value} {n k : Nat} {z : Nat → Int} (h : U64s C n z) {v : Int} (hv : 0 ≤ v ∧ v < 18446744073709551616) : U64s (C.setIfInBounds k (.int .u64 v)) n (fun i => if i = k then v else z i) :=
  ⟨by simp [h.size], fun i hi => by
    rw [Array.getElem?_setIfInBounds]
    by_cases hk : k = i
    · subst hk
      rw [if_pos rfl, if_pos (by rw [h.size]; exact hi), if_pos rfl]
    · rw [if_neg hk, if_neg (fun e => hk e.symm)]
      exact h.get i hi, fun i hi => by
    by_cases hk : i = k
    · rw [if_pos hk]; exact hv
    · rw [if_neg hk]; exact h.bd i hi⟩
theorem U64s.zero (n : Nat) : U64s (Array.replicate n (.int .u64 0)) n (fun _ => 0) :=
  ⟨by simp, fun i hi => by simp [hi], fun _ _ => by decide⟩

/-- A slice of words that reads as z. -/
structure SlU (w : World) (A : Option Addr) (n c : Nat) (z : Nat → Int) : Prop where
  cap : n ≤ c
  cap63 : c ≤ 9223372036854775807
  bd : ∀ i, i < n → 0 ≤ z i ∧ z i < 18446744073709551616
  at_ : 0 < n → ∃ b off, A = some ⟨b, off, none⟩ ∧ b < w.heap.size ∧ ∀ i : Nat, i < n → w.cell? ⟨b, off + i, none⟩ = some (.int .u64 (z i))
theorem SlU.below {w w' : World} {A : Option Addr} {n c : Nat} {z : Nat → Int} (h : SlU w A n c z) (hb : Below w.heap.size w w') : SlU w' A n c z :=
  ⟨h.cap, h.cap63, h.bd, fun hn => by
    obtain ⟨b, off, rfl, hlt, hc⟩ := h.at_ hn
    exact ⟨b, off, rfl, Nat.lt_of_lt_of_le hlt hb.size, fun i hi => (hb.cell (p := ⟨b, off + i, none⟩) hlt).trans (hc i hi)⟩⟩
theorem SlU.of_blk {w : World} {g t o n c m : Nat} {C : Array Value} {z : Nat → Int} (h : Blk w g t C) (hz : U64s C m z) (hm : o + n ≤ m) (hc : n ≤ c) (h63 : c ≤ 9223372036854775807) :
    SlU w (some ⟨g, o, none⟩) n c (fun i => z (o + i)) :=
  ⟨hc, h63, fun i hi => hz.bd (o + i) (by omega), fun _ => ⟨g, o, rfl, h.lt, fun i hi => by rw [h.cell]; exact hz.get (o + i) (by omega)⟩⟩

theorem U64s.ext {C D : Array Value} {n : Nat} {z : Nat → Int} (h : U64s C n z) (k : U64s D n z) : C = D := by
  apply Array.ext_getElem?
  intro i
  by_cases hi : i < n
  · rw [h.get i hi, k.get i hi]
  · rw [Array.getElem?_eq_none (by rw [h.size]; omega), Array.getElem?_eq_none (by rw [k.size]; omega)]

/-- A block of ints is a slice of ints. -/
theorem SlI.of_blk {w : World} {g t n c : Nat} {cs : Array Value} {xs : List Int} (h : Blk w g t cs) (hn : xs.length = n) (hc : n ≤ c) (h63 : c ≤ 9223372036854775807)
    (hcs : ∀ i : Nat, i < n → cs[i]? = some (.int .i64 (xs[i]?.getD 0))) (bd : ∀ i : Nat, -9223372036854775808 ≤ xs[i]?.getD 0 ∧ xs[i]?.getD 0 ≤ 9223372036854775807) :
    SlI w (some ⟨g, 0, none⟩) n c xs :=
  ⟨hn, hc, h63, bd, fun _ => ⟨g, 0, rfl, h.lt, fun i hi => by rw [Nat.zero_add, h.cell i]; exact hcs i hi⟩⟩

/-- A region that draws its order, whose operations yield one value in every world that keeps what was there ('Below'): one walk, in the order of the text. -/
theorem wp_region_below {P : Program} {id : Nat} {Q : Exit → Act → World → Prop} {a : Act} {w : World} {l : List Oper} (hm : P.follows .mixedOrders = true) (hB : Region.lexB .any l.toArray = true)
    (h : wpQuiet P l.toArray (fun w' => Below w.heap.size w w') (fun a' => ∀ w', Below w.heap.size w w' → Q .normal a' w') l a) : (Code.region id l.toArray true).wp P Q a w :=
  wp_region_quiet (C := fun w' => Below w.heap.size w w') hm hB (Below.drew (Below.refl _ _)) (by simpa using h)
theorem ite_yes {c a b : Prop} [Decidable c] (h : c) (ha : a) : if c then a else b := by rw [if_pos h]; exact ha
theorem ite_no {c a b : Prop} [Decidable c] (h : ¬ c) (hb : b) : if c then a else b := by rw [if_neg h]; exact hb
/-- A load of a whole row. -/
theorem quietAt_load_row {P : Program} {o : Oper} {a : Act} {C : World → Prop} {w : World} (ty : TypeId) (x : Operand) (ho : o.op = .load ty x) (g : Nat) (hx : a.eval x = .pointer (some ⟨g, 0, none⟩))
    (t : TypeId) (cs : Array Value) (d : TypeDesc) (hg : Blk w g t cs) (hu : P.underlying ty = some d) (hd : (match d with | .struct _ | .array _ _ => true | _ => false) = true) (hi : (P.info? ty).map (·.size) = some cs.size) :
    o.quietAt P a C w (.agg cs) := by
  unfold Oper.quietAt execOp
  simp only [ho, hx, Instr.loadAt, Instr.sureAddr, Sem.run_bind, Sem.run_pure, Result.andThen_ok, run_loadVar_row w g t ty cs (0, 0) d hg hu hd hi, Oper.quietUpon]
  exact ⟨trivial, trivial⟩

end Go.Proofs.YtdogjdgfidbfhaaDoor

namespace Go.Proofs.YtdogjdgfidbfhaaDoor
open Go.ChangeShapes Go.WideShapes Go.ChangeAt Go.RowKit

theorem trodAll_stays {H : Type} {enc : TypeId × Value → H} {P : Program} (hl : laidOutB P = true) {W W' : World} {sp' : Nat → Bool} :
    ∀ {ts : List TypeId} {vs : List Value} {ds : List (DataW H)} {ps : List MemPlace}, (ts.all fun t => P.readableRec t && decide (t < P.types.size)) = true →
      DataW.TrodAll enc P W 0 (fun _ => true) true ts vs ds ps → (∀ p ∈ ps, W.sameAt W' p) → (∀ p ∈ ps, sp' p.block = true) → DataW.TrodAll enc P W' 0 sp' true ts vs ds ps
  | [], [], [], _, _, h, _, _ => h
  | t :: ts, v :: vs, d :: ds, ps, hr, h, hs, hp => by
    obtain ⟨p, q, h0, h1, rfl⟩ := h
    simp only [List.all_cons, Bool.and_eq_true, decide_eq_true_eq] at hr
    exact ⟨p, q, WideElems.Trod_stays hl hr.1.1 hr.1.2 h0 (fun x hx => hs x (List.mem_append_left _ hx)) (fun x hx => hp x (List.mem_append_left _ hx)),
      trodAll_stays hl hr.2 h1 (fun x hx => hs x (List.mem_append_right _ hx)) (fun x hx => hp x (List.mem_append_right _ hx)), rfl⟩
  | [], [], _ :: _, _, _, h, _, _ => h.elim
  | [], _ :: _, _, _, _, h, _, _ => h.elim
  | _ :: _, [], _, _, _, h, _, _ => h.elim
  | _ :: _, _ :: _, [], _, _, h, _, _ => h.elim

theorem law_post {H : Type} {enc : TypeId × Value → H} {P : Program} {f : Func} {s : ChangeSpec} {W W' : World} {args : Array Value} {ds gs : List (DataW H)} {before : List MemPlace} {tb : TypeId}
    (hl : laidOutB P = true) (hts : (f.params.toList.all fun t => P.readableRec t && decide (t < P.types.size)) = true) (hv : s.vars = [])
    (hres : f.resultTypes = #[tb]) (hbt : P.underlying tb = some .bool)
    (hW : DataW.Whole enc P f.params.toList s.vars false W args.toList ds gs before) (hb : Below W.heap.size W W')
    (hfn : s.fn H ds = { results := [.lit (.bool true)], args := ds }) :
    s.post enc P f false true false false W args (.bool true) W' := by
  have hlt := hW.lt
  obtain ⟨p, q, hA, hV, hps, hfz, hnd⟩ := hW
  have hq : gs = [] ∧ q = [] := by
    rw [hv] at hV
    cases gs with
    | nil => exact ⟨rfl, hV⟩
    | cons g r => exact absurd hV (by intro h; cases h)
  obtain ⟨rfl, rfl⟩ := hq
  simp only [List.append_nil] at hps
  subst hps
  rw [← List.append_nil ds] at hfn
  refine ⟨ds, [], before, [], before, [], ⟨before, [], hA, hV, by simp, hfz, hnd⟩, ?_, ?_, ?_, ?_, fun h => by cases h⟩
  · rw [hfn, hres]
    exact trodAll_mk1 (shut_bool hbt true)
  · rw [hfn, List.append_nil]
    exact trodAll_stays hl hts hA (fun x hx => hb.same (hlt x hx)) (fun x hx => by simpa using hlt x hx)
  · rw [hfn, hv]
    rfl
  · exact World.keptBut_mono (fun x hx => ⟨hx, .inr (.inl hx)⟩) (hb.frame _)

/-- The whole step from a law's walk to its lifted statement. -/
theorem law_lifted {H : Type} {enc : TypeId × Value → H} {C : Checked} {os : Os} {f : FuncId} {fn : Func} {s : ChangeSpec} {tb : TypeId}
    (own : ownKnob C.prog.godebug = none) (started : os.Started) (noInit : C.prog.inits.idxOf? f = none) (hfn : C.prog.funcs[f]? = some fn)
    (witness : ∃ (w : World) (tape : Tape) (i : Input), w.os = os ∧ (w.forCall tape i).Shaped C.prog ∧ i.vars = [] ∧ Input.okWide C.prog (w.forCall tape i) .any w.heap.size f i ∧
      s.pre6 enc C.prog fn [] false (w.forCall tape i).memory i.args ∧ ({} : Assume).holds C.prog (lone (Frame.enter C.prog f i.args .normal) [] (w.forCall tape i)))
    (hl : laidOutB C.prog = true) (hts : (fn.params.toList.all fun t => C.prog.readableRec t && decide (t < C.prog.types.size)) = true) (hv : s.vars = [])
    (hres : fn.resultTypes = #[tb]) (hbt : C.prog.underlying tb = some .bool)
    (walk : ∀ (W : World) (base : Nat) (args : Array Value) (ds : List (DataW H)) (ps : List MemPlace),
      (∀ (j : Nat) t v, fn.params[j]? = some t → args[j]? = some v → Value.okWide C.prog W .any base t v) →
      DataW.TrodAll enc C.prog W 0 (fun _ => true) true fn.params.toList args.toList ds ps →
      (DataW.weightsEach C.prog fn.params.toList ds).all (· ≤ reachBytes) = true →
      s.fn H ds = { results := [.lit (.bool true)], args := ds } ∧ Calls C.prog f args W fun e W' => e = .returned (.bool true) ∧ Below W.heap.size W W') :
    ReturnsInHanded {} C os f .any (s.pre6 enc C.prog fn [] false) (s.post enc C.prog fn false true false false) := by
  refine returnsInHanded_of_change_sized own started noInit hfn witness ?_
  intro W base args ds gs before hval hW _ hsz _
  have hW' := hW
  obtain ⟨p, q, hA, hV, _, _, _⟩ := hW
  have hg : gs = [] := by
    rw [hv] at hV
    cases gs with
    | nil => rfl
    | cons g r => exact absurd hV (by intro h; cases h)
  subst hg
  have hvt : s.plain.varTypes C.prog = [] := by simp [DataSpec.varTypes, ChangeSpec.plain, hv]
  rw [hvt, List.append_nil, List.append_nil] at hsz
  obtain ⟨hspec, hwalk⟩ := walk W base args ds p hval hA hsz
  refine hwalk.mono fun e W' ⟨he, hb⟩ => ?_
  subst he
  exact ⟨_, rfl, law_post hl hts hv hres hbt hW' hb hspec⟩

/-- The same for a row that lists package-level variables ('laid'): X is what is known of memory besides. -/
theorem law_lifted_and {H : Type} {enc : TypeId × Value → H} {C : Checked} {os : Os} {f : FuncId} {fn : Func} {s : ChangeSpec} {tb : TypeId} {X : World → Array Value → Prop}
    (hX : ∀ (w w' : World) (args : Array Value), w.heap = w'.heap → X w args → X w' args)
    (own : ownKnob C.prog.godebug = none) (started : os.Started) (noInit : C.prog.inits.idxOf? f = none) (hfn : C.prog.funcs[f]? = some fn)
    (witness : ∃ (w : World) (tape : Tape) (i : Input), w.os = os ∧ (w.forCall tape i).Shaped C.prog ∧ i.vars = [] ∧ Input.okWide C.prog (w.forCall tape i) .any w.heap.size f i ∧
      ((s.pre enc C.prog fn [] false (w.forCall tape i).memory i.args ∧ X (w.forCall tape i).memory i.args) ∧ sizedMet enc C.prog fn (OpenSpec.ofChange s) false (w.forCall tape i).memory i.args) ∧ ({} : Assume).holds C.prog (lone (Frame.enter C.prog f i.args .normal) [] (w.forCall tape i)))
    (hl : laidOutB C.prog = true) (hts : (fn.params.toList.all fun t => C.prog.readableRec t && decide (t < C.prog.types.size)) = true) (hv : s.vars = [])
    (hres : fn.resultTypes = #[tb]) (hbt : C.prog.underlying tb = some .bool)
    (walk : ∀ (W : World) (base : Nat) (args : Array Value) (ds : List (DataW H)) (ps : List MemPlace),
      (∀ (j : Nat) t v, fn.params[j]? = some t → args[j]? = some v → Value.okWide C.prog W .any base t v) →
      DataW.TrodAll enc C.prog W 0 (fun _ => true) true fn.params.toList args.toList ds ps →
      (DataW.weightsEach C.prog fn.params.toList ds).all (· ≤ reachBytes) = true → X W args →
      s.fn H ds = { results := [.lit (.bool true)], args := ds } ∧ Calls C.prog f args W fun e W' => e = .returned (.bool true) ∧ Below W.heap.size W W') :
    ReturnsInHanded {} C os f .any (fun w args => (s.pre enc C.prog fn [] false w args ∧ X w args) ∧ sizedMet enc C.prog fn (OpenSpec.ofChange s) false w args) (s.post enc C.prog fn false true false false) := by
  refine returnsInHanded_of_change_and hX own started noInit hfn witness ?_
  intro W base args ds gs before hval hW _ hsz hx _
  have hW' := hW
  obtain ⟨p, q, hA, hV, _, _, _⟩ := hW
  have hg : gs = [] := by
    rw [hv] at hV
    cases gs with
    | nil => rfl
    | cons g r => exact absurd hV (by intro h; cases h)
  subst hg
  have hvt : s.plain.varTypes C.prog = [] := by simp [DataSpec.varTypes, ChangeSpec.plain, hv]
  rw [hvt, List.append_nil, List.append_nil] at hsz
  obtain ⟨hspec, hwalk⟩ := walk W base args ds p hval hA hsz hx
  refine hwalk.mono fun e W' ⟨he, hb⟩ => ?_
  subst he
  exact ⟨_, rfl, law_post hl hts hv hres hbt hW' hb hspec⟩

end Go.Proofs.YtdogjdgfidbfhaaDoor

namespace Go.Proofs.YtdogjdgfidbfhaaDoor
open Go.RowKit

def opRightB (a k v : Int) : Bool := decide (1 ≤ a ∧ a ≤ 6 ∧ 0 ≤ k ∧ k ≤ 1000 ∧ 0 ≤ v ∧ v ≤ 4294967295)
def withinB (n lo hi : Int) : Bool := decide (lo ≤ n ∧ n ≤ hi)

theorem within_any (n lo hi : Int) (w : World) : Calls Tryd.prog 13 #[.int .i64 n, .int .i64 lo, .int .i64 hi] w fun e w' => e = .returned (.bool (withinB n lo hi)) ∧ w = w' := by
  go_enter Tryd.func13, Tryd.ntmps13
  go_wp2
  all_goals (go_ret; refine ⟨ret_bool ?_, rfl⟩; simp [withinB]; try omega)

end Go.Proofs.YtdogjdgfidbfhaaDoor

namespace Go.Proofs.YtdogjdgfidbfhaaDoor.Pl

/-- The number of a list of bits, the least one first. -/
def nof : List Nat → Nat
  | [] => 0
  | b :: r => b + 2 * nof r

/-- A word's 64 bits, the least one first. -/
def digs (w : Nat) : List Nat := (List.range 64).map fun i => w / 2 ^ i % 2

theorem digs_length (w : Nat) : (digs w).length = 64 := by simp [digs]

theorem digs_get (w i : Nat) (h : i < 64) : (digs w)[i]? = some (w / 2 ^ i % 2) := by
  simp [digs, h]

theorem digs_bit (w : Nat) : ∀ b ∈ digs w, b < 2 := by
  intro b hb
  simp only [digs, List.mem_map] at hb
  obtain ⟨i, _, rfl⟩ := hb
  exact Nat.mod_lt _ (by decide)

theorem nof_lt (l : List Nat) (h : ∀ b ∈ l, b < 2) : nof l < 2 ^ l.length := by
  induction l with
  | nil => simp [nof]
  | cons b r ih =>
    have h0 := h b (by simp)
    have h1 := ih (fun c hc => h c (by simp [hc]))
    simp only [nof, List.length_cons, Nat.pow_succ]
    omega

theorem nof_testBit (l : List Nat) (h : ∀ b ∈ l, b < 2) (i : Nat) : (nof l).testBit i = decide (l[i]?.getD 0 = 1) := by
  induction l generalizing i with
  | nil => simp [nof]
  | cons b r ih =>
    have h0 := h b (by simp)
    have hr := fun j => ih (fun c hc => h c (by simp [hc])) j
    cases i with
    | zero =>
      simp only [nof, Nat.testBit_zero, List.getElem?_cons_zero, Option.getD_some]
      congr 1
      simp only [eq_iff_iff]
      omega
    | succ i =>
      have e : (b + 2 * nof r) / 2 = nof r := by omega
      simp only [nof, Nat.testBit_succ, e, List.getElem?_cons_succ]
      exact hr i

theorem testBit_div (w i : Nat) : w.testBit i = decide (w / 2 ^ i % 2 = 1) := Nat.testBit_eq_decide_div_mod_eq

theorem digs_getD (w i : Nat) : (digs w)[i]?.getD 0 = if i < 64 then w / 2 ^ i % 2 else 0 := by
  by_cases h : i < 64
  · rw [digs_get w i h, if_pos h]; rfl
  · rw [if_neg h, List.getElem?_eq_none (by rw [digs_length]; omega)]; rfl

theorem testBit_high (w i : Nat) (hw : w < 2 ^ 64) (hi : 64 ≤ i) : w.testBit i = false :=
  Nat.testBit_lt_two_pow (Nat.lt_of_lt_of_le hw (Nat.pow_le_pow_right (by decide) hi))

theorem nof_digs (w : Nat) (hw : w < 2 ^ 64) : nof (digs w) = w := by
  apply Nat.eq_of_testBit_eq
  intro i
  rw [nof_testBit _ (digs_bit w), digs_getD]
  by_cases h : i < 64
  · rw [if_pos h, testBit_div]
  · rw [if_neg h, testBit_high w i hw (by omega)]; rfl

theorem mem_set_bit {l : List Nat} (h : ∀ b ∈ l, b < 2) {i v : Nat} (hv : v < 2) : ∀ b ∈ l.set i v, b < 2 := by
  intro b hb
  rcases List.mem_or_eq_of_mem_set hb with h1 | h1
  · exact h b h1
  · omega

theorem getD_set (l : List Nat) (i j v : Nat) (hi : i < l.length) : (l.set i v)[j]?.getD 0 = if i = j then v else l[j]?.getD 0 := by
  rw [List.getElem?_set]
  by_cases h : i = j
  · subst h; simp [hi]
  · simp [h]

/-- One bit turned. -/
theorem nof_flip (w a : Nat) (hw : w < 2 ^ 64) (ha : a < 64) : nof ((digs w).set a (1 - w / 2 ^ a % 2)) = w ^^^ 2 ^ a := by
  apply Nat.eq_of_testBit_eq
  intro i
  rw [nof_testBit _ (mem_set_bit (digs_bit w) (by omega)), getD_set _ _ _ _ (by rw [digs_length]; exact ha), digs_getD, Nat.testBit_xor, Nat.testBit_two_pow]
  by_cases h : a = i
  · subst h
    have h2 : w / 2 ^ a % 2 < 2 := Nat.mod_lt _ (by decide)
    rw [if_pos rfl, testBit_div]
    rcases (show w / 2 ^ a % 2 = 0 ∨ w / 2 ^ a % 2 = 1 by omega) with e | e <;> simp [e]
  · rw [if_neg h]
    by_cases h64 : i < 64
    · simp [h64, h, testBit_div]
    · simp [h64, h, testBit_high w i hw (by omega)]

theorem getD_drop_take (l : List Nat) (a n i : Nat) : ((l.drop a).take n)[i]?.getD 0 = if i < n then l[a + i]?.getD 0 else 0 := by
  rw [List.getElem?_take]
  by_cases h : i < n
  · simp [h, List.getElem?_drop]
  · simp [h]

/-- Bits cut out. -/
theorem nof_cut (w a n : Nat) (hw : w < 2 ^ 64) : nof (((digs w).drop a).take n) = w / 2 ^ a % 2 ^ n := by
  apply Nat.eq_of_testBit_eq
  intro i
  have hb : ∀ b ∈ ((digs w).drop a).take n, b < 2 := fun b hb => digs_bit w b (List.mem_of_mem_drop (List.mem_of_mem_take hb))
  rw [nof_testBit _ hb, getD_drop_take, digs_getD, Nat.testBit_mod_two_pow, Nat.testBit_div_two_pow]
  by_cases h : i < n
  · by_cases h64 : a + i < 64
    · simp [h, h64, testBit_div, Nat.add_comm]
    · simp [h, h64, testBit_high w (i + a) hw (by omega)]
  · simp [h]

/-- The bits of w, those from a on being the first n of x. -/
def laidIn (w x a n : Nat) : List Nat := (List.range 64).map fun i => if a ≤ i ∧ i < a + n then x / 2 ^ (i - a) % 2 else w / 2 ^ i % 2

end Go.Proofs.YtdogjdgfidbfhaaDoor.Pl

namespace Go.Proofs.YtdogjdgfidbfhaaDoor
open Go Go.RowKit

/-- Outside S, what was there is as it was. -/
structure Keeps (S : Nat → Prop) (w w' : World) : Prop where
  os : w'.os = w.os
  tape : w'.tape = w.tape
  output : w'.output = w.output
  size : w.heap.size ≤ w'.heap.size
  block : ∀ k, k < w.heap.size → ¬ S k → w'.heap[k]? = w.heap[k]?

def nowhere : Nat → Prop := fun _ => False

theorem Keeps.refl (S : Nat → Prop) (w : World) : Keeps S w w := ⟨rfl, rfl, rfl, Nat.le_refl _, fun _ _ _ => rfl⟩
theorem Keeps.trans {S : Nat → Prop} {a b c : World} (h : Keeps S a b) (k : Keeps S b c) : Keeps S a c :=
  ⟨k.os.trans h.os, k.tape.trans h.tape, k.output.trans h.output, Nat.le_trans h.size k.size, fun i hi hs => (k.block i (Nat.lt_of_lt_of_le hi h.size) hs).trans (h.block i hi hs)⟩
theorem Keeps.mono {S S' : Nat → Prop} {w w' : World} (h : Keeps S w w') (hs : ∀ b, S b → S' b) : Keeps S' w w' := ⟨h.os, h.tape, h.output, h.size, fun k hk hn => h.block k hk (fun hh => hn (hs k hh))⟩
theorem Keeps.of_below {w w' : World} {B : Nat} (h : Below B w w') : Keeps (fun b => B ≤ b) w w' := ⟨h.os, h.tape, h.output, h.size, fun k _ hn => h.block k (by omega)⟩
theorem Keeps.of_same {S : Nat → Prop} {w w' : World} (h : Below w.heap.size w w') : Keeps S w w' := ⟨h.os, h.tape, h.output, h.size, fun k hk _ => h.block k hk⟩
theorem Keeps.below {S : Nat → Prop} {w w' : World} {B : Nat} (h : Keeps S w w') (hB : B ≤ w.heap.size) (hS : ∀ b, b < B → ¬ S b) : Below B w w' := ⟨h.os, h.tape, h.output, h.size, fun k hk => h.block k (Nat.lt_of_lt_of_le hk hB) (hS k hk)⟩
theorem Keeps.cell {S : Nat → Prop} {w w' : World} (h : Keeps S w w') {p : Addr} (hp : p.block < w.heap.size) (hS : ¬ S p.block) : w'.cell? p = w.cell? p := World.cell?_of_block (w := w) (h.block p.block hp hS)
theorem Keeps.frozen {S : Nat → Prop} {w w' : World} (h : Keeps S w w') {p : Addr} (hp : p.block < w.heap.size) (hS : ¬ S p.block) : w'.frozen? p = w.frozen? p := World.frozen?_of_block (w := w) (h.block p.block hp hS)
theorem Keeps.drew {S : Nat → Prop} {w w' : World} (h : Keeps S w w') : Keeps S w w'.drew := ⟨h.os, h.tape, h.output, h.size, h.block⟩
theorem Keeps.drewN {S : Nat → Prop} {w w' : World} (h : Keeps S w w') (n : Nat) : Keeps S w (w'.drewN n) := ⟨h.os, h.tape, h.output, h.size, h.block⟩
theorem Keeps.alloc {S : Nat → Prop} {w w' : World} (h : Keeps S w w') (o : Obj) : Keeps S w (w'.alloc o) :=
  h.trans (Keeps.of_same ((Below.refl _ _).alloc (Nat.le_refl _) o))
theorem Keeps.setCell {S : Nat → Prop} {w w' : World} (h : Keeps S w w') {p : Addr} (hp : S p.block ∨ w.heap.size ≤ p.block) (u : Value) : Keeps S w (w'.setCell p u) :=
  ⟨h.os, h.tape, h.output, by simpa using h.size, fun k hk hs => (Below.heap_setCell w' p u k (fun e => by
    rcases hp with hp | hp
    · exact hs (e ▸ hp)
    · omega)).trans (h.block k hk hs)⟩

/-! ### The frame behind some of the operations -/

structure Filled (a0 : Act) (dst : Nat → Option Tmp) (L : Nat → Prop) (vs : Nat → Value) (a : Act) : Prop where
  defers : a.defers = a0.defers
  size : a.tmps.size = a0.tmps.size
  hit : ∀ j t, L j → dst j = some t → t < a0.tmps.size → a.tmps[t]? = some (vs j)
  miss : ∀ t, (∀ j, L j → dst j ≠ some t) → a.tmps[t]? = a0.tmps[t]?

section
variable {a0 a a' : Act} {dst : Nat → Option Tmp} {L L' : Nat → Prop} {vs vs' : Nat → Value}

theorem Filled.unique (h : Filled a0 dst L vs a) (h' : Filled a0 dst L vs a') : a = a' := by
  obtain ⟨t, d⟩ := a
  obtain ⟨t', d'⟩ := a'
  have hd : d = d' := h.defers.trans h'.defers.symm
  have ht : t = t' := by
    apply Array.ext_getElem?
    intro i
    by_cases hi : i < a0.tmps.size
    · by_cases hj : ∃ j, L j ∧ dst j = some i
      · obtain ⟨j, hl, hdj⟩ := hj
        exact (h.hit j i hl hdj hi).trans (h'.hit j i hl hdj hi).symm
      · exact (h.miss i (fun j hl e => hj ⟨j, hl, e⟩)).trans (h'.miss i (fun j hl e => hj ⟨j, hl, e⟩)).symm
    · have e1 : t.size = a0.tmps.size := h.size
      have e2 : t'.size = a0.tmps.size := h'.size
      rw [Array.getElem?_eq_none (by omega), Array.getElem?_eq_none (by omega)]
  rw [hd, ht]

theorem Filled.start : Filled a0 dst (fun _ => False) vs a0 := ⟨rfl, rfl, fun _ _ h => h.elim, fun _ _ => rfl⟩

theorem Filled.put (h : Filled a0 dst L vs a) (k : Nat) (hd : ∀ j t, L j → dst j = some t → dst k ≠ some t) (v : Value) (hv : vs' k = v) (hvs : ∀ j, L j → vs' j = vs j) (hL : ∀ j, L' j ↔ j = k ∨ L j) :
    Filled a0 dst L' vs' (a.put (dst k) v) := by
  cases hk : dst k with
  | none =>
    refine ⟨h.defers, h.size, fun j t hl hdj ht => ?_, fun t hm => h.miss t fun j hl => hm j ((hL j).2 (.inr hl))⟩
    rcases (hL j).1 hl with rfl | hl'
    · rw [hk] at hdj; cases hdj
    · rw [hvs j hl']; exact h.hit j t hl' hdj ht
  | some d =>
    refine ⟨h.defers, by simp [Act.put, h.size], fun j t hl hdj ht => ?_, fun t hm => ?_⟩
    · rcases (hL j).1 hl with rfl | hl'
      · rw [hk] at hdj
        cases hdj
        simp [Act.put, h.size, ht, hv]
      · have hne : d ≠ t := fun e => hd j t hl' hdj (by rw [hk, e])
        simp only [Act.put, Array.getElem?_setIfInBounds_ne hne, hvs j hl']
        exact h.hit j t hl' hdj ht
    · have hne : d ≠ t := fun e => hm k ((hL k).2 (.inl rfl)) (by rw [hk, e])
      simp only [Act.put, Array.getElem?_setIfInBounds_ne hne]
      exact h.miss t fun j hl => hm j ((hL j).2 (.inr hl))

theorem Filled.congr (h : Filled a0 dst L vs a) (hL : ∀ j, L' j ↔ L j) (hvs : ∀ j, L j → vs' j = vs j) : Filled a0 dst L' vs' a :=
  ⟨h.defers, h.size, fun j t hl hdj ht => by rw [hvs j ((hL j).1 hl)]; exact h.hit j t ((hL j).1 hl) hdj ht, fun t hm => h.miss t fun j hl => hm j ((hL j).2 hl)⟩
end

section
variable {P : Program} {ops : Array Oper}

theorem same_view (o : Oper) (hs : ∀ cs b, o.op ≠ .select cs b) {a a' : Act} (h : ∀ t ∈ o.looksAt ops, a.tmps[t]? = a'.tmps[t]?) :
    execOp a.eval o = execOp a'.eval o ∧ Region.wanted o (yielded ops a.tmps) = Region.wanted o (yielded ops a'.tmps) := by
  constructor
  · refine execOp_congr o hs fun x hx => ?_
    cases x with
    | tmp t =>
      have := h t (List.mem_append_left _ (List.mem_filterMap.2 ⟨.tmp t, by simpa using hx, rfl⟩))
      simp [Act.eval, this]
    | _ => rfl
  · unfold Region.wanted
    cases hg : o.guard with
    | none => rfl
    | some gw =>
      obtain ⟨g, want⟩ := gw
      have hy : yielded ops a.tmps g = yielded ops a'.tmps g := by
        unfold yielded
        cases ht : (ops[g]?).bind (·.dst) with
        | none => rfl
        | some t =>
          have := h t (by simp [Oper.looksAt, hg, ht])
          simp only [Option.bind_some, this]
      simp only [hy]

def KnF (v0 : Value) (F0 : World → Prop) (v : Value) (w : World) : Prop := v = v0 ∧ F0 w
def UnF (pv : Value → Prop) (F : Value → World → Prop) (v : Value) (w : World) : Prop := pv v ∧ F v w
def Any : (Nat → Value) → World → Prop := fun _ _ => True
/-- The call hands back a value of which T holds. -/
def EndsV (T : Value → World → Prop) (e : Ending) (w : World) : Prop := ∃ v, e = .returned v ∧ T v w
/-- T, and outside Z all that was there is as it was. -/
def Post (T : Value → World → Prop) (Z : Nat → Prop) (w : World) (v : Value) (w' : World) : Prop := T v w' ∧ Keeps Z w w'
/-- What an operation comes to, told by T. -/
def relyUpon (P : Program) (T : Value → World → Prop) : Result Next → Prop
  | .ok (.value u) w' => T u w'
  | .ok .skip w' => T undef w'
  | .ok (.enter f args) w' => Calls P f args w' (EndsV T)
  | _ => False
def relyAt (P : Program) (o : Oper) (a : Act) (w : World) (T : Value → World → Prop) : Prop := relyUpon P T ((execOp a.eval o).run P w)

theorem wp_of_relyAt {o : Oper} {a : Act} {w : World} {T : Value → World → Prop} {K : Act → World → Prop} {Q : Exit → Act → World → Prop} (h : relyAt P o a w T) (hK : ∀ v w', T v w' → K (a.put o.dst v) w') : o.wp P a w K Q := by
  unfold relyAt at h
  unfold Oper.wp
  generalize (execOp a.eval o).run P w = r at *
  cases r with
  | ok n w' =>
    cases n <;> simp only [relyUpon] at h <;> simp only [Oper.upon]
    case value u => exact hK _ _ h
    case skip => exact hK _ _ h
    case enter f args => exact h.mono fun e w'' ⟨v, he, ht⟩ => by subst he; exact hK _ _ ht
  | halt x w' => simp only [relyUpon] at h

/-! ### Who must come ahead of whom -/

def depsOf (ops : Array Oper) (k : Nat) : List Nat := match ops[k]? with | some o => (o.after.toList.filter fun e => Region.binds .any e).map (·.on) | none => []
def maskOf (T : List Nat) (ds : List Nat) : Nat := ds.foldl (fun m d => m ||| (1 <<< d) ||| T.getD d 0) 0
def masks (ops : Array Oper) : Nat → List Nat
  | 0 => []
  | k + 1 => let T := masks ops k
             T ++ [maskOf T (depsOf ops k)]
def ancB (T : List Nat) (k j : Nat) : Bool := (T.getD k 0).testBit j

/-- j must have come up ahead of k. -/
def Anc (ops : Array Oper) (k j : Nat) : Prop := ∀ L : Nat → Prop, (∀ i, L i → ∀ d ∈ depsOf ops i, L d) → (∀ d ∈ depsOf ops k, L d) → L j

theorem testBit_fold (T : List Nat) (j : Nat) : ∀ (ds : List Nat) (m : Nat), (ds.foldl (fun m d => m ||| (1 <<< d) ||| T.getD d 0) m).testBit j = true → m.testBit j = true ∨ ∃ d ∈ ds, j = d ∨ (T.getD d 0).testBit j = true
  | [], m, h => .inl h
  | d :: r, m, h => by
    simp only [List.foldl_cons] at h
    rcases testBit_fold T j r _ h with h | ⟨d', hd, h⟩
    · rw [Nat.testBit_or, Nat.testBit_or] at h
      simp only [Bool.or_eq_true] at h
      rcases h with (h | h) | h
      · exact .inl h
      · refine .inr ⟨d, by simp, .inl ?_⟩
        rw [Nat.one_shiftLeft, Nat.testBit_two_pow] at h
        have := of_decide_eq_true h
        omega
      · exact .inr ⟨d, by simp, .inr h⟩
    · exact .inr ⟨d', by simp [hd], h⟩

theorem masks_length (ops : Array Oper) : ∀ n, (masks ops n).length = n
  | 0 => rfl
  | n + 1 => by simp [masks, masks_length ops n]

theorem masks_anc (ops : Array Oper) : ∀ n k j, ancB (masks ops n) k j = true → Anc ops k j
  | 0, k, j, h => by simp [ancB, masks] at h
  | n + 1, k, j, h => by
    have ih := masks_anc ops n
    unfold ancB at h
    simp only [masks] at h
    rcases Nat.lt_trichotomy k n with hk | hk | hk
    · refine ih k j ?_
      unfold ancB
      rw [List.getD_eq_getElem?_getD, List.getElem?_append_left (by rw [masks_length]; exact hk), ← List.getD_eq_getElem?_getD] at h
      exact h
    · subst hk
      rw [List.getD_eq_getElem?_getD, List.getElem?_append_right (by rw [masks_length]; omega), masks_length, Nat.sub_self] at h
      simp only [List.getElem?_cons_zero, Option.getD_some] at h
      rcases testBit_fold _ _ _ _ h with h | ⟨d, hd, h⟩
      · simp at h
      · intro L hL hk
        rcases h with rfl | h
        · exact hk _ hd
        · exact ih d j h L hL (hL d (hk d hd))
    · rw [List.getD_eq_getElem?_getD, List.getElem?_eq_none (by simp [masks_length]; omega)] at h
      simp at h

def dstAt (ops : Array Oper) (j : Nat) : Option Tmp := (ops[j]?).bind (·.dst)

def Rely.okB (ops : Array Oper) (m : Nat) : Bool :=
  let T := masks ops ops.size
  Region.noSelect ops && decide (m ≤ ops.size) &&
  ((List.range ops.size).all fun k => (depsOf ops k).all fun d => decide (d < k)) &&
  ((List.range ops.size).all fun k => decide (k < m) || (List.range k).all fun j => ancB T k j) &&
  ((List.range m).all fun k => (List.range m).all fun j => j == k || match dstAt ops j with
    | none => true
    | some t => (dstAt ops k != some t) && (match ops[k]? with | some o => !(o.looksAt ops).contains t || ancB T k j | none => true))

structure Rely.Ok (ops : Array Oper) (m : Nat) (anc : Nat → Nat → Bool) : Prop where
  nosel : Region.noSelect ops = true
  le : m ≤ ops.size
  deps : ∀ k, k < ops.size → ∀ d ∈ depsOf ops k, d < k
  sound : ∀ k j, anc k j = true → Anc ops k j
  tail : ∀ k, m ≤ k → k < ops.size → ∀ j, j < k → anc k j = true
  dist : ∀ k j t, k < m → j < m → j ≠ k → dstAt ops j = some t → dstAt ops k ≠ some t
  looks : ∀ k j t o, k < m → j < m → j ≠ k → dstAt ops j = some t → ops[k]? = some o → t ∈ o.looksAt ops → anc k j = true

theorem Rely.ok {m : Nat} (h : Rely.okB ops m = true) : Rely.Ok ops m (ancB (masks ops ops.size)) := by
  simp only [Rely.okB, Bool.and_eq_true, List.all_eq_true, List.mem_range, decide_eq_true_eq, Bool.or_eq_true, beq_iff_eq] at h
  obtain ⟨⟨⟨⟨h1, h2⟩, h3⟩, h4⟩, h5⟩ := h
  refine ⟨h1, h2, h3, fun k j => masks_anc ops _ k j, fun k hk hkn j hj => ?_, fun k j t hk hj hne hd => ?_, fun k j t o hk hj hne hd ho ht => ?_⟩
  · rcases h4 k hkn with h | h
    · omega
    · exact h j hj
  · have := (h5 k hk j hj).resolve_left hne
    simp only [hd, Bool.and_eq_true, bne_iff_ne, ne_eq] at this
    exact this.1
  · have := (h5 k hk j hj).resolve_left hne
    simp only [hd, Bool.and_eq_true, ho, Bool.or_eq_true, Bool.not_eq_true', List.contains_eq_mem, decide_eq_false_iff_not] at this
    exact this.2.resolve_left (fun h => h ht)

/-! ### The tail: no choice is left -/

def Upto (n k : Nat) (listed : Array Bool) : Prop := listed.size = n ∧ ∀ j, j < n → listed.getD j true = decide (j < k)

theorem Upto.next {n k : Nat} {listed : Array Bool} (h : Upto n k listed) (hk : k < n) : Upto n (k + 1) (listed.setIfInBounds k true) := by
  refine ⟨by simp [h.1], fun j hj => ?_⟩
  by_cases e : k = j
  · subst e
    simp [h.1, hk]
  · rw [getD_set_ne true e, h.2 j hj]
    simp only [decide_eq_decide]
    omega

theorem getD_ft {listed : Array Bool} {j : Nat} (h : j < listed.size) : listed.getD j false = listed.getD j true := by simp [h]

theorem mem_ready' {listed : Array Bool} {k : Nat} : k ∈ Region.ready .any ops listed ↔ listed.getD k true = false ∧ k < ops.size ∧ ∀ d ∈ depsOf ops k, listed.getD d false = true := by
  rw [mem_ready]
  constructor
  · rintro ⟨h0, o, ho, h⟩
    refine ⟨h0, (Array.getElem?_eq_some_iff.1 ho).1, fun d hd => ?_⟩
    simp only [depsOf, ho, List.mem_map, List.mem_filter, Array.mem_toList_iff] at hd
    obtain ⟨e, ⟨he, hb⟩, rfl⟩ := hd
    exact h e he hb
  · rintro ⟨h0, hlt, h⟩
    refine ⟨h0, ops[k], Array.getElem?_eq_getElem hlt, fun e he hb => h e.on ?_⟩
    simp only [depsOf, Array.getElem?_eq_getElem hlt, List.mem_map, List.mem_filter, Array.mem_toList_iff]
    exact ⟨e, ⟨he, hb⟩, rfl⟩

theorem wpAny_tail {m : Nat} {anc : Nat → Nat → Bool} {Q : Exit → Act → World → Prop} (ok : Rely.Ok ops m anc) : ∀ (f k : Nat) (listed : Array Bool) (a : Act) (w : World), m ≤ k → k + f = ops.size → Upto ops.size k listed →
    wpOps P ops Q (List.range' k f) a w → wpAny P .any ops Q f listed a w
  | 0, k, listed, a, w, hm, hk, hu, h => by
    refine ⟨?_, by simpa [wpOps] using h⟩
    rw [List.eq_nil_iff_forall_not_mem]
    intro i hi
    obtain ⟨h0, hlt, _⟩ := mem_ready'.1 hi
    rw [hu.2 i hlt] at h0
    have := of_decide_eq_false h0
    omega
  | f + 1, k, listed, a, w, hm, hk, hu, h => by
    have hkn : k < ops.size := by omega
    have hready : k ∈ Region.ready .any ops listed := by
      refine mem_ready'.2 ⟨by rw [hu.2 k hkn]; simp, hkn, fun d hd => ?_⟩
      have hdk := ok.deps k hkn d hd
      rw [getD_ft (by rw [hu.1]; omega), hu.2 d (by omega)]
      simpa using hdk
    refine ⟨fun h0 => (by rw [h0] at hready; cases hready), fun i hi => ?_⟩
    have hik : i = k := by
      obtain ⟨h0, hlt, hd⟩ := mem_ready'.1 hi
      rw [hu.2 i hlt] at h0
      have hle : k ≤ i := by have := of_decide_eq_false h0; omega
      rcases Nat.lt_or_ge k i with hki | hki
      · have := ok.sound i k (ok.tail i (by omega) hlt k hki) (fun j => listed.getD j false = true) (fun q hq d hd => by
          have hqn : q < ops.size := by
            rcases Nat.lt_or_ge q ops.size with h | h
            · exact h
            · simp [Array.getElem?_eq_none (show listed.size ≤ q by rw [hu.1]; exact h)] at hq
          rw [getD_ft (by rw [hu.1]; exact hqn), hu.2 q hqn] at hq
          have hdq := ok.deps q hqn d hd
          have := of_decide_eq_true hq
          rw [getD_ft (by rw [hu.1]; omega), hu.2 d (by omega)]
          simp; omega) hd
        rw [getD_ft (by rw [hu.1]; omega), hu.2 k hkn] at this
        simp at this
      · omega
    subst hik
    rw [List.range'_succ, wpOps_cons] at h
    exact wpOp_mono (fun a' w' h' => wpAny_tail ok f (i + 1) _ a' w' (by omega) (by omega) (hu.next hkn) h') h

/-! ### Any order -/

structure Spec where
  pv : Value → Prop
  f : (Nat → Value) → Value → World → Prop
/-- The values of those that must have come up ahead of k. -/
def maskV (anc : Nat → Nat → Bool) (k : Nat) (vs : Nat → Value) : Nat → Value := fun i => if anc k i = true then vs i else undef
theorem maskV_congr {anc : Nat → Nat → Bool} {k : Nat} {vs vs' : Nat → Value} (h : ∀ i, anc k i = true → vs i = vs' i) : maskV anc k vs = maskV anc k vs' := by
  funext i
  unfold maskV
  by_cases e : anc k i = true
  · rw [if_pos e, if_pos e, h i e]
  · rw [if_neg e, if_neg e]
theorem maskV_at {anc : Nat → Nat → Bool} {k i : Nat} {vs : Nat → Value} (h : anc k i = true) : maskV anc k vs i = vs i := if_pos h
/-- An ancestor stands ahead. -/
theorem Rely.Ok.lt {m : Nat} {anc : Nat → Nat → Bool} (ok : Rely.Ok ops m anc) {k q : Nat} (hk : k < ops.size) (h : anc k q = true) : q < k :=
  ok.sound k q h (fun i => i < k) (fun i hi d hd => by have hi' : i < k := hi; have := ok.deps i (by omega) d hd; show d < k; omega) (fun d hd => ok.deps k hk d hd)

def FactAt (W0 : World) (S : Nat → Prop) (calm : Bool) (Φ : World → Prop) (w : World) : Prop := ∃ w0, Keeps S W0 w0 ∧ Keeps (fun b => calm = false ∧ S b) w0 w ∧ Φ w0
theorem FactAt.weak {W0 : World} {S : Nat → Prop} {c c' : Bool} {Φ : World → Prop} {w : World} (h : FactAt W0 S c Φ w) (hc : c' = true → c = true) : FactAt W0 S c' Φ w := by
  obtain ⟨w0, k0, k1, hf⟩ := h
  refine ⟨w0, k0, k1.mono fun b ⟨h1, h2⟩ => ⟨?_, h2⟩, hf⟩
  cases c' with
  | false => rfl
  | true => rw [hc rfl] at h1; cases h1

def calmAt (wl : List Nat) (anc : Nat → Nat → Bool) (k j : Nat) : Bool := wl.all fun i => i == k || i == j || anc i k || anc j i
/-- No other writer has run when k runs. -/
def startAt (wl : List Nat) (anc : Nat → Nat → Bool) (k : Nat) : Bool := wl.all fun i => i == k || anc i k
def calmEnd (wl : List Nat) (anc : Nat → Nat → Bool) (j : Nat) : Bool := wl.all fun i => i == j || anc j i

def OpOk (P : Program) (ops : Array Oper) (W0 : World) (S : Nat → Prop) (wl : List Nat) (anc : Nat → Nat → Bool) (a0 : Act) (spec : Nat → Spec) (k : Nat) : Prop :=
  (∃ v, (spec k).pv v) ∧ ∀ o, ops[k]? = some o → ∀ vs : Nat → Value, (∀ j, j < k → (spec j).pv (vs j)) → ∀ a', Filled a0 (dstAt ops) (fun j => j < k) vs a' →
    (Region.wanted o (yielded ops a'.tmps) = true ∧ ∀ w, Keeps S W0 w → Keeps (fun b => startAt wl anc k = false ∧ S b) W0 w → (∀ j, j < k → anc k j = true → FactAt W0 S (calmAt wl anc k j) ((spec j).f (maskV anc j vs) (vs j)) w) →
      relyAt P o a' w fun v w' => (spec k).pv v ∧ (spec k).f (maskV anc k vs) v w' ∧ Keeps (fun b => wl.contains k = true ∧ S b) w w') ∨
    (Region.wanted o (yielded ops a'.tmps) = false ∧ (spec k).pv undef ∧ ∀ w, (spec k).f (maskV anc k vs) undef w)

structure Inv (ops : Array Oper) (m : Nat) (W0 : World) (S : Nat → Prop) (wl : List Nat) (anc : Nat → Nat → Bool) (a0 : Act) (spec : Nat → Spec) (listed : Array Bool) (vs : Nat → Value) (a : Act) (w : World) : Prop where
  size : listed.size = ops.size
  pv : ∀ j, j < m → (spec j).pv (vs j)
  filled : Filled a0 (dstAt ops) (fun j => j < m ∧ listed.getD j false = true) vs a
  kept : Keeps S W0 w
  start : Keeps (fun b => (wl.all fun i => !listed.getD i false) = false ∧ S b) W0 w
  high : ∀ j, m ≤ j → listed.getD j false = false
  closed : ∀ i, listed.getD i false = true → ∀ d ∈ depsOf ops i, listed.getD d false = true
  facts : ∀ j, j < m → listed.getD j false = true → FactAt W0 S (wl.all fun i => i == j || anc j i || !listed.getD i false) ((spec j).f (maskV anc j vs) (vs j)) w

def cnt (n : Nat) (listed : Array Bool) : Nat := ((List.range n).filter fun j => !listed.getD j true).length

theorem filter_drop {p q : Nat → Bool} {i : Nat} : ∀ (l : List Nat), l.Nodup → i ∈ l → p i = true → q i = false → (∀ j, j ≠ i → q j = p j) → (l.filter p).length = (l.filter q).length + 1
  | [], _, h, _, _, _ => by cases h
  | x :: r, hn, hi, hp, hq, hpq => by
    rw [List.nodup_cons] at hn
    by_cases e : x = i
    · subst e
      have : r.filter q = r.filter p := List.filter_congr fun j hj => hpq j (fun e => hn.1 (e ▸ hj))
      simp [hp, hq, this]
    · have hir : i ∈ r := by simpa [Ne.symm e] using hi
      have ih := filter_drop r hn.2 hir hp hq hpq
      simp only [List.filter_cons, hpq x e]
      split
      · simp [ih]
      · exact ih

theorem cnt_set {n i : Nat} {listed : Array Bool} (hs : listed.size = n) (hi : i < n) (h0 : listed.getD i true = false) : cnt n listed = cnt n (listed.setIfInBounds i true) + 1 := by
  unfold cnt
  refine filter_drop (i := i) _ List.nodup_range (by simpa using hi) (by simp [h0]) (by simp [hs, hi]) (fun j hj => ?_)
  rw [getD_set_ne true (Ne.symm hj)]

theorem Inv.done {m : Nat} {W0 : World} {S : Nat → Prop} {wl : List Nat} {anc : Nat → Nat → Bool} {a0 : Act} {spec : Nat → Spec} {listed : Array Bool} {vs : Nat → Value} {a : Act} {w : World} (h : Inv ops m W0 S wl anc a0 spec listed vs a w)
    (hall : ∀ j, j < m → listed.getD j false = true) : Upto ops.size m listed ∧ Filled a0 (dstAt ops) (fun j => j < m) vs a ∧ ∀ j, j < m → FactAt W0 S (calmEnd wl anc j) ((spec j).f (maskV anc j vs) (vs j)) w := by
  refine ⟨⟨h.size, fun j hj => ?_⟩, h.filled.congr (fun j => ⟨fun hj => ⟨hj, hall j hj⟩, fun hj => hj.1⟩) (fun _ _ => rfl), fun j hj => (h.facts j hj (hall j hj)).weak fun hc => ?_⟩
  · rw [← getD_ft (by rw [h.size]; exact hj)]
    rcases Nat.lt_or_ge j m with hjm | hjm
    · rw [hall j hjm]; simp [hjm]
    · rw [h.high j hjm]; simp; omega
  · unfold calmEnd at hc
    rw [List.all_eq_true] at hc ⊢
    intro i hi
    have := hc i hi
    simp only [Bool.or_eq_true] at this ⊢
    exact .inl this

theorem any_order {m : Nat} {W0 : World} {S : Nat → Prop} {wl : List Nat} {anc : Nat → Nat → Bool} {a0 : Act} {spec : Nat → Spec} {Q : Exit → Act → World → Prop} (ok : Rely.Ok ops m anc)
    (hop : ∀ k, k < m → OpOk P ops W0 S wl anc a0 spec k)
    (hend : ∀ vs : Nat → Value, (∀ j, j < m → (spec j).pv (vs j)) → ∀ a w, Filled a0 (dstAt ops) (fun j => j < m) vs a → Keeps S W0 w → (∀ j, j < m → FactAt W0 S (calmEnd wl anc j) ((spec j).f (maskV anc j vs) (vs j)) w) → wpOps P ops Q (List.range' m (ops.size - m)) a w) :
    ∀ (f : Nat) (listed : Array Bool) (vs : Nat → Value) (a : Act) (w : World), cnt ops.size listed = f → Inv ops m W0 S wl anc a0 spec listed vs a w → wpAny P .any ops Q f listed a w := by
  intro f
  induction f with
  | zero =>
    intro listed vs a w hc inv
    have hall : ∀ j, j < ops.size → listed.getD j false = true := fun j hj => by
      unfold cnt at hc
      rw [List.length_eq_zero_iff, List.filter_eq_nil_iff] at hc
      have := hc j (by simpa using hj)
      rw [getD_ft (by rw [inv.size]; exact hj)]
      simpa using this
    have hmn : m = ops.size := by
      rcases Nat.lt_or_ge m ops.size with h | h
      · have h1 := inv.high m (Nat.le_refl _)
        rw [hall m h] at h1
        cases h1
      · have := ok.le; omega
    obtain ⟨hu, hf, hfacts⟩ := inv.done (fun j hj => hall j (by omega))
    have := hend vs inv.pv a w hf inv.kept hfacts
    exact wpAny_tail ok 0 m listed a w (Nat.le_refl _) (by omega) hu (by rw [hmn, Nat.sub_self] at this; exact this)
  | succ f ih =>
    intro listed vs a w hc inv
    by_cases hdone : ∀ j, j < m → listed.getD j false = true
    · obtain ⟨hu, hf, hfacts⟩ := inv.done hdone
      have hcm : cnt ops.size listed = ops.size - m := by
        unfold cnt
        have e : (List.range ops.size).filter (fun j => !listed.getD j true) = (List.range ops.size).filter (fun j => decide (m ≤ j)) := List.filter_congr fun j hj => by
          rw [hu.2 j (by simpa using hj)]
          rw [Bool.eq_iff_iff]; simp
        rw [e]
        have key : ∀ n, m ≤ n → ((List.range n).filter (fun j => decide (m ≤ j))).length = n - m := by
          intro n
          induction n with
          | zero => intro h; simp
          | succ n ihn =>
            intro h
            rw [List.range_succ, List.filter_append, List.length_append]
            rcases Nat.lt_or_ge n m with h' | h'
            · have : m = n + 1 := by omega
              subst this
              rw [List.filter_eq_nil_iff.2 (by intro x hx; simp at hx ⊢; omega)]
              simp
            · rw [ihn h']; simp [h']; omega
        exact key _ ok.le
      rw [← hc, hcm]
      exact wpAny_tail ok _ m listed a w (Nat.le_refl _) (by have := ok.le; omega) hu (hend vs inv.pv a w hf inv.kept hfacts)
    · have hex : ∃ k, k < m ∧ listed.getD k false = false ∧ ∀ j, j < k → listed.getD j false = true := by
        have key : ∀ n, n ≤ m → (∀ j, j < n → listed.getD j false = true) ∨ ∃ k, k < m ∧ listed.getD k false = false ∧ ∀ j, j < k → listed.getD j false = true := by
          intro n
          induction n with
          | zero => intro _; exact .inl fun j hj => absurd hj (by omega)
          | succ n ihn =>
            intro hn
            rcases ihn (by omega) with h | h
            · by_cases hx : listed.getD n false = true
              · refine .inl fun j hj => ?_
                rcases Nat.lt_or_ge j n with h' | h'
                · exact h j h'
                · rw [show j = n by omega]; exact hx
              · exact .inr ⟨n, by omega, by simpa using hx, h⟩
            · exact .inr h
        rcases key m (Nat.le_refl _) with h | h
        · exact absurd h hdone
        · exact h
      obtain ⟨k0, hk0, hk0f, hk0b⟩ := hex
      have hmn := ok.le
      have hready : k0 ∈ Region.ready .any ops listed := mem_ready'.2 ⟨by rw [← getD_ft (by rw [inv.size]; omega)]; exact hk0f, by omega, fun d hd => hk0b d (ok.deps k0 (by omega) d hd)⟩
      refine ⟨fun h0 => (by rw [h0] at hready; cases hready), fun k hk => ?_⟩
      obtain ⟨hkun, hkn, hkd⟩ := mem_ready'.1 hk
      have hkf : listed.getD k false = false := by rw [getD_ft (by rw [inv.size]; exact hkn)]; exact hkun
      have hanc : ∀ j, anc k j = true → listed.getD j false = true := fun j hj => ok.sound k j hj (fun i => listed.getD i false = true) inv.closed hkd
      have hup : ∀ i, listed.getD i false = true → anc i k = true → False := fun i hi hik => by
        have := ok.sound i k hik (fun i => listed.getD i false = true) inv.closed (inv.closed i hi)
        rw [hkf] at this; cases this
      have hkm : k < m := by
        rcases Nat.lt_or_ge k m with h | h
        · exact h
        · have := hanc k0 (ok.tail k h hkn k0 (by omega))
          rw [hk0f] at this; cases this
      obtain ⟨o, ho⟩ : ∃ o, ops[k]? = some o := ⟨ops[k], Array.getElem?_eq_getElem hkn⟩
      have hdk : dstAt ops k = o.dst := by simp [dstAt, ho]
      -- the frame in the text's order
      have hlex : ∀ n, n ≤ m → ∃ a', Filled a0 (dstAt ops) (fun j => j < n) vs a' := by
        intro n
        induction n with
        | zero => intro _; exact ⟨a0, (Filled.start (vs := vs)).congr (fun j => by simp) (fun _ h => h.elim)⟩
        | succ n ihn =>
          intro hn
          obtain ⟨a', ha'⟩ := ihn (by omega)
          exact ⟨_, ha'.put n (fun j t hj hd => ok.dist n j t (by omega) (by omega) (by omega) hd) (vs n) rfl (fun _ _ => rfl) (fun j => by omega)⟩
      obtain ⟨a', ha'⟩ := hlex k (by omega)
      have hview := same_view (ops := ops) o (fun cs b => Region.noSelect_spec ok.nosel k o cs b ho) (a := a') (a' := a) (fun t ht => by
        by_cases hex : ∃ j, j < m ∧ dstAt ops j = some t ∧ (j < k ∨ listed.getD j false = true)
        · obtain ⟨j, hjm, hdj, hj⟩ := hex
          have hjk : j ≠ k := by
            rintro rfl
            rcases hj with h | h
            · omega
            · rw [hkf] at h; cases h
          have hkj := ok.looks k j t o hkm hjm hjk hdj ho ht
          have hjl := hanc j hkj
          by_cases hts : t < a0.tmps.size
          · rw [inv.filled.hit j t ⟨hjm, hjl⟩ hdj hts]
            have hjlt : j < k := by
              rcases Nat.lt_or_ge j k with h | h
              · exact h
              · exfalso
                -- an ancestor stands ahead
                have : ∀ q, anc k q = true → q < k := fun q hq => ok.sound k q hq (fun i => i < k) (fun i hi d hd => by have hi' : i < k := hi; have := ok.deps i (by omega) d hd; show d < k; omega) (fun d hd => ok.deps k hkn d hd)
                have := this j hkj
                omega
            exact ha'.hit j t hjlt hdj hts
          · rw [Array.getElem?_eq_none (show a'.tmps.size ≤ t by rw [ha'.size]; exact Nat.le_of_not_lt hts), Array.getElem?_eq_none (show a.tmps.size ≤ t by rw [inv.filled.size]; exact Nat.le_of_not_lt hts)]
        · rw [ha'.miss t (fun j hj e => hex ⟨j, by omega, e, .inl hj⟩), inv.filled.miss t (fun j hj e => hex ⟨j, hj.1, e, .inr hj.2⟩)])
      obtain ⟨⟨v1, hv1⟩, hspec⟩ := hop k hkm
      have hs := hspec o ho vs (fun j hj => inv.pv j (by omega)) a' ha'
      rw [hview.2] at hs
      have hnext : ∀ v w', (spec k).pv v → (spec k).f (maskV anc k vs) v w' → Keeps (fun b => wl.contains k = true ∧ S b) w w' → wpAny P .any ops Q f (listed.setIfInBounds k true) (a.put o.dst v) w' := by
        intro v w' hpv hfv hkeep
        have hgs : ∀ j, (listed.setIfInBounds k true).getD j false = true ↔ j = k ∨ listed.getD j false = true := by
          intro j
          by_cases e : k = j
          · subst e; simp [inv.size, hkn]
          · rw [getD_set_ne false e]
            exact ⟨.inr, fun h => h.resolve_left (Ne.symm e)⟩
        have hstart' : Keeps (fun b => (wl.all fun i => !(listed.setIfInBounds k true).getD i false) = false ∧ S b) W0 w' := by
          cases hx : (wl.all fun i => !(listed.setIfInBounds k true).getD i false) with
          | false => exact inv.kept.trans (hkeep.mono fun b h => h.2) |>.mono fun b h => ⟨rfl, h⟩
          | true =>
            rw [List.all_eq_true] at hx
            have h1 : (wl.all fun i => !listed.getD i false) = true := by
              rw [List.all_eq_true]
              intro i hi
              have := hx i hi
              cases hy : listed.getD i false with
              | false => rfl
              | true => rw [(hgs i).2 (.inr hy)] at this; cases this
            refine (inv.start.mono fun b h => ?_).trans (hkeep.mono fun b h => ?_)
            · have h2 := h.1
              rw [h1] at h2
              cases h2
            · have := hx k (by simpa using h.1)
              rw [(hgs k).2 (.inl rfl)] at this
              cases this
        refine ih _ (fun j => if j = k then v else vs j) _ _ ?_ ⟨by simp [inv.size], fun j hj => ?_, ?_, inv.kept.trans (hkeep.mono fun b h => h.2), hstart', fun j hj => ?_, fun i hi d hd => ?_, fun j hj hjl => ?_⟩
        · have := cnt_set inv.size hkn hkun
          omega
        · by_cases e : j = k
          · subst e; simpa using hpv
          · simpa [e] using inv.pv j hj
        · rw [← hdk]
          refine inv.filled.put k (fun j t hj hd => ok.dist k j t hkm hj.1 (fun e => by rw [e, hkf] at hj; cases hj.2) hd) v (by simp) (fun j hj => ?_) (fun j => ?_)
          · have : j ≠ k := fun e => by rw [e, hkf] at hj; cases hj.2
            simp [this]
          · rw [hgs]
            constructor
            · rintro ⟨h1, h2 | h2⟩
              · exact .inl h2
              · exact .inr ⟨h1, h2⟩
            · rintro (h | h)
              · exact ⟨by omega, .inl h⟩
              · exact ⟨h.1, .inr h.2⟩
        · cases hx : (listed.setIfInBounds k true).getD j false with
          | false => rfl
          | true =>
            rcases (hgs j).1 hx with h | h
            · omega
            · rw [inv.high j hj] at h; cases h
        · rw [hgs]
          rcases (hgs i).1 hi with rfl | h
          · exact .inr (hkd d hd)
          · exact .inr (inv.closed i h d hd)
        · rcases (hgs j).1 hjl with rfl | hjl'
          · rw [if_pos rfl, show maskV anc j (fun i => if i = j then v else vs i) = maskV anc j vs from maskV_congr (fun i hi => by
              have h1 := hanc i hi
              have : i ≠ j := fun e => by rw [e, hkf] at h1; cases h1
              simp [this])]
            exact ⟨w', inv.kept.trans (hkeep.mono fun b h => h.2), Keeps.refl _ _, hfv⟩
          · have hjk : j ≠ k := fun e => by rw [e, hkf] at hjl'; cases hjl'
            rw [show maskV anc j (fun i => if i = k then v else vs i) = maskV anc j vs from maskV_congr (fun i hi => by
              have h1 := ok.sound j i hi (fun i => listed.getD i false = true) inv.closed (inv.closed j hjl')
              have : i ≠ k := fun e => by
                have h1 : listed.getD i false = true := h1
                rw [e, hkf] at h1; cases h1
              simp [this])]
            simp only [hjk, if_false]
            obtain ⟨w0, q0, q1, hF⟩ := inv.facts j hj hjl'
            refine ⟨w0, q0, ?_, hF⟩
            have hjl2 : anc j k = true → False := fun h => by
              have := ok.sound j k h (fun i => listed.getD i false = true) inv.closed (inv.closed j hjl')
              rw [hkf] at this; cases this
            have hweak : (wl.all fun i => i == j || anc j i || !(listed.setIfInBounds k true).getD i false) = true → (wl.all fun i => i == j || anc j i || !listed.getD i false) = true := fun h => by
              rw [List.all_eq_true] at h ⊢
              intro i hi
              have := h i hi
              simp only [Bool.or_eq_true, Bool.not_eq_true'] at this ⊢
              rcases this with h | h
              · exact .inl h
              · right
                cases hx : listed.getD i false with
                | false => rfl
                | true => rw [(hgs i).2 (.inr hx)] at h; cases h
            refine Keeps.trans (b := w) (q1.mono fun b h => ⟨?_, h.2⟩) (hkeep.mono fun b h => ⟨?_, h.2⟩)
            · have h := h.1
              cases hx : (wl.all fun i => i == j || anc j i || !(listed.setIfInBounds k true).getD i false) with
              | false => rfl
              | true => rw [hweak hx] at h; cases h
            · cases hx : (wl.all fun i => i == j || anc j i || !(listed.setIfInBounds k true).getD i false) with
              | false => rfl
              | true =>
                rw [List.all_eq_true] at hx
                have := hx k (by simpa using h.1)
                rw [(hgs k).2 (.inl rfl)] at this
                simp only [Bool.or_eq_true, beq_iff_eq, Bool.not_true, Bool.false_eq_true, or_false] at this
                rcases this with h | h
                · exact absurd h.symm hjk
                · exact (hjl2 h).elim
      unfold wpOp
      simp only [ho]
      rcases hs with ⟨hw, hrel⟩ | ⟨hw, hpu, hfu⟩
      · rw [if_pos hw]
        have hrel' : relyAt P o a w fun v w' => (spec k).pv v ∧ (spec k).f (maskV anc k vs) v w' ∧ Keeps (fun b => wl.contains k = true ∧ S b) w w' := ?_
        · exact .inl (wp_of_relyAt hrel' (fun v w' h => hnext v w' h.1 h.2.1 h.2.2))
        have := hrel w inv.kept (inv.start.mono fun b h => ⟨?_, h.2⟩) (fun j hj hkj => (inv.facts j (by omega) (hanc j hkj)).weak fun hc => ?_)
        · unfold relyAt at this ⊢
          rw [hview.1] at this
          exact this
        · cases hx : startAt wl anc k with
          | false => rfl
          | true =>
            have h1 := h.1
            have : (wl.all fun i => !listed.getD i false) = true := by
              unfold startAt at hx
              rw [List.all_eq_true] at hx ⊢
              intro i hi
              have := hx i hi
              simp only [Bool.or_eq_true, beq_iff_eq] at this
              rcases this with e | e
              · rw [e, hkf]; rfl
              · cases hy : listed.getD i false with
                | false => rfl
                | true => exact (hup i hy e).elim
            rw [this] at h1; cases h1
        · unfold calmAt at hc
          rw [List.all_eq_true] at hc ⊢
          intro i hi
          have := hc i hi
          simp only [Bool.or_eq_true, beq_iff_eq, Bool.not_eq_true'] at this ⊢
          rcases this with ((h | h) | h) | h
          · right; rw [h]; exact hkf
          · exact .inl (.inl h)
          · right
            cases hx : listed.getD i false with
            | false => rfl
            | true => exact (hup i hx h).elim
          · exact .inl (.inr h)
      · rw [if_neg (by rw [hw]; simp)]
        exact hnext undef w hpu (hfu w) (Keeps.refl _ _)

/-! ### The walk in the text's order -/

structure Ent where
  k : Nat
  dst : Option Tmp
  pv : Value → Prop
  f : Value → World → Prop

/-- What holds behind an operation, told by the values of those that came up ahead of it. -/
abbrev Fact := Nat × ((Nat → Value) → World → Prop)
/-- Every value that the entries let be is put into the frame. -/
def fillE : List Ent → List Fact → Act → (Nat → Value) → (List Fact → Act → (Nat → Value) → Prop) → Prop
  | [], H, a, u, K => K H a u
  | e :: r, H, a, u, K => ∀ v, e.pv v → fillE r ((e.k, fun _ => e.f v) :: H) (a.put e.dst v) (fun i => if i = e.k then v else u i) K

/-- The facts that may be leant on. -/
def Met (W0 : World) (S : Nat → Prop) (see calm : Nat → Bool) (anc : Nat → Nat → Bool) (u : Nat → Value) : List Fact → World → Prop
  | [], _ => True
  | x :: r, w => (see x.1 = true → FactAt W0 S (calm x.1) (x.2 (maskV anc x.1 u)) w) ∧ Met W0 S see calm anc u r w

def RelyOp (P : Program) (ops : Array Oper) (W0 : World) (S : Nat → Prop) (wl : List Nat) (anc : Nat → Nat → Bool) (k : Nat) (o : Oper) (E : List Ent) (H : List Fact) (a : Act) (u : Nat → Value) (T : (Nat → Value) → Value → World → Prop) : Prop :=
  fillE E H a u fun H' a' u' => Region.wanted o (yielded ops a'.tmps) = true ∧ ∀ w, Keeps S W0 w → (Keeps (fun b => startAt wl anc k = false ∧ S b) W0 w ∧ Met W0 S (anc k) (calmAt wl anc k) anc u' H' w) → relyAt P o a' w (Post (T (maskV anc k u')) (fun b => wl.contains k = true ∧ S b) w)

def wpRely (P : Program) (ops : Array Oper) (W0 : World) (S : Nat → Prop) (wl : List Nat) (anc : Nat → Nat → Bool) (Q : Act → World → Prop) : List Oper → Nat → List Ent → List Fact → Act → (Nat → Value) → Prop
  | [], _, E, H, a, u => fillE E H a u fun H' a' u' => ∀ w, Keeps S W0 w → Met W0 S (fun _ => true) (calmEnd wl anc) anc u' H' w → Q a' w
  | o :: r, k, E, H, a, u =>
    (∃ (v0 : Value) (F0 : (Nat → Value) → World → Prop), RelyOp P ops W0 S wl anc k o E H a u (fun u' => KnF v0 (F0 u')) ∧ wpRely P ops W0 S wl anc Q r (k + 1) E ((k, F0) :: H) (a.put o.dst v0) (fun i => if i = k then v0 else u i)) ∨
    (fillE E H a u (fun _ a' _ => Region.wanted o (yielded ops a'.tmps) = false) ∧ wpRely P ops W0 S wl anc Q r (k + 1) E H (a.put o.dst undef) (fun i => if i = k then undef else u i)) ∨
    (∃ (pv : Value → Prop) (F : Value → World → Prop), (∃ v, pv v) ∧ RelyOp P ops W0 S wl anc k o E H a u (fun _ => UnF pv F) ∧ wpRely P ops W0 S wl anc Q r (k + 1) (⟨k, o.dst, pv, F⟩ :: E) H a u)

theorem met_of {W0 : World} {S : Nat → Prop} {see calm : Nat → Bool} {anc : Nat → Nat → Bool} {u : Nat → Value} {w : World} : ∀ (H : List Fact), (∀ x ∈ H, see x.1 = true → FactAt W0 S (calm x.1) (x.2 (maskV anc x.1 u)) w) → Met W0 S see calm anc u H w
  | [], _ => trivial
  | x :: r, h => ⟨h x (by simp), met_of r fun y hy => h y (by simp [hy])⟩

theorem FactAt.imp {W0 : World} {S : Nat → Prop} {c : Bool} {Φ Φ' : World → Prop} {w : World} (h : FactAt W0 S c Φ w) (hi : ∀ w, Φ w → Φ' w) : FactAt W0 S c Φ' w := by
  obtain ⟨w0, k0, k1, hf⟩ := h
  exact ⟨w0, k0, k1, hi _ hf⟩

theorem fill_spec {m : Nat} {anc : Nat → Nat → Bool} (ok : Rely.Ok ops m anc) {a0 : Act} {vs : Nat → Value} {K : List Fact → Act → (Nat → Value) → Prop} : ∀ (E : List Ent) (H : List Fact) (a : Act) (u : Nat → Value) (L : Nat → Prop),
    (∀ e ∈ E, e.k < m ∧ e.dst = dstAt ops e.k ∧ e.pv (vs e.k) ∧ ¬ L e.k) → (E.map (·.k)).Nodup → (∀ j, L j → j < m) → Filled a0 (dstAt ops) L vs a → (∀ j, L j → u j = vs j) → fillE E H a u K →
    ∃ H' a' u', K H' a' u' ∧ Filled a0 (dstAt ops) (fun j => L j ∨ ∃ e ∈ E, e.k = j) vs a' ∧ (∀ j, (L j ∨ ∃ e ∈ E, e.k = j) → u' j = vs j) ∧ ∀ x ∈ H', x ∈ H ∨ ∃ e ∈ E, x = (e.k, fun _ => e.f (vs e.k))
  | [], H, a, u, L, _, _, _, hf, hu, h => ⟨H, a, u, h, hf.congr (fun j => by simp) (fun _ _ => rfl), fun j hj => by simp at hj; exact hu j hj, fun x hx => .inl hx⟩
  | e :: r, H, a, u, L, hE, hn, hL, hf, hu, h => by
    obtain ⟨h1, h2, h3, h4⟩ := hE e (by simp)
    rw [List.map_cons, List.nodup_cons] at hn
    have h' := h (vs e.k) h3
    rw [h2] at h'
    have hf' : Filled a0 (dstAt ops) (fun j => j = e.k ∨ L j) vs (a.put (dstAt ops e.k) (vs e.k)) :=
      hf.put e.k (fun j t hj hd => ok.dist e.k j t h1 (hL j hj) (fun q => h4 (q ▸ hj)) hd) _ rfl (fun _ _ => rfl) (fun j => Iff.rfl)
    obtain ⟨H', a', u', hK, hfill, hu', hH⟩ := fill_spec ok r _ _ _ (fun j => j = e.k ∨ L j) (fun x hx => by
      obtain ⟨q1, q2, q3, q4⟩ := hE x (by simp [hx])
      refine ⟨q1, q2, q3, ?_⟩
      rintro (q | q)
      · exact hn.1 (by rw [← q]; exact List.mem_map.2 ⟨x, hx, rfl⟩)
      · exact q4 q) hn.2 (fun j hj => by
      rcases hj with rfl | hj
      · exact h1
      · exact hL j hj) hf' (fun j hj => by
      by_cases q : j = e.k
      · simp [q]
      · simp only [q, if_false]
        exact hu j (hj.resolve_left q)) h'
    refine ⟨H', a', u', hK, hfill.congr (fun j => ?_) (fun _ _ => rfl), fun j hj => hu' j ?_, fun x hx => ?_⟩
    · constructor
      · rintro (q | ⟨x, hx, rfl⟩)
        · exact .inl (.inr q)
        · rcases List.mem_cons.1 hx with rfl | hx
          · exact .inl (.inl rfl)
          · exact .inr ⟨x, hx, rfl⟩
      · rintro ((rfl | q) | ⟨x, hx, rfl⟩)
        · exact .inr ⟨e, by simp, rfl⟩
        · exact .inl q
        · exact .inr ⟨x, by simp [hx], rfl⟩
    · rcases hj with q | ⟨x, hx, rfl⟩
      · exact .inl (.inr q)
      · rcases List.mem_cons.1 hx with rfl | hx
        · exact .inl (.inl rfl)
        · exact .inr ⟨x, hx, rfl⟩
    · rcases hH x hx with q | ⟨y, hy, rfl⟩
      · rcases List.mem_cons.1 q with rfl | q
        · exact .inr ⟨e, by simp, rfl⟩
        · exact .inl q
      · exact .inr ⟨y, by simp [hy], rfl⟩

structure St (ops : Array Oper) (a0 : Act) (spec : Nat → Spec) (k : Nat) (E : List Ent) (H : List Fact) (a : Act) (u : Nat → Value) : Prop where
  ent : ∀ e ∈ E, e.k < k ∧ e.dst = dstAt ops e.k ∧ (∀ v, (spec e.k).pv v → e.pv v) ∧ ∀ vs v w, (spec e.k).f vs v w → e.f v w
  nodup : (E.map (·.k)).Nodup
  facts : ∀ x ∈ H, x.1 < k ∧ ∀ vs v w, (spec x.1).pv v → (spec x.1).f vs v w → x.2 vs w
  frame : Filled a0 (dstAt ops) (fun j => j < k ∧ ∀ e ∈ E, e.k ≠ j) u a
  known : ∀ j, j < k → (∀ e ∈ E, e.k ≠ j) → ∀ v, (spec j).pv v → v = u j

theorem St.fill {m : Nat} {anc : Nat → Nat → Bool} (ok : Rely.Ok ops m anc) {a0 : Act} {spec : Nat → Spec} {k : Nat} {E : List Ent} {H : List Fact} {a : Act} {u : Nat → Value} (st : St ops a0 spec k E H a u) (hk : k ≤ m) {vs : Nat → Value} (hvs : ∀ j, j < k → (spec j).pv (vs j))
    {K : List Fact → Act → (Nat → Value) → Prop} (h : fillE E H a u K) :
    ∃ H' a' u', K H' a' u' ∧ Filled a0 (dstAt ops) (fun j => j < k) vs a' ∧ (∀ j, j < k → u' j = vs j) ∧ ∀ x ∈ H', x.1 < k ∧ ∀ us w, (spec x.1).f us (vs x.1) w → x.2 us w := by
  have hfl' : Filled a0 (dstAt ops) (fun j => j < k ∧ ∀ e ∈ E, e.k ≠ j) vs a := st.frame.congr (fun _ => Iff.rfl) (fun j hj => st.known j hj.1 hj.2 _ (hvs j hj.1))
  have hall : ∀ j, j < k → ((j < k ∧ ∀ e ∈ E, e.k ≠ j) ∨ ∃ e ∈ E, e.k = j) := fun j hj => by
    by_cases hex : ∃ e ∈ E, e.k = j
    · exact .inr hex
    · exact .inl ⟨hj, fun e he q => hex ⟨e, he, q⟩⟩
  obtain ⟨H', a', u', hK, hf, hu, hH⟩ := fill_spec ok E H a u _ (fun e he => by
    obtain ⟨h1, h2, h3, _⟩ := st.ent e he
    exact ⟨by omega, h2, h3 _ (hvs _ h1), fun q => q.2 e he rfl⟩) st.nodup (fun j hj => by have := hj.1; omega) hfl' (fun j hj => (st.known j hj.1 hj.2 _ (hvs j hj.1)).symm) h
  refine ⟨H', a', u', hK, hf.congr (fun j => ?_) (fun _ _ => rfl), fun j hj => hu j (hall j hj), fun x hx => ?_⟩
  · constructor
    · exact hall j
    · rintro (q | ⟨e, he, rfl⟩)
      · exact q.1
      · exact (st.ent e he).1
  · rcases hH x hx with q | ⟨e, he, rfl⟩
    · obtain ⟨h1, h2⟩ := st.facts x q
      exact ⟨h1, fun us w hw => h2 us _ w (hvs _ h1) hw⟩
    · obtain ⟨h1, _, _, h4⟩ := st.ent e he
      exact ⟨h1, fun us w hw => h4 us _ w hw⟩

theorem OpOk.congr {W0 : World} {S : Nat → Prop} {wl : List Nat} {anc : Nat → Nat → Bool} {a0 : Act} {spec spec' : Nat → Spec} {k : Nat} (h : OpOk P ops W0 S wl anc a0 spec k) (e : ∀ j, j ≤ k → spec' j = spec j) : OpOk P ops W0 S wl anc a0 spec' k := by
  obtain ⟨h1, h2⟩ := h
  unfold OpOk
  rw [e k (Nat.le_refl _)]
  refine ⟨h1, fun o ho vs hvs a' ha' => ?_⟩
  rcases h2 o ho vs (fun j hj => by rw [← e j (by omega)]; exact hvs j hj) a' ha' with ⟨hw, h⟩ | h
  · exact .inl ⟨hw, fun w hk hs hf => h w hk hs fun j hj hkj => by rw [← e j (by omega)]; exact hf j hj hkj⟩
  · exact .inr h

theorem opOk_rely {m : Nat} {W0 : World} {S : Nat → Prop} {wl : List Nat} {anc : Nat → Nat → Bool} (ok : Rely.Ok ops m anc) {a0 : Act} {spec spec' : Nat → Spec} {k : Nat} {E : List Ent} {H : List Fact} {a : Act} {u : Nat → Value} {o : Oper} (st : St ops a0 spec k E H a u) (hk : k < m) (ho : ops[k]? = some o)
    {s : Spec} (hs' : spec' k = s) (hs : ∀ j, j < k → spec' j = spec j) (hne : ∃ v, s.pv v) (h : RelyOp P ops W0 S wl anc k o E H a u (fun us v w' => s.pv v ∧ s.f us v w')) : OpOk P ops W0 S wl anc a0 spec' k := by
  have hkn : k < ops.size := Nat.lt_of_lt_of_le hk ok.le
  unfold OpOk
  rw [hs']
  refine ⟨hne, fun o' ho' vs hvs a' ha' => ?_⟩
  rw [ho] at ho'
  cases ho'
  obtain ⟨H', a'', u', hK, hf, hu, hH⟩ := st.fill ok (by omega) (vs := vs) (fun j hj => by rw [← hs j hj]; exact hvs j hj) h
  have e := hf.unique ha'
  subst e
  have hmk : ∀ j, j ≤ k → maskV anc j u' = maskV anc j vs := fun j hj => maskV_congr (fun i hi => hu i (by have := ok.lt (by omega) hi; omega))
  refine .inl ⟨hK.1, fun w hw hst hfa => ?_⟩
  have := hK.2 w hw (.intro hst <| met_of H' fun x hx hsee => (hfa x.1 (hH x hx).1 hsee).imp fun w0 hw0 => (hH x hx).2 _ w0 (by rw [hmk x.1 (by have := (hH x hx).1; omega), ← hs x.1 (hH x hx).1]; exact hw0))
  rw [hmk k (Nat.le_refl _)] at this
  unfold relyAt at this ⊢
  generalize (execOp a''.eval o).run P w = r at *
  cases r with
  | ok n w' =>
    cases n <;> simp only [relyUpon] at this ⊢
    case value v => exact ⟨this.1.1, this.1.2, this.2⟩
    case skip => exact ⟨this.1.1, this.1.2, this.2⟩
    case enter f args => exact this.mono fun e w'' ⟨v, he, ht⟩ => ⟨v, he, ht.1.1, ht.1.2, ht.2⟩
  | halt x w' => simp only [relyUpon] at this

theorem rely_tab {m : Nat} {W0 : World} {S : Nat → Prop} {wl : List Nat} {anc : Nat → Nat → Bool} {Q : Act → World → Prop} (ok : Rely.Ok ops m anc) {a0 : Act} : ∀ (l : List Oper) (k : Nat) (E : List Ent) (H : List Fact) (a : Act) (u : Nat → Value) (spec : Nat → Spec),
    (∀ j o, l[j]? = some o → ops[k + j]? = some o) → k + l.length = m → St ops a0 spec k E H a u → (∀ k', k' < k → OpOk P ops W0 S wl anc a0 spec k') → wpRely P ops W0 S wl anc Q l k E H a u →
    ∃ spec' : Nat → Spec, (∀ k', k' < m → OpOk P ops W0 S wl anc a0 spec' k') ∧
      ∀ vs : Nat → Value, (∀ j, j < m → (spec' j).pv (vs j)) → ∀ a w, Filled a0 (dstAt ops) (fun j => j < m) vs a → Keeps S W0 w → (∀ j, j < m → FactAt W0 S (calmEnd wl anc j) ((spec' j).f (maskV anc j vs) (vs j)) w) → Q a w
  | [], k, E, H, a, u, spec, _, hk, st, hop, h => by
    simp only [List.length_nil, Nat.add_zero] at hk
    subst hk
    refine ⟨spec, hop, fun vs hvs a' w ha' hw hfa => ?_⟩
    obtain ⟨H', a'', u', hK, hf, hu, hH⟩ := st.fill ok (Nat.le_refl _) hvs h
    have e := hf.unique ha'
    subst e
    refine hK w hw (met_of H' fun x hx _ => (hfa x.1 (hH x hx).1).imp fun w0 hw0 => (hH x hx).2 _ w0 ?_)
    have hxk := (hH x hx).1
    rw [show maskV anc x.1 u' = maskV anc x.1 vs from maskV_congr (fun i hi => hu i (by have := ok.lt (Nat.lt_of_lt_of_le hxk ok.le) hi; omega))]
    exact hw0
  | o :: r, k, E, H, a, u, spec, hl, hk, st, hop, h => by
    have ho : ops[k]? = some o := by simpa using hl 0 o (by simp)
    have hkm : k < m := by simp at hk; omega
    have hdk : o.dst = dstAt ops k := by simp [dstAt, ho]
    have hl' : ∀ j o', r[j]? = some o' → ops[k + 1 + j]? = some o' := fun j o' hj => by
      have := hl (j + 1) o' (by simpa using hj)
      rwa [show k + 1 + j = k + (j + 1) by omega]
    have hk' : k + 1 + r.length = m := by simp at hk; omega
    have keyLt : ∀ (s : Spec) j, j < k → (fun j => if j = k then s else spec j) j = spec j := fun s j hj => by simp [show j ≠ k by omega]
    have hop' : ∀ s : Spec, OpOk P ops W0 S wl anc a0 (fun j => if j = k then s else spec j) k → ∀ k', k' < k + 1 → OpOk P ops W0 S wl anc a0 (fun j => if j = k then s else spec j) k' := fun s hs k' hlt => by
      rcases Nat.lt_or_ge k' k with q | q
      · exact (hop k' q).congr fun j hj => keyLt s j (by omega)
      · rw [show k' = k by omega]; exact hs
    have stKnown : ∀ (v0 : Value) (F0 : (Nat → Value) → World → Prop) (H' : List Fact), (∀ x ∈ H', x ∈ H ∨ x = (k, F0)) → St ops a0 (fun j => if j = k then ⟨fun v => v = v0, fun us _ => F0 us⟩ else spec j) (k + 1) E H' (a.put o.dst v0) (fun i => if i = k then v0 else u i) := fun v0 F0 H' hH' => by
      refine ⟨fun e he => ?_, st.nodup, fun x hx => ?_, ?_, fun j hj hE v hv => ?_⟩
      · obtain ⟨h1, h2, h3, h4⟩ := st.ent e he
        simp only [if_neg (Nat.ne_of_lt h1)]
        exact ⟨by omega, h2, h3, h4⟩
      · rcases hH' x hx with q | rfl
        · obtain ⟨h1, h2⟩ := st.facts x q
          simp only [if_neg (Nat.ne_of_lt h1)]
          exact ⟨by omega, h2⟩
        · refine ⟨by simp, fun us v w _ hw => ?_⟩
          simpa using hw
      · rw [hdk]
        refine st.frame.put k (fun j t hj hd => ok.dist k j t hkm (by omega) (by omega) hd) v0 (by simp) (fun j hj => by simp [show j ≠ k by omega]) (fun j => ?_)
        constructor
        · rintro ⟨h1, h2⟩
          by_cases e : j = k
          · exact .inl e
          · exact .inr ⟨by omega, h2⟩
        · rintro (rfl | ⟨h1, h2⟩)
          · exact ⟨by omega, fun e he q => by have := (st.ent e he).1; omega⟩
          · exact ⟨by omega, h2⟩
      · by_cases e : j = k
        · subst e; simpa using hv
        · simp only [e, if_false] at hv ⊢
          exact st.known j (by omega) hE v hv
    rcases h with ⟨v0, F0, hr, hn⟩ | ⟨hw, hn⟩ | ⟨pv, F, hne, hr, hn⟩
    · exact rely_tab ok r (k + 1) E _ _ _ _ hl' hk' (stKnown v0 F0 ((k, F0) :: H) (fun x hx => (List.mem_cons.1 hx).symm))
        (hop' _ (opOk_rely ok st hkm ho (s := ⟨fun v => v = v0, fun us _ => F0 us⟩) (by simp) (fun j hj => keyLt _ j hj) ⟨v0, rfl⟩ hr)) hn
    · refine rely_tab ok r (k + 1) E _ _ _ _ hl' hk' (stKnown undef (fun _ _ => True) H (fun x hx => .inl hx)) (hop' _ ?_) hn
      unfold OpOk
      simp only [if_true]
      refine ⟨⟨undef, rfl⟩, fun o' ho' vs hvs a' ha' => ?_⟩
      rw [ho] at ho'
      cases ho'
      obtain ⟨H', a'', u', hK, hf, hu, hH⟩ := st.fill ok (by omega) (vs := vs) (fun j hj => by have := hvs j hj; simpa [show j ≠ k by omega] using this) hw
      have e := hf.unique ha'
      subst e
      exact .inr ⟨hK, trivial, fun _ => trivial⟩
    · refine rely_tab ok r (k + 1) _ H a u _ hl' hk' ⟨fun e he => ?_, ?_, fun x hx => ?_, ?_, fun j hj hE v hv => ?_⟩
        (hop' ⟨pv, fun _ => F⟩ (opOk_rely ok st hkm ho (s := ⟨pv, fun _ => F⟩) (by simp) (fun j hj => keyLt _ j hj) hne hr)) hn
      · rcases List.mem_cons.1 he with rfl | he
        · exact ⟨by simp, hdk, fun v hv => by simpa using hv, fun us v w hw => by simpa using hw⟩
        · obtain ⟨h1, h2, h3, h4⟩ := st.ent e he
          simp only [if_neg (Nat.ne_of_lt h1)]
          exact ⟨by omega, h2, h3, h4⟩
      · rw [List.map_cons, List.nodup_cons]
        refine ⟨fun q => ?_, st.nodup⟩
        obtain ⟨e, he, q⟩ := List.mem_map.1 q
        have := (st.ent e he).1
        simp only at q
        omega
      · obtain ⟨h1, h2⟩ := st.facts x hx
        simp only [if_neg (Nat.ne_of_lt h1)]
        exact ⟨by omega, h2⟩
      · refine st.frame.congr (fun j => ?_) (fun _ _ => rfl)
        constructor
        · rintro ⟨h1, h2⟩
          have hjk : j ≠ k := fun q => h2 ⟨k, o.dst, pv, F⟩ (by simp) q.symm
          exact ⟨by omega, fun e he => h2 e (by simp [he])⟩
        · rintro ⟨h1, h2⟩
          refine ⟨by omega, fun e he => ?_⟩
          rcases List.mem_cons.1 he with rfl | he
          · simp only; omega
          · exact h2 e he
      · have hjk : j ≠ k := fun q => hE ⟨k, o.dst, pv, F⟩ (by simp) q.symm
        simp only [hjk, if_false] at hv
        exact st.known j (by omega) (fun e he => hE e (by simp [he])) v hv

/-- One walk serves every order: the first m operations by what they yield, the others as they stand. -/
theorem wp_region_rely {id : Nat} {l : List Oper} {Q : Exit → Act → World → Prop} {a : Act} {w : World} (m : Nat) (S : Nat → Prop) (wl : List Nat) (hm : P.follows .mixedOrders = true) (hB : Rely.okB l.toArray m = true)
    (h : wpRely P l.toArray w S wl (ancB (masks l.toArray l.toArray.size)) (fun a w => wpList P l.toArray Q (l.drop m) a w) (l.take m) 0 [] [] a (fun _ => undef)) : (Code.region id l.toArray true).wp P Q a w := by
  have ok := Rely.ok hB
  have hle := ok.le
  simp only [List.size_toArray] at hle
  obtain ⟨spec, hop, hend⟩ := rely_tab (P := P) ok (a0 := a) (l.take m) 0 [] [] a (fun _ => undef) (fun _ => ⟨fun _ => True, fun _ _ _ => True⟩) (fun j o hj => by
    rw [List.getElem?_take] at hj
    split at hj
    · simpa using hj
    · cases hj) (by rw [List.length_take]; omega)
    ⟨fun e he => absurd he (by simp), List.nodup_nil, fun x hx => absurd hx (by simp), (Filled.start (vs := fun _ => undef)).congr (fun j => by simp) (fun _ h => h.elim), fun j hj => absurd hj (by omega)⟩ (fun k hk => absurd hk (by omega)) h
  refine wp_region_any hm ?_
  have hex : ∀ j, ∃ v, j < m → (spec j).pv v := fun j => by
    by_cases hj : j < m
    · obtain ⟨v, hv⟩ := (hop j hj).1
      exact ⟨v, fun _ => hv⟩
    · exact ⟨undef, fun h => absurd h hj⟩
  obtain ⟨vs, hvs⟩ := Classical.axiomOfChoice hex
  refine any_order ok hop (fun vs hvs a w hf hk hfa => ?_) _ _ vs _ _ ?_ ⟨by simp, hvs, ?_, ?_, ⟨rfl, rfl, rfl, Nat.le_refl _, fun _ _ _ => rfl⟩, fun j hj => ?_, fun i hi => ?_, fun j hj hl => ?_⟩
  · have := hend vs hvs a w hf hk hfa
    have e := wpOps_eq_wpList (P := P) (ops := l.toArray) (Q := Q) (l.drop m) m (fun j => by rw [List.getElem?_drop]; simp)
    rw [List.length_drop] at e
    rw [List.size_toArray, e]
    exact this
  · unfold cnt
    rw [List.filter_eq_self.2 (fun j hj => by simp at hj; simp [hj])]
    simp
  · exact (Filled.start (vs := vs)).congr (fun j => by simp [Array.getElem?_replicate]; intro _; split <;> simp) (fun _ h => h.elim)
  · exact ⟨rfl, rfl, rfl, Nat.le_refl _, fun _ _ _ => rfl⟩
  · simp [Array.getElem?_replicate]; split <;> simp
  · exfalso; simp [Array.getElem?_replicate] at hi; split at hi <;> simp at hi
  · exfalso; simp [Array.getElem?_replicate] at hl; split at hl <;> simp at hl

attribute [go_sem] relyAt relyUpon

/-! ### Steps -/

theorem wpRely_step {W0 : World} {S : Nat → Prop} {wl : List Nat} {anc : Nat → Nat → Bool} {Q : Act → World → Prop} {o : Oper} {r : List Oper} {k : Nat} {E : List Ent} {H : List Fact} {a : Act} {u : Nat → Value}
    (h : ∀ K : List Ent → List Fact → Act → (Nat → Value) → Prop, (∀ E H a u, wpRely P ops W0 S wl anc Q r (k + 1) E H a u → K E H a u) →
      (∃ (v0 : Value) (F0 : (Nat → Value) → World → Prop), RelyOp P ops W0 S wl anc k o E H a u (fun u' => KnF v0 (F0 u')) ∧ K E ((k, F0) :: H) (a.put o.dst v0) (fun i => if i = k then v0 else u i)) ∨
      (fillE E H a u (fun _ a' _ => Region.wanted o (yielded ops a'.tmps) = false) ∧ K E H (a.put o.dst undef) (fun i => if i = k then undef else u i)) ∨
      (∃ (pv : Value → Prop) (F : Value → World → Prop), (∃ v, pv v) ∧ RelyOp P ops W0 S wl anc k o E H a u (fun _ => UnF pv F) ∧ K (⟨k, o.dst, pv, F⟩ :: E) H a u)) :
    wpRely P ops W0 S wl anc Q (o :: r) k E H a u := h _ (fun _ _ _ _ h => h)

theorem relyAt_value {o : Oper} {a : Act} {w : World} {u : Value} {T : Value → World → Prop} (h : (execOp a.eval o).run P w = .ok (.value u) w) (ht : T u w) : relyAt P o a w T := by
  unfold relyAt
  rw [h]
  exact ht
theorem relyAt_value' {o : Oper} {a : Act} {w w' : World} {u : Value} {T : Value → World → Prop} (h : (execOp a.eval o).run P w = .ok (.value u) w') (ht : T u w') : relyAt P o a w T := by
  unfold relyAt
  rw [h]
  exact ht
/-- A call that hands back one value and makes memory at most. -/
theorem rely_det {S : Nat → Prop} {u : Nat → Value} {f : FuncId} {args : Array Value} {w : World} {v0 : Value} (h : Calls P f args w fun e w' => e = .returned v0 ∧ Below w.heap.size w w') :
    Calls P f args w (EndsV (Post (KnF v0 (Any u)) S w)) := h.mono fun _ _ ⟨he, hb⟩ => ⟨v0, he, ⟨rfl, trivial⟩, Keeps.of_same hb⟩

theorem Keeps.rules {S : Nat → Prop} {w w' : World} (h : Keeps S w w') {B : Nat} (hB : B ≤ w.heap.size) (hS : ∀ b, b < B → ¬ S b) :
    (∀ b o, b < B → w'.cell? ⟨b, o, none⟩ = w.cell? ⟨b, o, none⟩) ∧ (∀ b o, b < B → w'.frozen? ⟨b, o, none⟩ = w.frozen? ⟨b, o, none⟩) :=
  ⟨fun b o hb => h.cell (p := ⟨b, o, none⟩) (Nat.lt_of_lt_of_le hb hB) (hS b hb), fun b o hb => h.frozen (p := ⟨b, o, none⟩) (Nat.lt_of_lt_of_le hb hB) (hS b hb)⟩
theorem Keeps.all {w w' : World} (h : Keeps nowhere w w') :
    (∀ b o, b < w.heap.size → w'.cell? ⟨b, o, none⟩ = w.cell? ⟨b, o, none⟩) ∧ (∀ b o, b < w.heap.size → w'.frozen? ⟨b, o, none⟩ = w.frozen? ⟨b, o, none⟩) :=
  h.rules (Nat.le_refl _) (fun _ _ h => h)
theorem Keeps.same {w w' : World} (h : Keeps nowhere w w') : Below w.heap.size w w' := h.below (Nat.le_refl _) (fun _ _ h => h)
theorem wpRely_nil {W0 : World} {S : Nat → Prop} {wl : List Nat} {anc : Nat → Nat → Bool} {Q : Act → World → Prop} {k : Nat} {E : List Ent} {H : List Fact} {a : Act} {u : Nat → Value}
    (h : fillE E H a u fun H' a' u' => ∀ w, Keeps S W0 w → Met W0 S (fun _ => true) (calmEnd wl anc) anc u' H' w → Q a' w) : wpRely P ops W0 S wl anc Q [] k E H a u := h
theorem FactAt.out {W0 : World} {c : Bool} {Φ : World → Prop} {w : World} (h : FactAt W0 nowhere c Φ w) : ∃ w0, Below W0.heap.size W0 w0 ∧ Below w0.heap.size w0 w ∧ Φ w0 := by
  obtain ⟨w0, k0, k1, hf⟩ := h
  exact ⟨w0, k0.same, (k1.mono (S' := nowhere) fun b h => h.2).same, hf⟩
end
end Go.Proofs.YtdogjdgfidbfhaaDoor

namespace Go.Proofs.YtdogjdgfidbfhaaDoor

/-- No error, or a bare Errno, which is not OK. -/
def errV (e : Int) : Value := if e = 0 then .nilIface else .iface 28 (.int .i64 e)

end Go.Proofs.YtdogjdgfidbfhaaDoor

namespace Go.Proofs.YtdogjdgfidbfhaaDoor
open Go.ChangeShapes Go.WideShapes Go.ChangeAt Go.RowKit Go.Deep

def flatFields (g : TypeId → Option (List IntKind)) : Nat → List Field → Option (List IntKind)
  | _, [] => some []
  | o, f :: r => if f.offset = o then
      match g f.type with
      | some K => (flatFields g (o + K.length) r).map (K ++ ·)
      | none => none
    else none

/-- The kinds of a type's cells, where it is built of integers alone. -/
def flatK (P : Program) : Nat → TypeId → Option (List IntKind)
  | 0, _ => none
  | n + 1, t =>
    match P.underlying t with
    | some (.int k) => some [k]
    | some (.array m e) =>
      match flatK P n e with
      | some K => if P.cellsOf e = K.length then some ((List.range (m * K.length)).map fun i => K.getD (i % K.length) .i64) else none
      | none => none
    | some (.struct fs) => flatFields (fun u => match flatK P n u with | some K => if P.cellsOf u = K.length then some K else none | none => none) 0 fs.toList
    | _ => none

def FlatAt (cs : List Value) (o : Nat) (K : List IntKind) : Prop := ∀ (i : Nat) (k : IntKind), K[i]? = some k → ∃ z, cs[o + i]? = some (.int k z) ∧ (Lit.int k z).wf = true

section
variable {H : Type} {enc : TypeId × Value → H} {P : Program} {w : World} {base : Nat} {spare : Nat → Bool} {held : Bool}

theorem flatFields_at {g : TypeId → Option (List IntKind)} {cs : List Value} : ∀ (fs : List Field) (o : Nat) (K : List IntKind), flatFields g o fs = some K →
    (∀ f ∈ fs, ∀ Kf, g f.type = some Kf → FlatAt cs f.offset Kf) → FlatAt cs o K
  | [], o, K, h, _ => by
    simp [flatFields] at h
    subst h
    intro i k hk
    simp at hk
  | f :: r, o, K, h, hall => by
    unfold flatFields at h
    by_cases ho : f.offset = o
    · rw [if_pos ho] at h
      cases hg : g f.type with
      | none => simp [hg] at h
      | some Kf =>
        simp only [hg, Option.map_eq_some_iff] at h
        obtain ⟨R, hR, rfl⟩ := h
        have h1 := hall f (by simp) Kf hg
        have h2 := flatFields_at r (o + Kf.length) R hR (fun f' hf' => hall f' (by simp [hf']))
        intro i k hk
        rw [List.getElem?_append] at hk
        by_cases hi : i < Kf.length
        · rw [if_pos hi] at hk
          rw [← ho]
          exact h1 i k hk
        · rw [if_neg hi] at hk
          have := h2 (i - Kf.length) k hk
          rwa [show o + Kf.length + (i - Kf.length) = o + i by omega] at this
    · rw [if_neg ho] at h
      cases h

theorem flatAt_chunk {cs : List Value} {o n : Nat} {K : List IntKind} (h : FlatAt ((cs.drop o).take n) 0 K) : FlatAt cs o K := by
  intro i k hk
  obtain ⟨z, hz, hw⟩ := h i k hk
  refine ⟨z, ?_, hw⟩
  rw [Nat.zero_add, List.getElem?_take] at hz
  split at hz
  · simpa [List.getElem?_drop] using hz
  · cases hz

theorem flat_trod : ∀ (n : Nat) {fuel : Nat} {t : TypeId} {cs : List Value} {x : DataW H × List MemPlace} {K : List IntKind}, flatK P n t = some K → DataW.trod enc P w base spare held fuel t cs = some x → FlatAt cs 0 K
  | 0, _, _, _, _, _, h, _ => by simp [flatK] at h
  | n + 1, fuel, t, cs, x, K, h, hx => by
    unfold flatK at h
    split at h
    · rename_i k hu
      obtain ⟨z, rfl, _, hw⟩ := DataW.trod_int hu hx
      cases h
      intro i k' hk
      cases i with
      | zero => simp at hk; subst hk; exact ⟨z, by simp, hw⟩
      | succ i => simp at hk
    · rename_i m e hu
      split at h
      · rename_i Ke hKe
        split at h
        · rename_i hC
          cases h
          obtain ⟨xs, f', _, _, hlen, hxs, hall⟩ := DataW.trod_array hu hx
          intro i k hk
          simp only [List.getElem?_map, Option.map_eq_some_iff] at hk
          obtain ⟨j, hj, rfl⟩ := hk
          obtain ⟨hjl, hij⟩ := List.getElem?_eq_some_iff.1 hj
          clear hj
          simp only [List.length_range] at hjl
          simp only [List.getElem_range] at hij
          subst hij
          have hpos : 0 < Ke.length := by
            rcases Nat.eq_zero_or_pos Ke.length with h0 | h0
            · rw [h0] at hjl; simp at hjl
            · exact h0
          have hq : i / Ke.length < m := Nat.div_lt_of_lt_mul (by rw [Nat.mul_comm]; exact hjl)
          have h1 := hall (i / Ke.length) hq
          rw [List.getElem?_eq_getElem (by omega)] at h1
          rw [hC] at h1
          have h2 := flatAt_chunk (flat_trod n hKe h1)
          have hlt : i % Ke.length < Ke.length := Nat.mod_lt _ hpos
          obtain ⟨z, hz, hw⟩ := h2 (i % Ke.length) (Ke.getD (i % Ke.length) .i64) (by rw [List.getD_eq_getElem?_getD, List.getElem?_eq_getElem hlt]; rfl)
          refine ⟨z, ?_, hw⟩
          rw [Nat.zero_add, ← hz, Nat.mul_comm, Nat.div_add_mod]
        · cases h
      · cases h
    · rename_i fs hu
      obtain ⟨xs, f', _, _, hlen, hxs, hall⟩ := DataW.trod_struct hu hx
      refine flatFields_at _ _ _ h ?_
      intro f hf Kf hKf
      obtain ⟨i, hi⟩ := List.getElem?_of_mem hf
      have h1 := hall i f (by simpa using hi)
      have hlt : i < fs.size := by
        have := (List.getElem?_eq_some_iff.1 hi).1
        simpa using this
      rw [List.getElem?_eq_getElem (by omega)] at h1
      cases hg : flatK P n f.type with
      | none => simp [hg] at hKf
      | some K2 =>
        simp only [hg] at hKf
        split at hKf
        · cases hKf
          exact flatAt_chunk (flat_trod n hg h1)
        · cases hKf
    · cases h

theorem okWide_array {r : Reach} {b0 m : Nat} {t e : TypeId} {v : Value} (ht : P.underlying t = some (.array m e)) (h : Value.okWide P w r b0 t v) : ∃ cs, v = .agg cs ∧ cs.size = P.cellsOf t := by
  simp only [Value.okWide, ht] at h
  obtain ⟨cs, h1, h2, _⟩ := h
  exact ⟨cs, h1, h2⟩

/-- The cells of kinds K with the numbers z. -/
def cellsK (K : List IntKind) (z : Nat → Int) : List Value := (List.range K.length).map fun i => .int (K.getD i .i64) (z i)

theorem flat_cells {cs : List Value} {K : List IntKind} (hlen : cs.length = K.length) (h : FlatAt cs 0 K) : ∃ z : Nat → Int, cs = cellsK K z ∧ ∀ i, i < K.length → (Lit.int (K.getD i .i64) (z i)).wf = true := by
  have h1 : ∀ i, ∃ z : Int, i < K.length → cs[i]? = some (.int (K.getD i .i64) z) ∧ (Lit.int (K.getD i .i64) z).wf = true := by
    intro i
    by_cases hi : i < K.length
    · obtain ⟨z, hz, hw⟩ := h i (K.getD i .i64) (by rw [List.getD_eq_getElem?_getD, List.getElem?_eq_getElem hi]; rfl)
      exact ⟨z, fun _ => ⟨by simpa using hz, hw⟩⟩
    · exact ⟨0, fun h => absurd h hi⟩
  refine ⟨fun i => (h1 i).choose, ?_, fun i hi => ((h1 i).choose_spec hi).2⟩
  apply List.ext_getElem?
  intro i
  by_cases hi : i < K.length
  · rw [((h1 i).choose_spec hi).1]
    simp [cellsK, hi]
  · rw [List.getElem?_eq_none (by omega), List.getElem?_eq_none (by simp [cellsK]; omega)]

/-- A struct or an array by value, built of integers alone. -/
theorem open_flat {r : Reach} {b0 : Nat} {t : TypeId} {v : Value} {d : DataW H} {p : List MemPlace} {K : List IntKind} (n : Nat) (hK : flatK P n t = some K) (hC : P.cellsOf t = K.length)
    (hu : (match P.underlying t with | some (.struct _) => true | some (.array _ _) => true | _ => false) = true)
    (hv : Value.okWide P w r b0 t v) (h : DataW.Trod enc P w base spare held t v d p) :
    ∃ z : Nat → Int, v = .agg (cellsK K z).toArray ∧ ∀ i, i < K.length → (Lit.int (K.getD i .i64) (z i)).wf = true := by
  obtain ⟨cs, rfl, hsz⟩ : ∃ cs, v = .agg cs ∧ cs.size = P.cellsOf t := by
    split at hu
    · rename_i fs he; exact okWide_struct he hv
    · rename_i m e he; exact okWide_array he hv
    · cases hu
  obtain ⟨f, hf⟩ := h
  obtain ⟨l⟩ := cs
  have hf' : DataW.trod enc P w base spare held f t l = some (d, p) := hf
  obtain ⟨z, hz, hw⟩ := flat_cells (by simpa [hC] using hsz) (flat_trod n hK hf')
  exact ⟨z, by rw [hz], hw⟩

theorem flatU (n : Nat) {z : Nat → Int} (h : ∀ i, i < (List.replicate n IntKind.u64).length → (Lit.int ((List.replicate n IntKind.u64).getD i .i64) (z i)).wf = true) :
    U64s (cellsK (List.replicate n .u64) z).toArray n z := by
  have hk : ∀ i, i < n → (List.replicate n IntKind.u64).getD i .i64 = .u64 := fun i hi => by simp [hi]
  refine ⟨by simp [cellsK], fun i hi => ?_, fun i hi => ?_⟩
  · simp [cellsK, hi]
  · have h1 := h i (by simpa using hi)
    rw [hk i hi] at h1
    have := bounds_u64 h1
    omega

/-- A slice of ints. -/
theorem open_slI {r : Reach} {b0 : Nat} {t e : TypeId} {v : Value} {d : DataW H} {p : List MemPlace} (ht : P.underlying t = some (.slice e)) (he : P.underlying e = some (.int .i64)) (hc : P.cellsOf e = 1)
    (hv : Value.okWide P w r b0 t v) (h : DataW.Trod enc P w base (fun _ => true) held t v d p) :
    ∃ A n c xs, v = .slice A n c ∧ SlI w A n c xs := by
  obtain ⟨A, n, c, rfl⟩ := okWide_slice ht hv
  obtain ⟨f, hf⟩ := h
  rcases open_ints ht he hc (show DataW.trod enc P w base (fun _ => true) held f t [.slice A n c] = some (d, p) from hf) with ⟨hcs, _⟩ | ⟨a, len, cap, zs, hcs, _, hl, hm, hz, hx, hcell, hwf⟩
  · simp only [List.cons.injEq, Value.slice.injEq, and_true] at hcs
    obtain ⟨rfl, rfl, rfl⟩ := hcs
    exact ⟨none, 0, 0, [], rfl, ⟨rfl, Nat.le_refl _, by omega, fun i => by simp, fun h => absurd h (by omega)⟩⟩
  · simp only [List.cons.injEq, Value.slice.injEq, and_true] at hcs
    obtain ⟨rfl, rfl, rfl⟩ := hcs
    simp only [if_true] at hz
    have hwf' : ∀ m ∈ zs.take n, (Lit.int .i64 m).wf = true := fun m hm' => hwf m (List.mem_of_mem_take hm')
    refine ⟨some a, n, c, zs.take n, rfl, ⟨by rw [List.length_take]; omega, hl, by unfold maxLen at hm; omega, fun i => range_i64 hwf' i, fun hn => ?_⟩⟩
    obtain ⟨b, off, rfl, hc'⟩ := ints_at hcell (by omega)
    refine ⟨b, off, rfl, ?_, fun i hi => ?_⟩
    · exact World.block_lt_of_cell? w _ (hc' 0 (by omega))
    · rw [hc' i (by omega), List.getElem?_take, if_pos hi, List.getD_eq_getElem?_getD]
end

end Go.Proofs.YtdogjdgfidbfhaaDoor

namespace Go.Proofs.YtdogjdgfidbfhaaDoor
open Go.ChangeShapes Go.WideShapes Go.ChangeAt Go.RowKit Go.Deep

/-- n elements of as many cells as K has, each an integer of its kind: cell j of element i is f i j. -/
structure SlF (K : List IntKind) (w : World) (A : Option Addr) (n c : Nat) (f : Nat → Nat → Int) : Prop where
  cap : n ≤ c
  cap63 : c ≤ 9223372036854775807
  wf : ∀ i j, i < n → j < K.length → (Lit.int (K.getD j .i64) (f i j)).wf = true
  at_ : 0 < n → ∃ b off, A = some ⟨b, off, none⟩ ∧ b < w.heap.size ∧ ∀ i j : Nat, i < n → j < K.length → w.cell? ⟨b, off + i * K.length + j, none⟩ = some (.int (K.getD j .i64) (f i j))
theorem SlF.below {K : List IntKind} {w w' : World} {A : Option Addr} {n c : Nat} {f : Nat → Nat → Int} (h : SlF K w A n c f) (hb : Below w.heap.size w w') : SlF K w' A n c f :=
  ⟨h.cap, h.cap63, h.wf, fun hn => by
    obtain ⟨b, off, rfl, hlt, hc⟩ := h.at_ hn
    exact ⟨b, off, rfl, Nat.lt_of_lt_of_le hlt hb.size, fun i j hi hj => (hb.cell (p := ⟨b, off + i * K.length + j, none⟩) hlt).trans (hc i j hi hj)⟩⟩

section
variable {H : Type} {enc : TypeId × Value → H} {P : Program} {w : World} {base : Nat} {held : Bool}

theorem open_slF {r : Reach} {b0 : Nat} {t e : TypeId} {v : Value} {d : DataW H} {p : List MemPlace} {K : List IntKind} (m : Nat) (ht : P.underlying t = some (.slice e)) (hK : flatK P m e = some K) (hC : P.cellsOf e = K.length) (hpos : 0 < K.length)
    (hv : Value.okWide P w r b0 t v) (h : DataW.Trod enc P w base (fun _ => true) held t v d p) :
    ∃ A n c f, v = .slice A n c ∧ SlF K w A n c f := by
  obtain ⟨A, n, c, rfl⟩ := okWide_slice ht hv
  obtain ⟨fu, hf⟩ := h
  rcases DataW.trod_slice ht (show DataW.trod enc P w base (fun _ => true) held fu t [.slice A n c] = some (d, p) from hf) with ⟨hcs, _⟩ | ⟨a, len, cap, elems, rest, n', _, hcs, _, hb, hl, hm, hlen, hel, _, _⟩
  · simp only [List.cons.injEq, Value.slice.injEq, and_true] at hcs
    obtain ⟨rfl, rfl, rfl⟩ := hcs
    exact ⟨none, 0, 0, fun _ _ => 0, rfl, ⟨Nat.le_refl _, by omega, fun i j hi => absurd hi (by omega), fun h => absurd h (by omega)⟩⟩
  · simp only [List.cons.injEq, Value.slice.injEq, and_true] at hcs
    obtain ⟨rfl, rfl, rfl⟩ := hcs
    have each : ∀ i, ∃ z : Nat → Int, i < n → ∀ j, j < K.length → w.cell? (a.add (i * K.length + j)) = some (.int (K.getD j .i64) (z j)) ∧ (Lit.int (K.getD j .i64) (z j)).wf = true := by
      intro i
      by_cases hi : i < n
      · have h1 := hel i hi
        rw [List.getElem?_eq_getElem (by omega), Option.bind_eq_some_iff] at h1
        obtain ⟨cs, hcells, htr⟩ := h1
        obtain ⟨_, hlen', hget⟩ := World.cells?_some hcells
        rw [hC] at hlen' hget
        obtain ⟨z, rfl, hwf⟩ := flat_cells hlen' (flat_trod m hK htr)
        refine ⟨z, fun _ j hj => ⟨?_, hwf j hj⟩⟩
        have := hget j hj
        rw [Addr.add_add] at this
        rw [this]
        simp [cellsK, hj]
      · exact ⟨fun _ => 0, fun h => absurd h hi⟩
    refine ⟨some a, n, c, fun i => (each i).choose, rfl, ⟨hl, by unfold maxLen at hm; omega, fun i j hi hj => (((each i).choose_spec hi) j hj).2, fun hn => ?_⟩⟩
    obtain ⟨b, off, hab⟩ : ∃ b off, a = ⟨b, off, none⟩ := by
      have h0 := (((each 0).choose_spec hn) 0 hpos).1
      obtain ⟨b, off, spot⟩ := a
      have hspot : spot = none := by simpa [Addr.add] using World.cell?_spot h0
      exact ⟨b, off, by rw [hspot]⟩
    subst hab
    refine ⟨b, off, rfl, ?_, fun i j hi hj => ?_⟩
    · have h0 := (((each 0).choose_spec hn) 0 hpos).1
      rw [Go.WideShapes.add_plain] at h0
      exact World.block_lt_of_cell? w _ h0
    · have h0 := (((each i).choose_spec hi) j hj).1
      rw [Go.WideShapes.add_plain] at h0
      rw [Nat.add_assoc]
      exact h0
end
end Go.Proofs.YtdogjdgfidbfhaaDoor

namespace Go.Proofs.YtdogjdgfidbfhaaDoor
open Go.RowKit

end Go.Proofs.YtdogjdgfidbfhaaDoor

namespace Go.Proofs.YtdogjdgfidbfhaaDoor
open Go.RowKit Go.Maps

section
variable {P : Program} {ops : Array Oper} {rest : List Oper} {a : Act} {w : World} {Q : Exit → Act → World → Prop} {ty' : TypeId} {pos : String} {af : Array Edge}
theorem fStore (ty : TypeId) {x y : Operand} (g : Nat) (cells : Array Value) (t : TypeId) (old : Array Value) (hx : a.eval x = .pointer (some ⟨g, 0, none⟩)) (hy : a.eval y = .agg cells)
    (hg : Blk w g t old) (hi : (P.info? ty).map (·.size) = some cells.size) (hold : old.size = cells.size) (h1 : cells.all (·.oneCell') = true)
    (h : wpList P ops Q rest a (w.setRow g cells)) : wpList P ops Q ({ dst := none, op := .store ty x y, type := ty', pos := pos, after := af, guard := none } :: rest) a w :=
  wpList_store_row rfl ty x y rfl g cells hx hy t old hg hi hold h1 h
theorem fLoad (ty : TypeId) {x : Operand} {d : Option Tmp} (g : Nat) (t : TypeId) (cs : Array Value) {dd : TypeDesc} (hx : a.eval x = .pointer (some ⟨g, 0, none⟩)) (hg : Blk w g t cs) (hu : P.underlying ty = some dd)
    (hd : (match dd with | .struct _ | .array _ _ => true | _ => false) = true) (hi : (P.info? ty).map (·.size) = some cs.size)
    (h : wpList P ops Q rest (a.put d (.agg cs)) w) : wpList P ops Q ({ dst := d, op := .load ty x, type := ty', pos := pos, after := af, guard := none } :: rest) a w :=
  wpList_load_row rfl ty x rfl g hx t cs (0, 0) dd hg hu hd hi h
theorem fLoadG (ty : TypeId) {x : Operand} {d : Option Tmp} {gd : Tmp × Bool} (g : Nat) (t : TypeId) (cs : Array Value) {dd : TypeDesc} (hx : a.eval x = .pointer (some ⟨g, 0, none⟩)) (hg : Blk w g t cs) (hu : P.underlying ty = some dd)
    (hd : (match dd with | .struct _ | .array _ _ => true | _ => false) = true) (hi : (P.info? ty).map (·.size) = some cs.size)
    (hw : Region.wanted { dst := d, op := .load ty x, type := ty', pos := pos, after := af, guard := some gd } (yielded ops a.tmps) = true)
    (h : wpList P ops Q rest (a.put d (.agg cs)) w) : wpList P ops Q ({ dst := d, op := .load ty x, type := ty', pos := pos, after := af, guard := some gd } :: rest) a w :=
  wpList_step fun K hK => by rw [if_pos hw]; exact wp_load_row ty x rfl g hx t cs (0, 0) dd hg hu hd hi (hK _ _ h)
theorem fMapUp {H : Type} {m x v : Operand} {d : Option Tmp} (t : TypeId) (k e : TypeId) (K : Keyed P k) (ht : P.underlying t = some (.map k e)) (R : Value → Option (DataW H × List MemPlace)) (b n : Nat) (D : DataW H)
    (key val : Value) (kl : Lit) (hm : a.eval m = .map (some b)) (hx : a.eval x = key) (hv : a.eval v = val) (hown : w.ownsMap P k R b n D) (hn : n < maxLen) (hkey : keyOf P k key = some kl)
    (dv : DataW H) (ps : List MemPlace) (hval : R val = some (dv, ps))
    (hK : ∀ w', w'.ownsMap P k R b (n + 1) (D.put kl dv) → w.grownBy w' (some b) → wpList P ops Q rest (a.put d undef) w') :
    wpList P ops Q ({ dst := d, op := .mapUpdate t m x v, type := ty', pos := pos, after := af, guard := none } :: rest) a w :=
  wpList_mapUpdate_own w rfl m x v t rfl k e K ht R b n D hm hown hn key val kl hx hv hkey dv ps hval hK
end
end Go.Proofs.YtdogjdgfidbfhaaDoor

namespace Go.Proofs.YtdogjdgfidbfhaaDoor
open Go.RowKit

def eqElems (d : Nat) (e : TypeId) (m : Nat) (X Y : Array Value) : List Nat → Sem Bool
  | [] => pure true
  | i :: r => do
    let a ← part e X (i * m)
    let b ← part e Y (i * m)
    let q ← Op.equalIn d e a b
    if (!q) = true then pure false else eqElems d e m X Y r

section
variable {P : Program} (w : World)

theorem run_equalIn_array (d n m : Nat) (t e : TypeId) (X Y : Array Value) (ht : P.underlying t = some (.array n e)) (hs : ∀ w : World, (sizeOf e).run P w = .ok m w) :
    (Op.equalIn (d + 1) t (.agg X) (.agg Y)).run P w = (eqElems d e m X Y (List.range n)).run P w := by
  simp only [Op.equalIn, Sem.run_bind, run_underlying ht, Result.andThen_ok, hs]
  rw [Std.Legacy.Range.forIn_eq_forIn_range']
  simp only [Std.Legacy.Range.size]
  rw [show List.range' 0 ((n - 0 + 1 - 1) / 1) 1 = List.range n by rw [List.range_eq_range']; simp]
  generalize List.range n = l
  clear ht
  induction l generalizing w with
  | nil => simp [eqElems]
  | cons i r ih =>
    simp only [List.forIn_cons, eqElems, Sem.run_bind, Sem.run_ite]
    generalize (part e X (i * m)).run P w = r1
    cases r1 with
    | ok a w1 =>
      simp only [Result.andThen_ok]
      generalize (part e Y (i * m)).run P w1 = r2
      cases r2 with
      | ok b w2 =>
        simp only [Result.andThen_ok]
        generalize (Op.equalIn d e a b).run P w2 = r3
        cases r3 with
        | ok q w3 =>
          cases q
          · simp only [Result.andThen_ok, Bool.not_false, if_true, Sem.run_pure]
          · simp only [Result.andThen_ok, Bool.not_true, Bool.false_eq_true, if_false, Sem.run_pure]
            exact ih w3
        | halt x w3 => simp [Result.andThen]
      | halt x w2 => simp [Result.andThen]
    | halt x w1 => simp [Result.andThen]

theorem run_part_int {e : TypeId} {k : IntKind} {X : Array Value} {i : Nat} {v : Value} (he : P.underlying e = some (.int k)) (h : X[i]? = some v) : (part e X i).run P w = .ok v w := by
  simp [part, isAgg, Sem.run_bind, run_underlying he, h]

theorem run_eqElems_int (d : Nat) {e : TypeId} {k : IntKind} {X Y : Array Value} {x y : Nat → Int} (he : P.underlying e = some (.int k)) :
    ∀ l : List Nat, (∀ i ∈ l, X[i]? = some (.int k (x i))) → (∀ i ∈ l, Y[i]? = some (.int k (y i))) → (eqElems (d + 1) e 1 X Y l).run P w = .ok (decide (∀ i ∈ l, x i = y i)) w
  | [], _, _ => by simp [eqElems]
  | i :: r, hX, hY => by
    have ih := run_eqElems_int d he r (fun j hj => hX j (by simp [hj])) (fun j hj => hY j (by simp [hj]))
    simp only [eqElems, Sem.run_bind, Nat.mul_one, run_part_int w he (hX i (by simp)), run_part_int w he (hY i (by simp)), Result.andThen_ok, run_equalIn_int (P := P) w d e k k _ _ he, Sem.run_ite]
    by_cases h : x i = y i
    · have e1 : (x i == y i) = true := by simpa using h
      rw [e1]
      simp only [Bool.not_true, Bool.false_eq_true, if_false, ih]
      simp [h]
    · have e1 : (x i == y i) = false := by simpa using h
      rw [e1]
      simp [h]

/-- Two arrays of integers. -/
theorem run_equalIn_ints (d n : Nat) {t e : TypeId} {k : IntKind} {X Y : Array Value} {x y : Nat → Int} (ht : P.underlying t = some (.array n e)) (he : P.underlying e = some (.int k)) (hs : ∀ w : World, (sizeOf e).run P w = .ok 1 w)
    (hX : ∀ i, i < n → X[i]? = some (.int k (x i))) (hY : ∀ i, i < n → Y[i]? = some (.int k (y i))) :
    (Op.equalIn (d + 2) t (.agg X) (.agg Y)).run P w = .ok (decide (∀ i, i < n → x i = y i)) w := by
  rw [run_equalIn_array w (d + 1) n 1 t e X Y ht hs, run_eqElems_int w d he (List.range n) (fun i hi => hX i (by simpa using hi)) (fun i hi => hY i (by simpa using hi))]
  congr 1
  simp
end

/-- A number told by a fact's type: where the fact stands for a number, the number itself is read. -/
def Tg (j : Int) : Prop := j = j
instance {j : Int} {h : Tg j} : CoeDep (Tg j) h Int := ⟨j⟩
instance {j : Int} {h : Tg j} : CoeDep (Tg j) h Value := ⟨.int .i64 j⟩
end Go.Proofs.YtdogjdgfidbfhaaDoor
