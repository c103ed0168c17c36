/-
  Small helpers for the walks of this family: cells behind a call that makes memory, results that are bools or numbers. No condition.
-/
import Derived.WalkKit
import Derived.Handy
import Derived.Lib.Hide
import Derived.Lib.SmallJoins
import Derived.WalkLawsBesides
import Derived.WalkSpells
import Derived.BigGuardPart
import Derived.BigQuiet
import Derived.Deep.QuietTactic
import Derived.Deep.RegionWith
import Derived.Deep.RegionHeld3
import Derived.Deep.RegionLaw
import Derived.Deep.DrawnRows
import Derived.Deep.LoopGhost
import Derived.Deep.DeepCutAuto
import Derived.Deep.DeepFit
import Derived.Deep.AppendLies
import Derived.Deep.OwnRows
import Derived.Laws.AppendOwnNone
import Derived.Laws.CopyOwn
import Derived.Maps.AppendAt
import Derived.Laws.EntriesVeiled
import Derived.Deep.MidRow
namespace Go.Proofs.Ytahobohfknnhhaa
set_option linter.unusedSimpArgs false
set_option linter.unusedVariables false
set_option linter.unusedSectionVars false
open Go.RowKit

theorem bcell {W w1 : World} {B : Nat} (hb : Below B W w1) : (∀ b o, b < B → w1.cell? ⟨b, o, none⟩ = W.cell? ⟨b, o, none⟩) ∧ (∀ b o, b < B → w1.frozen? ⟨b, o, none⟩ = W.frozen? ⟨b, o, none⟩) :=
  ⟨fun b o h => hb.cell (p := ⟨b, o, none⟩) h, fun b o h => hb.frozen (p := ⟨b, o, none⟩) h⟩
theorem below_drewN {B : Nat} {a w : World} (h : Below B a w) (n : Nat) : Below B a (w.drewN n) := ⟨h.os, h.tape, h.output, h.size, h.block⟩
theorem ret_bool {a b : Bool} (h : a = true ↔ b = true) : Ending.returned (.bool a) = .returned (.bool b) := by rw [Bool.eq_iff_iff.2 h]
theorem ret_int {k : IntKind} {a b : Int} (h : a = b) : Ending.returned (.int k a) = .returned (.int k b) := by rw [h]
theorem val_int {k : IntKind} {a b : Int} (h : a = b) : Value.int k a = .int k b := by rw [h]

/-- A slice of ints that reads as a list; nil let in. -/
structure SlI (w : World) (A : Option Addr) (n c : Nat) (xs : List Int) : Prop where
  len : xs.length = n
  cap : n ≤ c
  cap63 : c ≤ 9223372036854775807
  bd : ∀ i : Nat, -9223372036854775808 ≤ xs[i]?.getD 0 ∧ xs[i]?.getD 0 ≤ 9223372036854775807
  at_ : 0 < n → ∃ b off, A = some ⟨b, off, none⟩ ∧ b < w.heap.size ∧ ∀ i : Nat, i < n → w.cell? ⟨b, off + i, none⟩ = some (.int .i64 (xs[i]?.getD 0))

theorem SlI.below {w w' : World} {A : Option Addr} {n c : Nat} {xs : List Int} (h : SlI w A n c xs) (hb : Below w.heap.size w w') : SlI w' A n c xs :=
  ⟨h.len, h.cap, h.cap63, h.bd, fun hn => by
    obtain ⟨b, off, rfl, hlt, hc⟩ := h.at_ hn
    exact ⟨b, off, rfl, Nat.lt_of_lt_of_le hlt hb.size, fun i hi => (hb.cell (p := ⟨b, off + i, none⟩) hlt).trans (hc i hi)⟩⟩

/-- Block g is just the cells cs of element type t, none frozen. -/
def Blk (w : World) (g : Nat) (t : TypeId) (cs : Array Value) : Prop := w.heap[g]? = some (.cells cs t (0, 0))
section
variable {w w' : World} {g : Nat} {t : TypeId} {cs : Array Value}
theorem Blk.lt (h : Blk w g t cs) : g < w.heap.size := by
  rcases Nat.lt_or_ge g w.heap.size with hlt | hge
  · exact hlt
  · unfold Blk at h; rw [Array.getElem?_eq_none hge] at h; cases h
theorem Blk.cell (h : Blk w g t cs) (i : Nat) : w.cell? ⟨g, i, none⟩ = cs[i]? := cell_of_row w g i cs t (0, 0) h
theorem Blk.frozen (h : Blk w g t cs) (i : Nat) : w.frozen? ⟨g, i, none⟩ = false := by
  unfold Blk at h
  simp [World.frozen?, h]
theorem Blk.new (w : World) (t : TypeId) (cs : Array Value) : Blk (w.alloc (.cells cs t)) w.heap.size t cs := heap_alloc_new w _
theorem Blk.newAt (w : World) (t : TypeId) (cs : Array Value) {n : Nat} (hn : n = w.heap.size) : Blk (w.alloc (.cells cs t)) n t cs := by subst hn; exact Blk.new w t cs
theorem Blk.drew (h : Blk w g t cs) : Blk w.drew g t cs := h
theorem Blk.drewN (h : Blk w g t cs) (n : Nat) : Blk (w.drewN n) g t cs := h
theorem Blk.alloc (h : Blk w g t cs) (o : Obj) : Blk (w.alloc o) g t cs := (Below.heap_alloc w o g h.lt).trans h
theorem Blk.set_ (h : Blk w g t cs) (i : Nat) (u : Value) : Blk (w.setCell ⟨g, i, none⟩ u) g t (cs.setIfInBounds i u) := by
  unfold Blk at h ⊢
  simp [World.setCell, Array.getElem?_modify, h]
theorem Blk.far (h : Blk w g t cs) {p : Addr} (hp : g ≠ p.block) (u : Value) : Blk (w.setCell p u) g t cs := (Below.heap_setCell w p u g hp).trans h
theorem Blk.below {B : Nat} (h : Blk w g t cs) (hb : Below B w w') (hg : g < B) : Blk w' g t cs := (hb.block g hg).trans h
end

theorem below_setRow {B : Nat} {a w : World} {g : Nat} (h : Below B a w) (hg : B ≤ g) (cs : Array Value) : Below B a (w.setRow g cs) :=
  h.trans ⟨rfl, rfl, rfl, by simp [World.setRow], fun k hk => setRow_other w g k cs (by omega)⟩
theorem Blk.setRow {w : World} {g : Nat} {t : TypeId} {cs : Array Value} (h : Blk w g t cs) (cs' : Array Value) : Blk (w.setRow g cs') g t cs' := setRow_heap w g cs cs' t (0, 0) h

theorem Blk.rt {w : World} {g n : Nat} {t : TypeId} {cs : Array Value} (h : Blk w g t cs) (hn : cs.size = n) : w.rangeAt g 0 cs.toList ∧ w.there g 0 n :=
  ⟨fun j v hv => by rw [Nat.zero_add, h.cell]; simpa using hv, fun j hj => ⟨by rw [Nat.zero_add, h.cell, Array.getElem?_eq_getElem (by omega)]; rfl, by rw [Nat.zero_add]; exact h.frozen j⟩⟩

/-- n words, z. -/
structure U64s (C : Array Value) (n : Nat) (z : Nat → Int) : Prop where
  size : C.size = n
  get : ∀ i, i < n → C[i]? = some (.int .u64 (z i))
  bd : ∀ i, i < n → 0 ≤ z i ∧ z i < 18446744073709551616
theorem U64s.one {C : Array Value} {n : Nat} {z : Nat → Int} (h : U64s C n z) : C.all (·.oneCell') = true := by
  rw [Array.all_eq_true]
  intro i hi
  have e := h.get i (by rw [← h.size]; exact hi)
  rw [Array.getElem?_eq_getElem hi] at e
  rw [Option.some.inj e]
  rfl
theorem U64s.cut {C : Array Value} {n : Nat} {z : Nat → Int} (h : U64s C n z) (o m : Nat) (hm : o + m ≤ n) : U64s (C.extract o (o + m)) m (fun i => z (o + i)) :=
  ⟨by simp [h.size]; omega, fun i hi => by
    have e2 := h.get (o + i) (by omega)
    have hs := h.size
    rw [Array.getElem?_extract]
    rw [if_pos (by omega)]
    exact e2, fun i hi => h.bd (o + i) (by omega)⟩
theorem U64s.congr {C : Array Value} {n : Nat} {z z' : Nat → Int} (h : U64s C n z) (e : ∀ i, i < n → z' i = z i) : U64s C n z' :=
  ⟨h.size, fun i hi => by rw [e i hi]; exact h.get i hi, fun i hi => by rw [e i hi]; exact h.bd i hi⟩
theorem U64s.set_ {C : Array Value} {n k : Nat} {z : Nat → Int} (h : U64s C n z) {v : Int} (hv : 0 ≤ v ∧ v < 18446744073709551616) : U64s (C.setIfInBounds k (.int .u64 v)) n (fun i => if i = k then v else z i) :=
  ⟨by simp [h.size], fun i hi => by
    rw [Array.getElem?_setIfInBounds]
    by_cases hk : k = i
    · subst hk
      rw [if_pos rfl, if_pos (by rw [h.size]; exact hi), if_pos rfl]
    · rw [if_neg hk, if_neg (fun e => hk e.symm)]
      exact h.get i hi, fun i hi => by
    by_cases hk : i = k
    · rw [if_pos hk]; exact hv
    · rw [if_neg hk]; exact h.bd i hi⟩
theorem U64s.zero (n : Nat) : U64s (Array.replicate n (.int .u64 0)) n (fun _ => 0) :=
  ⟨by simp, fun i hi => by simp [hi], fun _ _ => by decide⟩

/-- A slice of words that reads as z. -/
structure SlU (w : World) (A : Option Addr) (n c : Nat) (z : Nat → Int) : Prop where
  cap : n ≤ c
  cap63 : c ≤ 9223372036854775807
  bd : ∀ i, i < n → 0 ≤ z i ∧ z i < 18446744073709551616
  at_ : 0 < n → ∃ b off, A = some ⟨b, off, none⟩ ∧ b < w.heap.size ∧ ∀ i : Nat, i < n → w.cell? ⟨b, off + i, none⟩ = some (.int .u64 (z i))
theorem SlU.below {w w' : World} {A : Option Addr} {n c : Nat} {z : Nat → Int} (h : SlU w A n c z) (hb : Below w.heap.size w w') : SlU w' A n c z :=
  ⟨h.cap, h.cap63, h.bd, fun hn => by
    obtain ⟨b, off, rfl, hlt, hc⟩ := h.at_ hn
    exact ⟨b, off, rfl, Nat.lt_of_lt_of_le hlt hb.size, fun i hi => (hb.cell (p := ⟨b, off + i, none⟩) hlt).trans (hc i hi)⟩⟩
theorem SlU.of_blk {w : World} {g t o n c m : Nat} {C : Array Value} {z : Nat → Int} (h : Blk w g t C) (hz : U64s C m z) (hm : o + n ≤ m) (hc : n ≤ c) (h63 : c ≤ 9223372036854775807) :
    SlU w (some ⟨g, o, none⟩) n c (fun i => z (o + i)) :=
  ⟨hc, h63, fun i hi => hz.bd (o + i) (by omega), fun _ => ⟨g, o, rfl, h.lt, fun i hi => by rw [h.cell]; exact hz.get (o + i) (by omega)⟩⟩

theorem U64s.ext {C D : Array Value} {n : Nat} {z : Nat → Int} (h : U64s C n z) (k : U64s D n z) : C = D := by
  apply Array.ext_getElem?
  intro i
  by_cases hi : i < n
  · rw [h.get i hi, k.get i hi]
  · rw [Array.getElem?_eq_none (by rw [h.size]; omega), Array.getElem?_eq_none (by rw [k.size]; omega)]

/-- A block of ints is a slice of ints. -/
theorem SlI.of_blk {w : World} {g t n c : Nat} {cs : Array Value} {xs : List Int} (h : Blk w g t cs) (hn : xs.length = n) (hc : n ≤ c) (h63 : c ≤ 9223372036854775807)
    (hcs : ∀ i : Nat, i < n → cs[i]? = some (.int .i64 (xs[i]?.getD 0))) (bd : ∀ i : Nat, -9223372036854775808 ≤ xs[i]?.getD 0 ∧ xs[i]?.getD 0 ≤ 9223372036854775807) :
    SlI w (some ⟨g, 0, none⟩) n c xs :=
  ⟨hn, hc, h63, bd, fun _ => ⟨g, 0, rfl, h.lt, fun i hi => by rw [Nat.zero_add, h.cell i]; exact hcs i hi⟩⟩

/-- A region that draws its order, whose operations yield one value in every world that keeps what was there ('Below'): one walk, in the order of the text. -/
theorem wp_region_below {P : Program} {id : Nat} {Q : Exit → Act → World → Prop} {a : Act} {w : World} {l : List Oper} (hm : P.follows .mixedOrders = true) (hB : Region.lexB .any l.toArray = true)
    (h : wpQuiet P l.toArray (fun w' => Below w.heap.size w w') (fun a' => ∀ w', Below w.heap.size w w' → Q .normal a' w') l a) : (Code.region id l.toArray true).wp P Q a w :=
  wp_region_quiet (C := fun w' => Below w.heap.size w w') hm hB (Below.drew (Below.refl _ _)) (by simpa using h)
theorem ite_yes {c a b : Prop} [Decidable c] (h : c) (ha : a) : if c then a else b := by rw [if_pos h]; exact ha
theorem ite_no {c a b : Prop} [Decidable c] (h : ¬ c) (hb : b) : if c then a else b := by rw [if_neg h]; exact hb
/-- A load of a whole row. -/
theorem quietAt_load_row {P : Program} {o : Oper} {a : Act} {C : World → Prop} {w : World} (ty : TypeId) (x : Operand) (ho : o.op = .load ty x) (g : Nat) (hx : a.eval x = .pointer (some ⟨g, 0, none⟩))
    (t : TypeId) (cs : Array Value) (d : TypeDesc) (hg : Blk w g t cs) (hu : P.underlying ty = some d) (hd : (match d with | .struct _ | .array _ _ => true | _ => false) = true) (hi : (P.info? ty).map (·.size) = some cs.size) :
    o.quietAt P a C w (.agg cs) := by
  unfold Oper.quietAt execOp
  simp only [ho, hx, Instr.loadAt, Instr.sureAddr, Sem.run_bind, Sem.run_pure, Result.andThen_ok, run_loadVar_row w g t ty cs (0, 0) d hg hu hd hi, Oper.quietUpon]
  exact ⟨trivial, trivial⟩

end Go.Proofs.Ytahobohfknnhhaa
