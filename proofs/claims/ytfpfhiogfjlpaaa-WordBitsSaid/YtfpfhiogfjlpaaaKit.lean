/-
  Small helpers for the walks of this family: cells behind a call that makes memory, results that are bools or numbers. No condition.
-/
import Derived.WalkKit
import Derived.Handy
import Derived.Lib.Hide
import Derived.Lib.SmallJoins
import Derived.WalkLawsBesides
import Derived.WalkSpells
import Derived.BigGuardPart
import Derived.BigQuiet
import Derived.Deep.QuietTactic
import Derived.Deep.RegionWith
import Derived.Deep.RegionHeld3
import Derived.Deep.RegionLaw
import Derived.Deep.DrawnRows
import Derived.Deep.LoopGhost
import Derived.Deep.DeepCutAuto
import Derived.Deep.DeepFit
import Derived.Deep.AppendLies
import Derived.Deep.OwnRows
import Derived.Laws.AppendOwnNone
import Derived.Laws.CopyOwn
import Derived.Maps.AppendAt
import Derived.Laws.EntriesVeiled
namespace Go.Proofs.Ytfpfhiogfjlpaaa
open Go.RowKit

theorem bcell {W w1 : World} {B : Nat} (hb : Below B W w1) : (∀ b o, b < B → w1.cell? ⟨b, o, none⟩ = W.cell? ⟨b, o, none⟩) ∧ (∀ b o, b < B → w1.frozen? ⟨b, o, none⟩ = W.frozen? ⟨b, o, none⟩) :=
  ⟨fun b o h => hb.cell (p := ⟨b, o, none⟩) h, fun b o h => hb.frozen (p := ⟨b, o, none⟩) h⟩
theorem below_drewN {B : Nat} {a w : World} (h : Below B a w) (n : Nat) : Below B a (w.drewN n) := ⟨h.os, h.tape, h.output, h.size, h.block⟩
theorem ret_bool {a b : Bool} (h : a = true ↔ b = true) : Ending.returned (.bool a) = .returned (.bool b) := by rw [Bool.eq_iff_iff.2 h]
theorem ret_int {k : IntKind} {a b : Int} (h : a = b) : Ending.returned (.int k a) = .returned (.int k b) := by rw [h]
theorem val_int {k : IntKind} {a b : Int} (h : a = b) : Value.int k a = .int k b := by rw [h]

/-- A slice of ints that reads as a list; nil let in. -/
structure SlI (w : World) (A : Option Addr) (n c : Nat) (xs : List Int) : Prop where
  len : xs.length = n
  cap : n ≤ c
  cap63 : c ≤ 9223372036854775807
  bd : ∀ i : Nat, -9223372036854775808 ≤ xs[i]?.getD 0 ∧ xs[i]?.getD 0 ≤ 9223372036854775807
  at_ : 0 < n → ∃ b off, A = some ⟨b, off, none⟩ ∧ b < w.heap.size ∧ ∀ i : Nat, i < n → w.cell? ⟨b, off + i, none⟩ = some (.int .i64 (xs[i]?.getD 0))

theorem SlI.below {w w' : World} {A : Option Addr} {n c : Nat} {xs : List Int} (h : SlI w A n c xs) (hb : Below w.heap.size w w') : SlI w' A n c xs :=
  ⟨h.len, h.cap, h.cap63, h.bd, fun hn => by
    obtain ⟨b, off, rfl, hlt, hc⟩ := h.at_ hn
    exact ⟨b, off, rfl, Nat.lt_of_lt_of_le hlt hb.size, fun i hi => (hb.cell (p := ⟨b, off + i, none⟩) hlt).trans (hc i hi)⟩⟩

/-- Block g is just the cells cs of element type t, none frozen. -/
def Blk (w : World) (g : Nat) (t : TypeId) (cs : Array Value) : Prop := w.heap[g]? = some (.cells cs t (0, 0))
section
variable {w w' : World} {g : Nat} {t : TypeId} {cs : Array Value}
theorem Blk.lt (h : Blk w g t cs) : g < w.heap.size := by
  rcases Nat.lt_or_ge g w.heap.size with hlt | hge
  · exact hlt
  · unfold Blk at h; rw [Array.getElem?_eq_none hge] at h; cases h
theorem Blk.cell (h : Blk w g t cs) (i : Nat) : w.cell? ⟨g, i, none⟩ = cs[i]? := cell_of_row w g i cs t (0, 0) h
theorem Blk.frozen (h : Blk w g t cs) (i : Nat) : w.frozen? ⟨g, i, none⟩ = false := by
  unfold Blk at h
  simp [World.frozen?, h]
theorem Blk.new (w : World) (t : TypeId) (cs : Array Value) : Blk (w.alloc (.cells cs t)) w.heap.size t cs := heap_alloc_new w _
theorem Blk.drew (h : Blk w g t cs) : Blk w.drew g t cs := h
theorem Blk.drewN (h : Blk w g t cs) (n : Nat) : Blk (w.drewN n) g t cs := h
theorem Blk.alloc (h : Blk w g t cs) (o : Obj) : Blk (w.alloc o) g t cs := (Below.heap_alloc w o g h.lt).trans h
theorem Blk.set_ (h : Blk w g t cs) (i : Nat) (u : Value) : Blk (w.setCell ⟨g, i, none⟩ u) g t (cs.setIfInBounds i u) := by
  unfold Blk at h ⊢
  simp [World.setCell, Array.getElem?_modify, h]
theorem Blk.far (h : Blk w g t cs) {p : Addr} (hp : g ≠ p.block) (u : Value) : Blk (w.setCell p u) g t cs := (Below.heap_setCell w p u g hp).trans h
theorem Blk.below {B : Nat} (h : Blk w g t cs) (hb : Below B w w') (hg : g < B) : Blk w' g t cs := (hb.block g hg).trans h
end

/-- A block of ints is a slice of ints. -/
theorem SlI.of_blk {w : World} {g t n c : Nat} {cs : Array Value} {xs : List Int} (h : Blk w g t cs) (hn : xs.length = n) (hc : n ≤ c) (h63 : c ≤ 9223372036854775807)
    (hcs : ∀ i : Nat, i < n → cs[i]? = some (.int .i64 (xs[i]?.getD 0))) (bd : ∀ i : Nat, -9223372036854775808 ≤ xs[i]?.getD 0 ∧ xs[i]?.getD 0 ≤ 9223372036854775807) :
    SlI w (some ⟨g, 0, none⟩) n c xs :=
  ⟨hn, hc, h63, bd, fun _ => ⟨g, 0, rfl, h.lt, fun i hi => by rw [Nat.zero_add, h.cell i]; exact hcs i hi⟩⟩

end Go.Proofs.Ytfpfhiogfjlpaaa
