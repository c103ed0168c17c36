/-
  What gristmillref.same returns: for any two lists of words.
  What gristmillref.ThingOf returns: for any kind and any seventeen words.
  What gristmillref.ThingOf, Thing.Cells and object.Right return, at any kind.
-/
import Derived.Test.YtkoflhjnpilchaaDoorProg
import Derived.Test.YtkoflhjnpilchaaDoorMBase
import Derived.Test.YtkoflhjnpilchaaDoorMThing
import Derived.Test.YtkoflhjnpilchaaDoorMObjR
import Derived.Test.YtkoflhjnpilchaaDoorMWord
namespace Go.Proofs.YtkoflhjnpilchaaDoor
set_option linter.unusedSimpArgs false
set_option linter.unusedVariables false
set_option linter.unusedSectionVars false
open Go.RowKit
set_option linter.unusedSimpArgs false
set_option linter.unusedVariables false
attribute [local go_sem ↓] Go.wp_at_zero Go.wp_at_succ

end Go.Proofs.YtkoflhjnpilchaaDoor

namespace Go.Proofs.YtkoflhjnpilchaaDoor
set_option linter.unusedSimpArgs false
set_option linter.unusedVariables false
set_option linter.unusedSectionVars false
open Go.RowKit
set_option linter.unusedSimpArgs false
set_option linter.unusedVariables false
attribute [local go_sem ↓] Go.wp_at_zero Go.wp_at_succ

def tz (kind : Int) : Array Value := #[.int .i64 kind, .slice none 0 0, .int .i64 0, .int .i64 0, .int .i64 0, .int .i64 0, .int .i64 0, .int .i64 0, .int .i64 0, .int .i64 0, .int .i64 0, .int .i64 0, .int .i64 0, .int .i64 0, .int .i64 0, .int .i64 0, .int .i64 0, .int .i64 0, .int .i64 0]
theorem tz_build (kind : Int) (w : World) : (Instr.build 43 #[(0, .int .i64 kind)]).run Tryd.prog w = .ok (.agg (tz kind)) w := by kernel_rfl
theorem tz_thr (kind : Int) : ThR (tz kind) kind none 0 0 (fun _ => 0) 0 := ⟨rfl, rfl, rfl, fun i hi => by
  match i, hi with
  | 0, _ | 1, _ | 2, _ | 3, _ | 4, _ | 5, _ | 6, _ | 7, _ | 8, _ | 9, _ | 10, _ | 11, _ | 12, _ | 13, _ | 14, _ | 15, _ => rfl
  | i + 16, h => omega, rfl⟩
theorem infoTh : (Tryd.prog.info? 43).map (·.size) = some 19 := by kernel_rfl
/-- A thing's cells are each one cell. -/
theorem thr_one {C : Array Value} {kind : Int} {A : Option Addr} {n c : Nat} {d : Nat → Int} {N : Int} (h : ThR C kind A n c d N) : C.all (·.oneCell') = true := by
  rw [Array.all_eq_true]
  intro i hi
  have hs := h.size
  have key : ∀ v, C[i]? = some v → v.oneCell' = true → C[i].oneCell' = true := fun v e hv => by
    rw [Array.getElem?_eq_getElem hi] at e
    rw [Option.some.inj e]; exact hv
  by_cases h0 : i = 0
  · subst h0; exact key _ h.kind_ rfl
  by_cases h1 : i = 1
  · subst h1; exact key _ h.list rfl
  by_cases h2 : i < 18
  · have := h.slot (i - 2) (by omega)
    rw [show 2 + (i - 2) = i by omega] at this
    exact key _ this rfl
  · obtain rfl : i = 18 := by omega
    exact key _ h.num rfl

theorem ThR.setN {C : Array Value} {kind : Int} {A : Option Addr} {n c : Nat} {d : Nat → Int} {N : Int} (h : ThR C kind A n c d N) (N' : Int) : ThR (C.setIfInBounds 18 (.int .i64 N')) kind A n c d N' := by
  have hs := h.size
  refine ⟨by simp [hs], ?_, ?_, fun i hi => ?_, ?_⟩
  · rw [Array.getElem?_setIfInBounds, if_neg (by omega)]; exact h.kind_
  · rw [Array.getElem?_setIfInBounds, if_neg (by omega)]; exact h.list
  · rw [Array.getElem?_setIfInBounds, if_neg (by omega)]; exact h.slot i hi
  · rw [Array.getElem?_setIfInBounds, if_pos rfl, if_pos (by omega)]
theorem ThR.setL {C : Array Value} {kind : Int} {A : Option Addr} {n c : Nat} {d : Nat → Int} {N : Int} (h : ThR C kind A n c d N) (A' : Option Addr) (n' c' : Nat) : ThR (C.setIfInBounds 1 (.slice A' n' c')) kind A' n' c' d N := by
  have hs := h.size
  refine ⟨by simp [hs], ?_, ?_, fun i hi => ?_, ?_⟩
  · rw [Array.getElem?_setIfInBounds, if_neg (by omega)]; exact h.kind_
  · rw [Array.getElem?_setIfInBounds, if_pos rfl, if_pos (by omega)]
  · rw [Array.getElem?_setIfInBounds, if_neg (by omega)]; exact h.slot i hi
  · rw [Array.getElem?_setIfInBounds, if_neg (by omega)]; exact h.num
theorem ThR.setD {C : Array Value} {kind : Int} {A : Option Addr} {n c : Nat} {d : Nat → Int} {N : Int} (h : ThR C kind A n c d N) (j : Nat) (hj : j < 16) (x : Int) : ThR (C.setIfInBounds (2 + j) (.int .i64 x)) kind A n c (fun i => if i = j then x else d i) N := by
  have hs := h.size
  refine ⟨by simp [hs], ?_, ?_, fun i hi => ?_, ?_⟩
  · rw [Array.getElem?_setIfInBounds, if_neg (by omega)]; exact h.kind_
  · rw [Array.getElem?_setIfInBounds, if_neg (by omega)]; exact h.list
  · rw [Array.getElem?_setIfInBounds]
    by_cases e : i = j
    · subst e
      rw [if_pos rfl, if_pos (by omega), if_pos rfl]
    · rw [if_neg (by omega), if_neg e]
      exact h.slot i hi
  · rw [Array.getElem?_setIfInBounds, if_neg (by omega)]; exact h.num
theorem SlU.blk_lt {w : World} {A : Option Addr} {n c : Nat} {z : Nat → Int} (h : SlU w A n c z) (hn : 0 < n) : ∀ a, A = some a → a.block < w.heap.size := fun a ha => by
  obtain ⟨b, off, hA, hlt, _⟩ := h.at_ hn
  rw [ha] at hA
  cases hA
  exact hlt
/-- A slice whose cells another block's write does not touch. -/
theorem SlU.set_far {w : World} {A : Option Addr} {n c : Nat} {z : Nat → Int} (h : SlU w A n c z) {p : Addr} (hp : ∀ a, A = some a → a.block ≠ p.block) (u : Value) : SlU (w.setCell p u) A n c z :=
  ⟨h.cap, h.cap63, h.bd, fun hn => by
    obtain ⟨b, off, rfl, hlt, hc⟩ := h.at_ hn
    refine ⟨b, off, rfl, by simpa using hlt, fun i hi => ?_⟩
    rw [World.cell?_setCell_far _ _ _ _ (show p.block ≠ b from fun e => hp _ rfl e.symm)]
    exact hc i hi⟩
theorem tally_iff {z : Nat → Int} (h : ∀ i, i < 17 → z i ≤ 4294967295) : (∀ i, i < 17 → (if i = 0 then z 0 else 0) = z i) ↔ tallyOk z :=
  ⟨fun h1 => ⟨h 0 (by omega), fun i hi => (h1 i hi).symm⟩, fun h1 i hi => (h1.2 i hi).symm⟩
theorem slots_num {z : Nat → Int} (h0 : ∀ i, i < 17 → 0 ≤ z i) (h : slotsOk z) : ∀ i, i < 17 → z i ≤ 4294967295 := fun i hi => by
  obtain ⟨h1, h2, _⟩ := h
  rcases Nat.lt_or_ge i 16 with h16 | h16
  · have := h1 (i / 2) (by omega)
    unfold pairOk at this
    rcases Nat.mod_two_eq_zero_or_one i with e | e
    · rw [show 2 * (i / 2) = i by omega] at this; omega
    · rw [show 2 * (i / 2) + 1 = i by omega] at this; omega
  · obtain rfl : i = 16 := by omega
    omega
theorem slots_iff {z : Nat → Int} (h : ∀ i, i < 17 → z i ≤ 4294967295) (h0 : ∀ i, i < 17 → 0 ≤ z i) (hr : rightT z = true) : (∀ i, i < 17 → slotK 8 z i = z i) ↔ slotsOk z := by
  constructor
  · intro h1
    refine ⟨fun i hi => ?_, ?_, hr⟩
    · have := slot_bd hr hi
      unfold pairOk
      omega
    · have := h1 16 (by omega)
      unfold slotK at this
      rw [if_neg (by omega)] at this
      exact this.symm
  · rintro ⟨_, h16, _⟩ i hi
    unfold slotK
    by_cases e : i < 2 * 8
    · rw [if_pos e]
    · obtain rfl : i = 16 := by omega
      rw [if_neg e, h16]
theorem ThR.congr {C : Array Value} {kind : Int} {A : Option Addr} {n c : Nat} {d d' : Nat → Int} {N : Int} (h : ThR C kind A n c d N) (e : ∀ i, i < 16 → d' i = d i) : ThR C kind A n c d' N :=
  ⟨h.size, h.kind_, h.list, fun i hi => by rw [e i hi]; exact h.slot i hi, h.num⟩
theorem list_num {z : Nat → Int} (h0 : ∀ i, i < 17 → 0 ≤ z i) (h : listOk z) : ∀ i, i < 17 → z i ≤ 4294967295 := fun i hi => by
  rcases Nat.eq_zero_or_pos i with e | e
  · subst e; have := h.1; omega
  · have := (h.2 (i - 1) (by omega)).1
    rw [Nat.sub_add_cancel e] at this
    exact this
theorem list_iff {z : Nat → Int} {n : Nat} (h : ∀ i, i < 17 → z i ≤ 4294967295) (h0 : ∀ i, i < 17 → 0 ≤ z i) (hn : (z 0).toNat = n) (h6 : n ≤ 6) : (∀ i, i < 17 → listW n (zL z) i = z i) ↔ listOk z := by
  have hz0 : z 0 = n := by have := h0 0 (by omega); omega
  have e : ∀ i, i ≠ 0 → i ≤ n → listW n (zL z) i = z i := fun i h1 h2 => by
    unfold listW zL
    rw [if_neg h1, if_pos h2, hn, upL_get _ _ _ (by omega), Nat.sub_add_cancel (by omega)]
  have e2 : ∀ i, i ≠ 0 → ¬ i ≤ n → listW n (zL z) i = 0 := fun i h1 h2 => by unfold listW; rw [if_neg h1, if_neg h2]
  constructor
  · intro h1
    refine ⟨by omega, fun i hi => ⟨h _ (by omega), fun hni => ?_⟩⟩
    rw [hn] at hni
    rw [← h1 (i + 1) (by omega), e2 _ (by omega) (by omega)]
  · intro h1 i hi
    by_cases hi0 : i = 0
    · subst hi0; rw [hz0]; rfl
    · by_cases hin : i ≤ n
      · exact e i hi0 hin
      · rw [e2 i hi0 hin]
        have := (h1.2 (i - 1) (by omega)).2 (by rw [hn]; omega)
        rw [Nat.sub_add_cancel (by omega)] at this
        exact this.symm
theorem Own.lt' {w : World} {B : Nat} {A : Option Addr} {n c : Nat} {xs : List Int} (h : Own w B A n c xs) (hn : 0 < n) : ∀ a, A = some a → B ≤ a.block ∧ a.block < w.heap.size := fun a ha => by
  obtain ⟨g, hA, h1, h2, _⟩ := h.at_ hn
  rw [ha] at hA
  cases hA
  exact ⟨h1, h2⟩
theorem SlI.setRow {w : World} {A : Option Addr} {n c : Nat} {xs : List Int} (h : SlI w A n c xs) {g : Nat} (hp : 0 < n → ∀ a, A = some a → a.block ≠ g) (cs : Array Value) : SlI (w.setRow g cs) A n c xs :=
  ⟨h.len, h.cap, h.cap63, h.bd, fun hn => by
    obtain ⟨b, off, rfl, hlt, hc⟩ := h.at_ hn
    refine ⟨b, off, rfl, by simpa [World.setRow] using hlt, fun i hi => ?_⟩
    rw [← hc i hi]
    exact World.cell?_of_block (setRow_other w g b cs (by have h9 : b ≠ g := hp hn _ rfl; omega))⟩
/-- One number in a block of its own. -/
def IsS1 (x : Value) : Prop := ∃ g, x = .slice (some ⟨g, 0, none⟩) 1 1
def Is1 (t : TypeId) (v : Int) (x : Value) (w : World) : Prop := ∃ g, x = .slice (some ⟨g, 0, none⟩) 1 1 ∧ Blk w g t #[.int .i64 v]
theorem own_keeps {S : Nat → Prop} {w w' : World} {B : Nat} {A : Option Addr} {n c : Nat} {xs : List Int} (h : Own w B A n c xs) (hk : Keeps S w w') (hS : ∀ b, ¬ S b) : Own w' B A n c xs :=
  World.ownsRow.kept (row := none) h ⟨hk.os, hk.tape, hk.output, hk.size, fun k hlt _ => hk.block k hlt (hS k)⟩ (by
    by_cases ho : (Value.slice A n c).ownBlock = none
    · exact .inl ho
    · exact .inr ho)
def IsSn (n : Nat) (x : Value) : Prop := ∃ A c, x = .slice A n c
def IsOwn (B n : Nat) (xs : List Int) (x : Value) (w : World) : Prop := ∃ A c, x = .slice A n c ∧ Own w B A n c xs
/-- Seventeen words, wherever they lie. -/
def IsS17 (x : Value) : Prop := ∃ g, x = .slice (some ⟨g, 0, none⟩) 17 17
def Is17 (z : Nat → Int) (x : Value) (w : World) : Prop := ∃ g D, x = .slice (some ⟨g, 0, none⟩) 17 17 ∧ Blk w g 31 D ∧ U64s D 17 z
/-- A thing and whether it is one. -/
def ThingOut (b : Bool) (T : Array Value → World → Prop) (w : World) (e : Ending) (w' : World) : Prop :=
  Below w.heap.size w w' ∧ ∃ C, C.size = 19 ∧ C.all (·.oneCell') = true ∧ e = .returned (.tuple #[.agg C, .bool b]) ∧ (b = true → T C w')

end Go.Proofs.YtkoflhjnpilchaaDoor

namespace Go.Proofs.YtkoflhjnpilchaaDoor
set_option linter.unusedSimpArgs false
set_option linter.unusedVariables false
set_option linter.unusedSectionVars false
open Go.RowKit

/-- A thing's cells are the thing that the words z are. -/
def ThOk (kind : Int) (z : Nat → Int) (C : Array Value) (w : World) : Prop :=
  if kind = 5 then ThR C 5 none 0 0 z 0 else if kind = 6 then ThR C 6 none 0 0 (fun _ => 0) (z 0) else ∃ A c, ThR C kind A (z 0).toNat c (fun _ => 0) 0 ∧ SlI w A (z 0).toNat c (zL z)
theorem ThOk.below {kind : Int} {z : Nat → Int} {C : Array Value} {w w' : World} (h : ThOk kind z C w) (hb : Below w.heap.size w w') : ThOk kind z C w' := by
  unfold ThOk at h ⊢
  split
  · rename_i e; rwa [if_pos e] at h
  · rename_i e
    rw [if_neg e] at h
    split
    · rename_i e6; rwa [if_pos e6] at h
    · rename_i e6
      rw [if_neg e6] at h
      obtain ⟨A, c, h1, h2⟩ := h
      exact ⟨A, c, h1, h2.below hb⟩
theorem ThOk.size {kind : Int} {z : Nat → Int} {C : Array Value} {w : World} (h : ThOk kind z C w) : C.size = 19 := by
  unfold ThOk at h
  split at h
  · exact ThR.size h
  · split at h
    · exact ThR.size h
    · obtain ⟨A, c, h1, h2⟩ := h; exact h1.size
theorem ThOk.kind_ {kind : Int} {z : Nat → Int} {C : Array Value} {w : World} (h : ThOk kind z C w) : C[0]? = some (.int .i64 kind) := by
  unfold ThOk at h
  split at h
  · rename_i e; rw [e]; exact ThR.kind_ h
  · split at h
    · rename_i e; rw [e]; exact ThR.kind_ h
    · obtain ⟨A, c, h1, h2⟩ := h; exact h1.kind_
theorem ThOk.one {kind : Int} {z : Nat → Int} {C : Array Value} {w : World} (h : ThOk kind z C w) : C.all (·.oneCell') = true := by
  unfold ThOk at h
  split at h
  · exact thr_one h
  · split at h
    · exact thr_one h
    · obtain ⟨A, c, h1, h2⟩ := h; exact thr_one h1

/-- The same, and its list lies in block G or later. -/
def ThOkO (G : Nat) (kind : Int) (z : Nat → Int) (C : Array Value) (w : World) : Prop :=
  if kind = 5 then ThR C 5 none 0 0 z 0 else if kind = 6 then ThR C 6 none 0 0 (fun _ => 0) (z 0) else ∃ A c, ThR C kind A (z 0).toNat c (fun _ => 0) 0 ∧ SlO w G A (z 0).toNat c (zL z)
theorem ThOkO.weak {G : Nat} {kind : Int} {z : Nat → Int} {C : Array Value} {w : World} (h : ThOkO G kind z C w) : ThOk kind z C w := by
  unfold ThOkO at h
  unfold ThOk
  split
  · rename_i e; rwa [if_pos e] at h
  · rename_i e
    rw [if_neg e] at h
    split
    · rename_i e6; rwa [if_pos e6] at h
    · rename_i e6
      rw [if_neg e6] at h
      obtain ⟨A, c, h1, h2⟩ := h
      exact ⟨A, c, h1, h2.sli⟩
theorem ThOkO.keeps {G : Nat} {kind : Int} {z : Nat → Int} {C : Array Value} {w w' : World} {S : Nat → Prop} (h : ThOkO G kind z C w) (hk : Keeps S w w') (hS : ∀ b, G ≤ b → ¬ S b) : ThOkO G kind z C w' := by
  unfold ThOkO at h ⊢
  split
  · rename_i e; rwa [if_pos e] at h
  · rename_i e
    rw [if_neg e] at h
    split
    · rename_i e6; rwa [if_pos e6] at h
    · rename_i e6
      rw [if_neg e6] at h
      obtain ⟨A, c, h1, h2⟩ := h
      exact ⟨A, c, h1, h2.of_keeps hk hS⟩
theorem ThOkO.mono {G G' : Nat} {kind : Int} {z : Nat → Int} {C : Array Value} {w : World} (h : ThOkO G kind z C w) (hG : G' ≤ G) : ThOkO G' kind z C w := by
  unfold ThOkO at h ⊢
  split
  · rename_i e; rwa [if_pos e] at h
  · rename_i e
    rw [if_neg e] at h
    split
    · rename_i e6; rwa [if_pos e6] at h
    · rename_i e6
      rw [if_neg e6] at h
      obtain ⟨A, c, h1, h2⟩ := h
      exact ⟨A, c, h1, h2.mono hG⟩

/-- A right thing's words are those that it is of. -/
theorem cells_any (C : Array Value) (z : Nat → Int) (kind : Int) (w : World) (hw : ∀ i, i < 17 → 0 ≤ z i) (hz : thingOk kind z) (h : ThOk kind z C w) :
    Calls Tryd.prog 22 #[.agg C] w (CellsOut z w) := by
  have fit : ∀ {y : Nat → Int} {e : Ending} {w' : World}, (∀ i, i < 17 → y i = z i) → CellsOut y w e w' → CellsOut z w e w' := by
    rintro y e w' hy ⟨g, D, a1, a2, a3, a4, a5⟩
    exact ⟨g, D, a1, a2, a3.congr (fun i hi => (hy i hi).symm), a4, a5⟩
  unfold thingOk ThOk at *
  by_cases h5 : kind = 5
  · subst h5
    rw [if_pos rfl] at hz h
    have hn := slots_num hw hz
    exact (cells_table C none 0 0 z 0 w h (fun i hi => by have := hn i (by omega); have := hw i (by omega); omega)).mono fun e w' h' => fit ((slots_iff hn hw hz.2.2).2 hz) h'
  rw [if_neg h5] at hz h
  by_cases h6 : kind = 6
  · subst h6
    rw [if_pos rfl] at hz h
    have h1 := hz.1
    have h0 := hw 0 (by omega)
    exact (cells_tally C none 0 0 (fun _ => 0) (z 0) w h (by omega)).mono fun e w' h' => fit (fun i hi => (hz.2 i hi).symm) h'
  rw [if_neg h6] at hz h
  obtain ⟨A, c, hT, hS⟩ := h
  have hl : listOk z := by
    by_cases h4 : kind = 4
    · rw [if_pos h4] at hz; exact hz.1
    · rw [if_neg h4] at hz; exact hz.2.2
  have hn := list_num hw hl
  have h0 := hl.1
  have h00 := hw 0 (by omega)
  exact (cells_list C kind A (z 0).toNat c (zL z) (fun _ => 0) 0 w hT hS (by omega) (fun i hi => by unfold zL; rw [upL_get _ _ _ hi]; exact hw (i + 1) (by omega)) h5 h6).mono fun e w' h' => fit ((list_iff hn hw rfl (by omega)).2 hl) h'
end Go.Proofs.YtkoflhjnpilchaaDoor
