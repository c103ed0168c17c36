/-
  What gristmillref.ThingOf, Thing.Cells and object.Right return, at any kind.
-/
import Derived.Test.YtahobohfknnhhaaThingO
namespace Go.Proofs.Ytahobohfknnhhaa
set_option linter.unusedSimpArgs false
set_option linter.unusedVariables false
set_option linter.unusedSectionVars false
open Go.RowKit

/-- A thing's cells are the thing that the words z are. -/
def ThOk (kind : Int) (z : Nat → Int) (C : Array Value) (w : World) : Prop :=
  if kind = 5 then ThR C 5 none 0 0 z 0 else if kind = 6 then ThR C 6 none 0 0 (fun _ => 0) (z 0) else ∃ A c, ThR C kind A (z 0).toNat c (fun _ => 0) 0 ∧ SlI w A (z 0).toNat c (zL z)
theorem ThOk.below {kind : Int} {z : Nat → Int} {C : Array Value} {w w' : World} (h : ThOk kind z C w) (hb : Below w.heap.size w w') : ThOk kind z C w' := by
  unfold ThOk at h ⊢
  split
  · rename_i e; rwa [if_pos e] at h
  · rename_i e
    rw [if_neg e] at h
    split
    · rename_i e6; rwa [if_pos e6] at h
    · rename_i e6
      rw [if_neg e6] at h
      obtain ⟨A, c, h1, h2⟩ := h
      exact ⟨A, c, h1, h2.below hb⟩
theorem ThOk.size {kind : Int} {z : Nat → Int} {C : Array Value} {w : World} (h : ThOk kind z C w) : C.size = 19 := by
  unfold ThOk at h
  split at h
  · exact ThR.size h
  · split at h
    · exact ThR.size h
    · obtain ⟨A, c, h1, h2⟩ := h; exact h1.size
theorem ThOk.kind_ {kind : Int} {z : Nat → Int} {C : Array Value} {w : World} (h : ThOk kind z C w) : C[0]? = some (.int .i64 kind) := by
  unfold ThOk at h
  split at h
  · rename_i e; rw [e]; exact ThR.kind_ h
  · split at h
    · rename_i e; rw [e]; exact ThR.kind_ h
    · obtain ⟨A, c, h1, h2⟩ := h; exact h1.kind_
theorem ThOk.one {kind : Int} {z : Nat → Int} {C : Array Value} {w : World} (h : ThOk kind z C w) : C.all (·.oneCell') = true := by
  unfold ThOk at h
  split at h
  · exact thr_one h
  · split at h
    · exact thr_one h
    · obtain ⟨A, c, h1, h2⟩ := h; exact thr_one h1

theorem thing_any (A : Option Addr) (c : Nat) (z : Nat → Int) (kind : Int) (b : Bool) (w : World) (h : SlU w A 17 c z) (hb : b = true ↔ thingOk kind z) :
    Calls Try.prog 5 #[.int .i64 kind, .slice A 17 c] w (ThingOut b (ThOk kind z) w) := by
  unfold thingOk at hb
  by_cases h5 : kind = 5
  · subst h5
    rw [if_pos rfl] at hb
    exact (thing_table A c z b w h hb).mono fun e w' ⟨hB, C, a1, a2, a3, a4⟩ => ⟨hB, C, a1, a2, a3, fun ht => by unfold ThOk; rw [if_pos rfl]; exact a4 ht⟩
  rw [if_neg h5] at hb
  by_cases h6 : kind = 6
  · subst h6
    rw [if_pos rfl] at hb
    exact (thing_tally A c z b w h hb).mono fun e w' ⟨hB, C, a1, a2, a3, a4⟩ => ⟨hB, C, a1, a2, a3, fun ht => by unfold ThOk; rw [if_neg (by decide), if_pos rfl]; exact a4 ht⟩
  rw [if_neg h6] at hb
  by_cases h4 : kind = 4
  · subst h4
    rw [if_pos rfl] at hb
    exact (thing_heap A c z b w h hb).mono fun e w' ⟨hB, C, a1, a2, a3, a4⟩ => ⟨hB, C, a1, a2, a3, fun ht => by unfold ThOk; rw [if_neg (by decide), if_neg (by decide)]; exact a4 ht⟩
  rw [if_neg h4] at hb
  by_cases hk : 1 ≤ kind ∧ kind ≤ 3
  · have hb' : b = true ↔ listOk z := hb.trans ⟨fun h => h.2.2, fun h => ⟨hk.1, hk.2, h⟩⟩
    exact (thing_list A c z kind (by omega) b w h hb').mono fun e w' ⟨hB, C, a1, a2, a3, a4⟩ => ⟨hB, C, a1, a2, a3, fun ht => by unfold ThOk; rw [if_neg h5, if_neg h6]; exact a4 ht⟩
  · obtain rfl : b = false := by
      rw [Bool.eq_false_iff]
      intro ht
      have := hb.1 ht
      exact hk ⟨this.1, this.2.1⟩
    exact (thing_none A c z kind w h (by omega)).mono fun e w' ⟨hB, C, a1, a2, a3, a4⟩ => ⟨hB, C, a1, a2, a3, fun ht => Bool.noConfusion ht⟩

theorem objRight_any (C : Array Value) (z : Nat → Int) (kind : Int) (r : Bool) (w : World) (h : U64s C 17 z) (hr : r = true ↔ thingOk kind z) :
    Calls Try.prog 6 #[.int .i64 kind, .agg C] w fun e w' => e = .returned (.bool r) ∧ Below w.heap.size w w' := by
  unfold thingOk at hr
  have fit : ∀ {P : Prop} {e : Ending} {w' : World}, (r = true ↔ P) → (∃ b, e = .returned (.bool b) ∧ (b = true ↔ P) ∧ Below w.heap.size w w') → e = .returned (.bool r) ∧ Below w.heap.size w w' := by
    rintro P e w' hP ⟨b, rfl, hb, hB⟩
    obtain rfl : b = r := by rw [Bool.eq_iff_iff, hb, hP]
    exact ⟨rfl, hB⟩
  by_cases h5 : kind = 5
  · subst h5
    rw [if_pos rfl] at hr
    exact (right_table C z w h).mono fun e w' h' => fit hr h'
  rw [if_neg h5] at hr
  by_cases h6 : kind = 6
  · subst h6
    rw [if_pos rfl] at hr
    exact right_tally C z r w h hr
  rw [if_neg h6] at hr
  by_cases h4 : kind = 4
  · subst h4
    rw [if_pos rfl] at hr
    exact (right_heap C z w h).mono fun e w' h' => fit hr h'
  rw [if_neg h4] at hr
  by_cases hk : 1 ≤ kind ∧ kind ≤ 3
  · have hr' : r = true ↔ listOk z := hr.trans ⟨fun h => h.2.2, fun h => ⟨hk.1, hk.2, h⟩⟩
    exact (right_list C z kind w h (by omega)).mono fun e w' h' => fit hr' h'
  · obtain rfl : r = false := by
      rw [Bool.eq_false_iff]
      intro ht
      have := hr.1 ht
      exact hk ⟨this.1, this.2.1⟩
    exact right_none C kind w (by omega)

/-- A right thing's words are those that it is of. -/
theorem cells_any (C : Array Value) (z : Nat → Int) (kind : Int) (w : World) (hw : ∀ i, i < 17 → 0 ≤ z i) (hz : thingOk kind z) (h : ThOk kind z C w) :
    Calls Try.prog 13 #[.agg C] w (CellsOut z w) := by
  have fit : ∀ {y : Nat → Int} {e : Ending} {w' : World}, (∀ i, i < 17 → y i = z i) → CellsOut y w e w' → CellsOut z w e w' := by
    rintro y e w' hy ⟨g, D, a1, a2, a3, a4, a5⟩
    exact ⟨g, D, a1, a2, a3.congr (fun i hi => (hy i hi).symm), a4, a5⟩
  unfold thingOk ThOk at *
  by_cases h5 : kind = 5
  · subst h5
    rw [if_pos rfl] at hz h
    have hn := slots_num hw hz
    exact (cells_table C none 0 0 z 0 w h (fun i hi => by have := hn i (by omega); have := hw i (by omega); omega)).mono fun e w' h' => fit ((slots_iff hn hw hz.2.2).2 hz) h'
  rw [if_neg h5] at hz h
  by_cases h6 : kind = 6
  · subst h6
    rw [if_pos rfl] at hz h
    have h1 := hz.1
    have h0 := hw 0 (by omega)
    exact (cells_tally C none 0 0 (fun _ => 0) (z 0) w h (by omega)).mono fun e w' h' => fit (fun i hi => (hz.2 i hi).symm) h'
  rw [if_neg h6] at hz h
  obtain ⟨A, c, hT, hS⟩ := h
  have hl : listOk z := by
    by_cases h4 : kind = 4
    · rw [if_pos h4] at hz; exact hz.1
    · rw [if_neg h4] at hz; exact hz.2.2
  have hn := list_num hw hl
  have h0 := hl.1
  have h00 := hw 0 (by omega)
  exact (cells_list C kind A (z 0).toNat c (zL z) (fun _ => 0) 0 w hT hS (by omega) (fun i hi => by unfold zL; rw [upL_get _ _ _ hi]; exact hw (i + 1) (by omega)) h5 h6).mono fun e w' h' => fit ((list_iff hn hw rfl (by omega)).2 hl) h'
end Go.Proofs.Ytahobohfknnhhaa
