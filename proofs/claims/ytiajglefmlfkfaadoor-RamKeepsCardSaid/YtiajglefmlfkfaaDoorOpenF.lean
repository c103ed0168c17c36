/-
  A slice of structs (or arrays) of integers, opened: its cells, each an integer of its kind.
-/
import Derived.Test.YtiajglefmlfkfaaDoorOpen
namespace Go.Proofs.YtiajglefmlfkfaaDoor
open Go.ChangeShapes Go.WideShapes Go.ChangeAt Go.RowKit Go.Deep

/-- n elements of as many cells as K has, each an integer of its kind: cell j of element i is f i j. -/
structure SlF (K : List IntKind) (w : World) (A : Option Addr) (n c : Nat) (f : Nat → Nat → Int) : Prop where
  cap : n ≤ c
  cap63 : c ≤ 9223372036854775807
  wf : ∀ i j, i < n → j < K.length → (Lit.int (K.getD j .i64) (f i j)).wf = true
  at_ : 0 < n → ∃ b off, A = some ⟨b, off, none⟩ ∧ b < w.heap.size ∧ ∀ i j : Nat, i < n → j < K.length → w.cell? ⟨b, off + i * K.length + j, none⟩ = some (.int (K.getD j .i64) (f i j))
theorem SlF.below {K : List IntKind} {w w' : World} {A : Option Addr} {n c : Nat} {f : Nat → Nat → Int} (h : SlF K w A n c f) (hb : Below w.heap.size w w') : SlF K w' A n c f :=
  ⟨h.cap, h.cap63, h.wf, fun hn => by
    obtain ⟨b, off, rfl, hlt, hc⟩ := h.at_ hn
    exact ⟨b, off, rfl, Nat.lt_of_lt_of_le hlt hb.size, fun i j hi hj => (hb.cell (p := ⟨b, off + i * K.length + j, none⟩) hlt).trans (hc i j hi hj)⟩⟩

section
variable {H : Type} {enc : TypeId × Value → H} {P : Program} {w : World} {base : Nat} {held : Bool}

theorem open_slF {r : Reach} {b0 : Nat} {t e : TypeId} {v : Value} {d : DataW H} {p : List MemPlace} {K : List IntKind} (m : Nat) (ht : P.underlying t = some (.slice e)) (hK : flatK P m e = some K) (hC : P.cellsOf e = K.length) (hpos : 0 < K.length)
    (hv : Value.okWide P w r b0 t v) (h : DataW.Trod enc P w base (fun _ => true) held t v d p) :
    ∃ A n c f, v = .slice A n c ∧ SlF K w A n c f := by
  obtain ⟨A, n, c, rfl⟩ := okWide_slice ht hv
  obtain ⟨fu, hf⟩ := h
  rcases DataW.trod_slice ht (show DataW.trod enc P w base (fun _ => true) held fu t [.slice A n c] = some (d, p) from hf) with ⟨hcs, _⟩ | ⟨a, len, cap, elems, rest, n', _, hcs, _, hb, hl, hm, hlen, hel, _, _⟩
  · simp only [List.cons.injEq, Value.slice.injEq, and_true] at hcs
    obtain ⟨rfl, rfl, rfl⟩ := hcs
    exact ⟨none, 0, 0, fun _ _ => 0, rfl, ⟨Nat.le_refl _, by omega, fun i j hi => absurd hi (by omega), fun h => absurd h (by omega)⟩⟩
  · simp only [List.cons.injEq, Value.slice.injEq, and_true] at hcs
    obtain ⟨rfl, rfl, rfl⟩ := hcs
    have each : ∀ i, ∃ z : Nat → Int, i < n → ∀ j, j < K.length → w.cell? (a.add (i * K.length + j)) = some (.int (K.getD j .i64) (z j)) ∧ (Lit.int (K.getD j .i64) (z j)).wf = true := by
      intro i
      by_cases hi : i < n
      · have h1 := hel i hi
        rw [List.getElem?_eq_getElem (by omega), Option.bind_eq_some_iff] at h1
        obtain ⟨cs, hcells, htr⟩ := h1
        obtain ⟨_, hlen', hget⟩ := World.cells?_some hcells
        rw [hC] at hlen' hget
        obtain ⟨z, rfl, hwf⟩ := flat_cells hlen' (flat_trod m hK htr)
        refine ⟨z, fun _ j hj => ⟨?_, hwf j hj⟩⟩
        have := hget j hj
        rw [Addr.add_add] at this
        rw [this]
        simp [cellsK, hj]
      · exact ⟨fun _ => 0, fun h => absurd h hi⟩
    refine ⟨some a, n, c, fun i => (each i).choose, rfl, ⟨hl, by unfold maxLen at hm; omega, fun i j hi hj => (((each i).choose_spec hi) j hj).2, fun hn => ?_⟩⟩
    obtain ⟨b, off, hab⟩ : ∃ b off, a = ⟨b, off, none⟩ := by
      have h0 := (((each 0).choose_spec hn) 0 hpos).1
      obtain ⟨b, off, spot⟩ := a
      have hspot : spot = none := by simpa [Addr.add] using World.cell?_spot h0
      exact ⟨b, off, by rw [hspot]⟩
    subst hab
    refine ⟨b, off, rfl, ?_, fun i j hi hj => ?_⟩
    · have h0 := (((each 0).choose_spec hn) 0 hpos).1
      rw [Go.WideShapes.add_plain] at h0
      exact World.block_lt_of_cell? w _ h0
    · have h0 := (((each i).choose_spec hi) j hj).1
      rw [Go.WideShapes.add_plain] at h0
      rw [Nat.add_assoc]
      exact h0
end
end Go.Proofs.YtiajglefmlfkfaaDoor
