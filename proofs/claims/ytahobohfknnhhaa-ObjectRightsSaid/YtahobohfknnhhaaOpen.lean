/-
  Arguments opened: a value built of integers alone (structs and arrays of integers, however deep) is its cells, each an integer of its kind; a slice of ints reads as a list. For any program; the shape is a closed fact.
-/
import Derived.Test.YtahobohfknnhhaaKit
import Derived.Test.YtahobohfknnhhaaFrame
namespace Go.Proofs.Ytahobohfknnhhaa
set_option linter.unusedSimpArgs false
set_option linter.unusedVariables false
set_option linter.unusedSectionVars false
open Go.ChangeShapes Go.WideShapes Go.ChangeAt Go.RowKit Go.Deep

def flatFields (g : TypeId → Option (List IntKind)) : Nat → List Field → Option (List IntKind)
  | _, [] => some []
  | o, f :: r => if f.offset = o then
      match g f.type with
      | some K => (flatFields g (o + K.length) r).map (K ++ ·)
      | none => none
    else none

/-- The kinds of a type's cells, where it is built of integers alone. -/
def flatK (P : Program) : Nat → TypeId → Option (List IntKind)
  | 0, _ => none
  | n + 1, t =>
    match P.underlying t with
    | some (.int k) => some [k]
    | some (.array m e) =>
      match flatK P n e with
      | some K => if P.cellsOf e = K.length then some ((List.range (m * K.length)).map fun i => K.getD (i % K.length) .i64) else none
      | none => none
    | some (.struct fs) => flatFields (fun u => match flatK P n u with | some K => if P.cellsOf u = K.length then some K else none | none => none) 0 fs.toList
    | _ => none

def FlatAt (cs : List Value) (o : Nat) (K : List IntKind) : Prop := ∀ (i : Nat) (k : IntKind), K[i]? = some k → ∃ z, cs[o + i]? = some (.int k z) ∧ (Lit.int k z).wf = true

section
variable {H : Type} {enc : TypeId × Value → H} {P : Program} {w : World} {base : Nat} {spare : Nat → Bool} {held : Bool}

theorem flatFields_at {g : TypeId → Option (List IntKind)} {cs : List Value} : ∀ (fs : List Field) (o : Nat) (K : List IntKind), flatFields g o fs = some K →
    (∀ f ∈ fs, ∀ Kf, g f.type = some Kf → FlatAt cs f.offset Kf) → FlatAt cs o K
  | [], o, K, h, _ => by
    simp [flatFields] at h
    subst h
    intro i k hk
    simp at hk
  | f :: r, o, K, h, hall => by
    unfold flatFields at h
    by_cases ho : f.offset = o
    · rw [if_pos ho] at h
      cases hg : g f.type with
      | none => simp [hg] at h
      | some Kf =>
        simp only [hg, Option.map_eq_some_iff] at h
        obtain ⟨R, hR, rfl⟩ := h
        have h1 := hall f (by simp) Kf hg
        have h2 := flatFields_at r (o + Kf.length) R hR (fun f' hf' => hall f' (by simp [hf']))
        intro i k hk
        rw [List.getElem?_append] at hk
        by_cases hi : i < Kf.length
        · rw [if_pos hi] at hk
          rw [← ho]
          exact h1 i k hk
        · rw [if_neg hi] at hk
          have := h2 (i - Kf.length) k hk
          rwa [show o + Kf.length + (i - Kf.length) = o + i by omega] at this
    · rw [if_neg ho] at h
      cases h

theorem flatAt_chunk {cs : List Value} {o n : Nat} {K : List IntKind} (h : FlatAt ((cs.drop o).take n) 0 K) : FlatAt cs o K := by
  intro i k hk
  obtain ⟨z, hz, hw⟩ := h i k hk
  refine ⟨z, ?_, hw⟩
  rw [Nat.zero_add, List.getElem?_take] at hz
  split at hz
  · simpa [List.getElem?_drop] using hz
  · cases hz

theorem flat_trod : ∀ (n : Nat) {fuel : Nat} {t : TypeId} {cs : List Value} {x : DataW H × List MemPlace} {K : List IntKind}, flatK P n t = some K → DataW.trod enc P w base spare held fuel t cs = some x → FlatAt cs 0 K
  | 0, _, _, _, _, _, h, _ => by simp [flatK] at h
  | n + 1, fuel, t, cs, x, K, h, hx => by
    unfold flatK at h
    split at h
    · rename_i k hu
      obtain ⟨z, rfl, _, hw⟩ := DataW.trod_int hu hx
      cases h
      intro i k' hk
      cases i with
      | zero => simp at hk; subst hk; exact ⟨z, by simp, hw⟩
      | succ i => simp at hk
    · rename_i m e hu
      split at h
      · rename_i Ke hKe
        split at h
        · rename_i hC
          cases h
          obtain ⟨xs, f', _, _, hlen, hxs, hall⟩ := DataW.trod_array hu hx
          intro i k hk
          simp only [List.getElem?_map, Option.map_eq_some_iff] at hk
          obtain ⟨j, hj, rfl⟩ := hk
          obtain ⟨hjl, hij⟩ := List.getElem?_eq_some_iff.1 hj
          clear hj
          simp only [List.length_range] at hjl
          simp only [List.getElem_range] at hij
          subst hij
          have hpos : 0 < Ke.length := by
            rcases Nat.eq_zero_or_pos Ke.length with h0 | h0
            · rw [h0] at hjl; simp at hjl
            · exact h0
          have hq : i / Ke.length < m := Nat.div_lt_of_lt_mul (by rw [Nat.mul_comm]; exact hjl)
          have h1 := hall (i / Ke.length) hq
          rw [List.getElem?_eq_getElem (by omega)] at h1
          rw [hC] at h1
          have h2 := flatAt_chunk (flat_trod n hKe h1)
          have hlt : i % Ke.length < Ke.length := Nat.mod_lt _ hpos
          obtain ⟨z, hz, hw⟩ := h2 (i % Ke.length) (Ke.getD (i % Ke.length) .i64) (by rw [List.getD_eq_getElem?_getD, List.getElem?_eq_getElem hlt]; rfl)
          refine ⟨z, ?_, hw⟩
          rw [Nat.zero_add, ← hz, Nat.mul_comm, Nat.div_add_mod]
        · cases h
      · cases h
    · rename_i fs hu
      obtain ⟨xs, f', _, _, hlen, hxs, hall⟩ := DataW.trod_struct hu hx
      refine flatFields_at _ _ _ h ?_
      intro f hf Kf hKf
      obtain ⟨i, hi⟩ := List.getElem?_of_mem hf
      have h1 := hall i f (by simpa using hi)
      have hlt : i < fs.size := by
        have := (List.getElem?_eq_some_iff.1 hi).1
        simpa using this
      rw [List.getElem?_eq_getElem (by omega)] at h1
      cases hg : flatK P n f.type with
      | none => simp [hg] at hKf
      | some K2 =>
        simp only [hg] at hKf
        split at hKf
        · cases hKf
          exact flatAt_chunk (flat_trod n hg h1)
        · cases hKf
    · cases h

theorem okWide_array {r : Reach} {b0 m : Nat} {t e : TypeId} {v : Value} (ht : P.underlying t = some (.array m e)) (h : Value.okWide P w r b0 t v) : ∃ cs, v = .agg cs ∧ cs.size = P.cellsOf t := by
  simp only [Value.okWide, ht] at h
  obtain ⟨cs, h1, h2, _⟩ := h
  exact ⟨cs, h1, h2⟩

/-- The cells of kinds K with the numbers z. -/
def cellsK (K : List IntKind) (z : Nat → Int) : List Value := (List.range K.length).map fun i => .int (K.getD i .i64) (z i)

theorem flat_cells {cs : List Value} {K : List IntKind} (hlen : cs.length = K.length) (h : FlatAt cs 0 K) : ∃ z : Nat → Int, cs = cellsK K z ∧ ∀ i, i < K.length → (Lit.int (K.getD i .i64) (z i)).wf = true := by
  have h1 : ∀ i, ∃ z : Int, i < K.length → cs[i]? = some (.int (K.getD i .i64) z) ∧ (Lit.int (K.getD i .i64) z).wf = true := by
    intro i
    by_cases hi : i < K.length
    · obtain ⟨z, hz, hw⟩ := h i (K.getD i .i64) (by rw [List.getD_eq_getElem?_getD, List.getElem?_eq_getElem hi]; rfl)
      exact ⟨z, fun _ => ⟨by simpa using hz, hw⟩⟩
    · exact ⟨0, fun h => absurd h hi⟩
  refine ⟨fun i => (h1 i).choose, ?_, fun i hi => ((h1 i).choose_spec hi).2⟩
  apply List.ext_getElem?
  intro i
  by_cases hi : i < K.length
  · rw [((h1 i).choose_spec hi).1]
    simp [cellsK, hi]
  · rw [List.getElem?_eq_none (by omega), List.getElem?_eq_none (by simp [cellsK]; omega)]

/-- A struct or an array by value, built of integers alone. -/
theorem open_flat {r : Reach} {b0 : Nat} {t : TypeId} {v : Value} {d : DataW H} {p : List MemPlace} {K : List IntKind} (n : Nat) (hK : flatK P n t = some K) (hC : P.cellsOf t = K.length)
    (hu : (match P.underlying t with | some (.struct _) => true | some (.array _ _) => true | _ => false) = true)
    (hv : Value.okWide P w r b0 t v) (h : DataW.Trod enc P w base spare held t v d p) :
    ∃ z : Nat → Int, v = .agg (cellsK K z).toArray ∧ ∀ i, i < K.length → (Lit.int (K.getD i .i64) (z i)).wf = true := by
  obtain ⟨cs, rfl, hsz⟩ : ∃ cs, v = .agg cs ∧ cs.size = P.cellsOf t := by
    split at hu
    · rename_i fs he; exact okWide_struct he hv
    · rename_i m e he; exact okWide_array he hv
    · cases hu
  obtain ⟨f, hf⟩ := h
  obtain ⟨l⟩ := cs
  have hf' : DataW.trod enc P w base spare held f t l = some (d, p) := hf
  obtain ⟨z, hz, hw⟩ := flat_cells (by simpa [hC] using hsz) (flat_trod n hK hf')
  exact ⟨z, by rw [hz], hw⟩

theorem flatU (n : Nat) {z : Nat → Int} (h : ∀ i, i < (List.replicate n IntKind.u64).length → (Lit.int ((List.replicate n IntKind.u64).getD i .i64) (z i)).wf = true) :
    U64s (cellsK (List.replicate n .u64) z).toArray n z := by
  have hk : ∀ i, i < n → (List.replicate n IntKind.u64).getD i .i64 = .u64 := fun i hi => by simp [hi]
  refine ⟨by simp [cellsK], fun i hi => ?_, fun i hi => ?_⟩
  · simp [cellsK, hi]
  · have h1 := h i (by simpa using hi)
    rw [hk i hi] at h1
    have := bounds_u64 h1
    omega

/-- A slice of ints. -/
theorem open_slI {r : Reach} {b0 : Nat} {t e : TypeId} {v : Value} {d : DataW H} {p : List MemPlace} (ht : P.underlying t = some (.slice e)) (he : P.underlying e = some (.int .i64)) (hc : P.cellsOf e = 1)
    (hv : Value.okWide P w r b0 t v) (h : DataW.Trod enc P w base (fun _ => true) held t v d p) :
    ∃ A n c xs, v = .slice A n c ∧ SlI w A n c xs := by
  obtain ⟨A, n, c, rfl⟩ := okWide_slice ht hv
  obtain ⟨f, hf⟩ := h
  rcases open_ints ht he hc (show DataW.trod enc P w base (fun _ => true) held f t [.slice A n c] = some (d, p) from hf) with ⟨hcs, _⟩ | ⟨a, len, cap, zs, hcs, _, hl, hm, hz, hx, hcell, hwf⟩
  · simp only [List.cons.injEq, Value.slice.injEq, and_true] at hcs
    obtain ⟨rfl, rfl, rfl⟩ := hcs
    exact ⟨none, 0, 0, [], rfl, ⟨rfl, Nat.le_refl _, by omega, fun i => by simp, fun h => absurd h (by omega)⟩⟩
  · simp only [List.cons.injEq, Value.slice.injEq, and_true] at hcs
    obtain ⟨rfl, rfl, rfl⟩ := hcs
    simp only [if_true] at hz
    have hwf' : ∀ m ∈ zs.take n, (Lit.int .i64 m).wf = true := fun m hm' => hwf m (List.mem_of_mem_take hm')
    refine ⟨some a, n, c, zs.take n, rfl, ⟨by rw [List.length_take]; omega, hl, by unfold maxLen at hm; omega, fun i => range_i64 hwf' i, fun hn => ?_⟩⟩
    obtain ⟨b, off, rfl, hc'⟩ := ints_at hcell (by omega)
    refine ⟨b, off, rfl, ?_, fun i hi => ?_⟩
    · exact World.block_lt_of_cell? w _ (hc' 0 (by omega))
    · rw [hc' i (by omega), List.getElem?_take, if_pos hi, List.getD_eq_getElem?_getD]
end

end Go.Proofs.Ytahobohfknnhhaa
