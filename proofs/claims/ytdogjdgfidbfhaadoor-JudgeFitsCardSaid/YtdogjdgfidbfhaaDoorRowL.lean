/-
  Slices of structs as lists of rows of cells: read, and appended to, of the call's own; up to a thousand million. No condition.
-/
import Derived.Test.YtdogjdgfidbfhaaDoorMBase
import Derived.Deep.AppendLies
namespace Go.Proofs.YtdogjdgfidbfhaaDoor
set_option linter.unusedSimpArgs false
set_option linter.unusedVariables false
set_option linter.unusedSectionVars false
open Go.RowKit

/-- The block of a slice. -/
def SlB (A : Option Addr) (b : Nat) : Prop := ∃ a, A = some a ∧ a.block = b
/-- A slice that reads as rows of m cells each; nil let in. -/
structure SlR (m : Nat) (w : World) (A : Option Addr) (n c : Nat) (rows : List (List Value)) : Prop where
  len : rows.length = n
  each : ∀ r ∈ rows, r.length = m
  cap : n ≤ c
  cap63 : c ≤ 9223372036854775807
  at_ : 0 < n → ∃ b off, A = some ⟨b, off, none⟩ ∧ b < w.heap.size ∧ ∀ (i : Nat) r, rows[i]? = some r → ∀ (j : Nat) v, r[j]? = some v → w.cell? ⟨b, off + i * m + j, none⟩ = some v
theorem SlR.kept {m : Nat} {w w' : World} {A : Option Addr} {n c : Nat} {rows : List (List Value)} {S : Nat → Prop} (h : SlR m w A n c rows) (hk : Keeps S w w') (hS : ∀ a, A = some a → ¬ S a.block) : SlR m w' A n c rows :=
  ⟨h.len, h.each, h.cap, h.cap63, fun hn => by
    obtain ⟨b, off, rfl, hlt, hc⟩ := h.at_ hn
    exact ⟨b, off, rfl, Nat.lt_of_lt_of_le hlt hk.size, fun i r hi j v hj => (hk.cell (p := ⟨b, off + i * m + j, none⟩) hlt (hS ⟨b, off, none⟩ rfl)).trans (hc i r hi j v hj)⟩⟩
theorem SlR.below {m : Nat} {w w' : World} {A : Option Addr} {n c : Nat} {rows : List (List Value)} (h : SlR m w A n c rows) (hb : Below w.heap.size w w') : SlR m w' A n c rows :=
  h.kept (S := nowhere) (Keeps.of_same hb) (fun _ _ h => h)
theorem SlR.slf {K : List IntKind} {w : World} {A : Option Addr} {n c : Nat} {rows : List (List Value)} (h : SlR K.length w A n c rows) (f : Nat → Nat → Int) (hf : ∀ i, i < n → rows[i]? = some ((List.range K.length).map fun j => .int (K.getD j .i64) (f i j)))
    (wf : ∀ i j, i < n → j < K.length → (Lit.int (K.getD j .i64) (f i j)).wf = true) : SlF K w A n c f :=
  ⟨h.cap, h.cap63, wf, fun hn => by
    obtain ⟨b, off, rfl, hlt, hc⟩ := h.at_ hn
    exact ⟨b, off, rfl, hlt, fun i j hi hj => hc i _ (hf i hi) j _ (by simp [hj])⟩⟩
theorem SlF.slr {K : List IntKind} {w : World} {A : Option Addr} {n c : Nat} {f : Nat → Nat → Int} (h : SlF K w A n c f) : SlR K.length w A n c ((List.range n).map fun i => (List.range K.length).map fun j => .int (K.getD j .i64) (f i j)) :=
  ⟨by simp, fun r hr => by simp at hr; obtain ⟨i, _, rfl⟩ := hr; simp, h.cap, h.cap63, fun hn => by
    obtain ⟨b, off, rfl, hlt, hc⟩ := h.at_ hn
    refine ⟨b, off, rfl, hlt, fun i r hi j v hj => ?_⟩
    have hi' : i < n := by have := (List.getElem?_eq_some_iff.1 hi).1; simpa using this
    simp [hi'] at hi
    subst hi
    have hj' : j < K.length := by have := (List.getElem?_eq_some_iff.1 hj).1; simpa using this
    simp [hj'] at hj
    rw [← hj]
    have := hc i j hi' hj'
    rw [List.getD_eq_getElem?_getD, List.getElem?_eq_getElem hj'] at this
    exact this⟩

/-- A slice of rows of the call's own. -/
structure OwnR (w : World) (B : Nat) (e : TypeId) (m : Nat) (A : Option Addr) (n c : Nat) (rows : List (List Value)) : Prop where
  own : w.ownsRow B e m (.slice A n c) n rows.flatten
  len : rows.length = n
  each : ∀ r ∈ rows, r.length = m
theorem flatten_length {m : Nat} : ∀ {rows : List (List Value)}, (∀ r ∈ rows, r.length = m) → rows.flatten.length = rows.length * m
  | [], _ => by simp
  | r :: l, h => by
    have h1 := h r (by simp)
    have h2 := flatten_length (rows := l) (fun x hx => h x (by simp [hx]))
    simp only [List.flatten_cons, List.length_append, List.length_cons, h1, h2, Nat.add_mul, Nat.one_mul]
    omega
theorem flatten_get {m : Nat} : ∀ {rows : List (List Value)}, (∀ r ∈ rows, r.length = m) → ∀ {i : Nat} {r : List Value}, rows[i]? = some r → ∀ {j : Nat}, j < m → rows.flatten[i * m + j]? = r[j]?
  | [], _, _, _, hi, _, _ => by simp at hi
  | x :: l, h, 0, r, hi, j, hj => by
    simp at hi; subst hi
    have h1 := h x (by simp)
    rw [Nat.zero_mul, Nat.zero_add, List.flatten_cons, List.getElem?_append_left (by omega)]
  | x :: l, h, i + 1, r, hi, j, hj => by
    have h1 := h x (by simp)
    have h2 := flatten_get (rows := l) (fun y hy => h y (by simp [hy])) (i := i) (r := r) (by simpa using hi) hj
    rw [List.flatten_cons, List.getElem?_append_right (by rw [h1, Nat.add_mul]; omega), ← h2]
    congr 1
    rw [h1, Nat.add_mul]
    omega
section
variable {w w' : World} {B : Nat} {e : TypeId} {m : Nat} {A : Option Addr} {n c : Nat} {rows : List (List Value)}
theorem OwnR.nil (w : World) (B : Nat) (e : TypeId) (m : Nat) : OwnR w B e m none 0 0 [] := ⟨World.ownsRow_nil _ _ _ _, rfl, fun r hr => by simp at hr⟩
theorem OwnR.kept {S : Nat → Prop} (h : OwnR w B e m A n c rows) (hk : Keeps S w w') (hS : ∀ a, A = some a → ¬ S a.block) : OwnR w' B e m A n c rows := by
  refine ⟨?_, h.len, h.each⟩
  obtain ⟨h1, h2⟩ := h.own
  refine ⟨h1, ?_⟩
  rcases h2 with h2 | ⟨g, cap, cur, hv, hb, hg, hr⟩
  · exact .inl h2
  · simp only [Value.slice.injEq] at hv
    obtain ⟨rfl, _, rfl⟩ := hv
    have hlt : g < w.heap.size := (Array.getElem?_eq_some_iff.1 hg).1
    exact .inr ⟨g, c, cur, rfl, hb, (hk.block g hlt (hS _ rfl)).trans hg, hr⟩
theorem OwnR.below (h : OwnR w B e m A n c rows) (hb : Below w.heap.size w w') : OwnR w' B e m A n c rows := h.kept (S := nowhere) (Keeps.of_same hb) (fun _ _ h => h)
theorem OwnR.mono {B' : Nat} (h : OwnR w B e m A n c rows) (hB : B' ≤ B) : OwnR w B' e m A n c rows := ⟨by
  obtain ⟨h1, h2⟩ := h.own
  refine ⟨h1, ?_⟩
  rcases h2 with h2 | ⟨g, cap, cur, hv, hb, hr⟩
  · exact .inl h2
  · exact .inr ⟨g, cap, cur, hv, Nat.le_trans hB hb, hr⟩, h.len, h.each⟩
theorem OwnR.lt (h : OwnR w B e m A n c rows) : ∀ a, A = some a → B ≤ a.block ∧ a.block < w.heap.size := by
  rintro a rfl
  obtain ⟨_, h2⟩ := h.own
  rcases h2 with ⟨h2, _⟩ | ⟨g, cap, cur, hv, hb, hg, hr⟩
  · simp at h2
  · simp only [Value.slice.injEq, Option.some.injEq] at hv
    obtain ⟨rfl, _, rfl⟩ := hv
    exact ⟨hb, (Array.getElem?_eq_some_iff.1 hg).1⟩
theorem OwnR.slr (h : OwnR w B e m A n c rows) : SlR m w A n c rows := by
  have hF := flatten_length h.each
  obtain ⟨h1, h2⟩ := h.own
  rcases h2 with ⟨h2, h3⟩ | ⟨g, cap, cur, hv, hb, hg, hc1, hc2, hs, ht⟩
  · simp only [Value.slice.injEq] at h2
    obtain ⟨rfl, _, rfl⟩ := h2
    exact ⟨h.len, h.each, by omega, by omega, fun hn => absurd hn (by omega)⟩
  · simp only [Value.slice.injEq] at hv
    obtain ⟨rfl, _, rfl⟩ := hv
    refine ⟨h.len, h.each, hc1, by unfold maxLen at hc2; omega, fun hn => ⟨g, 0, rfl, (Array.getElem?_eq_some_iff.1 hg).1, fun i r hi j v hj => ?_⟩⟩
    have hr : r ∈ rows := List.mem_of_getElem? hi
    have hjm : j < m := by have := (List.getElem?_eq_some_iff.1 hj).1; rw [h.each r hr] at this; exact this
    have e1 := flatten_get h.each hi hjm
    rw [hj, ← ht, List.getElem?_take] at e1
    split at e1
    · rw [Nat.zero_add, cell_of_row w g (i * m + j) cur e (0, 0) hg]
      simpa using e1
    · cases e1
theorem OwnR.take (h : OwnR w B e m A n c rows) (k : Nat) (hk : k ≤ n) (hA : A ≠ none) : OwnR w B e m A k c (rows.take k) := by
  have hF := flatten_length h.each
  obtain ⟨h1, h2⟩ := h.own
  have he : ∀ r ∈ rows.take k, r.length = m := fun r hr => h.each r (List.mem_of_mem_take hr)
  have hl : (rows.take k).length = k := by rw [List.length_take, h.len]; omega
  refine ⟨⟨by rw [flatten_length he, hl], ?_⟩, hl, he⟩
  rcases h2 with ⟨h2, h3⟩ | ⟨g, cap, cur, hv, hb, hg, hc1, hc2, hs, ht⟩
  · simp only [Value.slice.injEq] at h2
    exact absurd h2.1 hA
  · simp only [Value.slice.injEq] at hv
    obtain ⟨rfl, _, rfl⟩ := hv
    refine .inr ⟨g, c, cur, rfl, hb, hg, by omega, hc2, hs, ?_⟩
    have e1 : (rows.take k).flatten = rows.flatten.take (k * m) := by
      have e2 : rows.flatten = (rows.take k).flatten ++ (rows.drop k).flatten := by rw [← List.flatten_append, List.take_append_drop]
      rw [e2, List.take_left' (by rw [flatten_length he, hl])]
    rw [e1, ← ht, List.take_take]
    congr 1
    have : k * m ≤ n * m := Nat.mul_le_mul_right m hk
    omega
end
theorem OwnR.high {w : World} {B : Nat} {e : TypeId} {m : Nat} {A : Option Addr} {n c : Nat} {rows : List (List Value)} (h : OwnR w B e m A n c rows) {b : Nat} (hb : SlB A b) : B ≤ b := by
  obtain ⟨a, ha, rfl⟩ := hb
  exact (h.lt a ha).1
theorem quietB {c : Bool} {S : Nat → Prop} {w w' : World} (h : Keeps (fun b => c = false ∧ S b) w w') (hc : c = true) : Below w.heap.size w w' := (h.mono (S' := nowhere) fun b hb => by rw [hc] at hb; cases hb.1).same
theorem startB {c : Bool} {S : Nat → Prop} {w w' : World} (h : Keeps (fun b => c = false ∧ S b) w w') (hc : c = true) : Keeps nowhere w w' := h.mono (S' := nowhere) fun b hb => by rw [hc] at hb; cases hb.1
def OneB (g b : Nat) : Prop := b = g
theorem keepsRow (w : World) (g : Nat) (cs : Array Value) : Keeps (OneB g) w (w.setRow g cs) := ⟨rfl, rfl, rfl, by simp [World.setRow], fun b _ hn => setRow_other w g b cs hn⟩
theorem keepsCell (w : World) (g i : Nat) (u : Value) : Keeps (OneB g) w (w.setCell ⟨g, i, none⟩ u) := (Keeps.refl (OneB g) w).setCell (p := ⟨g, i, none⟩) (.inl rfl) u
theorem grownR_keeps {w w' : World} {b : Option Nat} (hg : w.grownBy w' b) : Keeps (fun k => b = some k) w w' :=
  ⟨hg.os, hg.tape, hg.output, hg.size, fun k hk hne => hg.block k hk (fun e => hne e.symm)⟩
/-- append of one row. -/
theorem ownR_append {P : Program} {w : World} {B : Nat} {t e : TypeId} {m bytes : Nat} {i0 : TypeInfo} {zv : Value} (hu : P.underlying t = some (.slice e)) (hi : P.info? e = some i0) (hz : i0.zero = some zv) (hs : i0.size = m) (hby : i0.bytes = bytes)
    (hzs : zv.cells.size = m) (hm : 0 < m) (hbb : bytes ≤ 1000) {A : Option Addr} {n c : Nat} {rows : List (List Value)} (hown : OwnR w B e m A n c rows) {g : Nat} {ys : List Value} (hl : ys.length = m)
    (hv : ∀ j, j < m → w.cell? ⟨g, j, none⟩ = ys[j]?) (h1 : ∀ u ∈ ys, u.oneCell' = true) (hn : n ≤ 1000000000) (hB : B ≤ w.heap.size) (ty : TypeId) (c' : Nat) :
    ∃ g' cap w', (Builtin.append_ #[t, t] ty #[.slice A n c, .slice (some ⟨g, 0, none⟩) 1 c']).run P w = .ok (.slice (some ⟨g', 0, none⟩) (n + 1) cap) w' ∧ OwnR w' B e m (some ⟨g', 0, none⟩) (n + 1) cap (rows ++ [ys]) ∧ Keeps (SlB A) w w' ∧
      ((∃ a, A = some a ∧ a.block = g') ∨ g' = w.heap.size) := by
  obtain ⟨g', cap, w', hr, ho, hg, hat, hlt⟩ := run_append_lies (P := P) w t ty B e i0 zv m bytes hu hi hz hs hby hzs hm (.slice A n c) n _ hown.own ⟨g, 0, none⟩ 1 c' ys (by omega)
    (by intro j u hj
        have hj0 : j < m := by have := (List.getElem?_eq_some_iff.1 hj).1; omega
        have := hv j hj0
        rw [hj] at this
        simpa [Addr.add_lit] using this) h1 (by decide) (by unfold maxLen; omega) (by
          have : (n + 1) * bytes ≤ 1000000001 * 1000 := Nat.mul_le_mul (by omega) hbb
          omega) hB _ rfl
  refine ⟨g', cap, w', hr, ⟨by rw [List.flatten_append]; simpa using ho, by simp [hown.len], fun r hr => ?_⟩, (grownR_keeps hg).mono fun b hb => ?_, ?_⟩
  · rcases List.mem_append.1 hr with hr | hr
    · exact hown.each r hr
    · simp at hr; rw [hr]; exact hl
  · cases A with
    | none => simp [Value.ownBlock] at hb
    | some a => exact ⟨a, rfl, by simpa [Value.ownBlock] using hb⟩
  · rcases hat with h | h
    · left
      cases A with
      | none => simp [Value.ownBlock] at h
      | some a => exact ⟨a, rfl, by simpa [Value.ownBlock] using h⟩
    · exact .inr h
/-- At the operation, in a drawn region or in the walk's own. -/
theorem run_appendR {P : Program} {o : Oper} {a : Act} {w : World} (s x : Operand) {B : Nat} {t e : TypeId} {m bytes : Nat} {i0 : TypeInfo} {zv : Value}
    (ho : o.op = .call { callee := .builtin .append, args := #[s, x], argTypes := #[t, t] }) (hu : P.underlying t = some (.slice e)) (hi : P.info? e = some i0) (hz : i0.zero = some zv) (hs : i0.size = m) (hby : i0.bytes = bytes)
    (hzs : zv.cells.size = m) (hm : 0 < m) (hbb : bytes ≤ 1000) {A : Option Addr} {n c : Nat} {rows : List (List Value)} (hse : a.eval s = .slice A n c) (hown : OwnR w B e m A n c rows) {g c' : Nat} (hx : a.eval x = .slice (some ⟨g, 0, none⟩) 1 c') {ys : List Value} (hl : ys.length = m)
    (hv : ∀ j, j < m → w.cell? ⟨g, j, none⟩ = ys[j]?) (h1 : ∀ u ∈ ys, u.oneCell' = true) (hn : n ≤ 1000000000) (hB : B ≤ w.heap.size) :
    ∃ g' cap w', (execOp a.eval o).run P w = .ok (.value (.slice (some ⟨g', 0, none⟩) (n + 1) cap)) w' ∧ OwnR w' B e m (some ⟨g', 0, none⟩) (n + 1) cap (rows ++ [ys]) ∧ Keeps (SlB A) w w' ∧
      ((∃ a, A = some a ∧ a.block = g') ∨ g' = w.heap.size) := by
  obtain ⟨g', cap, w', hr, h2⟩ := ownR_append hu hi hz hs hby hzs hm hbb hown hl hv h1 hn hB o.type c'
  refine ⟨g', cap, w', ?_, h2⟩
  unfold execOp
  simp only [ho, resolve, invoke, builtin, Sem.run_bind, Sem.run_pure, Result.andThen_ok, List.map_toArray, List.map_cons, List.map_nil, hse, hx, hr]
theorem relyAt_appendR {P : Program} {o : Oper} {a : Act} {w : World} {T : Value → World → Prop} (s x : Operand) {B : Nat} {t e : TypeId} {m bytes : Nat} {i0 : TypeInfo} {zv : Value}
    (ho : o.op = .call { callee := .builtin .append, args := #[s, x], argTypes := #[t, t] }) (hu : P.underlying t = some (.slice e)) (hi : P.info? e = some i0) (hz : i0.zero = some zv) (hs : i0.size = m) (hby : i0.bytes = bytes)
    (hzs : zv.cells.size = m) (hm : 0 < m) (hbb : bytes ≤ 1000) {A : Option Addr} {n c : Nat} {rows : List (List Value)} (hse : a.eval s = .slice A n c) (hown : OwnR w B e m A n c rows) {g c' : Nat} (hx : a.eval x = .slice (some ⟨g, 0, none⟩) 1 c') {ys : List Value} (hl : ys.length = m)
    (hv : ∀ j, j < m → w.cell? ⟨g, j, none⟩ = ys[j]?) (h1 : ∀ u ∈ ys, u.oneCell' = true) (hn : n ≤ 1000000000) (hB : B ≤ w.heap.size)
    (hK : ∀ g' cap w', OwnR w' B e m (some ⟨g', 0, none⟩) (n + 1) cap (rows ++ [ys]) → Keeps (SlB A) w w' → ((∃ a, A = some a ∧ a.block = g') ∨ g' = w.heap.size) → T (.slice (some ⟨g', 0, none⟩) (n + 1) cap) w') : relyAt P o a w T := by
  obtain ⟨g', cap, w', hr, h2, h3, h4⟩ := run_appendR s x ho hu hi hz hs hby hzs hm hbb hse hown hx hl hv h1 hn hB
  exact relyAt_value' hr (hK g' cap w' h2 h3 h4)
theorem wpList_appendR {P : Program} {ops : Array Oper} {Q : Exit → Act → World → Prop} {rest : List Oper} {o : Oper} {a : Act} {w : World} (s x : Operand) {B : Nat} {t e : TypeId} {m bytes : Nat} {i0 : TypeInfo} {zv : Value}
    (ho : o.op = .call { callee := .builtin .append, args := #[s, x], argTypes := #[t, t] }) (hgd : o.guard = none) (hu : P.underlying t = some (.slice e)) (hi : P.info? e = some i0) (hz : i0.zero = some zv) (hs : i0.size = m) (hby : i0.bytes = bytes)
    (hzs : zv.cells.size = m) (hm : 0 < m) (hbb : bytes ≤ 1000) {A : Option Addr} {n c : Nat} {rows : List (List Value)} (hse : a.eval s = .slice A n c) (hown : OwnR w B e m A n c rows) {g c' : Nat} (hx : a.eval x = .slice (some ⟨g, 0, none⟩) 1 c') {ys : List Value} (hl : ys.length = m)
    (hv : ∀ j, j < m → w.cell? ⟨g, j, none⟩ = ys[j]?) (h1 : ∀ u ∈ ys, u.oneCell' = true) (hn : n ≤ 1000000000) (hB : B ≤ w.heap.size)
    (hK : ∀ g' cap w', OwnR w' B e m (some ⟨g', 0, none⟩) (n + 1) cap (rows ++ [ys]) → Keeps (SlB A) w w' → ((∃ a, A = some a ∧ a.block = g') ∨ g' = w.heap.size) → wpList P ops Q rest (a.put o.dst (.slice (some ⟨g', 0, none⟩) (n + 1) cap)) w') : wpList P ops Q (o :: rest) a w := by
  obtain ⟨g', cap, w', hr, h2, h3, h4⟩ := run_appendR s x ho hu hi hz hs hby hzs hm hbb hse hown hx hl hv h1 hn hB
  refine wpList_step fun K hK' => ?_
  rw [if_pos (by unfold Region.wanted; rw [hgd])]
  unfold Oper.wp
  rw [hr]
  exact hK' _ _ (hK g' cap w' h2 h3 h4)
end Go.Proofs.YtdogjdgfidbfhaaDoor
