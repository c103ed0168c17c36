/-
  append of one list of numbers onto another that has no room, or of nothing; the copy append([]int(nil), l...).
-/
import Derived.Test.YtahobohfknnhhaaClone
import Derived.Deep.RegionLawGrows
import Derived.Test.YtahobohfknnhhaaRely
namespace Go.Proofs.Ytahobohfknnhhaa
set_option linter.unusedSimpArgs false
set_option linter.unusedVariables false
set_option linter.unusedSectionVars false
open Go.RowKit

theorem SlI.cellsAt {w : World} {A : Option Addr} {n c : Nat} {xs : List Int} (h : SlI w A n c xs) : ∀ b, A = some b → ∀ j u, (xs.map (Value.int .i64))[j]? = some u → w.cell? (b.add j) = some u := by
  intro b hb j u hj
  have hjn : j < n := by
    have := (List.getElem?_eq_some_iff.1 hj).1
    simpa [h.len] using this
  obtain ⟨b', off, hA, hlt, hc⟩ := h.at_ (by omega)
  rw [hb] at hA
  cases hA
  have e : (xs.map (Value.int .i64))[j]? = some (Value.int .i64 (xs[j]?.getD 0)) := by rw [List.getElem?_map, List.getElem?_eq_getElem (by rw [h.len]; exact hjn)]; rfl
  rw [e] at hj
  rw [← hj, Addr.add_lit]
  exact hc j hjn

theorem below_of_grown {w w' : World} (hg : w.grownBy w' none) : Below w.heap.size w w' := ⟨hg.os, hg.tape, hg.output, hg.size, fun k hk => hg.block k hk (by simp)⟩

theorem SlI.pos_some {w : World} {A : Option Addr} {n c : Nat} {xs : List Int} (h : SlI w A n c xs) (hn : 0 < n) : ∃ b, A = some b := by
  obtain ⟨b, off, hA, _⟩ := h.at_ hn
  exact ⟨_, hA⟩

/-- Nothing is appended. -/
theorem append_none (w : World) (ty : TypeId) (A B : Option Addr) (n c d : Nat) (hc : n ≤ c) :
    (Builtin.append_ #[25, 25] ty #[.slice A n c, .slice B 0 d]).run Try.prog w = .ok (.slice A n c) w := by
  obtain ⟨i0, hi, hz0, hz1, hz2⟩ := info_parts infoInt
  cases A <;> cases B <;> simp [Builtin.append_, run_underlying Try.underlying25, sizeOf, typeInfo, hi, Builtin.lenOf, Builtin.firstCells, loadCells, loadCellsFrom, storeCells, hc]

/-- A slice of ints whose cells lie in block B or later. -/
structure SlO (w : World) (B : Nat) (A : Option Addr) (n c : Nat) (xs : List Int) : Prop where
  sli : SlI w A n c xs
  up : 0 < n → ∀ b, A = some b → B ≤ b.block
theorem SlO.far {w : World} {B : Nat} {A : Option Addr} {n c : Nat} {xs : List Int} (h : SlO w B A n c xs) {p : Addr} (hp : p.block < B) (u : Value) : SlO (w.setCell p u) B A n c xs :=
  ⟨⟨h.sli.len, h.sli.cap, h.sli.cap63, h.sli.bd, fun hn => by
    obtain ⟨b, off, hA, hlt, hc⟩ := h.sli.at_ hn
    have hb := h.up hn _ hA
    refine ⟨b, off, hA, by simpa using hlt, fun i hi => ?_⟩
    rw [World.cell?_setCell_far _ _ _ _ (by show p.block ≠ b; have : B ≤ b := hb; omega)]
    exact hc i hi⟩, h.up⟩
theorem SlO.below {w w' : World} {B : Nat} {A : Option Addr} {n c : Nat} {xs : List Int} (h : SlO w B A n c xs) (hb : Below w.heap.size w w') : SlO w' B A n c xs := ⟨h.sli.below hb, h.up⟩
theorem SlO.alloc {w : World} {B : Nat} {A : Option Addr} {n c : Nat} {xs : List Int} (h : SlO w B A n c xs) (o : Obj) : SlO (w.alloc o) B A n c xs := h.below ((Below.refl _ _).alloc (Nat.le_refl _) _)
theorem SlO.mono {w : World} {B B' : Nat} {A : Option Addr} {n c : Nat} {xs : List Int} (h : SlO w B A n c xs) (hb : B' ≤ B) : SlO w B' A n c xs := ⟨h.sli, fun hn b hA => Nat.le_trans hb (h.up hn b hA)⟩
theorem Own.slo {w : World} {B : Nat} {A : Option Addr} {n c : Nat} {xs : List Int} (h : Own w B A n c xs) (bd : ∀ i : Nat, -9223372036854775808 ≤ xs[i]?.getD 0 ∧ xs[i]?.getD 0 ≤ 9223372036854775807) : SlO w B A n c xs :=
  ⟨h.sli bd, fun hn b hA => by
    obtain ⟨g, hA', hb, _⟩ := h.at_ hn
    rw [hA] at hA'
    cases hA'
    exact hb⟩
/-- One number in a block of its own. -/
theorem SlO.one (w : World) (t : TypeId) (v : Int) (hv : -9223372036854775808 ≤ v ∧ v ≤ 9223372036854775807) : SlO (w.alloc (.cells #[.int .i64 v] t)) w.heap.size (some ⟨w.heap.size, 0, none⟩) 1 1 [v] :=
  ⟨SlI.of_blk (Blk.new w t _) rfl (Nat.le_refl _) (by decide) (fun i (hi : i < 1) => by have h0 : i = 0 := Nat.lt_one_iff.1 hi; subst h0; rfl) (fun i => by
    cases i with
    | zero => exact hv
    | succ i => simp), fun _ b hA => by cases hA; exact Nat.le_refl _⟩

theorem append_full {w : World} {A B : Option Addr} {n c m d G : Nat} {xs ys : List Int} (ho : SlO w G A n c xs) (hG : G ≤ w.heap.size) (hA : A = none → c = 0) (k : SlI w B m d ys) (hfull : m = 0 ∨ c < n + m) (hb : n + m ≤ 1000) (ty : TypeId) :
    ∃ A' c' w', (Builtin.append_ #[25, 25] ty #[.slice A n c, .slice B m d]).run Try.prog w = .ok (.slice A' (n + m) c') w' ∧ SlO w' G A' (n + m) c' (xs ++ ys) ∧ Below w.heap.size w w' := by
  have h := ho.sli
  obtain ⟨i0, hi, hz0, hz1, hz2⟩ := info_parts infoInt
  rcases Nat.eq_zero_or_pos m with hm | hm
  · subst hm
    have : ys = [] := List.eq_nil_of_length_eq_zero k.len
    subst this
    exact ⟨A, c, w, append_none w ty A B n c d h.cap, by simpa using ho, Below.refl _ _⟩
  · have hf : c < n + m := by omega
    obtain ⟨ad, rfl⟩ := k.pos_some hm
    have bd : ∀ i : Nat, -9223372036854775808 ≤ (xs ++ ys)[i]?.getD 0 ∧ (xs ++ ys)[i]?.getD 0 ≤ 9223372036854775807 := fun i => by
      rw [List.getElem?_append]; split
      · exact h.bd i
      · exact k.bd _
    have key : ∃ v' w', (Builtin.append_ #[25, 25] ty #[.slice A n c, .slice (some ad) m d]).run Try.prog w = .ok v' w' ∧ w'.ownsRow w.heap.size 3 1 v' (n + m) (xs.map (Value.int .i64) ++ ys.map (Value.int .i64)) ∧ w.grownBy w' none := by
      cases A with
      | some b =>
        exact run_append_arg_grows (P := Try.prog) w 25 ty 3 i0 (.int .i64 0) 1 8 Try.underlying25 hi hz0 hz1 hz2 rfl (by decide) b n c _ (by simp [h.len]) (h.cellsAt b rfl) ad m d _ (by simp [k.len]) (k.cellsAt ad rfl) hf (by unfold maxLen; omega) (by omega)
      | none =>
        obtain rfl := hA rfl
        have hn0 : n = 0 := by have := h.cap; omega
        subst hn0
        obtain rfl : xs = [] := List.eq_nil_of_length_eq_zero h.len
        obtain ⟨v', w', hrun, r1, r2, _⟩ := run_append_own (P := Try.prog) w w.heap.size 25 ty 3 i0 (.int .i64 0) 1 8 Try.underlying25 hi hz0 hz1 hz2 rfl (by decide) (.slice none 0 0) 0 [] (World.ownsRow_nil w _ _ _) ad m d _ (by simp [k.len]) (k.cellsAt ad rfl) (by intro u hu; obtain ⟨x, _, rfl⟩ := List.mem_map.1 hu; rfl) (by unfold maxLen; omega) (by omega) (Nat.le_refl _)
        exact ⟨v', w', hrun, r1, r2⟩
    obtain ⟨v', w', hrun, r1, r2⟩ := key
    obtain ⟨A', c', rfl, _, _, _⟩ := own_form r1
    have ow : Own w' w.heap.size A' (n + m) c' (xs ++ ys) := by unfold Own; simpa using r1
    exact ⟨A', c', w', hrun, (ow.slo bd).mono hG, below_of_grown r2⟩

/-- append([]int(nil), l...) -/
theorem append_copy {w : World} {B : Option Addr} {m d : Nat} {ys : List Int} (k : SlI w B m d ys) (hb : m ≤ 1000) (ty : TypeId) :
    ∃ A' c' w', (Builtin.append_ #[25, 25] ty #[.slice none 0 0, .slice B m d]).run Try.prog w = .ok (.slice A' m c') w' ∧ Own w' w.heap.size A' m c' ys ∧ Below w.heap.size w w' := by
  obtain ⟨i0, hi, hz0, hz1, hz2⟩ := info_parts infoInt
  rcases Nat.eq_zero_or_pos m with hm | hm
  · subst hm
    have : ys = [] := List.eq_nil_of_length_eq_zero k.len
    subst this
    exact ⟨none, 0, w, append_none w ty none B 0 0 d (Nat.le_refl _), Own.nil _ _, Below.refl _ _⟩
  · obtain ⟨ad, rfl⟩ := k.pos_some hm
    obtain ⟨v', w', hrun, r1, r2, _⟩ := run_append_own (P := Try.prog) w w.heap.size 25 ty 3 i0 (.int .i64 0) 1 8 Try.underlying25 hi hz0 hz1 hz2 rfl (by decide) (.slice none 0 0) 0 [] (World.ownsRow_nil w _ _ _) ad m d _ (by simp [k.len]) (k.cellsAt ad rfl) (by intro u hu; obtain ⟨x, _, rfl⟩ := List.mem_map.1 hu; rfl) (by unfold maxLen; omega) (by omega) (Nat.le_refl _)
    rw [Nat.zero_add] at r1
    obtain ⟨A', c', rfl, _, _, _⟩ := own_form r1
    exact ⟨A', c', w', hrun, by unfold Own; simpa using r1, below_of_grown r2⟩

theorem step_append_full {ops : Array Oper} {o : Oper} {a : Act} {w : World} {K : Act → World → Prop} {Q : Exit → Act → World → Prop} {E : Prop} (hgd : o.guard = none) (s x : Operand)
    (ho : o.op = .call { callee := .builtin .append, args := #[s, x], argTypes := #[25, 25] }) {A B : Option Addr} {n c m d G : Nat} {xs ys : List Int} (hs : a.eval s = .slice A n c) (hx : a.eval x = .slice B m d) (h : SlO w G A n c xs) (hG : G ≤ w.heap.size) (hA : A = none → c = 0) (k : SlI w B m d ys) (hfull : m = 0 ∨ c < n + m) (hb : n + m ≤ 1000)
    (hK : ∀ A' c' w', SlO w' G A' (n + m) c' (xs ++ ys) → Below w.heap.size w w' → K (a.put o.dst (.slice A' (n + m) c')) w') :
    if Region.wanted o (yielded ops a.tmps) = true then Oper.wp Try.prog o a w K Q else E := by
  have hw : Region.wanted o (yielded ops a.tmps) = true := by simp [Region.wanted, hgd]
  rw [if_pos hw]
  obtain ⟨A', c', w', hr, h2, h3⟩ := append_full h hG hA k hfull hb o.type
  unfold Oper.wp execOp
  simp only [ho, resolve, invoke, builtin, Sem.run_bind, Sem.run_pure, Result.andThen_ok, List.map_toArray, List.map_cons, List.map_nil, hs, hx, hr]
  exact hK A' c' w' h2 h3
theorem wpList_append_full {ops : Array Oper} {rest : List Oper} {o : Oper} {a : Act} {w : World} {Q : Exit → Act → World → Prop} (hgd : o.guard = none) (s x : Operand)
    (ho : o.op = .call { callee := .builtin .append, args := #[s, x], argTypes := #[25, 25] }) {A B : Option Addr} {n c m d G : Nat} {xs ys : List Int} (hs : a.eval s = .slice A n c) (hx : a.eval x = .slice B m d) (h : SlO w G A n c xs) (hG : G ≤ w.heap.size) (hA : A = none → c = 0) (k : SlI w B m d ys) (hfull : m = 0 ∨ c < n + m) (hb : n + m ≤ 1000)
    (hK : ∀ A' c' w', SlO w' G A' (n + m) c' (xs ++ ys) → Below w.heap.size w w' → wpList Try.prog ops Q rest (a.put o.dst (.slice A' (n + m) c')) w') : wpList Try.prog ops Q (o :: rest) a w :=
  wpList_plain hgd fun _ hKK => by
    obtain ⟨A', c', w', hr, h2, h3⟩ := append_full h hG hA k hfull hb o.type
    unfold Oper.wp execOp
    simp only [ho, resolve, invoke, builtin, Sem.run_bind, Sem.run_pure, Result.andThen_ok, List.map_toArray, List.map_cons, List.map_nil, hs, hx, hr]
    exact hKK _ _ (hK A' c' w' h2 h3)
theorem wpList_append_copy {ops : Array Oper} {rest : List Oper} {o : Oper} {a : Act} {w : World} {Q : Exit → Act → World → Prop} (hgd : o.guard = none) (s x : Operand)
    (ho : o.op = .call { callee := .builtin .append, args := #[s, x], argTypes := #[25, 25] }) {B : Option Addr} {m d : Nat} {ys : List Int} (hs : a.eval s = .slice none 0 0) (hx : a.eval x = .slice B m d) (k : SlI w B m d ys) (hb : m ≤ 1000)
    (hK : ∀ A' c' w', Own w' w.heap.size A' m c' ys → Below w.heap.size w w' → wpList Try.prog ops Q rest (a.put o.dst (.slice A' m c')) w') : wpList Try.prog ops Q (o :: rest) a w :=
  wpList_plain hgd fun _ hKK => by
    obtain ⟨A', c', w', hr, h2, h3⟩ := append_copy k hb o.type
    unfold Oper.wp execOp
    simp only [ho, resolve, invoke, builtin, Sem.run_bind, Sem.run_pure, Result.andThen_ok, List.map_toArray, List.map_cons, List.map_nil, hs, hx, hr]
    exact hKK _ _ (hK A' c' w' h2 h3)

theorem relyAt_append_full {o : Oper} {a : Act} {w : World} {T : Value → World → Prop} (s x : Operand)
    (ho : o.op = .call { callee := .builtin .append, args := #[s, x], argTypes := #[25, 25] }) {A B : Option Addr} {n c m d G : Nat} {xs ys : List Int} (hs : a.eval s = .slice A n c) (hx : a.eval x = .slice B m d) (h : SlO w G A n c xs) (hG : G ≤ w.heap.size) (hA : A = none → c = 0) (k : SlI w B m d ys) (hfull : m = 0 ∨ c < n + m) (hb : n + m ≤ 1000)
    (hK : ∀ A' c' w', SlO w' G A' (n + m) c' (xs ++ ys) → Below w.heap.size w w' → T (.slice A' (n + m) c') w') : relyAt Try.prog o a w T := by
  obtain ⟨A', c', w', hr, h2, h3⟩ := append_full h hG hA k hfull hb o.type
  unfold relyAt execOp
  simp only [ho, resolve, invoke, builtin, Sem.run_bind, Sem.run_pure, Result.andThen_ok, List.map_toArray, List.map_cons, List.map_nil, hs, hx, hr]
  exact hK A' c' w' h2 h3
theorem relyAt_append1 {o : Oper} {a : Act} {w : World} {T : Value → World → Prop} (s x : Operand)
    (ho : o.op = .call { callee := .builtin .append, args := #[s, x], argTypes := #[25, 25] }) {B : Nat} {A : Option Addr} {n c : Nat} {xs : List Int} (hs : a.eval s = .slice A n c) (hown : Own w B A n c xs) {g : Nat} {v : Int} {c' : Nat}
    (hx : a.eval x = .slice (some ⟨g, 0, none⟩) 1 c') (hv : w.cell? ⟨g, 0, none⟩ = some (.int .i64 v)) (hn : n ≤ 1000) (hB : B ≤ w.heap.size)
    (hK : ∀ g' cap w', Own w' B (some ⟨g', 0, none⟩) (n + 1) cap (xs ++ [v]) → Below B w w' → T (.slice (some ⟨g', 0, none⟩) (n + 1) cap) w') : relyAt Try.prog o a w T := by
  obtain ⟨g', cap, w', hr, h2, h3⟩ := own_append hown hv hn hB o.type c'
  unfold relyAt execOp
  simp only [ho, resolve, invoke, builtin, Sem.run_bind, Sem.run_pure, Result.andThen_ok, List.map_toArray, List.map_cons, List.map_nil, hs, hx, hr]
  exact hK g' cap w' h2 h3

/-- The first k, without room behind them. -/
theorem SlO.take {w : World} {G : Nat} {A : Option Addr} {n c : Nat} {xs : List Int} (h : SlO w G A n c xs) (k : Nat) (hk : k ≤ n) : SlO w G A k k (xs.take k) :=
  ⟨⟨by rw [List.length_take, h.sli.len]; omega, Nat.le_refl _, by have := h.sli.cap; have := h.sli.cap63; omega, fun i => by
    rw [List.getElem?_take]; split
    · exact h.sli.bd i
    · decide, fun hk0 => by
    obtain ⟨b, off, hA, hlt, hc⟩ := h.sli.at_ (by omega)
    exact ⟨b, off, hA, hlt, fun i hi => by rw [List.getElem?_take, if_pos hi]; exact hc i (by omega)⟩⟩, fun hk0 b hA => h.up (by omega) b hA⟩
/-- What stands behind the first k. -/
theorem SlI.dropIf {w : World} {b off n c : Nat} {xs : List Int} (h : SlI w (some ⟨b, off, none⟩) n c xs) (k : Nat) (hk : k ≤ n) : SlI w (if c = k then some ⟨b, off, none⟩ else some ⟨b, off + k, none⟩) (n - k) (c - k) (xs.drop k) :=
  ⟨by simp [h.len], by have := h.cap; omega, by have := h.cap63; omega, fun i => by rw [List.getElem?_drop]; exact h.bd (k + i), fun hn => by
    have h1 := h.cap
    rw [if_neg (by omega)]
    obtain ⟨b', off', hA, hlt, hc⟩ := h.at_ (by omega)
    cases hA
    refine ⟨b, off + k, rfl, hlt, fun i hi => ?_⟩
    rw [List.getElem?_drop, Nat.add_assoc]
    exact hc (k + i) (by omega)⟩
theorem SlO.of_keeps {S : Nat → Prop} {w w' : World} {B : Nat} {A : Option Addr} {n c : Nat} {xs : List Int} (h : SlO w B A n c xs) (hk : Keeps S w w') (hS : ∀ b, B ≤ b → ¬ S b) : SlO w' B A n c xs :=
  ⟨⟨h.sli.len, h.sli.cap, h.sli.cap63, h.sli.bd, fun hn => by
    obtain ⟨b, off, hA, hlt, hc⟩ := h.sli.at_ hn
    exact ⟨b, off, hA, Nat.lt_of_lt_of_le hlt hk.size, fun i hi => (hk.cell (p := ⟨b, off + i, none⟩) hlt (hS b (h.up hn _ hA))).trans (hc i hi)⟩⟩, h.up⟩
theorem SlI.keeps {w w' : World} {A : Option Addr} {n c : Nat} {xs : List Int} (h : SlI w A n c xs) (hk : Keeps nowhere w w') : SlI w' A n c xs := h.below hk.same
theorem SlO.keeps {w w' : World} {B : Nat} {A : Option Addr} {n c : Nat} {xs : List Int} (h : SlO w B A n c xs) (hk : Keeps nowhere w w') : SlO w' B A n c xs := h.below hk.same
theorem SlO.nil (w : World) (B : Nat) (c : Nat) (hc : c ≤ 9223372036854775807) (A : Option Addr) : SlO w B A 0 c [] := ⟨⟨rfl, Nat.zero_le _, hc, fun i => by simp, fun h => absurd h (by omega)⟩, fun h => absurd h (by omega)⟩
def IBd (xs : List Int) : Prop := ∀ i : Nat, -9223372036854775808 ≤ xs[i]?.getD 0 ∧ xs[i]?.getD 0 ≤ 9223372036854775807

/-- A list and an answer. -/
def RetL (ys : List Int) (code val : Int) (w : World) (e : Ending) (w' : World) : Prop :=
  ∃ A n c, e = .returned (.tuple #[.slice A n c, .agg #[.int .i64 code, .int .i64 val]]) ∧ SlO w' w.heap.size A n c ys ∧ Below w.heap.size w w'

/-- The same, wherever the list lies. -/
def RetI (ys : List Int) (code val : Int) (w : World) (e : Ending) (w' : World) : Prop :=
  ∃ A n c, e = .returned (.tuple #[.slice A n c, .agg #[.int .i64 code, .int .i64 val]]) ∧ SlI w' A n c ys ∧ Below w.heap.size w w'
theorem RetL.weak {ys : List Int} {code val : Int} {w : World} {e : Ending} {w' : World} (h : RetL ys code val w e w') : RetI ys code val w e w' := by
  obtain ⟨A, n, c, he, hs, hb⟩ := h
  exact ⟨A, n, c, he, hs.sli, hb⟩
theorem retI_old {ys : List Int} {code val co va : Int} {w w' : World} {A : Option Addr} {n c : Nat} (h : SlI w A n c ys) (hb : Below w.heap.size w w') (h1 : co = code) (h2 : va = val) : RetI ys code val w (.returned (.tuple #[.slice A n c, .agg #[.int .i64 co, .int .i64 va]])) w' :=
  ⟨A, n, c, by rw [h1, h2], h.below hb, hb⟩

theorem IBd.app {xs : List Int} (h : IBd xs) {v : Int} (hv : -9223372036854775808 ≤ v ∧ v ≤ 9223372036854775807) : IBd (xs ++ [v]) := fun i => by
  rw [List.getElem?_append]
  split
  · exact h i
  · rcases Nat.eq_zero_or_pos (i - xs.length) with e | e
    · rw [e]; exact hv
    · rw [List.getElem?_eq_none (by simp; omega)]; decide
theorem IBd.tail {xs : List Int} (h : IBd xs) : IBd xs.tail := fun i => by rw [List.getElem?_tail]; exact h (i + 1)
theorem IBd.nil : IBd [] := fun i => by simp

/-- The end of such a function: the result's cells are written behind the list's. -/
theorem retL_slo {w w1 : World} {B : Nat} {A : Option Addr} {n c : Nat} {ys ys' : List Int} {code val : Int} (hown : SlO w1 B A n c ys') (hb : Below w.heap.size w w1) {p q : Addr} {u u' : Value} {co va : Int} (hp : p.block < B) (hq : q.block < B) (hp' : w.heap.size ≤ p.block) (hq' : w.heap.size ≤ q.block) (h0 : ys' = ys) (h1 : co = code) (h2 : va = val) :
    RetL ys code val w (.returned (.tuple #[.slice A n c, .agg #[.int .i64 co, .int .i64 va]])) ((w1.setCell p u).setCell q u') :=
  ⟨A, n, c, by rw [h1, h2], by rw [← h0]; exact ((hown.far hp u).far hq u').mono (by omega), (hb.setCell hp' _).setCell hq' _⟩
theorem retL_own {w w1 : World} {B : Nat} {A : Option Addr} {n c : Nat} {ys ys' : List Int} {code val : Int} (hown : Own w1 B A n c ys') (hb : Below w.heap.size w w1) (bd : IBd ys') {p q : Addr} {u u' : Value} {co va : Int} (hp : p.block < B) (hq : q.block < B) (hp' : w.heap.size ≤ p.block) (hq' : w.heap.size ≤ q.block) (h0 : ys' = ys) (h1 : co = code) (h2 : va = val) :
    RetL ys code val w (.returned (.tuple #[.slice A n c, .agg #[.int .i64 co, .int .i64 va]])) ((w1.setCell p u).setCell q u') := retL_slo (hown.slo bd) hb hp hq hp' hq' h0 h1 h2
theorem retL_nil {w w1 : World} {ys : List Int} {code val : Int} (hb : Below w.heap.size w w1) {co va : Int} (h0 : [] = ys) (h1 : co = code) (h2 : va = val) : RetL ys code val w (.returned (.tuple #[.slice none 0 0, .agg #[.int .i64 co, .int .i64 va]])) w1 :=
  ⟨none, 0, 0, by rw [h1, h2], by rw [← h0]; exact SlO.nil _ _ _ (by omega) _, hb⟩
theorem RetL.alloc {ys : List Int} {code val : Int} {w : World} {e : Ending} {w' : World} (h : RetL ys code val w e w') (o : Obj) : RetL ys code val w e (w'.alloc o) := by
  obtain ⟨A, n, c, he, hs, hb⟩ := h
  exact ⟨A, n, c, he, hs.below ((Below.refl _ _).alloc (Nat.le_refl _) _), hb.alloc hb.size _⟩
/-- A callee's result is handed on through a result cell. -/
theorem retL_on {w W w1 : World} {A : Option Addr} {n c : Nat} {ys : List Int} {code val : Int} (hs : SlO w1 W.heap.size A n c ys) (hW : Below w.heap.size w W) (hb : Below W.heap.size W w1) {p q : Addr} {u u' : Value} (hp : p.block < W.heap.size) (hq : q.block < W.heap.size) (hp' : w.heap.size ≤ p.block) (hq' : w.heap.size ≤ q.block) :
    RetL ys code val w (.returned (.tuple #[.slice A n c, .agg #[.int .i64 code, .int .i64 val]])) ((w1.setCell p u).setCell q u') :=
  retL_slo hs (hW.trans (hb.mono hW.size)) hp hq hp' hq' rfl rfl rfl

end Go.Proofs.Ytahobohfknnhhaa
