/-
  Rows of the call's own, turned in part; the map of the open calls; the rows of calls. No condition.
-/
import Derived.Test.YtdogjdgfidbfhaaDoorJuP
import Derived.Test.YtdogjdgfidbfhaaDoorRowL
import Derived.Test.YtdogjdgfidbfhaaDoorMSets
import Derived.Maps.OwnSet
import Derived.Maps.Views
import Derived.Laws.StructEq
namespace Go.Proofs.YtdogjdgfidbfhaaDoor
set_option linter.unusedSimpArgs false
set_option linter.unusedVariables false
set_option linter.unusedSectionVars false
open Go.RowKit Go.Maps
set_option linter.unusedSimpArgs false
set_option linter.unusedVariables false

theorem stopJ {p : Prop} (h : Hid p) : p := h.out
theorem OwnR.blk {w : World} {B : Nat} {e : TypeId} {m g n c : Nat} {rows : List (List Value)} (h : OwnR w B e m (some ⟨g, 0, none⟩) n c rows) :
    ∃ cur, Blk w g e cur ∧ n * m ≤ cur.size ∧ n ≤ c ∧ c ≤ 9223372036854775807 ∧ B ≤ g ∧ ∀ (i : Nat) r, rows[i]? = some r → ∀ (j : Nat) v, r[j]? = some v → cur[i * m + j]? = some v := by
  have hF := flatten_length h.each
  obtain ⟨h1, h2⟩ := h.own
  rcases h2 with ⟨h2, _⟩ | ⟨g', cap, cur, hv, hb, hg, hc1, hc2, hs, ht⟩
  · simp at h2
  · simp only [Value.slice.injEq, Option.some.injEq, Addr.mk.injEq] at hv
    obtain ⟨⟨rfl, _, _⟩, _, rfl⟩ := hv
    have hlen : rows.flatten.length = n * m := by rw [hF, h.len]
    refine ⟨cur, hg, ?_, hc1, by unfold maxLen at hc2; omega, hb, fun i r hi j v hj => ?_⟩
    · have := congrArg List.length ht
      rw [hlen, List.length_take, Array.length_toList] at this
      omega
    · have hr : r ∈ rows := List.mem_of_getElem? hi
      have hjm : j < m := by have := (List.getElem?_eq_some_iff.1 hj).1; rw [h.each r hr] at this; exact this
      have e1 := flatten_get h.each hi hjm
      rw [hj, ← ht, List.getElem?_take] at e1
      split at e1
      · simpa using e1
      · cases e1
theorem OwnR.addr {w : World} {B : Nat} {e : TypeId} {m n c : Nat} {A : Option Addr} {rows : List (List Value)} (h : OwnR w B e m A n c rows) (hn : 0 < n) : ∃ g, A = some ⟨g, 0, none⟩ := by
  obtain ⟨h1, h2⟩ := h.own
  rcases h2 with ⟨h2, h3⟩ | ⟨g', cap, cur, hv, hb, hg, hc1, hc2, hs, ht⟩
  · omega
  · simp only [Value.slice.injEq] at hv
    exact ⟨g', hv.1⟩
theorem OwnR.setPart {w : World} {B : Nat} {e : TypeId} {m g n c : Nat} {rows : List (List Value)} (h : OwnR w B e m (some ⟨g, 0, none⟩) n c rows) {k : Nat} {r : List Value} (hk : rows[k]? = some r) {j : Nat} {vs : List Value} (hj : j + vs.length ≤ m) :
    OwnR (w.setCells g (k * m + j) vs) B e m (some ⟨g, 0, none⟩) n c (rows.set k (r.take j ++ vs ++ r.drop (j + vs.length))) := by
  have hF := flatten_length h.each
  have hkl : k < rows.length := (List.getElem?_eq_some_iff.1 hk).1
  have hrm : r.length = m := h.each r (List.mem_of_getElem? hk)
  have he : ∀ x ∈ rows.set k (r.take j ++ vs ++ r.drop (j + vs.length)), x.length = m := fun x hx => by
    rcases List.mem_or_eq_of_mem_set hx with hx | rfl
    · exact h.each x hx
    · simp [hrm]; omega
  have hl : (rows.set k (r.take j ++ vs ++ r.drop (j + vs.length))).length = n := by simp [h.len]
  obtain ⟨h1, h2⟩ := h.own
  rcases h2 with ⟨h2, _⟩ | ⟨g', cap, cur, hv, hb, hg, hc1, hc2, hs, ht⟩
  · simp at h2
  · simp only [Value.slice.injEq, Option.some.injEq, Addr.mk.injEq] at hv
    obtain ⟨⟨rfl, _, _⟩, _, rfl⟩ := hv
    have hb2 := Blk.setCells (vs := vs) (o := k * m + j) (show Blk w g e cur from hg)
    refine ⟨⟨by rw [flatten_length he, hl], .inr ⟨g, c, _, rfl, hb, hb2, hc1, hc2, by rw [setsA_size]; exact hs, ?_⟩⟩, hl, he⟩
    have hlen : rows.flatten.length = n * m := by rw [hF, h.len]
    have hsz : n * m ≤ cur.size := by
      have := congrArg List.length ht
      rw [hlen, List.length_take, Array.length_toList] at this
      omega
    refine List.ext_getElem? fun i => ?_
    rw [List.getElem?_take]
    by_cases hi : i < n * m
    · have hm : 0 < m := by
        rcases Nat.eq_zero_or_pos m with z | z
        · subst z; omega
        · exact z
      have hq : i / m < n := (Nat.div_lt_iff_lt_mul hm).2 hi
      have hs' : i % m < m := Nat.mod_lt i hm
      have e0 : i / m * m + i % m = i := by rw [Nat.mul_comm]; exact Nat.div_add_mod i m
      have hq1 : i / m < rows.length := by rw [h.len]; exact hq
      have hold : cur.toList[i]? = (rows[i / m])[i % m]? := by
        have e1 := flatten_get h.each (List.getElem?_eq_getElem hq1) hs'
        rw [e0] at e1
        rw [← e1, ← ht, List.getElem?_take, if_pos hi]
      rw [if_pos hi, Array.getElem?_toList, setsA_get _ _ _ _ (by omega), ← Array.getElem?_toList, hold]
      by_cases hqk : i / m = k
      · have hnew := flatten_get he (i := k) (r := r.take j ++ vs ++ r.drop (j + vs.length)) (by rw [List.getElem?_set, if_pos rfl, if_pos hkl]) hs'
        rw [← hqk, e0] at hnew
        rw [hqk] at hnew
        rw [hnew]
        have hri : rows[i / m] = r := by
          have : rows[i / m]? = some r := by rw [hqk]; exact hk
          rw [List.getElem?_eq_getElem hq1] at this
          exact Option.some.inj this
        rw [hri]
        rw [hqk] at e0
        rcases Nat.lt_or_ge (i % m) j with c1 | c1
        · rw [if_neg (by omega), List.append_assoc, List.getElem?_append_left (by rw [List.length_take]; omega), List.getElem?_take, if_pos c1]
        · rcases Nat.lt_or_ge (i % m) (j + vs.length) with c2 | c2
          · rw [if_pos (by omega), List.getElem?_append_left (by rw [List.length_append, List.length_take]; omega), List.getElem?_append_right (by rw [List.length_take]; omega), List.length_take]
            congr 1
            omega
          · rw [if_neg (by omega), List.getElem?_append_right (by rw [List.length_append, List.length_take]; omega), List.length_append, List.length_take, List.getElem?_drop]
            congr 1
            omega
      · have hnew := flatten_get he (i := i / m) (r := rows[i / m]) (by rw [List.getElem?_set, if_neg (fun x => hqk x.symm), List.getElem?_eq_getElem hq1]) hs'
        rw [e0] at hnew
        rw [hnew, if_neg]
        intro hx
        have h3 : i / m * m + i % m = i := e0
        rcases Nat.lt_or_ge (i / m) k with c1 | c1
        · have : (i / m + 1) * m ≤ k * m := Nat.mul_le_mul_right m c1
          rw [Nat.add_mul, Nat.one_mul] at this
          omega
        · have : (k + 1) * m ≤ i / m * m := Nat.mul_le_mul_right m (by omega)
          rw [Nat.add_mul, Nat.one_mul] at this
          omega
    · rw [if_neg hi, List.getElem?_eq_none (by rw [flatten_length he, hl]; omega)]
theorem run_eqFields_ints {P : Program} (d : Nat) {X Y : Array Value} {x y : Nat → Int} : ∀ (fs : List Field), (∀ f ∈ fs, f.name ≠ "_" ∧ P.underlying f.type = some (.int .i64) ∧ X[f.offset]? = some (.int .i64 (x f.offset)) ∧ Y[f.offset]? = some (.int .i64 (y f.offset))) →
    ∀ w, (Op.eqFields (d + 1) X Y fs).run P w = .ok ((fs.map (·.offset)).all fun o => decide (x o = y o)) w
  | [], _, w => by simp [Op.eqFields]
  | f :: r, h, w => by
    obtain ⟨h0, h1, h2, h3⟩ := h f (by simp)
    have ih := run_eqFields_ints d r (fun j hj => h j (by simp [hj])) w
    have e1 : ∀ w : World, (part f.type X f.offset).run P w = .ok (.int .i64 (x f.offset)) w := fun w => run_part_int w h1 h2
    have e2 : ∀ w : World, (part f.type Y f.offset).run P w = .ok (.int .i64 (y f.offset)) w := fun w => run_part_int w h1 h3
    have e3 : ∀ w : World, (Op.equalIn (d + 1) f.type (.int .i64 (x f.offset)) (.int .i64 (y f.offset))).run P w = .ok (x f.offset == y f.offset) w := fun w => run_equalIn_int w d f.type .i64 .i64 _ _ h1
    simp only [Op.eqFields, ne_eq, h0, not_false_eq_true, if_true, Sem.run_bind, e1, e2, e3, Result.andThen_ok, Sem.run_ite, List.map_cons, List.all_cons]
    by_cases e : x f.offset = y f.offset
    · have e4 : (x f.offset == y f.offset) = true := by simp [e]
      simp [e4, ih, e]
    · have e4 : (x f.offset == y f.offset) = false := by simp [e]
      simp [e4, e]
theorem eqOp (a b c d e g : Int) (w : World) : (Op.equalIn 10000 40 (.agg #[.int .i64 a, .int .i64 b, .int .i64 c]) (.agg #[.int .i64 d, .int .i64 e, .int .i64 g])).run Tryd.prog w = .ok (decide (a = d ∧ b = e ∧ c = g)) w := by
  rw [run_equalIn_struct w 9999 40 _ _ (by kernel_rfl) (by kernel_rfl)]
  have hall : ((Tryd.prog.fieldsOf 40).toList.all fun f => f.type == 3 && decide (f.name ≠ "_") && decide (f.offset < 3)) = true := by kernel_rfl
  have hoff : ((Tryd.prog.fieldsOf 40).toList.map (·.offset)) = [0, 1, 2] := by kernel_rfl
  have key := run_eqFields_ints (P := Tryd.prog) 9998 (X := #[.int .i64 a, .int .i64 b, .int .i64 c]) (Y := #[.int .i64 d, .int .i64 e, .int .i64 g]) (x := fun j => if j = 0 then a else if j = 1 then b else c) (y := fun j => if j = 0 then d else if j = 1 then e else g) (Tryd.prog.fieldsOf 40).toList (fun f hf => by
    have h1 := List.all_eq_true.1 hall f hf
    simp only [Bool.and_eq_true, beq_iff_eq, decide_eq_true_eq] at h1
    refine ⟨h1.1.2, by rw [h1.1.1]; exact Tryd.underlying3, ?_, ?_⟩
    · rcases (by omega : f.offset = 0 ∨ f.offset = 1 ∨ f.offset = 2) with e | e | e <;> rw [e] <;> rfl
    · rcases (by omega : f.offset = 0 ∨ f.offset = 1 ∨ f.offset = 2) with e | e | e <;> rw [e] <;> rfl) w
  rw [key, hoff]
  simp
theorem eqAns (a b d e : Int) (w : World) : (Op.equalIn 10000 42 (.agg #[.int .i64 a, .int .i64 b]) (.agg #[.int .i64 d, .int .i64 e])).run Tryd.prog w = .ok (decide (a = d ∧ b = e)) w := by
  rw [run_equalIn_struct w 9999 42 _ _ (by kernel_rfl) (by kernel_rfl)]
  have hall : ((Tryd.prog.fieldsOf 42).toList.all fun f => f.type == 3 && decide (f.name ≠ "_") && decide (f.offset < 2)) = true := by kernel_rfl
  have hoff : ((Tryd.prog.fieldsOf 42).toList.map (·.offset)) = [0, 1] := by kernel_rfl
  have key := run_eqFields_ints (P := Tryd.prog) 9998 (X := #[.int .i64 a, .int .i64 b]) (Y := #[.int .i64 d, .int .i64 e]) (x := fun j => if j = 0 then a else b) (y := fun j => if j = 0 then d else e) (Tryd.prog.fieldsOf 42).toList (fun f hf => by
    have h1 := List.all_eq_true.1 hall f hf
    simp only [Bool.and_eq_true, beq_iff_eq, decide_eq_true_eq] at h1
    refine ⟨h1.1.2, by rw [h1.1.1]; exact Tryd.underlying3, ?_, ?_⟩
    · rcases (by omega : f.offset = 0 ∨ f.offset = 1) with e | e <;> rw [e] <;> rfl
    · rcases (by omega : f.offset = 0 ∨ f.offset = 1) with e | e <;> rw [e] <;> rfl) w
  rw [key, hoff]
  simp
/-- The row of a call. -/
def rowJ (f : Nat → Nat → Int) : Nat × Nat → List Value
  | (a, 0) => [.int .i64 (f a 1), .int .i64 (f a 2), .int .i64 (f a 3), .int .i64 (f a 4), .int .i64 ((a : Int) + 1), .int .i64 0, .int .i64 0, .int .i64 0, .int .i64 0]
  | (a, b + 1) => [.int .i64 (f a 1), .int .i64 (f a 2), .int .i64 (f a 3), .int .i64 (f a 4), .int .i64 ((a : Int) + 1), .int .i64 ((b : Int) + 1), .int .i64 (f b 7), .int .i64 (f b 5), .int .i64 (f b 6)]
def rowsJ (f : Nat → Nat → Int) (C : CL) : List (List Value) := C.map (rowJ f)
theorem rowJ_len (f : Nat → Nat → Int) (c : Nat × Nat) : (rowJ f c).length = 9 := by
  obtain ⟨a, b⟩ := c
  cases b <;> rfl
theorem rowsJ_get {f : Nat → Nat → Int} {C : CL} {k : Nat} {c : Nat × Nat} (h : C[k]? = some c) : (rowsJ f C)[k]? = some (rowJ f c) := by simp [rowsJ, h]
theorem rowsJ_app (f : Nat → Nat → Int) (C : CL) (c : Nat × Nat) : rowsJ f (C ++ [c]) = rowsJ f C ++ [rowJ f c] := by simp [rowsJ]
theorem rowsJ_set (f : Nat → Nat → Int) (C : CL) (k : Nat) (c : Nat × Nat) : rowsJ f (C.set k c) = (rowsJ f C).set k (rowJ f c) := by simp [rowsJ, List.map_set]
/-- The map of the open calls. -/
theorem keyI : Keyed Tryd.prog 3 := int_keyed Tryd.underlying3
theorem zeroI (w : World) : (zeroValue 3).run Tryd.prog w = .ok (.int .i64 0) w := by kernel_rfl
def I64 (t : Int) : Prop := -9223372036854775808 ≤ t ∧ t ≤ 9223372036854775807
theorem i64_wf {t : Int} (h : I64 t) : (Lit.int .i64 t).wf = true := by
  unfold Lit.wf
  simp only [IntKind.min, IntKind.max, IntKind.bits, IntKind.signed]
  obtain ⟨h1, h2⟩ := h
  rw [Bool.and_eq_true]
  exact ⟨decide_eq_true (by simpa using h1), decide_eq_true (by simpa using h2)⟩
theorem i64_of_wf {t : Int} (h : (Lit.int .i64 t).wf = true) : I64 t := by
  unfold Lit.wf at h
  simp only [IntKind.min, IntKind.max, IntKind.bits, IntKind.signed] at h
  rw [Bool.and_eq_true] at h
  exact ⟨by simpa using of_decide_eq_true h.1, by simpa using of_decide_eq_true h.2⟩
theorem isKeyI (t : Int) : WideAt.IsKeyLit (.int .i64 t) := by
  first | exact trivial | (unfold WideAt.IsKeyLit; trivial) | (simp [WideAt.IsKeyLit])
def OpenM (f : Nat → Nat → Int) (C : CL) (gm n : Nat) (w : World) : Prop :=
  ∃ D : DataW Unit, w.ownsMap Tryd.prog 3 (plainElem Tryd.prog 3) gm n D ∧ ∀ t, I64 t →
    (match opn f C t with
      | none => Maps.has D (.int .i64 t) = false
      | some k => Maps.has D (.int .i64 t) = true ∧ D.atKey (.int .i64 t) (.lit (.int .i64 0)) = .lit (.int .i64 (k : Int)))
theorem OpenM.look {f : Nat → Nat → Int} {C : CL} {gm n : Nat} {w : World} (h : OpenM f C gm n w) {t : Int} (ht : I64 t) : ∃ c : Int, (Instr.lookup 68 (.map (some gm)) (.int .i64 t) true).run Tryd.prog w = .ok (.tuple #[.int .i64 c, .bool (opn f C t).isSome]) w ∧ ∀ k, opn f C t = some k → c = k := by
  obtain ⟨D, ho, hD⟩ := h
  obtain ⟨v, ps, hr, hv⟩ := ho.look_ok keyI Tryd.underlying68 (zeroI w) (plainElem_int (H := Unit) Tryd.underlying3 (show (Lit.int .i64 0).wf = true by decide)) (keyOf_int_mk Tryd.underlying3 (i64_wf ht))
  obtain ⟨c, rfl, hc, hwc⟩ := plainElem_int_inv Tryd.underlying3 hv
  have hc := congrArg Prod.fst hc
  dsimp only at hc
  have h9 := hD t ht
  refine ⟨c, ?_, fun k hk => ?_⟩
  · rw [hr]
    cases e : opn f C t with
    | none => rw [e] at h9; dsimp only at h9; rw [h9]; rfl
    | some k => rw [e] at h9; dsimp only at h9; rw [h9.1]; rfl
  · rw [hk] at h9
    dsimp only at h9
    rw [h9.2] at hc
    exact (Lit.int.inj (DataW.lit.inj hc)).2.symm
theorem OpenM.start (f : Nat → Nat → Int) (w : World) : OpenM f [] w.heap.size 0 (w.alloc (.map #[] 0)) :=
  ⟨.map [], World.ownsMap_made w _ _ _, fun t _ => by simp [opn, Maps.has]⟩
theorem OpenM.lt {f : Nat → Nat → Int} {C : CL} {gm n : Nat} {w : World} (h : OpenM f C gm n w) : gm < w.heap.size := by
  obtain ⟨D, ho, _⟩ := h
  exact ho.lt
theorem OpenM.kept {f : Nat → Nat → Int} {C : CL} {gm n : Nat} {w w' : World} {S : Nat → Prop} (h : OpenM f C gm n w) (hk : Keeps S w w') (hS : ¬ S gm) : OpenM f C gm n w' := by
  have hlt := h.lt
  obtain ⟨D, ho, hD⟩ := h
  have hb := hk.block gm hlt hS
  obtain ⟨es, clock, g1, g2, g3, g4⟩ := ho
  exact ⟨D, ⟨es, clock, hb.trans g1, g2, g3, g4⟩, hD⟩
theorem OpenM.put {f : Nat → Nat → Int} {i : Nat} {C : CL} {gm n : Nat} {w' : World} {D : DataW Unit} {t : Int} (ht : f i 1 = t) (hw : w'.ownsMap Tryd.prog 3 (plainElem Tryd.prog 3) gm (n + 1) (D.put (.int .i64 t) (.lit (.int .i64 (C.length : Int))))) (hm : IsMap D) (ho : opn f C (f i 1) = none)
    (hD : ∀ t, I64 t → (match opn f C t with | none => Maps.has D (.int .i64 t) = false | some k => Maps.has D (.int .i64 t) = true ∧ D.atKey (.int .i64 t) (.lit (.int .i64 0)) = .lit (.int .i64 (k : Int)))) : OpenM f (C ++ [(i, 0)]) gm (n + 1) w' := by
  subst ht
  refine ⟨_, hw, fun t h64 => ?_⟩
  rw [opn_app ho]
  by_cases e : t = f i 1
  · subst e
    rw [if_pos rfl]
    exact ⟨has_put_same hm (isKeyI _) _, atKey_put_same hm (isKeyI _) _ _⟩
  · rw [if_neg e]
    have hne : (Lit.int .i64 t) ≠ .int .i64 (f i 1) := fun x => e (by injection x)
    have h9 := hD t h64
    cases e2 : opn f C t with
    | none => rw [e2] at h9; dsimp only at h9 ⊢; rw [has_put_other hne]; exact h9
    | some k => rw [e2] at h9; dsimp only at h9 ⊢; rw [has_put_other hne, atKey_put_other hne]; exact h9
theorem OpenM.del {f : Nat → Nat → Int} {i : Nat} {C C' : CL} {gm n : Nat} {w' : World} {D : DataW Unit} {t : Int} (ht : f i 1 = t) (hw : w'.ownsMap Tryd.prog 3 (plainElem Tryd.prog 3) gm n (D.del (.int .i64 t))) (ho : ∀ t, opn f C' t = if t = f i 1 then none else opn f C t)
    (hD : ∀ t, I64 t → (match opn f C t with | none => Maps.has D (.int .i64 t) = false | some k => Maps.has D (.int .i64 t) = true ∧ D.atKey (.int .i64 t) (.lit (.int .i64 0)) = .lit (.int .i64 (k : Int)))) : OpenM f C' gm n w' := by
  subst ht
  refine ⟨_, hw, fun t h64 => ?_⟩
  rw [ho]
  by_cases e : t = f i 1
  · subst e
    rw [if_pos rfl]
    exact has_del_same
  · rw [if_neg e]
    have hne : (Lit.int .i64 t) ≠ .int .i64 (f i 1) := fun x => e (by injection x)
    have h9 := hD t h64
    cases e2 : opn f C t with
    | none => rw [e2] at h9; dsimp only at h9 ⊢; rw [has_del_other hne]; exact h9
    | some k => rw [e2] at h9; dsimp only at h9 ⊢; rw [has_del_other hne, atKey_del_other hne]; exact h9
end Go.Proofs.YtdogjdgfidbfhaaDoor
