/-
  The reference's calls in a world; which is open. For all values.
-/
import Derived.Test.YtdogjdgfidbfhaaDoorJuF
namespace Go.Proofs.YtdogjdgfidbfhaaDoor
set_option linter.unusedSimpArgs false
set_option linter.unusedVariables false
set_option linter.unusedSectionVars false
open Go.RowKit Go.Maps
set_option linter.unusedSimpArgs false
set_option linter.unusedVariables false
attribute [local go_sem ↓] Go.wp_at_zero Go.wp_at_succ

/-- The reference's call: the event it was called in, where, where answered (-1: never), which deed it has. -/
def cArr (f : Nat → Nat → Int) (c : Nat × Nat) (h : Int) : Array Value :=
  #[.int .i64 (f c.1 0), .int .i64 (f c.1 1), .int .i64 (f c.1 2), .int .i64 (f c.1 3), .int .i64 (f c.1 4), .int .i64 (f c.1 5), .int .i64 (f c.1 6), .int .i64 (f c.1 7), .int .i64 (f c.1 8), .int .i64 (c.1 : Int), .int .i64 ((c.2 : Int) - 1), .int .i64 h]
def ptrRow (Q : Nat → Nat) (k : Nat) : List Value := [.pointer (some ⟨Q k, 0, none⟩)]
def ptrRows (Q : Nat → Nat) (m : Nat) : List (List Value) := (List.range m).map (ptrRow Q)
theorem ptrRows_get (Q : Nat → Nat) {m k : Nat} (h : k < m) : (ptrRows Q m)[k]? = some (ptrRow Q k) := by simp [ptrRows, h]
theorem ptrRows_app (Q : Nat → Nat) (m q : Nat) : ptrRows (fun j => if j = m then q else Q j) (m + 1) = ptrRows Q m ++ [[.pointer (some ⟨q, 0, none⟩)]] := by
  unfold ptrRows
  rw [List.range_succ, List.map_append]
  congr 1
  · refine List.map_congr_left fun j hj => ?_
    have : j < m := by simpa using hj
    unfold ptrRow
    simp only
    rw [if_neg (by omega)]
  · simp [ptrRow]
/-- The calls in a world. -/
structure RJ (f : Nat → Nat → Int) (C : CL) (Q : Nat → Nat) (H : Nat → Int) (B gb : Nat) (A : Option Addr) (c : Nat) (w : World) : Prop where
  box : Blk w gb 50 #[.slice A C.length c]
  own : OwnR w B 51 1 A C.length c (ptrRows Q C.length)
  inj : ∀ i j, i < C.length → j < C.length → Q i = Q j → i = j
  each : ∀ (k : Nat) x, C[k]? = some x → Blk w (Q k) 55 (cArr f x (H k))
  high : ∀ k, k < C.length → B ≤ Q k
theorem blk_apart {w : World} {g g' : Nat} {t t' : TypeId} {X Y : Array Value} (h : Blk w g t X) (h' : Blk w g' t' Y) (ht : t ≠ t') : g ≠ g' := by
  rintro rfl
  have h1 : w.heap[g]? = some (.cells X t (0, 0)) := h
  have h2 : w.heap[g]? = some (.cells Y t' (0, 0)) := h'
  rw [h1] at h2
  injection h2 with h2
  injection h2 with _ h2
  exact ht h2
section
variable {f : Nat → Nat → Int} {C : CL} {Q : Nat → Nat} {H : Nat → Int} {B gb : Nat} {A : Option Addr} {c : Nat} {w w' : World}
theorem RJ.below (h : RJ f C Q H B gb A c w) (hb : Below w.heap.size w w') : RJ f C Q H B gb A c w' :=
  ⟨h.box.below hb h.box.lt, h.own.below hb, h.inj, fun k x hx => (h.each k x hx).below hb (h.each k x hx).lt, h.high⟩
theorem RJ.keptB {S : Nat → Prop} (h : RJ f C Q H B gb A c w) (hk : Keeps S w w') (h1 : ¬ S gb) (h2 : ∀ b, SlB A b → ¬ S b) (h3 : ∀ k, k < C.length → ¬ S (Q k)) : RJ f C Q H B gb A c w' :=
  ⟨(hk.block gb h.box.lt h1).trans h.box, h.own.kept hk (fun a ha => h2 _ ⟨a, ha, rfl⟩), h.inj, fun k x hx => (hk.block (Q k) (h.each k x hx).lt (h3 k (List.getElem?_eq_some_iff.1 hx).1)).trans (h.each k x hx), h.high⟩
end
section
variable {f : Nat → Nat → Int} {C : CL} {Q : Nat → Nat} {H : Nat → Int} {B gb : Nat} {A : Option Addr} {c : Nat} {w w' : World}
theorem RJ.gbQ (h : RJ f C Q H B gb A c w) {k : Nat} (hk : k < C.length) : gb ≠ Q k :=
  blk_apart h.box (h.each k C[k] (List.getElem?_eq_getElem hk)) (by decide)
theorem RJ.sQ (h : RJ f C Q H B gb A c w) {k : Nat} (hk : k < C.length) : ¬ SlB A (Q k) := by
  rintro ⟨a, rfl, e⟩
  obtain ⟨g, hg⟩ := h.own.addr (by omega)
  cases hg
  obtain ⟨cur, hb, _⟩ := h.own.blk
  exact blk_apart hb (h.each k C[k] (List.getElem?_eq_getElem hk)) (by decide) e
theorem RJ.sGb (h : RJ f C Q H B gb A c w) : ¬ SlB A gb := by
  rintro ⟨a, rfl, e⟩
  by_cases hn : 0 < C.length
  · obtain ⟨g, hg⟩ := h.own.addr hn
    cases hg
    obtain ⟨cur, hb, _⟩ := h.own.blk
    exact blk_apart hb h.box (by decide) e
  · obtain ⟨h1, h2⟩ := h.own.own
    rcases h2 with ⟨h2, _⟩ | ⟨g', cap, cur, hv, hb, hg, _⟩
    · simp at h2
    · simp only [Value.slice.injEq, Option.some.injEq] at hv
      obtain ⟨rfl, _, rfl⟩ := hv
      exact blk_apart (show Blk w g' 51 cur from hg) h.box (by decide) e
/-- A call more. -/
theorem RJ.app (h : RJ f C Q H B gb A c w) {i q A' c' : Nat} {w9 : World} (hH : H C.length = 0) (ho : OwnR w9 B 51 1 (some ⟨A', 0, none⟩) (C.length + 1) c' (ptrRows Q C.length ++ [[.pointer (some ⟨q, 0, none⟩)]])) (hq : w.heap.size ≤ q) (hB : B ≤ q)
    (hk : Keeps (SlB A) w w9) (hb : Blk w9 q 55 (cArr f (i, 0) 0)) : RJ f (C ++ [(i, 0)]) (fun j => if j = C.length then q else Q j) H B gb (some ⟨A', 0, none⟩) c' (w9.setCell ⟨gb, 0, none⟩ (.slice (some ⟨A', 0, none⟩) (C.length + 1) c')) := by
  have hgl := h.box.lt
  have hqg : q ≠ gb := by omega
  have hb9 : Blk w9 gb 50 #[.slice A C.length c] := (hk.block gb h.box.lt h.sGb).trans h.box
  obtain ⟨cur, hc, _⟩ := ho.blk
  have hAg : A' ≠ gb := blk_apart hc hb9 (by decide)
  refine ⟨?_, ?_, fun a b ha hb' e => ?_, fun k x hx => ?_, fun k hk' => ?_⟩
  · have := hb9.set_ 0 (.slice (some ⟨A', 0, none⟩) (C.length + 1) c')
    simpa using this
  · rw [List.length_append, List.length_singleton, ptrRows_app]
    exact ho.kept (keepsCell w9 gb 0 _) (fun a ha e => by cases ha; exact hAg e)
  · simp only [List.length_append, List.length_singleton] at ha hb'
    have hlt : ∀ k, k < C.length → Q k < w.heap.size := fun k hk' => (h.each k C[k] (List.getElem?_eq_getElem hk')).lt
    by_cases e1 : a = C.length <;> by_cases e2 : b = C.length
    · omega
    · simp only [e1, if_true, if_neg e2] at e
      have := hlt b (by omega)
      omega
    · simp only [e2, if_true, if_neg e1] at e
      have := hlt a (by omega)
      omega
    · simp only [if_neg e1, if_neg e2] at e
      exact h.inj a b (by omega) (by omega) e
  · rcases Nat.lt_or_ge k C.length with hk' | hk'
    · rw [List.getElem?_append_left hk'] at hx
      simp only [if_neg (show ¬ k = C.length by omega)]
      have hq9 : Blk w9 (Q k) 55 (cArr f x (H k)) := (hk.block (Q k) (h.each k x hx).lt (h.sQ hk')).trans (h.each k x hx)
      exact hq9.far (h.gbQ hk').symm _
    · have e : k = C.length := by
        have := (List.getElem?_eq_some_iff.1 hx).1
        simp at this
        omega
      subst e
      rw [List.getElem?_append_right (Nat.le_refl _), Nat.sub_self] at hx
      simp at hx
      subst hx
      simp only [if_true, hH]
      exact hb.far hqg _
  · simp only [List.length_append, List.length_singleton] at hk'
    by_cases e : k = C.length
    · simp only [e, if_true]; exact hB
    · simp only [if_neg e]; exact h.high k (by omega)
/-- A call is answered. -/
theorem RJ.ans (h : RJ f C Q H B gb A c w) {j a i : Nat} (hj : C[j]? = some (a, 0)) : RJ f (C.set j (a, i + 1)) Q H B gb A c (w.setCell ⟨Q j, 10, none⟩ (.int .i64 (i : Int))) := by
  have hjl : j < C.length := (List.getElem?_eq_some_iff.1 hj).1
  refine ⟨?_, ?_, by simpa using h.inj, fun k x hx => ?_, by simpa using h.high⟩
  · rw [List.length_set]
    exact h.box.far (h.gbQ hjl) _
  · rw [List.length_set]
    exact h.own.kept (keepsCell w (Q j) 10 _) (fun a ha e => h.sQ hjl ⟨a, ha, e⟩)
  · rw [set_get hjl] at hx
    split at hx
    · next e =>
      subst e
      cases hx
      have := (h.each k _ hj).set_ 10 (.int .i64 (i : Int))
      have e2 : ((((i + 1 : Nat) : Int)) - 1) = (i : Int) := by omega
      unfold cArr at this ⊢
      simp only [e2]
      exact this
    · next e =>
      exact (h.each k x hx).far (fun e2 => e (h.inj k j (List.getElem?_eq_some_iff.1 hx).1 hjl e2)) _
/-- A call has a deed. -/
theorem RJ.has (h : RJ f C Q H B gb A c w) {j : Nat} (hjl : j < C.length) (v : Int) : RJ f C Q (fun k => if k = j then v else H k) B gb A c (w.setCell ⟨Q j, 11, none⟩ (.int .i64 v)) := by
  refine ⟨h.box.far (h.gbQ hjl) _, h.own.kept (keepsCell w (Q j) 11 _) (fun a ha e => h.sQ hjl ⟨a, ha, e⟩), h.inj, fun k x hx => ?_, h.high⟩
  by_cases e : k = j
  · subst e
    have := (h.each k _ hx).set_ 11 (.int .i64 v)
    unfold cArr at this ⊢
    simp only [if_true]
    exact this
  · simp only [if_neg e]
    exact (h.each k x hx).far (fun e2 => e (h.inj k j (List.getElem?_eq_some_iff.1 hx).1 hjl e2)) _
end
theorem openOf_any (f : Nat → Nat → Int) (nn : Nat) (C : CL) (Q : Nat → Nat) (H : Nat → Int) (B gb : Nat) (A : Option Addr) (c : Nat) (t : Int) (v : Value) (w : World) (h : RJ f C Q H B gb A c w) (hI : CInv f nn C) (hl : nn ≤ 60) (hv : v = match opn f C t with | none => .pointer none | some k => .pointer (some ⟨Q k, 0, none⟩)) :
    Calls Tryd.prog 12 #[.int .i64 t, .pointer (some ⟨gb, 0, none⟩)] w fun e w' => e = .returned v ∧ w = w' := by
  have HR := Lib.hid h
  have HI := Lib.hid hI
  have HV := Lib.hid hv
  have hbox : w.cell? ⟨gb, 0, none⟩ = some (.slice A C.length c) := by rw [h.box.cell]; rfl
  have hbl := h.box.lt
  have hsl := h.own.slr
  have hc1 := hsl.cap
  have hc2 := hsl.cap63
  have HS := Lib.hid hsl
  have hln := hI.len
  generalize hm : C.length = m at hbox hc1 hln HS ⊢
  have HM := Lib.hid hm
  clear h hI hv hsl hm
  go_enter Tryd.func12, Tryd.ntmps12
  go_wp2
  go_loopw [8] (fun i wr => ∃ q : Nat, q ≤ m ∧ i = .int .i64 q ∧ Below w.heap.size w wr ∧ w = wr ∧ Hid (∀ j a : Nat, j < q → C[j]? = some (a, 0) → f a 1 ≠ t)) (fun i _ => m - (intOf i).toNat)
  case atStart => exact ⟨0, by omega, rfl, Below.refl _ _, rfl, Lib.hid fun j a hj => absurd hj (by omega)⟩
  case round =>
    obtain ⟨q, hq, rfl, _, rfl, hj⟩ := hrel
    by_cases hqm : q < m
    · have q1 : (q : Int) < m := by omega
      obtain ⟨b0, off, rfl, hblt, hcell⟩ := HS.out.at_ (by omega)
      have c0 : w.cell? ⟨b0, off + q, none⟩ = some (.pointer (some ⟨Q q, 0, none⟩)) := by simpa using hcell q _ (ptrRows_get Q hqm) 0 _ rfl
      obtain ⟨⟨a, b⟩, hab⟩ : ∃ x, C[q]? = some x := ⟨C[q]'(by rw [HM.out]; exact hqm), List.getElem?_eq_getElem _⟩
      have hb := HR.out.each q _ hab
      have hbq := hb.lt
      have e1 : w.cell? ⟨Q q, 1, none⟩ = some (.int .i64 (f a 1)) := by rw [hb.cell]; rfl
      have e10 : w.cell? ⟨Q q, 10, none⟩ = some (.int .i64 ((b : Int) - 1)) := by rw [hb.cell]; rfl
      have HAB := Lib.hid hab
      clear hcell hb hab
      by_cases ht : f a 1 = t
      · have d1 : decide (f a 1 = t) = true := decide_eq_true ht
        have d1' : (f a 1 == t) = true := by simp [ht]
        have HT := Lib.hid ht
        clear ht
        by_cases hb0 : b = 0
        · have HE : Hid (v = .pointer (some ⟨Q q, 0, none⟩)) := Lib.hid (by
            have := (opn_iff HI.out (t := t) (k := q)).2 ⟨a, by rw [HAB.out, hb0], HT.out⟩
            rw [HV.out, this])
          have d2 : decide ((b : Int) - 1 < 0) = true := by simp; omega
          subst hb0
          go_wp2
          go_ret
          exact ⟨by rw [HE.out]; rfl, rfl⟩
        · have d2 : decide ((b : Int) - 1 < 0) = false := by simp; omega
          have d3 : ¬ ((b : Int) - 1 < 0) := by omega
          have HB0 := Lib.hid hb0
          clear hb0
          go_wp2
          go_roundw
          case rel => exact ⟨q + 1, by omega, by go_num, Below.refl _ _, trivial, Lib.hid fun j a' hjk hja => by
            rcases Nat.lt_or_ge j q with z | z
            · exact hj.out j a' z hja
            · obtain rfl : j = q := by omega
              rw [HAB.out] at hja
              cases hja
              exact absurd rfl HB0.out⟩
          case measure => simp [intOf]; omega
      · have d1 : decide (f a 1 = t) = false := decide_eq_false ht
        have d1' : (f a 1 == t) = false := by simp [ht]
        have HT := Lib.hid ht
        clear ht
        go_wp2
        go_roundw
        case rel => exact ⟨q + 1, by omega, by go_num, Below.refl _ _, trivial, Lib.hid fun j a' hjk hja => by
          rcases Nat.lt_or_ge j q with z | z
          · exact hj.out j a' z hja
          · obtain rfl : j = q := by omega
            rw [HAB.out] at hja
            cases hja
            exact HT.out⟩
        case measure => simp [intOf]; omega
    · obtain rfl : q = m := by omega
      have HE : Hid (v = .pointer none) := Lib.hid (by
        have : opn f C t = none := by
          cases e : opn f C t with
          | none => rfl
          | some k =>
            obtain ⟨h1, a, h2, h3⟩ := opn_some e
            exact absurd h3 (hj.out k a (by rw [← HM.out]; exact h1) h2)
        rw [HV.out, this])
      go_wp2
      go_ret
      exact ⟨by rw [HE.out]; rfl, rfl⟩
end Go.Proofs.YtdogjdgfidbfhaaDoor
