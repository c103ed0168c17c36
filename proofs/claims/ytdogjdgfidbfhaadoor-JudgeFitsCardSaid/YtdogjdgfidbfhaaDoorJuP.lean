/-
  Histories and deeds: the calls of a history, which deed is whose. No program in sight.
-/
import Derived.Test.YtdogjdgfidbfhaaDoorMBase
namespace Go.Proofs.YtdogjdgfidbfhaaDoor
set_option linter.unusedSimpArgs false
set_option linter.unusedVariables false
set_option linter.unusedSectionVars false
open Go.RowKit
set_option linter.unusedSimpArgs false
set_option linter.unusedVariables false

/-- Calls: where each was called, and one more than where it was answered (0: never). -/
abbrev CL := List (Nat × Nat)
def isOp (f : Nat → Nat → Int) (t : Int) (c : Nat × Nat) : Bool := decide (c.2 = 0) && decide (f c.1 1 = t)
def opn (f : Nat → Nat → Int) (C : CL) (t : Int) : Option Nat := C.findIdx? (isOp f t)
def opEq (f : Nat → Nat → Int) (a i : Nat) : Prop := f a 2 = f i 2 ∧ f a 3 = f i 3 ∧ f a 4 = f i 4
instance (f : Nat → Nat → Int) (a i : Nat) : Decidable (opEq f a i) := inferInstanceAs (Decidable (_ ∧ _ ∧ _))
structure CInv (f : Nat → Nat → Int) (i : Nat) (C : CL) : Prop where
  uq : ∀ (k k' a a' : Nat), C[k]? = some (a, 0) → C[k']? = some (a', 0) → f a 1 = f a' 1 → k = k'
  ans : ∀ (k a b : Nat), C[k]? = some (a, b + 1) → f b 1 = f a 1 ∧ opEq f a b
  bd : ∀ (k a b : Nat), C[k]? = some (a, b) → a < i ∧ b ≤ i
  len : C.length ≤ i
theorem isOp_iff {f : Nat → Nat → Int} {t : Int} {c : Nat × Nat} : isOp f t c = true ↔ c.2 = 0 ∧ f c.1 1 = t := by
  unfold isOp
  rw [Bool.and_eq_true, decide_eq_true_iff, decide_eq_true_iff]
theorem opn_some {f : Nat → Nat → Int} {C : CL} {t : Int} {k : Nat} (h : opn f C t = some k) : k < C.length ∧ ∃ a, C[k]? = some (a, 0) ∧ f a 1 = t := by
  obtain ⟨hk, hp, _⟩ := List.findIdx?_eq_some_iff_getElem.1 h
  obtain ⟨h1, h2⟩ := isOp_iff.1 hp
  refine ⟨hk, C[k].1, ?_, h2⟩
  rw [List.getElem?_eq_getElem hk]
  congr 1
  exact Prod.ext rfl h1
theorem opn_none {f : Nat → Nat → Int} {C : CL} {t : Int} (h : opn f C t = none) {k a : Nat} (hk : C[k]? = some (a, 0)) : f a 1 ≠ t := fun e => by
  have := List.findIdx?_eq_none_iff.1 h (a, 0) (List.mem_of_getElem? hk)
  rw [isOp_iff.2 ⟨rfl, e⟩] at this
  cases this
theorem opn_iff {f : Nat → Nat → Int} {i : Nat} {C : CL} (h : CInv f i C) {t : Int} {k : Nat} : opn f C t = some k ↔ ∃ a, C[k]? = some (a, 0) ∧ f a 1 = t := by
  constructor
  · exact fun e => (opn_some e).2
  · rintro ⟨a, h1, h2⟩
    cases e : opn f C t with
    | none => exact absurd h2 (opn_none e h1)
    | some k' =>
      obtain ⟨_, a', h3, h4⟩ := opn_some e
      rw [h.uq k k' a a' h1 h3 (h2.trans h4.symm)]
/-- One event more. -/
def nxt (f : Nat → Nat → Int) (i : Nat) (C : CL) : Option CL :=
  if f i 0 = 1 then (match opn f C (f i 1) with | none => some (C ++ [(i, 0)]) | some _ => none)
  else if f i 0 = 2 then (match opn f C (f i 1) with | none => none | some k => match C[k]? with | none => none | some c => if opEq f c.1 i then some (C.set k (c.1, i + 1)) else none)
  else if f i 0 = 3 then some C else none
theorem opn_app {f : Nat → Nat → Int} {i : Nat} {C : CL} (ho : opn f C (f i 1) = none) (t : Int) : opn f (C ++ [(i, 0)]) t = if t = f i 1 then some C.length else opn f C t := by
  unfold opn at *
  rw [List.findIdx?_append]
  by_cases e : t = f i 1
  · subst e
    rw [ho, if_pos rfl]
    simp [isOp]
  · rw [if_neg e]
    have : isOp f t (i, 0) = false := by
      rw [← Bool.not_eq_true, isOp_iff]
      exact fun h => e h.2.symm
    simp [List.findIdx?_cons, this]
theorem cinv_zero (f : Nat → Nat → Int) : CInv f 0 [] := ⟨fun k k' a a' h => by simp at h, fun k a b h => by simp at h, fun k a b h => by simp at h, Nat.le_refl _⟩
theorem CInv.mono {f : Nat → Nat → Int} {i : Nat} {C : CL} (h : CInv f i C) : CInv f (i + 1) C :=
  ⟨h.uq, h.ans, fun k a b e => by have := h.bd k a b e; omega, by have := h.len; omega⟩
theorem CInv.app {f : Nat → Nat → Int} {i : Nat} {C : CL} (h : CInv f i C) (ho : opn f C (f i 1) = none) : CInv f (i + 1) (C ++ [(i, 0)]) := by
  have get : ∀ (k a b : Nat), (C ++ [(i, 0)])[k]? = some (a, b) → C[k]? = some (a, b) ∨ (k = C.length ∧ a = i ∧ b = 0) := fun k a b e => by
    rcases Nat.lt_or_ge k C.length with hk | hk
    · rw [List.getElem?_append_left hk] at e; exact .inl e
    · rw [List.getElem?_append_right hk] at e
      have hz : k - C.length = 0 := by
        rcases Nat.eq_zero_or_pos (k - C.length) with z | z
        · exact z
        · rw [List.getElem?_eq_none (by simp; omega)] at e; cases e
      rw [hz] at e
      simp at e
      exact .inr ⟨by omega, e.1.symm, e.2.symm⟩
  refine ⟨fun k k' a a' h1 h2 h3 => ?_, fun k a b h1 => ?_, fun k a b h1 => ?_, by have := h.len; simp; omega⟩
  · rcases get k a 0 h1 with q1 | ⟨e1, e2, _⟩ <;> rcases get k' a' 0 h2 with q2 | ⟨e3, e4, _⟩
    · exact h.uq k k' a a' q1 q2 h3
    · rw [e4] at h3; exact absurd h3 (opn_none ho q1)
    · rw [e2] at h3; exact absurd h3.symm (opn_none ho q2)
    · omega
  · rcases get k a (b + 1) h1 with h1 | ⟨_, _, e⟩
    · exact h.ans k a b h1
    · cases e
  · rcases get k a b h1 with h1 | ⟨_, e1, e2⟩
    · have := h.bd k a b h1; omega
    · omega
theorem set_get {C : CL} {k : Nat} (hk : k < C.length) (c : Nat × Nat) (j : Nat) : (C.set k c)[j]? = if j = k then some c else C[j]? := by
  rw [List.getElem?_set]
  by_cases e : k = j
  · subst e; rw [if_pos rfl, if_pos hk, if_pos rfl]
  · rw [if_neg e, if_neg (fun x => e x.symm)]
theorem CInv.answered {f : Nat → Nat → Int} {i : Nat} {C : CL} (h : CInv f i C) {k a : Nat} (hk : C[k]? = some (a, 0)) (ht : f a 1 = f i 1) (ho : opEq f a i) : CInv f (i + 1) (C.set k (a, i + 1)) := by
  have hlt : k < C.length := (List.getElem?_eq_some_iff.1 hk).1
  have hb := h.bd k a 0 hk
  refine ⟨fun k1 k2 a1 a2 h1 h2 h3 => ?_, fun k1 a1 b1 h1 => ?_, fun k1 a1 b1 h1 => ?_, by have := h.len; simp; omega⟩
  · rw [set_get hlt] at h1 h2
    split at h1
    · cases h1
    · split at h2
      · cases h2
      · exact h.uq k1 k2 a1 a2 h1 h2 h3
  · rw [set_get hlt] at h1
    split at h1
    · cases h1; exact ⟨ht.symm, ho⟩
    · exact h.ans k1 a1 b1 h1
  · rw [set_get hlt] at h1
    split at h1
    · cases h1; omega
    · have := h.bd k1 a1 b1 h1; omega
theorem opn_set {f : Nat → Nat → Int} {i : Nat} {C : CL} (h : CInv f i C) {k a : Nat} (hk : C[k]? = some (a, 0)) (ht : f a 1 = f i 1) (ho : opEq f a i) (t : Int) : opn f (C.set k (a, i + 1)) t = if t = f i 1 then none else opn f C t := by
  have hlt : k < C.length := (List.getElem?_eq_some_iff.1 hk).1
  have h2 := h.answered hk ht ho
  apply Option.ext
  intro k'
  rw [opn_iff h2]
  constructor
  · rintro ⟨a', e1, e2⟩
    rw [set_get hlt] at e1
    split at e1
    · cases e1
    · next hne =>
      rw [if_neg (fun e => hne (h.uq k' k a' a e1 hk (by rw [e2, e, ht])))]
      exact (opn_iff h).2 ⟨a', e1, e2⟩
  · intro e
    split at e
    · cases e
    · next hne =>
      obtain ⟨a', e1, e2⟩ := (opn_iff h).1 e
      refine ⟨a', ?_, e2⟩
      rw [set_get hlt, if_neg]
      · exact e1
      · intro e3
        subst e3
        rw [hk] at e1
        cases e1
        exact hne (e2.symm.trans ht)
theorem cinv_nxt {f : Nat → Nat → Int} {i : Nat} {C C' : CL} (h : CInv f i C) (hn : nxt f i C = some C') : CInv f (i + 1) C' := by
  unfold nxt at hn
  split at hn
  · cases e : opn f C (f i 1) with
    | none => rw [e] at hn; cases hn; exact h.app e
    | some k => rw [e] at hn; cases hn
  split at hn
  · cases e : opn f C (f i 1) with
    | none => rw [e] at hn; cases hn
    | some k =>
      rw [e] at hn
      obtain ⟨_, a, h1, h2⟩ := opn_some e
      dsimp only at hn
      rw [h1] at hn
      dsimp only at hn
      split at hn
      · next ho => cases hn; exact h.answered h1 h2 ho
      · cases hn
  split at hn
  · cases hn; exact h.mono
  · cases hn
/-- The calls of the first i events. -/
def Cs (f : Nat → Nat → Int) : Nat → CL
  | 0 => []
  | i + 1 => (nxt f i (Cs f i)).getD []
def okE (f : Nat → Nat → Int) (i : Nat) : Prop := (nxt f i (Cs f i)).isSome = true
theorem cs_succ {f : Nat → Nat → Int} {i : Nat} (h : okE f i) : nxt f i (Cs f i) = some (Cs f (i + 1)) := by
  unfold okE at h
  show _ = some ((nxt f i (Cs f i)).getD [])
  cases e : nxt f i (Cs f i) with
  | none => rw [e] at h; cases h
  | some C => rfl
theorem cinv_cs {f : Nat → Nat → Int} : ∀ i, (∀ j, j < i → okE f j) → CInv f i (Cs f i)
  | 0, _ => cinv_zero f
  | i + 1, h => cinv_nxt (cinv_cs i (fun j hj => h j (by omega))) (cs_succ (h i (by omega)))
/-- Up to K all is well; K is the end, or the first that is not. -/
def UptoP (ok : Nat → Prop) (n K : Nat) : Prop := K ≤ n ∧ (∀ j, j < K → ok j) ∧ (K = n ∨ ¬ ok K)
theorem uptoP_exists (ok : Nat → Prop) : ∀ n, ∃ K, UptoP ok n K
  | 0 => ⟨0, Nat.le_refl _, fun j hj => absurd hj (by omega), .inl rfl⟩
  | n + 1 => by
    obtain ⟨K, h1, h2, h3⟩ := uptoP_exists ok n
    by_cases hK : K = n
    · subst hK
      by_cases h : ok K
      · exact ⟨K + 1, Nat.le_refl _, fun j hj => by
          by_cases e : j = K
          · rw [e]; exact h
          · exact h2 j (by omega), .inl rfl⟩
      · exact ⟨K, by omega, h2, .inr h⟩
    · exact ⟨K, by omega, h2, .inr (h3.resolve_left hK)⟩
theorem UptoP.at {ok : Nat → Prop} {n K i : Nat} (h : UptoP ok n K) (hi : i ≤ K) (hn : i < n) : (ok i ∧ i < K) ∨ (¬ ok i ∧ i = K) := by
  rcases Nat.lt_or_ge i K with h1 | h1
  · exact .inl ⟨h.2.1 i h1, h1⟩
  · obtain rfl : i = K := by omega
    exact .inr ⟨h.2.2.resolve_left (by omega), rfl⟩
/-- The deed k is told of the call (a, b + 1). -/
def dEq (f g : Nat → Nat → Int) (k a b : Nat) : Prop := g k 0 = f a 1 ∧ g k 1 = f a 2 ∧ g k 2 = f a 3 ∧ g k 3 = f a 4 ∧ g k 4 = f b 5 ∧ g k 5 = f b 6
instance (f g : Nat → Nat → Int) (k a b : Nat) : Decidable (dEq f g k a b) := inferInstanceAs (Decidable (_ ∧ _ ∧ _ ∧ _ ∧ _ ∧ _))
def updO (O : Nat → Nat) (k v : Nat) : Nat → Nat := fun j => if j = k then v else O j
/-- What is wrong with call i (0: nothing), and whose each deed is behind it. -/
def errA (f g : Nat → Nat → Int) (nl : Nat) (C : CL) (O : Nat → Nat) (i : Nat) : Int :=
  match C[i]? with
  | some (a, b + 1) => if f b 7 < 1 ∨ (nl : Int) < f b 7 then 7 else if ¬ dEq f g (f b 7 - 1).toNat a b then 13 else if 0 < O (f b 7 - 1).toNat then 9 else 0
  | _ => 0
def nxA (f : Nat → Nat → Int) (C : CL) (O : Nat → Nat) (i : Nat) : Nat → Nat :=
  match C[i]? with
  | some (_, b + 1) => updO O (f b 7 - 1).toNat (i + 1)
  | _ => O
def OA (f : Nat → Nat → Int) (C : CL) : Nat → Nat → Nat
  | 0 => fun _ => 0
  | i + 1 => nxA f C (OA f C i) i
def fndB (f g : Nat → Nat → Int) (C : CL) (k : Nat) : Option Nat :=
  match opn f C (g k 0) with
  | none => none
  | some i => match C[i]? with
    | none => none
    | some c => if f c.1 2 = g k 1 ∧ f c.1 3 = g k 2 ∧ f c.1 4 = g k 3 then some i else none
def used (O : Nat → Nat) (nl i : Nat) : Prop := ∃ k, k < nl ∧ O k = i + 1
def okB (f g : Nat → Nat → Int) (nl : Nat) (C : CL) (O : Nat → Nat) (k : Nat) : Prop := 0 < O k ∨ ∃ i, fndB f g C k = some i ∧ ¬ used O nl i
def nxB (f g : Nat → Nat → Int) (C : CL) (O : Nat → Nat) (k : Nat) : Nat → Nat :=
  if 0 < O k then O else match fndB f g C k with | none => O | some i => updO O k (i + 1)
def OB (f g : Nat → Nat → Int) (C : CL) (O0 : Nat → Nat) : Nat → Nat → Nat
  | 0 => O0
  | k + 1 => nxB f g C (OB f g C O0 k) k
def badC (C : CL) (O : Nat → Nat) (j k : Nat) : Prop := ∃ c d, C[O j - 1]? = some c ∧ C[O k - 1]? = some d ∧ 0 < d.2 ∧ d.2 < c.1 + 1
theorem used_upd {O : Nat → Nat} {nl k i i' : Nat} (h0 : O k = 0) (hk : k < nl) : used (updO O k (i + 1)) nl i' ↔ used O nl i' ∨ i' = i := by
  constructor
  · rintro ⟨j, h1, h2⟩
    unfold updO at h2
    split at h2
    · exact .inr (by omega)
    · exact .inl ⟨j, h1, h2⟩
  · rintro (⟨j, h1, h2⟩ | rfl)
    · refine ⟨j, h1, ?_⟩
      unfold updO
      rw [if_neg]
      · exact h2
      · intro e; subst e; omega
    · exact ⟨k, hk, by unfold updO; rw [if_pos rfl]⟩
/-- Whose each deed is, is one of m calls. -/
def OBd (m nl : Nat) (O : Nat → Nat) : Prop := ∀ k, k < nl → O k ≤ m
theorem OBd.upd {m nl : Nat} {O : Nat → Nat} (h : OBd m nl O) {k i : Nat} (hi : i < m) : OBd m nl (updO O k (i + 1)) := fun j hj => by
  unfold updO
  split
  · omega
  · exact h j hj
theorem fndB_lt {f g : Nat → Nat → Int} {C : CL} {k i : Nat} (h : fndB f g C k = some i) : i < C.length ∧ ∃ a, C[i]? = some (a, 0) ∧ f a 1 = g k 0 ∧ f a 2 = g k 1 ∧ f a 3 = g k 2 ∧ f a 4 = g k 3 ∧ opn f C (g k 0) = some i := by
  unfold fndB at h
  cases e : opn f C (g k 0) with
  | none => rw [e] at h; cases h
  | some j =>
    obtain ⟨h1, a, h2, h3⟩ := opn_some e
    rw [e] at h
    dsimp only at h
    rw [h2] at h
    dsimp only at h
    split at h
    · next hq =>
      cases h
      exact ⟨h1, a, h2, h3, hq.1, hq.2.1, hq.2.2, rfl⟩
    · cases h
theorem oa_bd {f g : Nat → Nat → Int} {C : CL} {m nl : Nat} (hC : C.length = m) : ∀ i, OBd m nl (OA f C i)
  | 0 => fun k _ => Nat.zero_le _
  | i + 1 => by
    show OBd m nl (nxA f C (OA f C i) i)
    unfold nxA
    split
    · next e => exact (oa_bd (g := g) hC i).upd (by have := (List.getElem?_eq_some_iff.1 e).1; omega)
    · exact oa_bd (g := g) hC i
theorem ob_bd {f g : Nat → Nat → Int} {C : CL} {m nl : Nat} (hC : C.length = m) {O0 : Nat → Nat} (h0 : OBd m nl O0) : ∀ k, OBd m nl (OB f g C O0 k)
  | 0 => h0
  | k + 1 => by
    show OBd m nl (nxB f g C (OB f g C O0 k) k)
    unfold nxB
    split
    · exact ob_bd hC h0 k
    · split
      · exact ob_bd hC h0 k
      · next e => exact (ob_bd hC h0 k).upd (by have := (fndB_lt e).1; omega)
theorem ob_full {f g : Nat → Nat → Int} {C : CL} {nl : Nat} {O0 : Nat → Nat} : ∀ k, (∀ j, j < k → okB f g nl C (OB f g C O0 j) j) → ∀ j, j < k → 0 < OB f g C O0 k j
  | 0, _, j, hj => absurd hj (by omega)
  | k + 1, h, j, hj => by
    have ih := ob_full k (fun j hj => h j (by omega))
    have hk := h k (by omega)
    show 0 < nxB f g C (OB f g C O0 k) k j
    unfold nxB
    split
    · next hp =>
      by_cases e : j = k
      · rw [e]; exact hp
      · exact ih j (by omega)
    · next hp =>
      rcases hk with hk | ⟨i, hi, _⟩
      · exact absurd hk hp
      · rw [hi]
        show 0 < updO _ k (i + 1) j
        unfold updO
        split
        · omega
        · exact ih j (by omega)
/-- What the document says of a history and deeds: the error and its place. -/
structure JRes (f g : Nat → Nat → Int) (n nl K IA KB : Nat) (b : Bool) (e p : Int) : Prop where
  hK : UptoP (okE f) n K
  hA : K = n → UptoP (fun i => errA f g nl (Cs f n) (OA f (Cs f n) i) i = 0) (Cs f n).length IA
  hB : K = n → IA = (Cs f n).length → UptoP (fun k => okB f g nl (Cs f n) (OB f g (Cs f n) (OA f (Cs f n) IA) k) k) nl KB
  hC : K = n → IA = (Cs f n).length → KB = nl → (b = true ↔ ∃ j k, j < k ∧ k < nl ∧ badC (Cs f n) (OB f g (Cs f n) (OA f (Cs f n) IA) nl) j k)
  res : e = (if K = n then (if IA = (Cs f n).length then (if KB = nl then (if b = true then 6 else 0) else 8) else errA f g nl (Cs f n) (OA f (Cs f n) IA) IA) else 10) ∧ p = if K = n then -1 else (K : Int)
theorem jres_exists (f g : Nat → Nat → Int) (n nl : Nat) : ∃ K IA KB b e p, JRes f g n nl K IA KB b e p := by
  obtain ⟨K, hK⟩ := uptoP_exists (okE f) n
  obtain ⟨IA, hA⟩ := uptoP_exists (fun i => errA f g nl (Cs f n) (OA f (Cs f n) i) i = 0) (Cs f n).length
  obtain ⟨KB, hB⟩ := uptoP_exists (fun k => okB f g nl (Cs f n) (OB f g (Cs f n) (OA f (Cs f n) IA) k) k) nl
  by_cases hb : ∃ j k, j < k ∧ k < nl ∧ badC (Cs f n) (OB f g (Cs f n) (OA f (Cs f n) IA) nl) j k
  · exact ⟨K, IA, KB, true, _, _, hK, fun _ => hA, fun _ _ => hB, fun _ _ _ => ⟨fun _ => hb, fun _ => rfl⟩, rfl, rfl⟩
  · exact ⟨K, IA, KB, false, _, _, hK, fun _ => hA, fun _ _ => hB, fun _ _ _ => ⟨fun h => Bool.noConfusion h, fun h => absurd h hb⟩, rfl, rfl⟩
end Go.Proofs.YtdogjdgfidbfhaaDoor
