/-
  A heap stays one: what rises in it, what sinks in it. No program in sight.
  A table stays right: what is put into it, what is taken out of it. No program in sight.
  The plain mathematics of an object as words: what comes of an operation, and that it is an object again. No program in sight.
-/
import Derived.Test.YtkoflhjnpilchaaGreatDoorMHeap
import Derived.Test.YtkoflhjnpilchaaGreatDoorMObjR
import Derived.Test.YtkoflhjnpilchaaGreatDoorMTabA
import Derived.Test.YtkoflhjnpilchaaGreatDoorQueueD
import Derived.Test.YtkoflhjnpilchaaGreatDoorStackD
import Derived.Test.YtkoflhjnpilchaaGreatDoorDequeD
import Derived.Test.YtkoflhjnpilchaaGreatDoorTabD
import Derived.Test.YtkoflhjnpilchaaGreatDoorTally
import Derived.Test.YtkoflhjnpilchaaGreatDoorMThing
namespace Go.Proofs.YtkoflhjnpilchaaGreatDoor
set_option linter.unusedSimpArgs false
set_option linter.unusedVariables false
set_option linter.unusedSectionVars false
set_option linter.unusedSimpArgs false
set_option linter.unusedVariables false

theorem heapT_iff {xs : List Int} {k : Nat} : heapT xs k = true ↔ k = 0 ∨ gI xs ((k - 1) / 2) ≤ gI xs k := by
  unfold heapT gI; rw [decide_eq_true_iff]
theorem heapR_iff {xs : List Int} : heapR xs = true ↔ (∀ k, k < xs.length → k = 0 ∨ gI xs ((k - 1) / 2) ≤ gI xs k) ∧ xs.length ≤ 6 := by
  unfold heapR
  rw [Bool.and_eq_true, List.all_eq_true, decide_eq_true_iff]
  constructor
  · rintro ⟨h, h6⟩
    exact ⟨fun k hk => heapT_iff.1 (h k (by simpa using hk)), h6⟩
  · rintro ⟨h, h6⟩
    exact ⟨fun k hk => heapT_iff.2 (h k (by simpa using hk)), h6⟩

theorem rise_len : ∀ (i : Nat) (xs : List Int), (rise xs i).length = xs.length := by
  intro i
  induction i using Nat.strongRecOn with
  | ind i ih =>
    intro xs
    by_cases h : 0 < i ∧ gI xs i < gI xs ((i - 1) / 2)
    · rw [rise_step h, ih ((i - 1) / 2) (by omega)]
      simp
    · rw [rise_end h]

theorem rise_heap : ∀ (i : Nat) (xs : List Int), i < xs.length → (∀ k, k < xs.length → k = 0 ∨ k = i ∨ gI xs ((k - 1) / 2) ≤ gI xs k) → (∀ k, k < xs.length → 0 < k → (k - 1) / 2 = i → 0 < i → gI xs ((i - 1) / 2) ≤ gI xs k) →
    ∀ k, k < xs.length → k = 0 ∨ gI (rise xs i) ((k - 1) / 2) ≤ gI (rise xs i) k := by
  intro i
  induction i using Nat.strongRecOn with
  | ind i ih =>
    intro xs hi h1 h2 k hk
    by_cases h : 0 < i ∧ gI xs i < gI xs ((i - 1) / 2)
    · rw [rise_step h]
      have hp : (i - 1) / 2 < i := by omega
      have hg : ∀ j, gI ((xs.set i (gI xs ((i - 1) / 2))).set ((i - 1) / 2) (gI xs i)) j = if j = (i - 1) / 2 then gI xs i else if j = i then gI xs ((i - 1) / 2) else gI xs j := fun j => by
        rw [gI_set (by simp; omega)]
        by_cases hj : j = (i - 1) / 2
        · rw [if_pos hj, if_pos hj]
        · rw [if_neg hj, if_neg hj, gI_set hi]
      generalize hgen : (xs.set i (gI xs ((i - 1) / 2))).set ((i - 1) / 2) (gI xs i) = ys at *
      have hl : ys.length = xs.length := by rw [← hgen]; simp
      refine ih ((i - 1) / 2) hp ys (by omega) (fun k hk => ?_) (fun k hk h0 hkp hp0 => ?_) k (by omega)
      · have a1 := h1 k (by omega)
        have a2 := h2 k (by omega)
        have a3 := h1 ((i - 1) / 2) (by omega)
        rw [hg, hg]
        by_cases e1 : k = (i - 1) / 2
        · exact .inr (.inl e1)
        · by_cases e0 : k = 0
          · exact .inl e0
          · right; right
            rw [if_neg e1]
            by_cases e2 : k = i
            · rw [if_pos e2, if_pos (by rw [e2])]; omega
            · rw [if_neg e2]
              by_cases e3 : (k - 1) / 2 = (i - 1) / 2
              · rw [if_pos e3]; rw [e3] at a1; omega
              · rw [if_neg e3]
                by_cases e4 : (k - 1) / 2 = i
                · rw [if_pos e4]; exact a2 (by omega) e4 h.1
                · rw [if_neg e4]; omega
      · have a1 := h1 ((i - 1) / 2) (by omega)
        have a2 := h1 k (by omega)
        rw [hg, hg, if_neg (by omega), if_neg (by omega), if_neg (by omega)]
        by_cases e2 : k = i
        · rw [if_pos e2]; omega
        · rw [if_neg e2]
          rw [hkp] at a2
          omega
    · rw [rise_end h]
      have := h1 k hk
      rcases this with e | e | e
      · exact .inl e
      · subst e
        rcases Nat.eq_zero_or_pos k with h0 | h0
        · exact .inl h0
        · right
          have : ¬ gI xs k < gI xs ((k - 1) / 2) := fun hh => h ⟨h0, hh⟩
          omega
      · exact .inr e

theorem rise_mem : ∀ (i : Nat) (xs : List Int) (P : Int → Prop), i < xs.length → (∀ k, k < xs.length → P (gI xs k)) → ∀ k, k < xs.length → P (gI (rise xs i) k) := by
  intro i
  induction i using Nat.strongRecOn with
  | ind i ih =>
    intro xs P hi hP k hk
    by_cases h : 0 < i ∧ gI xs i < gI xs ((i - 1) / 2)
    · rw [rise_step h]
      refine ih ((i - 1) / 2) (by omega) _ P (by simp; omega) (fun j hj => ?_) k (by simpa using hk)
      simp only [List.length_set] at hj
      rw [gI_set (by simp; omega)]
      split
      · exact hP i hi
      · rw [gI_set hi]
        split
        · exact hP _ (by omega)
        · exact hP j hj
    · rw [rise_end h]; exact hP k hk

theorem sink_len : ∀ (n : Nat) (xs : List Int) (i : Nat) (v : Int), xs.length - i ≤ n → (sink xs i v).length = xs.length := by
  intro n
  induction n with
  | zero =>
    intro xs i v h
    have := child_or xs i
    rw [sink_end (by omega)]; simp
  | succ n ih =>
    intro xs i v h
    by_cases hc : child xs i < xs.length ∧ gI xs (child xs i) < v
    · rw [sink_step hc, ih _ _ _ (by have := child_or xs i; simp; omega)]; simp
    · rw [sink_end hc]; simp

theorem sink_mem : ∀ (n : Nat) (xs : List Int) (i : Nat) (v : Int) (P : Int → Prop), xs.length - i ≤ n → i < xs.length → P v → (∀ k, k < xs.length → P (gI xs k)) → ∀ k, k < xs.length → P (gI (sink xs i v) k) := by
  intro n
  induction n with
  | zero => intro xs i v P h hi; omega
  | succ n ih =>
    intro xs i v P h hi hv hP k hk
    by_cases hc : child xs i < xs.length ∧ gI xs (child xs i) < v
    · rw [sink_step hc]
      refine ih _ _ _ P (by have := child_or xs i; simp; omega) (by simp; exact hc.1) hv (fun j hj => ?_) k (by simpa using hk)
      simp only [List.length_set] at hj
      rw [gI_set hi]
      split
      · exact hP _ hc.1
      · exact hP j hj
    · rw [sink_end hc, gI_set hi]
      split
      · exact hv
      · exact hP k hk

theorem sink_heap : ∀ (n : Nat) (xs : List Int) (i : Nat) (v : Int), xs.length - i ≤ n → i < xs.length → (∀ k, k < xs.length → k = 0 ∨ k = i ∨ (k - 1) / 2 = i ∨ gI xs ((k - 1) / 2) ≤ gI xs k) →
    (0 < i → gI xs ((i - 1) / 2) ≤ v) → (0 < i → ∀ k, k < xs.length → 0 < k → (k - 1) / 2 = i → gI xs ((i - 1) / 2) ≤ gI xs k) →
    ∀ k, k < xs.length → k = 0 ∨ gI (sink xs i v) ((k - 1) / 2) ≤ gI (sink xs i v) k := by
  intro n
  induction n with
  | zero => intro xs i v h hi; omega
  | succ n ih =>
    intro xs i v h hi h1 h2 h3 k hk
    have hco := child_or xs i
    by_cases hc : child xs i < xs.length ∧ gI xs (child xs i) < v
    · rw [sink_step hc]
      generalize child xs i = c at *
      have hci : (c - 1) / 2 = i ∧ i < c := by omega
      have hmin : ∀ j, j < xs.length → 0 < j → (j - 1) / 2 = i → gI xs c ≤ gI xs j := fun j hj h0 hp => by
        have : j = 2 * i + 1 ∨ j = 2 * i + 2 := by omega
        rcases this with rfl | rfl
        · rcases hco with ⟨rfl, a, b⟩ | ⟨rfl, a⟩ <;> omega
        · rcases hco with ⟨rfl, a, b⟩ | ⟨rfl, a⟩ <;> omega
      have hg : ∀ j, gI (xs.set i (gI xs c)) j = if j = i then gI xs c else gI xs j := fun j => gI_set hi
      have hl : (xs.set i (gI xs c)).length = xs.length := by simp
      generalize xs.set i (gI xs c) = ys at *
      refine ih ys c v (by omega) (by omega) (fun j hj => ?_) (fun h0 => ?_) (fun h0 j hj hj0 hp => ?_) k (by omega)
      · rw [hg, hg]
        have a1 := h1 j (by omega)
        by_cases e0 : j = 0
        · exact .inl e0
        by_cases e1 : j = c
        · exact .inr (.inl e1)
        by_cases e2 : (j - 1) / 2 = c
        · exact .inr (.inr (.inl e2))
        right; right; right
        by_cases e3 : j = i
        · rw [if_neg (by omega), if_pos e3, e3]
          exact h3 (by omega) c hc.1 (by omega) hci.1
        · rw [if_neg e3]
          by_cases e4 : (j - 1) / 2 = i
          · rw [if_pos e4]
            exact hmin j (by omega) (by omega) e4
          · rw [if_neg e4]
            omega
      · rw [hg, if_pos hci.1]; omega
      · rw [hg, hg, if_pos hci.1, if_neg (by omega)]
        have a1 := h1 j (by omega)
        rw [hp] at a1
        omega
    · rw [sink_end hc, gI_set hi, gI_set hi]
      by_cases e0 : k = 0
      · exact .inl e0
      right
      have a1 := h1 k hk
      by_cases e1 : k = i
      · rw [if_pos e1, if_neg (by omega)]
        subst e1
        exact h2 (by omega)
      · rw [if_neg e1]
        by_cases e2 : (k - 1) / 2 = i
        · rw [if_pos e2]
          have : k = 2 * i + 1 ∨ k = 2 * i + 2 := by omega
          rcases hco with ⟨a, b, c⟩ | ⟨a, b⟩
          · rw [a] at hc
            rcases this with rfl | rfl <;> omega
          · rw [a] at hc
            rcases this with rfl | rfl
            · omega
            · have : ¬ gI xs (2 * i + 2) < gI xs (2 * i + 1) := fun h => b ⟨hk, h⟩
              omega
        · rw [if_neg e2]; omega

theorem heapR_rise {xs : List Int} {v : Int} (h : heapR xs = true) (hn : xs.length < 6) : heapR (rise (xs ++ [v]) xs.length) = true := by
  rw [heapR_iff] at h ⊢
  rw [rise_len]
  refine ⟨fun k hk => rise_heap xs.length (xs ++ [v]) (by simp) (fun j hj => ?_) (fun j hj h0 hp => ?_) k hk, by simp; omega⟩
  · simp only [List.length_append, List.length_cons, List.length_nil] at hj
    rcases Nat.lt_or_ge j xs.length with hlt | hge
    · rw [gI_app_lt (by omega), gI_app_lt hlt]
      have := h.1 j hlt
      omega
    · right; left; omega
  · simp only [List.length_append, List.length_cons, List.length_nil] at hj
    omega
theorem heapR_sink {xs : List Int} (h : heapR xs = true) : heapR (sink (xs.take (xs.length - 1)) 0 (gI xs (xs.length - 1))) = true := by
  rw [heapR_iff] at h ⊢
  rw [sink_len _ _ _ _ (Nat.le_refl _)]
  have hl : (xs.take (xs.length - 1)).length = xs.length - 1 := by simp
  by_cases h0 : xs.length - 1 = 0
  · exact ⟨fun k hk => by omega, by omega⟩
  · refine ⟨fun k hk => sink_heap _ _ 0 _ (Nat.le_refl _) (by omega) (fun j hj => ?_) (fun h => absurd h (by omega)) (fun h => absurd h (by omega)) k hk, by omega⟩
    rw [gI_take (by omega), gI_take (by omega)]
    have := h.1 j (by omega)
    omega
end Go.Proofs.YtkoflhjnpilchaaGreatDoor

namespace Go.Proofs.YtkoflhjnpilchaaGreatDoor
set_option linter.unusedSimpArgs false
set_option linter.unusedVariables false
set_option linter.unusedSectionVars false
set_option linter.unusedSimpArgs false
set_option linter.unusedVariables false

/-- Slot s has no key, or its key's row is full of others up to s. -/
def GoodS (z : Nat → Int) (s : Nat) : Prop := z (2 * s) = 0 ∨ ∃ d, d < 8 ∧ rowP (z (2 * s)).toNat d = s ∧ ∀ b, b < d → z (2 * rowP (z (2 * s)).toNat b) ≠ 0 ∧ z (2 * rowP (z (2 * s)).toNat b) ≠ z (2 * s)
theorem rowP_inj {q a b : Nat} (ha : a < 8) (hb : b < 8) (h : rowP q a = rowP q b) : a = b := by unfold rowP at h; omega
/-- The first of a key's row that has it, or none: how atT answers. -/
theorem atT_iff {z : Nat → Int} {q d : Nat} (hd : d < 8) : (atT z q = (rowP q d : Nat)) ↔ (hitB z q d = true ∧ ∀ b, b < d → hitB z q b = false) := by
  constructor
  · intro h
    unfold atT at h
    split at h
    · rename_i k hk
      have hk' := hk
      rw [List.find?_range_eq_some] at hk
      obtain ⟨h1, h2, h3⟩ := hk
      simp at h2
      have : k = d := rowP_inj (q := q) h2 hd (by omega)
      subst this
      exact ⟨h1, fun b hb => by simpa using h3 b hb⟩
    · omega
  · rintro ⟨h1, h2⟩
    unfold atT
    rw [find_range hd h1 h2]
theorem goodS_iff {z : Nat → Int} {s : Nat} (h0 : 0 ≤ z (2 * s)) (hs : s < 8) : GoodS z s ↔ (z (2 * s) ≠ 0 → atT z (z (2 * s)).toNat = s) := by
  have hq : ((z (2 * s)).toNat : Int) = z (2 * s) := by omega
  constructor
  · rintro (h | ⟨d, hd, hr, hall⟩) hne
    · exact absurd h hne
    · have : (atT z (z (2 * s)).toNat = (rowP (z (2 * s)).toNat d : Nat)) := (atT_iff hd).2 ⟨by unfold hitB; rw [hr]; simp [hq], fun b hb => by unfold hitB; have := hall b hb; rw [hq]; simp [this.1, this.2]⟩
      rw [hr] at this
      exact this
  · intro h
    by_cases hz : z (2 * s) = 0
    · exact .inl hz
    · have ha := h hz
      have hex : ∃ d, d < 8 ∧ rowP (z (2 * s)).toNat d = s := ⟨(s + 8 - (z (2 * s)).toNat * 5 % 8) % 8, by omega, by unfold rowP; omega⟩
      obtain ⟨d, hd, hr⟩ := hex
      have := (atT_iff (z := z) (q := (z (2 * s)).toNat) hd).1 (by rw [hr]; exact ha)
      refine .inr ⟨d, hd, hr, fun b hb => ?_⟩
      have := this.2 b hb
      unfold hitB at this
      rw [hq] at this
      simp at this
      exact ⟨this.2, this.1⟩

/-- What is put where its key belongs stands well, and lets all others stand. -/
theorem good_put {z : Nat → Int} {q p : Nat} {v : Int} (hp8 : p < 8) (hat : atT z q = (p : Nat)) (s : Nat) (_ : s < 8) (hg : s = p ∨ GoodS z s) : GoodS (setS z p q v) s := by
  have hex : ∃ d, d < 8 ∧ rowP q d = p := ⟨(p + 8 - q * 5 % 8) % 8, by omega, by unfold rowP; omega⟩
  obtain ⟨d, hd, hr⟩ := hex
  obtain ⟨hh, hno⟩ := (atT_iff (z := z) hd).1 (by rw [hr]; exact hat)
  have hpz : z (2 * p) = q ∨ z (2 * p) = 0 := by unfold hitB at hh; rw [hr] at hh; simpa using hh
  by_cases hsp : s = p
  · subst hsp
    by_cases hq0 : q = 0
    · left; rw [setS_key, if_pos rfl, hq0]; rfl
    right
    refine ⟨d, hd, by rw [setS_key, if_pos rfl]; exact hr, fun b hb => ?_⟩
    rw [setS_key z s q v s, if_pos rfl, Int.toNat_natCast, setS_key, if_neg (fun e => by have := rowP_inj (by omega) hd (e.trans hr.symm); omega)]
    have := hno b hb
    unfold hitB at this
    simp at this
    exact ⟨this.2, this.1⟩
  · have hg := hg.resolve_left hsp
    unfold GoodS
    rw [setS_key z p q v s, if_neg hsp]
    rcases hg with h | ⟨d', hd', hr', hall⟩
    · exact .inl h
    · refine .inr ⟨d', hd', hr', fun b hb => ?_⟩
      rw [setS_key]
      have := hall b hb
      by_cases e : rowP (z (2 * s)).toNat b = p
      · rw [if_pos e]
        rw [e] at this
        rcases hpz with h | h
        · rw [← h]; exact this
        · exact absurd h this.1
      · rw [if_neg e]; exact this

/-- A slot that is cleared is no part of a row that ends ahead of it. -/
theorem good_clear {z : Nat → Int} {k s : Nat} (hg : GoodS z s) (hk : ∀ d, d < 8 → z (2 * s) ≠ 0 → rowP (z (2 * s)).toNat d = s → (∀ b, b < d → z (2 * rowP (z (2 * s)).toNat b) ≠ 0) → ∀ b, b < d → rowP (z (2 * s)).toNat b ≠ k) : GoodS (setS z k 0 0) s := by
  unfold GoodS
  rw [setS_key z k 0 0 s]
  by_cases hsk : s = k
  · rw [if_pos hsk]; exact .inl rfl
  rw [if_neg hsk]
  rcases hg with h | ⟨d, hd, hr, hall⟩
  · exact .inl h
  · by_cases hz : z (2 * s) = 0
    · exact .inl hz
    refine .inr ⟨d, hd, hr, fun b hb => ?_⟩
    rw [setS_key, if_neg (hk d hd hz hr (fun b hb => (hall b hb).1) b hb)]
    exact hall b hb

theorem lenT_at {z z' : Nat → Int} {k : Nat} (h : ∀ x, x ≠ k → (z' (2 * x) = 0 ↔ z (2 * x) = 0)) : ∀ n, lenT z' n = lenT z n + (if k < n then (if z' (2 * k) ≠ 0 then 1 else 0) - (if z (2 * k) ≠ 0 then 1 else 0) else 0)
  | 0 => by simp [lenT]
  | n + 1 => by
    rw [lenT_succ, lenT_succ, lenT_at h n]
    generalize lenT z n = l
    by_cases hk : n = k
    · subst hk
      rw [if_neg (Nat.lt_irrefl n), if_pos (Nat.lt_succ_self n)]
      generalize (if z' (2 * n) ≠ 0 then (1 : Int) else 0) = a
      generalize (if z (2 * n) ≠ 0 then (1 : Int) else 0) = b
      omega
    · have := h n hk
      have e : (z' (2 * n) ≠ 0) ↔ (z (2 * n) ≠ 0) := by rw [Ne, Ne, this]
      have e2 : (if z' (2 * n) ≠ 0 then (1 : Int) else 0) = if z (2 * n) ≠ 0 then 1 else 0 := by simp only [e]
      rw [e2]
      generalize (if z (2 * n) ≠ 0 then (1 : Int) else 0) = a
      by_cases hlt : k < n
      · rw [if_pos hlt, if_pos (show k < n + 1 by omega)]; omega
      · rw [if_neg hlt, if_neg (show ¬ k < n + 1 by omega)]; omega

theorem lenT_setS (z : Nat → Int) (k : Nat) (q v : Int) (hk : k < 8) : lenT (setS z k q v) 8 = lenT z 8 + ((if q ≠ 0 then 1 else 0) - (if z (2 * k) ≠ 0 then 1 else 0)) := by
  rw [lenT_at (k := k) (z := z) (fun x hx => by rw [setS_key, if_neg hx]) 8, if_pos hk, setS_key, if_pos rfl]

/-- A slot's numbers are in bounds. -/
def BdS (z : Nat → Int) (i : Nat) : Prop := 0 ≤ z (2 * i) ∧ z (2 * i) ≤ 1000 ∧ 0 ≤ z (2 * i + 1) ∧ z (2 * i + 1) ≤ 4294967295 ∧ (z (2 * i) = 0 → z (2 * i + 1) = 0)
theorem bd_set {z : Nat → Int} {i s : Nat} {k v : Int} (h : BdS z s) (hk : 0 ≤ k ∧ k ≤ 1000 ∧ 0 ≤ v ∧ v ≤ 4294967295 ∧ (k = 0 → v = 0)) : BdS (setS z i k v) s := by
  unfold BdS
  rw [setS_key, setS_val]
  by_cases e : s = i
  · rw [if_pos e, if_pos e]; exact hk
  · rw [if_neg e, if_neg e]; exact h
theorem rightT_iff {z : Nat → Int} : rightT z = true ↔ lenT z 8 ≤ 6 ∧ ∀ s, s < 8 → BdS z s ∧ GoodS z s := by
  constructor
  · intro h
    refine ⟨rightT_len h, fun s hs => ?_⟩
    have hb := slot_bd h hs
    have ho := rightT_slot h hs
    unfold slotOk at ho
    simp only [decide_eq_true_eq] at ho
    exact ⟨hb, (goodS_iff hb.1 hs).2 ho.2.2.2.2.2⟩
  · rintro ⟨hl, h⟩
    refine rightT_end hl fun s hs => ?_
    obtain ⟨hb, hg⟩ := h s hs
    unfold slotOk
    rw [decide_eq_true_iff]
    exact ⟨hb.1, hb.2.1, hb.2.2.1, hb.2.2.2.1, hb.2.2.2.2, (goodS_iff hb.1 hs).1 hg⟩

theorem rightT_put {z : Nat → Int} {q p : Nat} {v : Int} (h : rightT z = true) (hp : p < 8) (hat : atT z q = (p : Nat)) (hq : q ≤ 1000) (hq0 : 0 < q) (hv : 0 ≤ v ∧ v ≤ 4294967295) (hl : z (2 * p) = 0 → lenT z 8 < 6) : rightT (setS z p q v) = true := by
  rw [rightT_iff] at h ⊢
  obtain ⟨h6, hs⟩ := h
  refine ⟨?_, fun s hs8 => ⟨bd_set (hs s hs8).1 (by omega), good_put hp hat s hs8 (.inr (hs s hs8).2)⟩⟩
  rw [lenT_setS _ _ _ _ hp]
  by_cases h0 : z (2 * p) = 0
  · have := hl h0
    simp only [h0]
    split <;> simp <;> omega
  · rw [if_pos h0]
    split <;> omega

/-- Those behind, from the j-th on, are yet to be moved; all others stand well. -/
structure Mid (z T : Nat → Int) (i m j : Nat) : Prop where
  agree : AgreeS T (setS z i 0 0) i j m
  len : lenT T 8 ≤ 6
  bd : ∀ s, s < 8 → BdS T s
  good : ∀ s, s < 8 → (∀ x, j ≤ x → x < m → s ≠ kk i x) → GoodS T s

theorem Mid.start {z : Nat → Int} {i m : Nat} (b : Beh z i m) : Mid z (setS z i 0 0) i m 0 := by
  have hr := rightT_iff.1 b.right
  have h6 := b.m6
  refine ⟨fun _ _ _ => ⟨rfl, rfl⟩, ?_, fun s hs => bd_set (hr.2 s hs).1 (by omega), fun s hs hx => ?_⟩
  · rw [lenT_setS _ _ _ _ b.hi]
    have := hr.1
    simp only [ne_eq, not_true_eq_false, if_false]
    split <;> omega
  · refine good_clear (hr.2 s hs).2 fun d hd hz hrow hall c hc he => ?_
    have hsi : s ≠ i := fun e => by
      have := rowP_inj (by omega) hd (he.trans (e ▸ hrow.symm))
      omega
    -- all slots from i to s are full, so s is one of those behind
    generalize (z (2 * s)).toNat = q at *
    have hfull : ∀ x, x < d - c → z (2 * kk i x) ≠ 0 ∨ kk i x = s := fun x hx => by
      have e : kk i x = rowP q (c + 1 + x) := by unfold rowP at he ⊢; unfold kk; omega
      rcases Nat.lt_or_ge (c + 1 + x) d with h | h
      · left; rw [e]; exact hall _ h
      · right; rw [e, show c + 1 + x = d by omega, hrow]
    have hs' : kk i (d - c - 1) = s := by unfold rowP at he hrow; unfold kk; omega
    have hm : d - c - 1 < m := by
      rcases Nat.lt_or_ge (d - c - 1) m with h | h
      · exact h
      · exfalso
        have hf := b.free
        rw [setS_key] at hf
        have hmi : kk i m ≠ i := by unfold kk; have := b.hi; omega
        rw [if_neg hmi] at hf
        rcases hfull m (by omega) with h1 | h1
        · exact h1 hf
        · rw [h1] at hf; exact hz hf
    exact hx (d - c - 1) (by omega) hm hs'.symm

theorem Mid.step {z T : Nat → Int} {i m j : Nat} (b : Beh z i m) (hM : Mid z T i m j) (hj : j < m) : Mid z (stepT T (kk i j)) i m (j + 1) := by
  have h6 := b.m6
  have hi := b.hi
  obtain ⟨p, hp, hat, hne⟩ := b.step hj hM.agree
  have hkj : kk i j ≠ i := by unfold kk; omega
  have hk8 := kk_lt i j
  have eT : T (2 * kk i j) = z (2 * kk i j) := by rw [(hM.agree j (Nat.le_refl _) (by omega)).1, setS_key, if_neg hkj]
  have hTz : T (2 * kk i j) ≠ 0 := by have := b.occ j hj; rw [setS_key, if_neg hkj] at this; rwa [eT]
  have hbk := hM.bd _ hk8
  have hTm : T (2 * kk i m) = 0 := by rw [(hM.agree m (by omega) (Nat.le_refl _)).1]; exact b.free
  obtain ⟨q, hq⟩ : ∃ q : Nat, T (2 * kk i j) = (q : Int) := ⟨_, (Int.toNat_of_nonneg hbk.1).symm⟩
  have eS : stepT T (kk i j) = setS (setS T (kk i j) 0 0) p q (T (2 * kk i j + 1)) := by
    unfold stepT
    rw [hat, Int.toNat_natCast, hq]
  have hat' : atT (setS T (kk i j) 0 0) q = (p : Nat) := by rw [hq, Int.toNat_natCast] at hat; exact hat
  have hb2 := hbk
  unfold BdS at hb2
  refine ⟨b.next hj hM.agree, ?_, fun s hs => ?_, fun s hs hx => ?_⟩
  · rw [eS, lenT_setS _ _ _ _ hp, lenT_setS _ _ _ _ hk8]
    have := hM.len
    rw [if_pos hTz]
    simp only [ne_eq, not_true_eq_false, if_false]
    split <;> split <;> omega
  · rw [eS]
    exact bd_set (bd_set (hM.bd s hs) (by omega)) (by omega)
  · rw [eS]
    by_cases hsp : s = p
    · exact good_put hp hat' s hs (.inl hsp)
    refine good_put hp hat' s hs (.inr ?_)
    by_cases hsk : s = kk i j
    · left; rw [hsk, setS_key, if_pos rfl]
    refine good_clear (hM.good s hs fun x hxj hxm e => ?_) fun d hd hz hrow hall c hc he => ?_
    · rcases Nat.eq_or_lt_of_le hxj with h | h
      · subst h; exact hsk e
      · exact hx x h hxm e
    · generalize (T (2 * s)).toNat = r at *
      -- from slot kk i j to s all is full, so s is among those yet to be moved
      have hs' : kk i (j + (d - c)) = s := by unfold rowP at he hrow; unfold kk at he ⊢; omega
      rcases Nat.lt_or_ge (j + (d - c)) m with h | h
      · exact hx _ (by omega) h hs'.symm
      · rcases Nat.eq_or_lt_of_le h with h | h
        · rw [← h] at hs'
          rw [hs'] at hTm
          exact hz hTm
        · have e : kk i m = rowP r (c + (m - j)) := by unfold rowP at he ⊢; unfold kk at he ⊢; omega
          exact hall (c + (m - j)) (by omega) (by rw [← e]; exact hTm)

theorem Mid.run {z : Nat → Int} {i m : Nat} (b : Beh z i m) : ∀ j, j ≤ m → Mid z (runT z i j) i m j
  | 0, _ => Mid.start b
  | j + 1, h => Mid.step b (Mid.run b j (by omega)) (by omega)
theorem rightT_run {z : Nat → Int} {i m : Nat} (b : Beh z i m) : rightT (runT z i m) = true := by
  have h := Mid.run b m (Nat.le_refl _)
  exact rightT_iff.2 ⟨h.len, fun s hs => ⟨h.bd s hs, h.good s hs fun x h1 h2 => absurd h2 (by omega)⟩⟩
end Go.Proofs.YtkoflhjnpilchaaGreatDoor

namespace Go.Proofs.YtkoflhjnpilchaaGreatDoor
set_option linter.unusedSimpArgs false
set_option linter.unusedVariables false
set_option linter.unusedSectionVars false
set_option linter.unusedSimpArgs false
set_option linter.unusedVariables false

/-- What comes of an operation with a list, by the kind of what has it. -/
def lY (kind : Int) (xs : List Int) (a v : Int) : List Int := if kind = 1 then queueY xs a v else if kind = 2 then stackY xs a v else if kind = 3 then dqY xs a v else heapY xs a v
def lC (kind : Int) (xs : List Int) (a : Int) : Int := if kind = 1 then queueC xs a else if kind = 2 then stackC xs a else if kind = 3 then dqC xs a else heapC xs a
def lV (kind : Int) (xs : List Int) (a : Int) : Int := if kind = 1 then queueV xs a else if kind = 2 then stackV xs a else if kind = 3 then dqV xs a else heapV xs a
/-- An operation that is right. -/
def opOk (a k v : Int) : Prop := 1 ≤ a ∧ a ≤ 6 ∧ 0 ≤ k ∧ k ≤ 1000 ∧ 0 ≤ v ∧ v ≤ 4294967295
/-- A number that a thing may hold. -/
def Num (x : Int) : Prop := 0 ≤ x ∧ x ≤ 4294967295
def LOk (xs : List Int) : Prop := xs.length ≤ 6 ∧ ∀ i, i < xs.length → Num (gI xs i)
/-- An answer that may be one. -/
def ansOk (c v : Int) : Prop := 1 ≤ c ∧ c ≤ 5 ∧ Num v ∧ (c = 1 ∨ v = 0)

theorem gI_app_ge {xs : List Int} {v : Int} : gI (xs ++ [v]) xs.length = v := by unfold gI; simp
theorem gI_out {xs : List Int} {i : Nat} (h : xs.length ≤ i) : gI xs i = 0 := by unfold gI; rw [List.getElem?_eq_none h]; rfl
theorem gI_tail (xs : List Int) (i : Nat) : gI xs.tail i = gI xs (i + 1) := by unfold gI; rw [List.getElem?_tail]
theorem LOk.num {xs : List Int} (h : LOk xs) (i : Nat) : Num (gI xs i) := by
  rcases Nat.lt_or_ge i xs.length with hi | hi
  · exact h.2 i hi
  · rw [gI_out hi]; exact ⟨by decide, by decide⟩
theorem LOk.app {xs : List Int} {v : Int} (h : LOk xs) (hn : xs.length < 6) (hv : Num v) : LOk (xs ++ [v]) :=
  ⟨by simp; omega, fun i hi => by
    simp only [List.length_append, List.length_cons, List.length_nil] at hi
    rcases Nat.lt_or_ge i xs.length with h1 | h1
    · rw [gI_app_lt h1]; exact h.2 i h1
    · obtain rfl : i = xs.length := by omega
      rw [gI_app_ge]; exact hv⟩
theorem LOk.cons {xs : List Int} {v : Int} (h : LOk xs) (hn : xs.length < 6) (hv : Num v) : LOk (v :: xs) :=
  ⟨by simp; omega, fun i hi => by
    cases i with
    | zero => exact hv
    | succ i => exact h.2 i (by simpa using hi)⟩
theorem LOk.tail {xs : List Int} (h : LOk xs) : LOk xs.tail := ⟨by simp; have := h.1; omega, fun i hi => by rw [gI_tail]; exact h.num _⟩
theorem LOk.take {xs : List Int} (h : LOk xs) (n : Nat) : LOk (xs.take n) := ⟨by simp; have := h.1; omega, fun i hi => by rw [gI_take (by simp at hi; omega)]; exact h.num _⟩
theorem LOk.heap {xs : List Int} (h : LOk xs) (a v : Int) (hv : Num v) : LOk (heapY xs a v) := by
  unfold heapY
  split
  · split
    · rename_i hn
      have := h.app hn hv
      exact ⟨by rw [rise_len]; exact this.1, fun i hi => by rw [rise_len] at hi; exact rise_mem _ _ Num (by simp) this.2 i hi⟩
    · exact h
  · split
    · have ht := h.take (xs.length - 1)
      refine ⟨by rw [sink_len _ _ _ _ (Nat.le_refl _)]; exact ht.1, fun i hi => ?_⟩
      rw [sink_len _ _ _ _ (Nat.le_refl _)] at hi
      exact sink_mem _ _ _ _ Num (Nat.le_refl _) (by omega) (h.num _) ht.2 i hi
    · exact h
theorem dq_front (xs : List Int) : xs.take 0 ++ xs.drop (0 + 1) = xs.tail := by cases xs <;> rfl
theorem dq_back (xs : List Int) : xs.take (xs.length - 1) ++ xs.drop (xs.length - 1 + 1) = xs.take (xs.length - 1) := by rw [List.drop_eq_nil_of_le (by omega), List.append_nil]
theorem lY_ok {kind a k v : Int} {xs : List Int} (h : LOk xs) (ho : opOk a k v) : LOk (lY kind xs a v) := by
  have hv : Num v := ⟨ho.2.2.2.2.1, ho.2.2.2.2.2⟩
  unfold lY queueY stackY dqY
  rw [dq_front, dq_back]
  repeat' split
  all_goals first
    | exact h
    | exact h.tail
    | exact h.take _
    | exact h.app (by assumption) hv
    | exact h.cons (by assumption) hv
    | exact h.heap a v hv
theorem ans_len {xs : List Int} (h : LOk xs) : ansOk 1 xs.length := ⟨by decide, by decide, ⟨by omega, by have := h.1; omega⟩, .inl rfl⟩
theorem lA_ok {kind a : Int} {xs : List Int} (h : LOk xs) : ansOk (lC kind xs a) (lV kind xs a) := by
  have hn := fun i => h.num i
  have hl : Num xs.length := ⟨by omega, by have := h.1; omega⟩
  have h0 : Num 0 := ⟨by decide, by decide⟩
  have e0 := @gI_out xs
  unfold gI at hn e0
  unfold lC lV queueC queueV stackC stackV dqC dqV heapC heapV gI ansOk
  by_cases hx : xs.length = 0
  · have z0 := e0 (i := 0) (by omega)
    have z1 := e0 (i := xs.length - 1) (by omega)
    simp only [hx, z0] at *
    (repeat' split) <;> simp_all <;> omega
  · repeat' split
    all_goals first
      | (exact ⟨by decide, by decide, hn _, .inl rfl⟩)
      | (exact ⟨by decide, by decide, hl, .inl rfl⟩)
      | (exact ⟨by decide, by decide, h0, .inr rfl⟩)
      | (exfalso; omega)

/-! ### The words -/
/-- What comes of an operation with words. -/
def doZ (kind : Int) (z : Nat → Int) (a k v : Int) (m : Nat) : Nat → Int :=
  if kind = 5 then slotK 8 (tabY z a k v m) else if kind = 6 then (fun i => if i = 0 then tallyN (z 0) a v else 0) else listW (lY kind (zL z) a v).length (lY kind (zL z) a v)
def doC (kind : Int) (z : Nat → Int) (a k v : Int) : Int := if kind = 5 then tabC z a k else if kind = 6 then tallyC (z 0) a v else lC kind (zL z) a
def doV (kind : Int) (z : Nat → Int) (a k v : Int) : Int := if kind = 5 then tabV z a k else if kind = 6 then tallyV (z 0) a v else lV kind (zL z) a

theorem zL_ok {z : Nat → Int} (hw : Wds z) (h : listOk z) : LOk (zL z) := by
  have h0 := hw 0 (by omega)
  refine ⟨by unfold zL; rw [upL_len]; have := h.1; omega, fun i hi => ?_⟩
  unfold zL at hi ⊢
  rw [upL_len] at hi
  have := h.1
  unfold gI
  rw [upL_get _ _ _ hi]
  exact ⟨(hw (i + 1) (by omega)).1, (h.2 i (by omega)).1⟩
theorem listW_ok {xs : List Int} (h : LOk xs) : listOk (listW xs.length xs) ∧ Wds (listW xs.length xs) ∧ zL (listW xs.length xs) = xs := by
  have hx : ∀ i, i ≠ 0 → i ≤ xs.length → listW xs.length xs i = gI xs (i - 1) := fun i h1 h2 => by unfold listW gI; rw [if_neg h1, if_pos h2]
  have hy : ∀ i, i ≠ 0 → ¬ i ≤ xs.length → listW xs.length xs i = 0 := fun i h1 h2 => by unfold listW; rw [if_neg h1, if_neg h2]
  have h0 : listW xs.length xs 0 = xs.length := rfl
  have h6 := h.1
  refine ⟨⟨by rw [h0]; omega, fun i hi => ?_⟩, fun i hi => ?_, ?_⟩
  · rw [h0, Int.toNat_natCast]
    unfold wordOk
    by_cases hl : i + 1 ≤ xs.length
    · rw [hx _ (by omega) hl]
      exact ⟨(h.num _).2, fun h => absurd h (by omega)⟩
    · rw [hy _ (by omega) hl]
      exact ⟨by omega, fun _ => rfl⟩
  · by_cases hi0 : i = 0
    · subst hi0; rw [h0]; omega
    · by_cases hl : i ≤ xs.length
      · rw [hx _ hi0 hl]; have := h.num (i - 1); unfold Num at this; omega
      · rw [hy _ hi0 hl]; omega
  · unfold zL
    rw [h0, Int.toNat_natCast]
    apply List.ext_getElem?
    intro i
    by_cases hi : i < xs.length
    · have e1 := upL_get (listW xs.length xs) xs.length i hi
      rw [hx _ (by omega) (by omega), Nat.add_sub_cancel] at e1
      unfold gI at e1
      rw [List.getElem?_eq_getElem (by rw [upL_len]; exact hi), List.getElem?_eq_getElem hi] at *
      simpa using e1
    · rw [List.getElem?_eq_none (by rw [upL_len]; omega), List.getElem?_eq_none (by omega)]

theorem lenT_congr {z z' : Nat → Int} (h : ∀ i, i < 16 → z' i = z i) : ∀ n, n ≤ 8 → lenT z' n = lenT z n
  | 0, _ => by simp [lenT]
  | n + 1, hn => by rw [lenT_succ, lenT_succ, lenT_congr h n (by omega), h (2 * n) (by omega)]
theorem rightT_congr {z z' : Nat → Int} (h : ∀ i, i < 16 → z' i = z i) : rightT z' = true ↔ rightT z = true := by
  have hg : ∀ s, s < 8 → (GoodS z' s ↔ GoodS z s) := fun s hs => by
    unfold GoodS
    rw [h (2 * s) (by omega)]
    have e : ∀ b, z' (2 * rowP (z (2 * s)).toNat b) = z (2 * rowP (z (2 * s)).toNat b) := fun b => h _ (by have := rowP_lt (z (2 * s)).toNat b; omega)
    simp only [e]
  have hb : ∀ s, s < 8 → (BdS z' s ↔ BdS z s) := fun s hs => by
    unfold BdS
    rw [h (2 * s) (by omega), h (2 * s + 1) (by omega)]
  rw [rightT_iff, rightT_iff, lenT_congr h 8 (Nat.le_refl _)]
  constructor
  · rintro ⟨h1, h2⟩; exact ⟨h1, fun s hs => ⟨(hb s hs).1 (h2 s hs).1, (hg s hs).1 (h2 s hs).2⟩⟩
  · rintro ⟨h1, h2⟩; exact ⟨h1, fun s hs => ⟨(hb s hs).2 (h2 s hs).1, (hg s hs).2 (h2 s hs).2⟩⟩
theorem tabY_right {z : Nat → Int} {a k v : Int} {m : Nat} (h : rightT z = true) (ho : opOk a k v) (hm : tabM z a k m) : rightT (tabY z a k v m) = true := by
  unfold tabY
  split
  · rename_i hc
    obtain ⟨hc, hk1, hk2⟩ := hc
    obtain ⟨i, hi, hat, hor⟩ := at_exists h k.toNat
    have e : (atT z k.toNat).toNat = i := by rw [hat]; rfl
    have ek : ((k.toNat : Nat) : Int) = k := by omega
    rw [e]
    split
    · split
      · exact h
      · rename_i hne
        rw [ek] at hor
        have := rightT_put (v := v) h hi hat (by omega) (by omega) ⟨ho.2.2.2.2.1, ho.2.2.2.2.2⟩ (fun h0 => by
          rcases Int.lt_or_le (lenT z 8) 6 with h6 | h6
          · exact h6
          · exact absurd ⟨by omega, h6⟩ hne)
        rwa [ek] at this
    · split
      · exact h
      · rename_i hz
        split
        · rename_i h2
          have := hm h2 hk1 hk2 (by rw [e]; omega)
          rw [e] at this
          exact rightT_run this
        · exact h
  · exact h
theorem slotsOk_of {d : Nat → Int} (h : rightT d = true) : slotsOk (slotK 8 d) ∧ Wds (slotK 8 d) := by
  have he : ∀ i, i < 16 → slotK 8 d i = d i := fun i hi => by unfold slotK; rw [if_pos (by omega)]
  have hz : ∀ i, 16 ≤ i → slotK 8 d i = 0 := fun i hi => by unfold slotK; rw [if_neg (by omega)]
  refine ⟨⟨fun i hi => ?_, hz 16 (by omega), (rightT_congr he).2 h⟩, fun i hi => ?_⟩
  · have := slot_bd h hi
    unfold pairOk
    rw [he _ (by omega), he _ (by omega)]
    omega
  · rcases Nat.lt_or_ge i 16 with h16 | h16
    · rw [he i h16]
      have := slot_bd h (k := i / 2) (by omega)
      rcases Nat.mod_two_eq_zero_or_one i with e | e
      · rw [show 2 * (i / 2) = i by omega] at this; omega
      · rw [show 2 * (i / 2) + 1 = i by omega] at this; omega
    · rw [hz i h16]; omega
theorem tabA_ok {z : Nat → Int} {a k : Int} (h : rightT z = true) : ansOk (tabC z a k) (tabV z a k) := by
  obtain ⟨i, hi, hat, hor⟩ := at_exists h k.toNat
  have e : (atT z k.toNat).toNat = i := by rw [hat]; rfl
  have hb := slot_bd h hi
  have hl := lenT_bd z 8
  unfold tabC tabV
  rw [e]
  repeat' split
  all_goals first
    | (exact ⟨by decide, by decide, ⟨by omega, by omega⟩, .inl rfl⟩)
    | (exact ⟨by decide, by decide, ⟨by omega, by omega⟩, .inr rfl⟩)
    | (exfalso; omega)
theorem tally_ok {n a v : Int} (hn : Num n) (hv : Num v) : Num (tallyN n a v) ∧ ansOk (tallyC n a v) (tallyV n a v) := by
  unfold Num at *
  unfold tallyN tallyC tallyV ansOk Num
  constructor
  · repeat' split
    all_goals omega
  · repeat' split
    all_goals omega

theorem heap_keeps {xs : List Int} {a v : Int} (h : heapR xs = true) : heapR (heapY xs a v) = true := by
  unfold heapY
  split
  · split
    · exact heapR_rise h (by assumption)
    · exact h
  · split
    · exact heapR_sink h
    · exact h

/-- What comes of a right operation with a right object is one. -/
theorem thing_do {kind a k v : Int} {z : Nat → Int} {m : Nat} (hw : Wds z) (h : thingOk kind z) (ho : opOk a k v) (hm : kind = 5 → tabM z a k m) :
    thingOk kind (doZ kind z a k v m) ∧ Wds (doZ kind z a k v m) ∧ ansOk (doC kind z a k v) (doV kind z a k v) := by
  unfold thingOk doZ doC doV at *
  by_cases h5 : kind = 5
  · simp only [if_pos h5] at *
    have := tabY_right h.2.2 ho (hm h5)
    exact ⟨(slotsOk_of this).1, (slotsOk_of this).2, tabA_ok h.2.2⟩
  · simp only [if_neg h5] at *
    by_cases h6 : kind = 6
    · simp only [if_pos h6] at *
      have h0 := hw 0 (by omega)
      have := tally_ok (a := a) (n := z 0) (v := v) ⟨h0.1, h.1⟩ ⟨ho.2.2.2.2.1, ho.2.2.2.2.2⟩
      refine ⟨⟨this.1.2, fun i hi => by simp⟩, fun i hi => ?_, this.2⟩
      have h1 := this.1
      unfold Num at h1
      show 0 ≤ (if i = 0 then tallyN (z 0) a v else 0) ∧ (if i = 0 then tallyN (z 0) a v else 0) < _
      split <;> omega
    · simp only [if_neg h6] at *
      by_cases h4 : kind = 4
      · simp only [if_pos h4] at *
        have hl := zL_ok hw h.1
        obtain ⟨a1, a2, a3⟩ := listW_ok (lY_ok (kind := kind) hl ho)
        refine ⟨⟨a1, ?_⟩, a2, lA_ok hl⟩
        show heapR (zL _) = true
        rw [a3]
        have e : lY kind (zL z) a v = heapY (zL z) a v := by unfold lY; rw [if_neg (by omega), if_neg (by omega), if_neg (by omega)]
        rw [e]
        exact heap_keeps h.2
      · simp only [if_neg h4] at *
        have hl := zL_ok hw h.2.2
        obtain ⟨a1, a2, a3⟩ := listW_ok (lY_ok (kind := kind) hl ho)
        exact ⟨⟨h.1, h.2.1, a1⟩, a2, lA_ok hl⟩
end Go.Proofs.YtkoflhjnpilchaaGreatDoor
