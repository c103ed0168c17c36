/-
  What table.Len and table.at return. For every table.
  What table.Right returns. For every table.
  The plain mathematics of a table out of which a key is taken: those behind it are moved one by one, and a move never reaches beyond the place it comes from. No program in sight.
-/
import Derived.Test.YtkoflhjnpilchaaDoorProg
import Derived.Test.YtkoflhjnpilchaaDoorMBase
namespace Go.Proofs.YtkoflhjnpilchaaDoor
set_option linter.unusedSimpArgs false
set_option linter.unusedVariables false
set_option linter.unusedSectionVars false
open Go.RowKit
attribute [local go_sem ↓] Go.wp_at_zero Go.wp_at_succ

/-- n ints, z. -/
structure I64s (C : Array Value) (n : Nat) (z : Nat → Int) : Prop where
  size : C.size = n
  get : ∀ i, i < n → C[i]? = some (.int .i64 (z i))
  bd : ∀ i, i < n → -9223372036854775808 ≤ z i ∧ z i ≤ 9223372036854775807
theorem I64s.pair {C : Array Value} {n : Nat} {z : Nat → Int} (h : I64s C n z) (i : Nat) (hi : i + 2 ≤ n) : C.extract i (i + 2) = #[.int .i64 (z i), .int .i64 (z (i + 1))] := by
  apply Array.ext_getElem?
  intro j
  have hs := h.size
  rw [Array.getElem?_extract]
  rcases Nat.lt_or_ge j 2 with hj | hj
  · rw [if_pos (by omega), h.get (i + j) (by omega)]
    rcases j with _ | _ | j
    · rfl
    · rfl
    · omega
  · rw [if_neg (by omega), Array.getElem?_eq_none (by simpa using hj)]
theorem I64s.one {C : Array Value} {n : Nat} {z : Nat → Int} (h : I64s C n z) : C.all (·.oneCell') = true := by
  rw [Array.all_eq_true]
  intro i hi
  have e := h.get i (by rw [← h.size]; exact hi)
  rw [Array.getElem?_eq_getElem hi] at e
  rw [Option.some.inj e]
  rfl

def lenT (z : Nat → Int) (k : Nat) : Int := ((List.range k).filter fun i => decide (z (2 * i) ≠ 0)).length
theorem lenT_succ (z : Nat → Int) (k : Nat) : lenT z (k + 1) = lenT z k + if z (2 * k) ≠ 0 then 1 else 0 := by
  unfold lenT
  rw [List.range_succ, List.filter_append]
  by_cases h : z (2 * k) = 0 <;> simp [h]
theorem lenT_bd (z : Nat → Int) (k : Nat) : 0 ≤ lenT z k ∧ lenT z k ≤ k := by
  unfold lenT
  have := List.length_filter_le (fun i => decide (z (2 * i) ≠ 0)) (List.range k)
  simp at this ⊢
  omega

def rowP (key k : Nat) : Nat := (key * 5 % 8 + k) % 8
theorem rowP_lt (key k : Nat) : rowP key k < 8 := Nat.mod_lt _ (by decide)
def hitB (z : Nat → Int) (key : Nat) (k : Nat) : Bool := decide (z (2 * rowP key k) = key ∨ z (2 * rowP key k) = 0)
def atT (z : Nat → Int) (key : Nat) : Int := match (List.range 8).find? (hitB z key) with | some k => (rowP key k : Int) | none => -1
theorem find_range {p : Nat → Bool} {n k : Nat} (hk : k < n) (h : p k = true) (hn : ∀ j, j < k → p j = false) : (List.range n).find? p = some k := by
  rw [List.find?_range_eq_some]
  refine ⟨h, by simpa using hk, fun j hj => by simpa using hn j hj⟩
theorem find_range_none {p : Nat → Bool} {n : Nat} (hn : ∀ j, j < n → p j = false) : (List.range n).find? p = none := by
  rw [List.find?_eq_none]
  intro x hx
  simp at hx
  simp [hn x hx]

end Go.Proofs.YtkoflhjnpilchaaDoor

namespace Go.Proofs.YtkoflhjnpilchaaDoor
open Go.RowKit
attribute [local go_sem ↓] Go.wp_at_zero Go.wp_at_succ

def slotOk (z : Nat → Int) (i : Nat) : Bool := decide (0 ≤ z (2 * i) ∧ z (2 * i) ≤ 1000 ∧ 0 ≤ z (2 * i + 1) ∧ z (2 * i + 1) ≤ 4294967295 ∧ (z (2 * i) = 0 → z (2 * i + 1) = 0) ∧ (z (2 * i) ≠ 0 → atT z (z (2 * i)).toNat = i))
def rightT (z : Nat → Int) : Bool := decide (lenT z 8 ≤ 6) && (List.range 8).all (slotOk z)
theorem rightT_no {z : Nat → Int} {k : Nat} (hk : k < 8) (h : slotOk z k = false) : rightT z = false := by
  unfold rightT
  rw [Bool.and_eq_false_iff]
  right
  rw [List.all_eq_false]
  exact ⟨k, by simpa using hk, by simp [h]⟩
theorem rightT_end {z : Nat → Int} (hl : lenT z 8 ≤ 6) (h : ∀ i, i < 8 → slotOk z i = true) : rightT z = true := by
  unfold rightT
  rw [Bool.and_eq_true]
  exact ⟨by simpa using hl, by rw [List.all_eq_true]; intro x hx; exact h x (by simpa using hx)⟩

end Go.Proofs.YtkoflhjnpilchaaDoor

namespace Go.Proofs.YtkoflhjnpilchaaDoor

def setS (z : Nat → Int) (i : Nat) (k v : Int) : Nat → Int := fun j => if j = 2 * i then k else if j = 2 * i + 1 then v else z j
theorem setS_key (z : Nat → Int) (i : Nat) (k v : Int) (x : Nat) : setS z i k v (2 * x) = if x = i then k else z (2 * x) := by
  unfold setS
  by_cases h : x = i
  · subst h; simp
  · rw [if_neg (by omega), if_neg (by omega), if_neg h]
theorem setS_val (z : Nat → Int) (i : Nat) (k v : Int) (x : Nat) : setS z i k v (2 * x + 1) = if x = i then v else z (2 * x + 1) := by
  unfold setS
  by_cases h : x = i
  · subst h; simp
  · rw [if_neg (by omega), if_neg (by omega), if_neg h]

/-- The x-th slot behind slot i. -/
def kk (i x : Nat) : Nat := (i + 1 + x) % 8
theorem kk_lt (i x : Nat) : kk i x < 8 := Nat.mod_lt _ (by decide)

theorem rightT_slot {z : Nat → Int} (h : rightT z = true) {k : Nat} (hk : k < 8) : slotOk z k = true := by
  unfold rightT at h
  rw [Bool.and_eq_true, List.all_eq_true] at h
  exact h.2 k (by simpa using hk)
theorem rightT_len {z : Nat → Int} (h : rightT z = true) : lenT z 8 ≤ 6 := by
  unfold rightT at h
  rw [Bool.and_eq_true] at h
  simpa using h.1

theorem slot_bd {z : Nat → Int} (h : rightT z = true) {k : Nat} (hk : k < 8) : 0 ≤ z (2 * k) ∧ z (2 * k) ≤ 1000 ∧ 0 ≤ z (2 * k + 1) ∧ z (2 * k + 1) ≤ 4294967295 ∧ (z (2 * k) = 0 → z (2 * k + 1) = 0) := by
  have := rightT_slot h hk
  unfold slotOk at this
  simp only [decide_eq_true_eq] at this
  exact ⟨this.1, this.2.1, this.2.2.1, this.2.2.2.1, this.2.2.2.2.1⟩

/-- A key's row up to where it stands is full. -/
theorem slot_row {z : Nat → Int} (h : rightT z = true) {k : Nat} (hk : k < 8) (hz : z (2 * k) ≠ 0) : ∃ d, d < 8 ∧ rowP (z (2 * k)).toNat d = k ∧ ∀ b, b < d → z (2 * rowP (z (2 * k)).toNat b) ≠ 0 := by
  have := rightT_slot h hk
  unfold slotOk at this
  simp only [decide_eq_true_eq] at this
  have ha := this.2.2.2.2.2 hz
  unfold atT at ha
  split at ha
  · rename_i d hd
    rw [List.find?_range_eq_some] at hd
    obtain ⟨_, h2, h3⟩ := hd
    simp at h2
    refine ⟨d, h2, by omega, fun b hb => ?_⟩
    have := h3 b hb
    unfold hitB at this
    simp at this
    exact this.2
  · omega

/-- Where a key goes, if a slot of its row is free. -/
theorem at_first {z : Nat → Int} {key d : Nat} (hd : d < 8) (hz : z (2 * rowP key d) = 0) : ∃ a, a ≤ d ∧ atT z key = rowP key a ∧ hitB z key a = true := by
  have hh : hitB z key d = true := by unfold hitB; simp [hz]
  cases hf : (List.range 8).find? (hitB z key) with
  | none =>
    rw [List.find?_eq_none] at hf
    exact absurd hh (hf d (by simpa using hd))
  | some a =>
    have hf' := hf
    rw [List.find?_range_eq_some] at hf
    obtain ⟨h1, h2, h3⟩ := hf
    refine ⟨a, ?_, by unfold atT; rw [hf'], h1⟩
    rcases Nat.lt_or_ge d a with h | h
    · have := h3 d h
      simp [hh] at this
    · exact h

structure Beh (z : Nat → Int) (i m : Nat) : Prop where
  right : rightT z = true
  hi : i < 8
  hz : z (2 * i) ≠ 0
  m7 : m ≤ 7
  occ : ∀ x, x < m → setS z i 0 0 (2 * kk i x) ≠ 0
  free : setS z i 0 0 (2 * kk i m) = 0

theorem lenT_full {z : Nat → Int} (h : ∀ x, x < 8 → z (2 * x) ≠ 0) : lenT z 8 = 8 := by
  unfold lenT
  rw [List.filter_eq_self.2 (fun x hx => by simpa using h x (by simpa using hx))]
  rfl

theorem Beh.m6 {z : Nat → Int} {i m : Nat} (b : Beh z i m) : m ≤ 6 := by
  rcases Nat.lt_or_ge m 7 with h | h
  · omega
  · exfalso
    obtain rfl : m = 7 := by have := b.m7; omega
    have hl := rightT_len b.right
    rw [lenT_full (fun x hx => ?_)] at hl
    · omega
    · by_cases hxi : x = i
      · subst hxi; exact b.hz
      · have := b.occ ((x + 7 - i) % 8) (by have := b.hi; omega)
        have e : kk i ((x + 7 - i) % 8) = x := by unfold kk; have := b.hi; omega
        rw [e, setS_key, if_neg hxi] at this
        exact this

/-- z0 has slot i cleared: such an m there is. -/
theorem beh_exists {z : Nat → Int} {i : Nat} (hr : rightT z = true) (hi : i < 8) (hz : z (2 * i) ≠ 0) : ∃ m, Beh z i m := by
  have h7 : setS z i 0 0 (2 * kk i 7) = 0 := by
    rw [setS_key, if_pos (by unfold kk; omega)]
  have : ∃ m, m ≤ 7 ∧ setS z i 0 0 (2 * kk i m) = 0 ∧ ∀ x, x < m → setS z i 0 0 (2 * kk i x) ≠ 0 := by
    have key : ∀ n, n ≤ 7 → (∀ x, x < 7 - n → setS z i 0 0 (2 * kk i x) ≠ 0) → ∃ m, m ≤ 7 ∧ setS z i 0 0 (2 * kk i m) = 0 ∧ ∀ x, x < m → setS z i 0 0 (2 * kk i x) ≠ 0 := by
      intro n
      induction n with
      | zero => intro _ h; exact ⟨7, Nat.le_refl _, h7, h⟩
      | succ n ih =>
        intro hn h
        by_cases h0 : setS z i 0 0 (2 * kk i (7 - (n + 1))) = 0
        · exact ⟨_, by omega, h0, h⟩
        · refine ih (by omega) fun x hx => ?_
          rcases Nat.lt_or_ge x (7 - (n + 1)) with h1 | h1
          · exact h x h1
          · obtain rfl : x = 7 - (n + 1) := by omega
            exact h0
    exact key 7 (Nat.le_refl _) (fun x hx => absurd hx (by omega))
  obtain ⟨m, h1, h2, h3⟩ := this
  exact ⟨m, hr, hi, hz, h1, h3, h2⟩

def AgreeS (T z : Nat → Int) (i j m : Nat) : Prop := ∀ x, j ≤ x → x ≤ m → T (2 * kk i x) = z (2 * kk i x) ∧ T (2 * kk i x + 1) = z (2 * kk i x + 1)

theorem Beh.step {z : Nat → Int} {i m : Nat} (b : Beh z i m) {j : Nat} (hj : j < m) {T : Nat → Int} (hT : AgreeS T (setS z i 0 0) i j m) :
    ∃ p : Nat, p < 8 ∧ atT (setS T (kk i j) 0 0) (T (2 * kk i j)).toNat = (p : Int) ∧ ∀ x, j < x → x ≤ m → kk i x ≠ p := by
  have h6 := b.m6
  have hi := b.hi
  have hkj : kk i j ≠ i := by unfold kk; omega
  have e1 : T (2 * kk i j) = z (2 * kk i j) := by rw [(hT j (Nat.le_refl _) (by omega)).1, setS_key, if_neg hkj]
  have hz : z (2 * kk i j) ≠ 0 := by have := b.occ j hj; rwa [setS_key, if_neg hkj] at this
  obtain ⟨d, hd, hrow, hfull⟩ := slot_row b.right (kk_lt i j) hz
  rw [e1]
  generalize hq : (z (2 * kk i j)).toNat = q at *
  obtain ⟨a, had, hat, _⟩ := at_first (z := setS T (kk i j) 0 0) (key := q) hd (by rw [setS_key, if_pos hrow])
  refine ⟨rowP q a, rowP_lt _ _, hat, fun x hjx hxm hx => ?_⟩
  have hb : a + (m - x) < d := by
    unfold rowP at hx hrow
    unfold kk at hx hrow
    omega
  have hm : rowP q (a + (m - x)) = kk i m := by
    unfold rowP at hx ⊢
    unfold kk at hx ⊢
    omega
  have h0 := hfull _ hb
  rw [hm] at h0
  have hf := b.free
  rw [setS_key] at hf
  by_cases hmi : kk i m = i
  · unfold kk at hmi; omega
  · rw [if_neg hmi] at hf
    exact h0 hf

/-- One of those behind goes where it would stand without it. -/
def stepT (T : Nat → Int) (k : Nat) : Nat → Int := setS (setS T k 0 0) (atT (setS T k 0 0) (T (2 * k)).toNat).toNat (T (2 * k)) (T (2 * k + 1))
def runT (z : Nat → Int) (i : Nat) : Nat → Nat → Int
  | 0 => setS z i 0 0
  | j + 1 => stepT (runT z i j) (kk i j)

theorem Beh.next {z : Nat → Int} {i m : Nat} (b : Beh z i m) {j : Nat} (hj : j < m) {T : Nat → Int} (hT : AgreeS T (setS z i 0 0) i j m) : AgreeS (stepT T (kk i j)) (setS z i 0 0) i (j + 1) m := by
  intro x hjx hxm
  obtain ⟨p, hp, hat, hne⟩ := b.step hj hT
  have h6 := b.m6
  have h1 := hne x (by omega) hxm
  have h2 : kk i x ≠ kk i j := by unfold kk; omega
  have h3 := hT x (by omega) hxm
  unfold stepT
  rw [hat, Int.toNat_natCast]
  refine ⟨?_, ?_⟩
  · rw [setS_key, if_neg h1, setS_key, if_neg h2]; exact h3.1
  · rw [setS_val, if_neg h1, setS_val, if_neg h2]; exact h3.2

theorem Beh.run {z : Nat → Int} {i m : Nat} (b : Beh z i m) : ∀ j, j ≤ m → AgreeS (runT z i j) (setS z i 0 0) i j m
  | 0, _ => fun _ _ _ => ⟨rfl, rfl⟩
  | j + 1, h => b.next (by omega) (b.run j (by omega))
theorem Beh.key {z : Nat → Int} {i m : Nat} (b : Beh z i m) {j : Nat} (hj : j < m) : runT z i j (2 * kk i j) ≠ 0 := by
  rw [(b.run j (by omega) j (Nat.le_refl _) (by omega)).1]
  exact b.occ j hj
theorem Beh.end_ {z : Nat → Int} {i m : Nat} (b : Beh z i m) : runT z i m (2 * kk i m) = 0 := by
  rw [(b.run m (Nat.le_refl _) m (Nat.le_refl _) (Nat.le_refl _)).1]
  exact b.free
/-- What is met on the way are the table's keys and values. -/
theorem Beh.bd {z : Nat → Int} {i m : Nat} (b : Beh z i m) {j : Nat} (hj : j < m) : 1 ≤ runT z i j (2 * kk i j) ∧ runT z i j (2 * kk i j) ≤ 1000 ∧ 0 ≤ runT z i j (2 * kk i j + 1) ∧ runT z i j (2 * kk i j + 1) ≤ 4294967295 := by
  have h6 := b.m6
  have hi := b.hi
  have hkj : kk i j ≠ i := by unfold kk; omega
  obtain ⟨e1, e2⟩ := b.run j (by omega) j (Nat.le_refl _) (by omega)
  rw [setS_key, if_neg hkj] at e1
  rw [setS_val, if_neg hkj] at e2
  have h0 := b.key hj
  rw [e1] at h0
  rw [e1, e2]
  have := slot_bd b.right (kk_lt i j)
  omega
end Go.Proofs.YtkoflhjnpilchaaDoor
