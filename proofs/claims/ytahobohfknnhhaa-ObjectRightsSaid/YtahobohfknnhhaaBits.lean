/-
  Plain facts on the bits of numbers: a number is read off its list of bits, bits are turned, cut out and laid in. No program in sight. No condition.
-/
namespace Go.Proofs.Ytahobohfknnhhaa.Pl
set_option linter.unusedSimpArgs false
set_option linter.unusedVariables false
set_option linter.unusedSectionVars false

/-- The number of a list of bits, the least one first. -/
def nof : List Nat → Nat
  | [] => 0
  | b :: r => b + 2 * nof r

/-- A word's 64 bits, the least one first. -/
def digs (w : Nat) : List Nat := (List.range 64).map fun i => w / 2 ^ i % 2

theorem digs_length (w : Nat) : (digs w).length = 64 := by simp [digs]

theorem digs_get (w i : Nat) (h : i < 64) : (digs w)[i]? = some (w / 2 ^ i % 2) := by
  simp [digs, h]

theorem digs_bit (w : Nat) : ∀ b ∈ digs w, b < 2 := by
  intro b hb
  simp only [digs, List.mem_map] at hb
  obtain ⟨i, _, rfl⟩ := hb
  exact Nat.mod_lt _ (by decide)

theorem nof_lt (l : List Nat) (h : ∀ b ∈ l, b < 2) : nof l < 2 ^ l.length := by
  induction l with
  | nil => simp [nof]
  | cons b r ih =>
    have h0 := h b (by simp)
    have h1 := ih (fun c hc => h c (by simp [hc]))
    simp only [nof, List.length_cons, Nat.pow_succ]
    omega

theorem nof_testBit (l : List Nat) (h : ∀ b ∈ l, b < 2) (i : Nat) : (nof l).testBit i = decide (l[i]?.getD 0 = 1) := by
  induction l generalizing i with
  | nil => simp [nof]
  | cons b r ih =>
    have h0 := h b (by simp)
    have hr := fun j => ih (fun c hc => h c (by simp [hc])) j
    cases i with
    | zero =>
      simp only [nof, Nat.testBit_zero, List.getElem?_cons_zero, Option.getD_some]
      congr 1
      simp only [eq_iff_iff]
      omega
    | succ i =>
      have e : (b + 2 * nof r) / 2 = nof r := by omega
      simp only [nof, Nat.testBit_succ, e, List.getElem?_cons_succ]
      exact hr i

theorem testBit_div (w i : Nat) : w.testBit i = decide (w / 2 ^ i % 2 = 1) := Nat.testBit_eq_decide_div_mod_eq

theorem digs_getD (w i : Nat) : (digs w)[i]?.getD 0 = if i < 64 then w / 2 ^ i % 2 else 0 := by
  by_cases h : i < 64
  · rw [digs_get w i h, if_pos h]; rfl
  · rw [if_neg h, List.getElem?_eq_none (by rw [digs_length]; omega)]; rfl

theorem testBit_high (w i : Nat) (hw : w < 2 ^ 64) (hi : 64 ≤ i) : w.testBit i = false :=
  Nat.testBit_lt_two_pow (Nat.lt_of_lt_of_le hw (Nat.pow_le_pow_right (by decide) hi))

theorem nof_digs (w : Nat) (hw : w < 2 ^ 64) : nof (digs w) = w := by
  apply Nat.eq_of_testBit_eq
  intro i
  rw [nof_testBit _ (digs_bit w), digs_getD]
  by_cases h : i < 64
  · rw [if_pos h, testBit_div]
  · rw [if_neg h, testBit_high w i hw (by omega)]; rfl

theorem mem_set_bit {l : List Nat} (h : ∀ b ∈ l, b < 2) {i v : Nat} (hv : v < 2) : ∀ b ∈ l.set i v, b < 2 := by
  intro b hb
  rcases List.mem_or_eq_of_mem_set hb with h1 | h1
  · exact h b h1
  · omega

theorem getD_set (l : List Nat) (i j v : Nat) (hi : i < l.length) : (l.set i v)[j]?.getD 0 = if i = j then v else l[j]?.getD 0 := by
  rw [List.getElem?_set]
  by_cases h : i = j
  · subst h; simp [hi]
  · simp [h]

/-- One bit turned. -/
theorem nof_flip (w a : Nat) (hw : w < 2 ^ 64) (ha : a < 64) : nof ((digs w).set a (1 - w / 2 ^ a % 2)) = w ^^^ 2 ^ a := by
  apply Nat.eq_of_testBit_eq
  intro i
  rw [nof_testBit _ (mem_set_bit (digs_bit w) (by omega)), getD_set _ _ _ _ (by rw [digs_length]; exact ha), digs_getD, Nat.testBit_xor, Nat.testBit_two_pow]
  by_cases h : a = i
  · subst h
    have h2 : w / 2 ^ a % 2 < 2 := Nat.mod_lt _ (by decide)
    rw [if_pos rfl, testBit_div]
    rcases (show w / 2 ^ a % 2 = 0 ∨ w / 2 ^ a % 2 = 1 by omega) with e | e <;> simp [e]
  · rw [if_neg h]
    by_cases h64 : i < 64
    · simp [h64, h, testBit_div]
    · simp [h64, h, testBit_high w i hw (by omega)]

theorem getD_drop_take (l : List Nat) (a n i : Nat) : ((l.drop a).take n)[i]?.getD 0 = if i < n then l[a + i]?.getD 0 else 0 := by
  rw [List.getElem?_take]
  by_cases h : i < n
  · simp [h, List.getElem?_drop]
  · simp [h]

/-- Bits cut out. -/
theorem nof_cut (w a n : Nat) (hw : w < 2 ^ 64) : nof (((digs w).drop a).take n) = w / 2 ^ a % 2 ^ n := by
  apply Nat.eq_of_testBit_eq
  intro i
  have hb : ∀ b ∈ ((digs w).drop a).take n, b < 2 := fun b hb => digs_bit w b (List.mem_of_mem_drop (List.mem_of_mem_take hb))
  rw [nof_testBit _ hb, getD_drop_take, digs_getD, Nat.testBit_mod_two_pow, Nat.testBit_div_two_pow]
  by_cases h : i < n
  · by_cases h64 : a + i < 64
    · simp [h, h64, testBit_div, Nat.add_comm]
    · simp [h, h64, testBit_high w (i + a) hw (by omega)]
  · simp [h]

/-- The bits of w, those from a on being the first n of x. -/
def laidIn (w x a n : Nat) : List Nat := (List.range 64).map fun i => if a ≤ i ∧ i < a + n then x / 2 ^ (i - a) % 2 else w / 2 ^ i % 2

end Go.Proofs.Ytahobohfknnhhaa.Pl
