/-
  Plain arithmetic: the sum of a word's bits by pairs, fours and bytes (as the library's OnesCount64 goes) is the sum of its 64 bits. No program in sight. No condition.
-/
namespace Go.Proofs.YtfdbomflfhmecaaDoor.Pop
set_option linter.unusedSimpArgs false
set_option linter.unusedVariables false
set_option linter.unusedSectionVars false
theorem and_split (k a b c d : Nat) (hb : b < 2 ^ k) (hd : d < 2 ^ k) : (a * 2 ^ k + b) &&& (c * 2 ^ k + d) = (a &&& c) * 2 ^ k + (b &&& d) := by
  have hbd : (b &&& d) < 2 ^ k := Nat.lt_of_le_of_lt Nat.and_le_left hb
  apply Nat.eq_of_testBit_eq
  intro i
  rw [Nat.testBit_and, Nat.mul_comm a, Nat.mul_comm c, Nat.mul_comm (a &&& c), Nat.testBit_two_pow_mul_add _ hb, Nat.testBit_two_pow_mul_add _ hd, Nat.testBit_two_pow_mul_add _ hbd]
  split
  · rw [Nat.testBit_and]
  · rw [Nat.testBit_and]
theorem and_split8 (a b c d : Nat) (hb : b < 256) (hd : d < 256) : (a * 256 + b) &&& (c * 256 + d) = (a &&& c) * 256 + (b &&& d) := and_split 8 a b c d hb hd

/-- n bytes of b. -/
def rep (b : Nat) : Nat → Nat
  | 0 => 0
  | n + 1 => rep b n * 256 + b

/-- One round: (x / 2^k & m) + (x & m). -/
def st (k b n x : Nat) : Nat := (x / k &&& rep b n) + (x &&& rep b n)
/-- The third: ((x / 16 + x) & m. -/
def st2 (n x : Nat) : Nat := (x / 16 + x) &&& rep 15 n

def p8 (b : Nat) : Nat := b % 2 + b / 2 % 2 + b / 4 % 2 + b / 8 % 2 + b / 16 % 2 + b / 32 % 2 + b / 64 % 2 + b / 128 % 2

theorem st_split (k b n h l : Nat) (hk : 0 < k) (hb : b < 256) (hl : l < 256) (hc : ∀ r, r < k → ∀ l, l < 256 → ((r * 256 + l) / k &&& b) = (l / k &&& b) ∧ (r * 256 + l) / k < 256) :
    st k b (n + 1) (h * 256 + l) = st k b n h * 256 + st k b 1 l := by
  have e1 : (h * 256 + l) / k = (h / k) * 256 + ((h % k) * 256 + l) / k := by
    have : h * 256 + l = (h % k * 256 + l) + k * (h / k * 256) := by
      have := Nat.div_add_mod h k
      conv => lhs; rw [← this]
      rw [Nat.add_mul, Nat.mul_assoc]
      omega
    rw [this, Nat.add_mul_div_left _ _ hk, Nat.add_comm]
  obtain ⟨c1, c2⟩ := hc (h % k) (Nat.mod_lt _ hk) l hl
  have z : rep b 1 = b := by simp [rep]
  unfold st
  rw [e1, z]
  simp only [rep]
  rw [and_split8 _ _ _ _ c2 hb, and_split8 _ _ _ _ hl hb, c1]
  omega

theorem c2 : ∀ r, r < 2 → ∀ l, l < 256 → ((r * 256 + l) / 2 &&& 85) = (l / 2 &&& 85) ∧ (r * 256 + l) / 2 < 256 := by decide +kernel
theorem c4 : ∀ r, r < 4 → ∀ l, l < 256 → ((r * 256 + l) / 4 &&& 51) = (l / 4 &&& 51) ∧ (r * 256 + l) / 4 < 256 := by decide +kernel
theorem b1 : ∀ l, l < 256 → st 2 85 1 l < 256 := by decide +kernel
theorem b2 : ∀ l, l < 256 → st 4 51 1 l < 256 ∧ st 4 51 1 l % 16 ≤ 6 := by decide +kernel
theorem b3 : ∀ l, l < 256 → st 4 51 1 (st 2 85 1 l) < 256 ∧ st 4 51 1 (st 2 85 1 l) % 16 ≤ 4 ∧ st 4 51 1 (st 2 85 1 l) / 16 ≤ 4 ∧ st 4 51 1 (st 2 85 1 l) % 16 + st 4 51 1 (st 2 85 1 l) / 16 = p8 l := by decide +kernel
theorem c16 : ∀ r, r ≤ 4 → ∀ a, a ≤ 4 → ∀ b, b ≤ 4 → ((r * 16 + a + (a * 16 + b)) &&& 15) = a + b := by decide +kernel

def y (n x : Nat) : Nat := st 4 51 n (st 2 85 n x)
def t (n x : Nat) : Nat := st2 n (y n x)

theorem y_split (n h l : Nat) (hl : l < 256) : y (n + 1) (h * 256 + l) = y n h * 256 + y 1 l := by
  unfold y
  rw [st_split 2 85 n h l (by decide) (by decide) hl c2, st_split 4 51 n _ _ (by decide) (by decide) (b1 l hl) c4]
theorem y_low : ∀ n x, y n x % 16 ≤ 4
  | 0, x => by simp [y, st, rep]
  | n + 1, x => by
    have e : x = (x / 256) * 256 + x % 256 := by omega
    rw [e, y_split n _ _ (by omega)]
    have := (b3 (x % 256) (by omega)).2.1
    unfold y
    omega
theorem t_split (n h l : Nat) (hl : l < 256) : t (n + 1) (h * 256 + l) = t n h * 256 + p8 l := by
  have h1 := y_low n h
  obtain ⟨h2, h3, h4, h5⟩ := b3 l hl
  unfold t st2
  rw [y_split n h l hl]
  generalize y n h = Y at *
  have hy : y 1 l = st 4 51 1 (st 2 85 1 l) := rfl
  rw [hy]
  generalize st 4 51 1 (st 2 85 1 l) = z at *
  have e1 : (Y * 256 + z) / 16 + (Y * 256 + z) = (Y / 16 + Y) * 256 + ((Y % 16) * 16 + z / 16 + (z / 16 * 16 + z % 16)) := by omega
  rw [e1]
  simp only [rep]
  rw [and_split8 _ _ _ _ (by omega) (by decide), c16 _ h1 _ h4 _ h3]
  omega

theorem rep8 : rep 85 8 = 6148914691236517205 ∧ rep 51 8 = 3689348814741910323 ∧ rep 15 8 = 1085102592571150095 := by decide +kernel

/-- The sum of the first n bits. -/
def ones (x : Nat) : Nat → Nat
  | 0 => 0
  | n + 1 => ones x n + x / 2 ^ n % 2

theorem t0 (x : Nat) : t 0 x = 0 := by simp [t, st2, rep]

theorem p8_mod (q : Nat) : p8 (q % 256) = q % 2 + q / 2 % 2 + q / 4 % 2 + q / 8 % 2 + q / 16 % 2 + q / 32 % 2 + q / 64 % 2 + q / 128 % 2 := by
  simp only [p8]
  omega
theorem ones8 (x k : Nat) : ones x (k + 8) = ones x k + p8 (x / 2 ^ k % 256) := by
  rw [p8_mod]
  have d : ∀ m, x / 2 ^ (k + m) = x / 2 ^ k / 2 ^ m := fun m => by rw [Nat.pow_add, Nat.div_div_eq_div_mul]
  have d1 := d 1; have d2 := d 2; have d3 := d 3; have d4 := d 4; have d5 := d 5; have d6 := d 6; have d7 := d 7
  simp only [ones, d1, d2, d3, d4, d5, d6, d7]
  omega
theorem t_step (n x : Nat) : t (n + 1) x = t n (x / 256) * 256 + p8 (x % 256) := by
  conv => lhs; rw [show x = x / 256 * 256 + x % 256 by omega]
  exact t_split n _ _ (Nat.mod_lt _ (by decide))
theorem p8_le (l : Nat) : p8 l ≤ 8 := by simp only [p8]; omega
theorem div_p (x k m : Nat) : x / 2 ^ k / 2 ^ m = x / 2 ^ (k + m) := by rw [Nat.div_div_eq_div_mul, ← Nat.pow_add]
/-- The last three rounds. -/
theorem fold (c0 c1 c2 c3 c4 c5 c6 c7 T u v : Nat) (h0 : c0 ≤ 8) (h1 : c1 ≤ 8) (h2 : c2 ≤ 8) (h3 : c3 ≤ 8) (h4 : c4 ≤ 8) (h5 : c5 ≤ 8) (h6 : c6 ≤ 8) (h7 : c7 ≤ 8)
    (hT : T = (((((((c7 * 256 + c6) * 256 + c5) * 256 + c4) * 256 + c3) * 256 + c2) * 256 + c1) * 256 + c0)) (hu : u = T + T / 256) (hv : v = u + u / 65536) :
    (v + v / 4294967296) % 128 = c0 + c1 + c2 + c3 + c4 + c5 + c6 + c7 := by
  have e1 : T / 256 = ((((((c7 * 256 + c6) * 256 + c5) * 256 + c4) * 256 + c3) * 256 + c2) * 256 + c1) := by omega
  have e2 : u = (((((((c7 * 256 + (c6 + c7)) * 256 + (c5 + c6)) * 256 + (c4 + c5)) * 256 + (c3 + c4)) * 256 + (c2 + c3)) * 256 + (c1 + c2)) * 256 + (c0 + c1)) := by omega
  clear hu e1 hT
  have e3 : u / 65536 = (((((c7 * 256 + (c6 + c7)) * 256 + (c5 + c6)) * 256 + (c4 + c5)) * 256 + (c3 + c4)) * 256 + (c2 + c3)) := by omega
  have e4 : v = (((((((c7 * 256 + (c6 + c7)) * 256 + (c5 + c6 + c7)) * 256 + (c4 + c5 + (c6 + c7))) * 256 + (c3 + c4 + (c5 + c6))) * 256 + (c2 + c3 + (c4 + c5))) * 256 + (c1 + c2 + (c3 + c4))) * 256 + (c0 + c1 + (c2 + c3))) := by omega
  clear hv e3 e2
  have e5 : v / 4294967296 = (((c7 * 256 + (c6 + c7)) * 256 + (c5 + c6 + c7)) * 256 + (c4 + c5 + (c6 + c7))) := by omega
  omega

theorem t8 (x : Nat) (T u v : Nat) (hT : T = t 8 x) (hu : u = T + T / 256) (hv : v = u + u / 65536) : (v + v / 4294967296) % 128 = ones x 64 := by
  have h := fold (p8 (x % 256)) (p8 (x / 2 ^ 8 % 256)) (p8 (x / 2 ^ 16 % 256)) (p8 (x / 2 ^ 24 % 256)) (p8 (x / 2 ^ 32 % 256)) (p8 (x / 2 ^ 40 % 256)) (p8 (x / 2 ^ 48 % 256)) (p8 (x / 2 ^ 56 % 256)) T u v
    (p8_le _) (p8_le _) (p8_le _) (p8_le _) (p8_le _) (p8_le _) (p8_le _) (p8_le _) (by
      rw [hT]
      simp only [t_step, t0]
      have e : ∀ q : Nat, q / 256 = q / 2 ^ 8 := fun q => rfl
      simp only [e, div_p]
      simp) hu hv
  rw [h]
  have o : ones x 64 = ones x 0 + p8 (x / 2 ^ 0 % 256) + p8 (x / 2 ^ 8 % 256) + p8 (x / 2 ^ 16 % 256) + p8 (x / 2 ^ 24 % 256) + p8 (x / 2 ^ 32 % 256) + p8 (x / 2 ^ 40 % 256) + p8 (x / 2 ^ 48 % 256) + p8 (x / 2 ^ 56 % 256) := by
    rw [← ones8, ← ones8 x 8, ← ones8 x 16, ← ones8 x 24, ← ones8 x 32, ← ones8 x 40, ← ones8 x 48, ← ones8 x 56]
  rw [o]
  simp [ones]
theorem t_le (x : Nat) : t 8 x ≤ 578721382704613384 := by
  have e : t 8 x = (((((((p8 (x / 2 ^ 56 % 256) * 256 + p8 (x / 2 ^ 48 % 256)) * 256 + p8 (x / 2 ^ 40 % 256)) * 256 + p8 (x / 2 ^ 32 % 256)) * 256 + p8 (x / 2 ^ 24 % 256)) * 256 + p8 (x / 2 ^ 16 % 256)) * 256 + p8 (x / 2 ^ 8 % 256)) * 256 + p8 (x % 256)) := by
    simp only [t_step, t0]
    have e : ∀ q : Nat, q / 256 = q / 2 ^ 8 := fun q => rfl
    simp only [e, div_p]
    simp
  have a0 := p8_le (x % 256); have a1 := p8_le (x / 2 ^ 8 % 256); have a2 := p8_le (x / 2 ^ 16 % 256); have a3 := p8_le (x / 2 ^ 24 % 256); have a4 := p8_le (x / 2 ^ 32 % 256); have a5 := p8_le (x / 2 ^ 40 % 256); have a6 := p8_le (x / 2 ^ 48 % 256); have a7 := p8_le (x / 2 ^ 56 % 256)
  omega
end Go.Proofs.YtfdbomflfhmecaaDoor.Pop
