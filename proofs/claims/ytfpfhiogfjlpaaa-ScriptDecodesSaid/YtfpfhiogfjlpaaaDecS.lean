/-
  What the two readers of bytes return: script.Decode's next and gristmillref.Decode's byteOf. For texts of at most 4000 bytes.
-/
import Derived.Test.YtfpfhiogfjlpaaaProg
import Derived.Test.YtfpfhiogfjlpaaaKit
import Derived.Test.YtfpfhiogfjlpaaaRely
namespace Go.Proofs.Ytfpfhiogfjlpaaa
open Go.RowKit
set_option linter.unusedSimpArgs false
set_option linter.unusedVariables false
attribute [local go_sem ↓] Go.wp_at_zero Go.wp_at_succ

def byA (s : ByteArray) (p : Nat) : Int := if h : p < s.size then (s[p].toNat : Int) else 0
theorem byA_bd (s : ByteArray) (p : Nat) : 0 ≤ byA s p ∧ byA s p ≤ 255 := by
  unfold byA
  split
  · rename_i h
    have := s[p].toNat_lt
    omega
  · omega

set_option maxHeartbeats 400000 in
theorem next_any (s : ByteArray) (ga gs p : Nat) (x : Int) (w : World) (hx : x = p) (ha : w.cell? ⟨ga, 0, none⟩ = some (.int .i64 x)) (hf : w.frozen? ⟨ga, 0, none⟩ = false) (hs : w.cell? ⟨gs, 0, none⟩ = some (.string s)) (hne : ga ≠ gs) (hsz : s.size ≤ 4000) (hp : p ≤ 100000) :
    Calls Try.prog 62 #[.pointer (some ⟨ga, 0, none⟩), .pointer (some ⟨gs, 0, none⟩)] w fun e w' => e = .returned (.int .i64 (byA s p)) ∧ w' = w.setCell ⟨ga, 0, none⟩ (.int .i64 (x + 1)) := by
  subst hx
  by_cases hlt : p < s.size
  · have hq : (p : Int) < s.size := by omega
    have hb1 : (s[p].toNat : Int) ≤ 255 := by have := s[p].toNat_lt; omega
    have HV : Hid (byA s p = (s[p].toNat : Int)) := by show _ = _; unfold byA; rw [dif_pos hlt]
    go_enter Try.func62, Try.ntmps62
    go_wp2
    go_ret
    exact ⟨ret_int HV.out.symm, rfl⟩
  · have hd : decide ((s.size : Int) < (p : Int) + 1) = true := by rw [decide_eq_true_eq]; omega
    have HV : Hid (byA s p = 0) := by show _ = _; unfold byA; rw [dif_neg hlt]
    go_enter Try.func62, Try.ntmps62
    go_wp2
    go_ret
    exact ⟨ret_int HV.out.symm, rfl⟩

/-- The variable in block gb is a slice of the bytes of s from p on. -/
structure RdR (w : World) (gb : Nat) (s : ByteArray) (p : Nat) : Prop where
  ex : ∃ A n c, Blk w gb 97 #[.slice A n c] ∧ n = s.size - p ∧ n ≤ c ∧ c ≤ 9223372036854775807 ∧
    (0 < n → ∃ b off, A = some ⟨b, off, none⟩ ∧ b < gb ∧ ∀ i : Nat, i < n → w.cell? ⟨b, off + i, none⟩ = some (.int .u8 (byA s (p + i))))

theorem RdR.lt {w : World} {gb : Nat} {s : ByteArray} {p : Nat} (h : RdR w gb s p) : gb < w.heap.size := by obtain ⟨A, n, c, hb, _⟩ := h.ex; exact hb.lt
theorem RdR.below {w w' : World} {gb : Nat} {s : ByteArray} {p : Nat} (h : RdR w gb s p) (hk : Below (gb + 1) w w') : RdR w' gb s p := by
  obtain ⟨A, n, c, hb, h1, h2, h3, h4⟩ := h.ex
  refine ⟨A, n, c, hb.below hk (by omega), h1, h2, h3, fun hn => ?_⟩
  obtain ⟨b, off, hA, hlt, hc⟩ := h4 hn
  exact ⟨b, off, hA, hlt, fun i hi => (hk.cell (p := ⟨b, off + i, none⟩) (by show b < gb + 1; omega)).trans (hc i hi)⟩

set_option maxHeartbeats 800000 in
theorem byteOf_any (s : ByteArray) (gb p : Nat) (w : World) (h : RdR w gb s p) (hsz : s.size ≤ 4000) :
    Calls Try.prog 61 #[.pointer (some ⟨gb, 0, none⟩)] w fun e w' => e = .returned (.int .i64 (byA s p)) ∧ RdR w' gb s (p + 1) ∧ Keeps (fun b => b = gb) w w' := by
  obtain ⟨A, n, c, hb, hn, hnc, h63, h4⟩ := h.ex
  have c0 := hb.cell 0
  simp only [List.getElem?_toArray, List.getElem?_cons_zero] at c0
  have f0 := hb.frozen 0
  have HBL := Lib.hid hb
  have HN := Lib.hid hn
  have hgl := hb.lt
  rcases Nat.eq_zero_or_pos n with h0 | h0
  · have hv : byA s p = 0 := by unfold byA; rw [dif_neg (by omega)]
    have HV := Lib.hid hv
    have HH : Hid (RdR w gb s (p + 1)) := Lib.hid ⟨A, 0, c, by rw [← h0]; exact hb, by omega, by omega, h63, fun hh => absurd hh (by omega)⟩
    clear hv h4 hn hb h
    subst h0
    go_enter Try.func61, Try.ntmps61
    go_wp2
    go_ret
    exact ⟨ret_int HV.out.symm, HH.out, Keeps.refl _ _⟩
  · obtain ⟨b, off, rfl, hltb, hc⟩ := h4 h0
    have hne : b ≠ gb := by omega
    have hlt : b < w.heap.size := by omega
    have k0 := hc 0 h0
    rw [Nat.add_zero, Nat.add_zero] at k0
    have hbd := byA_bd s p
    have HC := Lib.hid hc
    have d0 : ((n : Int) == 0) = false := by simp; omega
    have b1 : (0 : Int) < n := by omega
    have b2 : (1 : Int) ≤ n := by omega
    have b3 : (n : Int) ≤ c := by omega
    have e1 : ((n : Int) - 1).toNat = n - 1 := by omega
    have e2 : ((c : Int) - 1).toNat = c - 1 := by omega
    generalize hy : byA s p = y at *
    clear hn hb h h4 hc
    by_cases hc1 : c = 1
    · subst hc1
      go_enter Try.func61, Try.ntmps61
      go_wp2
      go_ret
      refine ⟨rfl, ⟨some ⟨b, off, none⟩, 0, 0, HBL.out.set_ 0 _, by have := HN.out; omega, Nat.le_refl _, by omega, fun hh => absurd hh (by omega)⟩, Keeps.setCell (Keeps.refl (fun b => b = gb) w) (p := ⟨gb, 0, none⟩) (.inl rfl) _⟩
    · go_enter Try.func61, Try.ntmps61
      go_wp2
      go_ret
      refine ⟨rfl, ⟨some ⟨b, off + 1, none⟩, n - 1, c - 1, HBL.out.set_ 0 _, by have := HN.out; omega, by omega, by omega, fun hh => ⟨b, off + 1, rfl, hltb, fun i hi => ?_⟩⟩, Keeps.setCell (Keeps.refl (fun b => b = gb) w) (p := ⟨gb, 0, none⟩) (.inl rfl) _⟩
      rw [World.cell?_setCell_far _ _ _ _ (by show gb ≠ b; exact fun e => hne e.symm), show off + 1 + i = off + (i + 1) by omega, HC.out (i + 1) (by omega), show p + 1 + i = p + (i + 1) by omega]

/-! ### What the bytes come to -/

/-- The seven numbers of the move that begins at byte p. -/
def mvL (s : ByteArray) (p : Nat) : List Int :=
  if byA s p / 4 % 8 < 2 then [1, byA s p % 4, byA s (p + 1) % 6 + 1, byA s (p + 2) % 5, byA s (p + 3) % 10, 0, 0]
  else if byA s p / 4 % 8 < 6 then [2, byA s p % 4, 0, 0, 0, byA s (p + 1) % 100 + 1, 0]
  else if byA s p / 4 % 8 = 6 then [3, byA s p % 4, 0, 0, 0, byA s (p + 1) % 9, 0]
  else if byA s p < 128 then [2, byA s p % 4, 0, 0, 0, 1, 0]
  else [4, byA s p % 4, 0, 0, 0, 0, byA s (p + 1) + 256 * byA s (p + 2)]
/-- How many bytes it takes. -/
def mvN (s : ByteArray) (p : Nat) : Nat :=
  if byA s p / 4 % 8 < 2 then 4 else if byA s p / 4 % 8 < 6 then 2 else if byA s p / 4 % 8 = 6 then 2 else if byA s p < 128 then 1 else 3
theorem mvN_bd (s : ByteArray) (p : Nat) : 1 ≤ mvN s p ∧ mvN s p ≤ 4 := by
  unfold mvN
  (repeat' split) <;> omega
def posA (s : ByteArray) : Nat → Nat
  | 0 => 0
  | j + 1 => posA s j + mvN s (posA s j)
theorem posA_ge (s : ByteArray) : ∀ j, j ≤ posA s j
  | 0 => Nat.le_refl _
  | j + 1 => by have := posA_ge s j; have := mvN_bd s (posA s j); show j + 1 ≤ posA s j + mvN s (posA s j); omega
theorem posA_le (s : ByteArray) : ∀ j, posA s j ≤ 4 * j
  | 0 => Nat.le_refl _
  | j + 1 => by have := posA_le s j; have := mvN_bd s (posA s j); show posA s j + mvN s (posA s j) ≤ 4 * (j + 1); omega
/-- The i-th number of a move as a value. -/
def mvV (l : List Int) : List Value := [.int .i64 (l.getD 0 0), .int .i64 (l.getD 1 0), .int .i64 (l.getD 2 0), .int .i64 (l.getD 3 0), .int .i64 (l.getD 4 0), .int .i64 (l.getD 5 0), .int .u64 (l.getD 6 0)]
/-- The cells of the first j moves. -/
def mvsC (s : ByteArray) (j : Nat) : List Value := (List.range j).flatMap fun i => mvV (mvL s (posA s i))
theorem mvsC_succ (s : ByteArray) (j : Nat) : mvsC s (j + 1) = mvsC s j ++ mvV (mvL s (posA s j)) := by
  unfold mvsC
  rw [List.range_succ, List.flatMap_append]
  simp
theorem mvsC_len (s : ByteArray) : ∀ j, (mvsC s j).length = j * 7
  | 0 => rfl
  | j + 1 => by rw [mvsC_succ, List.length_append, mvsC_len s j]; simp [mvV]; omega
/-- There are j moves. -/
def DecJ (s : ByteArray) (j : Nat) : Prop := (∀ i, i < j → posA s i < s.size ∧ i < 3000) ∧ ¬ (posA s j < s.size ∧ j < 3000)
theorem DecJ.unique {s : ByteArray} {i j : Nat} (h : DecJ s i) (k : DecJ s j) : i = j := by
  rcases Nat.lt_trichotomy i j with h1 | h1 | h1
  · exact absurd (k.1 i h1) h.2
  · exact h1
  · exact absurd (h.1 j h1) k.2

theorem own_form7 {w : World} {B : Nat} {e : TypeId} {v : Value} {n : Nat} {xs : List Value} (h : w.ownsRow B e 7 v n xs) : ∃ A c, v = .slice A n c ∧ n ≤ c ∧ c ≤ maxLen ∧ (0 < n → ∃ g, A = some ⟨g, 0, none⟩ ∧ B ≤ g ∧ g < w.heap.size) := by
  rcases h.2 with ⟨rfl, rfl⟩ | ⟨g, cap, cur, rfl, hb, hg, hc, hm, _⟩
  · exact ⟨none, 0, rfl, Nat.le_refl _, Nat.zero_le _, fun h => absurd h (by omega)⟩
  · exact ⟨_, cap, rfl, hc, hm, fun _ => ⟨g, rfl, hb, (Array.getElem?_eq_some_iff.1 hg).1⟩⟩

/-- append of one struct of seven cells onto a slice of the call's own. -/
theorem wpList_append_mv {ops : Array Oper} {rest : List Oper} {o : Oper} {a : Act} {w : World} {Q : Exit → Act → World → Prop} (hgd : o.guard = none) (s x : Operand) (t e : TypeId) (i0 : TypeInfo) (z : Value)
    (ho : o.op = .call { callee := .builtin .append, args := #[s, x], argTypes := #[t, t] }) (ht : Try.prog.underlying t = some (.slice e)) (hi : Try.prog.info? e = some i0) (hz : i0.zero = some z) (hs7 : i0.size = 7) (hb7 : i0.bytes = 56) (hzs : z.cells.size = 7)
    {B j : Nat} {v : Value} {xs : List Value} (hs : a.eval s = v) (hown : w.ownsRow B e 7 v j xs) {g c : Nat} {M : Array Value} (hx : a.eval x = .slice (some ⟨g, 0, none⟩) 1 c) (hM : Blk w g e M) (hl : M.size = 7) (h1 : M.toList.all (·.oneCell') = true) (hj : j ≤ 10000) (hB : B ≤ w.heap.size)
    (h : ∀ A' c' w', w'.ownsRow B e 7 (.slice A' (j + 1) c') (j + 1) (xs ++ M.toList) → Below B w w' → wpList Try.prog ops Q rest (a.put o.dst (.slice A' (j + 1) c')) w') : wpList Try.prog ops Q (o :: rest) a w := by
  refine wpList_append_own w hgd s x t ho B e i0 z 7 56 ht hi hz hs7 hb7 hzs (by decide) v j xs hs hown ⟨g, 0, none⟩ 1 c M.toList hx (by simp [hl]) (fun k u hk => ?_) (fun u hu => ?_) (by unfold maxLen; omega) (by omega) hB (fun v' w' ho' hg' _ => ?_)
  · rw [Addr.add_lit, Nat.zero_add, hM.cell]
    simpa using hk
  · exact List.all_eq_true.1 h1 u hu
  · obtain ⟨A', c', rfl, _, _, _⟩ := own_form7 ho'
    refine h A' c' w' ho' ⟨hg'.os, hg'.tape, hg'.output, hg'.size, fun k hk => hg'.block k (by omega) ?_⟩
    intro e'
    have := (World.ownsRow.lt hown k e'.symm).1
    omega
end Go.Proofs.Ytfpfhiogfjlpaaa
