/-
  The text of an operation, read: plain. What the program's Parse reads is what is printed, and what is printed is read. No program in sight. No condition.
-/
import Derived.Test.YtagdjpcbgnppnaaDoorPrintC
import Derived.Lib.IndexMore
import Derived.Lib.AtoiAllCases
import Derived.Lib.ItoaMem
namespace Go.Proofs.YtagdjpcbgnppnaaDoor
set_option linter.unusedSimpArgs false
set_option linter.unusedVariables false
set_option linter.unusedSectionVars false

def opName (a : Int) : List UInt8 := opL.getD (a - 1).toNat []
def keyL (k : Int) : List UInt8 := if 0 < k then 58 :: Lib.itoa k else []
def valL (v : Int) : List UInt8 := if 0 < v then 61 :: Lib.itoa v else []
/-- An operation's text, as a list. -/
def optL (a k v : Int) : List UInt8 := opName a ++ keyL k ++ valL v
theorem optD_list (a k v : Int) : (optD a k v).data.toList = optL a k v := by
  unfold optD keyD optL keyL valL nameOf itoaB opName
  split <;> split <;> simp [ByteArray.data_append]

theorem index_notin (c : UInt8) : ∀ l : List UInt8, c ∉ l → Lib.index l [c] = -1
  | [], _ => rfl
  | b :: l, h => by
    have h1 : c ≠ b := fun e => h (by simp [e])
    have h2 := index_notin c l (fun hm => h (by simp [hm]))
    unfold Lib.index
    rw [h2]
    simp [List.isPrefixOf, h1]
theorem index_at (c : UInt8) (r : List UInt8) : ∀ l : List UInt8, c ∉ l → Lib.index (l ++ c :: r) [c] = l.length
  | [], _ => by simp [Lib.index, List.isPrefixOf]
  | b :: l, h => by
    have h1 : c ≠ b := fun e => h (by simp [e])
    have h2 := index_at c r l (fun hm => h (by simp [hm]))
    rw [List.cons_append]
    unfold Lib.index
    rw [h2]
    have h3 : ((l.length : Int) == -1) = false := by rw [beq_eq_false_iff_ne]; omega
    simp [List.isPrefixOf, h1, h3]
theorem cut_first (l r : List UInt8) (c : UInt8) (h : c ∉ l) : Lib.cut (l ++ c :: r) [c] = (l, r, true) := by
  unfold Lib.cut
  rw [index_at c r l h, if_pos (by omega)]
  simp
theorem cut_none (l : List UInt8) (c : UInt8) (h : c ∉ l) : Lib.cut l [c] = (l, [], false) := by
  unfold Lib.cut
  rw [index_notin c l h]
  rfl
theorem cut_split (s : List UInt8) (c : UInt8) : (∃ l r, s = l ++ c :: r ∧ Lib.cut s [c] = (l, r, true)) ∨ Lib.cut s [c] = (s, [], false) := by
  by_cases h : c ∈ s
  · obtain ⟨l, r, hs, hn⟩ := List.eq_append_cons_of_mem h
    exact .inl ⟨l, r, hs, by rw [hs]; exact cut_first l r c hn⟩
  · exact .inr (cut_none s c h)

/-! Digits. -/
theorem dd_step (u : Nat) (h : ¬ u < 10) : Lib.decDigits u = Lib.decDigits (u / 10) ++ [UInt8.ofNat (48 + u % 10)] := by rw [Lib.decDigits, dif_neg h]
theorem dd_one (u : Nat) (h : u < 10) : Lib.decDigits u = [UInt8.ofNat (48 + u)] := by rw [Lib.decDigits, dif_pos h]
theorem dig_nat (d : Nat) (h : d < 10) : (UInt8.ofNat (48 + d)).toNat = 48 + d := by simp; omega
def isDig (b : UInt8) : Bool := decide (48 ≤ b.toNat ∧ b.toNat ≤ 57)
theorem dd_dig (u : Nat) : ∀ b ∈ Lib.decDigits u, isDig b = true := by
  induction u using Nat.strongRecOn with
  | _ u ih =>
    intro b hb
    by_cases h : u < 10
    · rw [dd_one u h] at hb
      obtain rfl := List.mem_singleton.1 hb
      have := dig_nat u h
      unfold isDig; simp only [decide_eq_true_eq]; omega
    · rw [dd_step u h, List.mem_append] at hb
      rcases hb with hb | hb
      · exact ih (u / 10) (by omega) b hb
      · obtain rfl := List.mem_singleton.1 hb
        have := dig_nat (u % 10) (by omega)
        unfold isDig; simp only [decide_eq_true_eq]; omega
theorem dd_head (u : Nat) (hu : 0 < u) : ∃ b l, Lib.decDigits u = b :: l ∧ 49 ≤ b.toNat ∧ b.toNat ≤ 57 := by
  induction u using Nat.strongRecOn with
  | _ u ih =>
    by_cases h : u < 10
    · exact ⟨_, [], dd_one u h, by rw [dig_nat u h]; omega, by rw [dig_nat u h]; omega⟩
    · obtain ⟨b, l, e, h1, h2⟩ := ih (u / 10) (by omega) (by omega)
      exact ⟨b, l ++ [UInt8.ofNat (48 + u % 10)], by rw [dd_step u h, e]; rfl, h1, h2⟩
theorem pu_snoc : ∀ (l : List UInt8) (acc m d : Nat), Lib.parseUint10 acc l = .ok m → d < 10 → m * 10 + d < 18446744073709551616 → Lib.parseUint10 acc (l ++ [UInt8.ofNat (48 + d)]) = .ok (m * 10 + d)
  | [], acc, m, d, h, hd, hb => by
    simp only [Lib.parseUint10] at h
    injection h with h
    subst h
    have e := dig_nat d hd
    simp only [List.nil_append, Lib.parseUint10, e]
    rw [if_pos (by omega), if_neg (by omega), if_neg (by omega)]
    congr 1
    omega
  | c :: r, acc, m, d, h, hd, hb => by
    simp only [Lib.parseUint10] at h
    simp only [List.cons_append, Lib.parseUint10]
    split at h
    · rename_i h1
      rw [if_pos h1]
      split at h
      · cases h
      · rename_i h2
        rw [if_neg h2]
        split at h
        · cases h
        · rename_i h3
          rw [if_neg h3]
          exact pu_snoc r _ m d h hd hb
    · cases h
theorem pu_dd (u : Nat) (hu : u < 18446744073709551616) : Lib.parseUint10 0 (Lib.decDigits u) = .ok u := by
  induction u using Nat.strongRecOn with
  | _ u ih =>
    by_cases h : u < 10
    · rw [dd_one u h]
      have := pu_snoc [] 0 0 u rfl h (by omega)
      simpa using this
    · rw [dd_step u h, pu_snoc _ 0 (u / 10) (u % 10) (ih (u / 10) (by omega) (by omega)) (by omega) (by omega)]
      congr 1
      omega
theorem itoa_pos (n : Int) (h : 0 < n) : Lib.itoa n = Lib.decDigits n.toNat := by unfold Lib.itoa; rw [if_neg (by omega)]
theorem atoi_itoa (n : Int) (h0 : 0 < n) (h1 : n ≤ 9223372036854775807) : Lib.atoiAll (Lib.itoa n) = .ok n := by
  rw [itoa_pos n h0]
  obtain ⟨b, l, e, hb1, hb2⟩ := dd_head n.toNat (by omega)
  have hp := pu_dd n.toNat (by omega)
  rw [e] at hp ⊢
  rw [Lib.atoiAll_plain b l (by omega) (by omega)]
  unfold Lib.parseMag
  rw [if_neg (by simp), hp]
  show (if 9223372036854775808 ≤ n.toNat then Lib.NumEnd.range else Lib.NumEnd.ok (n.toNat : Int)) = .ok n
  rw [if_neg (by omega)]
  congr 1
  omega
theorem itoa_notin (n : Int) (h0 : 0 < n) (c : UInt8) (hc : isDig c = false) : c ∉ Lib.itoa n := by
  rw [itoa_pos n h0]
  intro h
  rw [dd_dig _ c h] at hc
  cases hc

/-! The program's Parse. -/
/-- number: what it reads, and whether it is one. -/
def numZ (v : List UInt8) : Int × Bool :=
  match Lib.atoiAll v with
  | .ok n => (n, decide (0 < n) && decide (Lib.itoa n = v))
  | .range => (Lib.atoiSat v, false)
  | _ => (0, false)
theorem numZ_sound (v : List UInt8) (h : (numZ v).2 = true) : 0 < (numZ v).1 ∧ Lib.itoa (numZ v).1 = v := by
  unfold numZ at h ⊢
  split at h
  · rename_i n e
    simp at h
    exact h
  · cases h
  · cases h
theorem numZ_itoa (n : Int) (h0 : 0 < n) (h1 : n ≤ 9223372036854775807) : numZ (Lib.itoa n) = (n, true) := by
  unfold numZ
  rw [atoi_itoa n h0 h1]
  simp [h0]
/-- Which name it is, counted from 1; 0: none. -/
def whatZ (s : List UInt8) : Int := if s = opName 1 then 1 else if s = opName 2 then 2 else if s = opName 3 then 3 else if s = opName 4 then 4 else if s = opName 5 then 5 else if s = opName 6 then 6 else 0
theorem whatZ_sound (s : List UInt8) (h : 1 ≤ whatZ s) : opName (whatZ s) = s := by
  unfold whatZ at h ⊢
  repeat' split
  all_goals first | (rename_i e; exact e.symm) | skip
  all_goals (repeat' split at h) <;> first | omega | skip
  all_goals simp_all
theorem whatZ_name (a : Int) (h1 : 1 ≤ a) (h2 : a ≤ 6) : whatZ (opName a) = a := by
  rcases (by omega : a = 1 ∨ a = 2 ∨ a = 3 ∨ a = 4 ∨ a = 5 ∨ a = 6) with rfl | rfl | rfl | rfl | rfl | rfl <;> decide
/-- Value, whether so far all is well, and what stands ahead of it. -/
def stepV (s : List UInt8) : Int × Bool × List UInt8 := let c := Lib.cut s [61]; if c.2.2 then ((numZ c.2.1).1, (numZ c.2.1).2, c.1) else (0, true, s)
def stepK (s : List UInt8) (ok : Bool) : Int × Bool × List UInt8 := let c := Lib.cut s [58]; if c.2.2 && ok then ((numZ c.2.1).1, (numZ c.2.1).2, c.1) else (0, ok, s)
/-- What, key, value, and whether all is well. -/
def progP (s : List UInt8) : Int × Int × Int × Bool :=
  let x := stepV s; let y := stepK x.2.2 x.2.1
  (whatZ y.2.2, y.1, x.1, y.2.1)
theorem stepV_sound (s : List UInt8) (h : (stepV s).2.1 = true) : s = (stepV s).2.2 ++ valL (stepV s).1 := by
  unfold stepV at h ⊢
  rcases cut_split s 61 with ⟨l, r, hs, hc⟩ | hc
  · simp only [hc, if_true] at h ⊢
    obtain ⟨h1, h2⟩ := numZ_sound r h
    unfold valL
    rw [if_pos h1, h2]
    exact hs
  · simp [hc, valL]
theorem stepK_sound (s : List UInt8) (ok : Bool) (h : (stepK s ok).2.1 = true) : ok = true ∧ s = (stepK s ok).2.2 ++ keyL (stepK s ok).1 := by
  unfold stepK at h ⊢
  rcases cut_split s 58 with ⟨l, r, hs, hc⟩ | hc
  · cases ok with
    | false => simp [hc] at h
    | true =>
      simp only [hc, Bool.and_true, if_true] at h ⊢
      obtain ⟨h1, h2⟩ := numZ_sound r h
      unfold keyL
      rw [if_pos h1, h2]
      exact ⟨trivial, hs⟩
  · simp only [hc, Bool.false_and, Bool.false_eq_true, if_false] at h ⊢
    exact ⟨h, by simp [keyL]⟩
theorem progP_sound (s : List UInt8) (h : (progP s).2.2.2 = true) (hr : opRightB (progP s).1 (progP s).2.1 (progP s).2.2.1 = true) : optL (progP s).1 (progP s).2.1 (progP s).2.2.1 = s := by
  unfold progP at h hr ⊢
  simp only at h hr ⊢
  obtain ⟨h1, h2⟩ := stepK_sound _ _ h
  have h3 := stepV_sound s h1
  have h4 : 1 ≤ whatZ (stepK (stepV s).2.2 (stepV s).2.1).2.2 := by simp [opRightB] at hr; omega
  have h5 := whatZ_sound _ h4
  unfold optL
  rw [h5, ← h2, ← h3]

theorem name_notin (a : Int) (c : UInt8) (hc : c = 58 ∨ c = 61) (h1 : 1 ≤ a) (h2 : a ≤ 6) : c ∉ opName a := by
  rcases (by omega : a = 1 ∨ a = 2 ∨ a = 3 ∨ a = 4 ∨ a = 5 ∨ a = 6) with rfl | rfl | rfl | rfl | rfl | rfl <;> rcases hc with rfl | rfl <;> decide
theorem key_notin (k : Int) : (61 : UInt8) ∉ keyL k := by
  unfold keyL
  split
  · rename_i h
    have := itoa_notin k h 61 (by decide)
    simp [this]
  · simp
theorem progP_good (a k v : Int) (h : opRightB a k v = true) : progP (optL a k v) = (a, k, v, true) := by
  have hq : 1 ≤ a ∧ a ≤ 6 ∧ 0 ≤ k ∧ k ≤ 1000 ∧ 0 ≤ v ∧ v ≤ 4294967295 := by simpa [opRightB] using h
  have e1 : stepV (optL a k v) = (v, true, opName a ++ keyL k) := by
    have hn : (61 : UInt8) ∉ opName a ++ keyL k := by
      rw [List.mem_append]
      exact fun hm => hm.elim (name_notin a 61 (.inr rfl) hq.1 hq.2.1) (key_notin k)
    unfold stepV optL valL
    by_cases hv : 0 < v
    · rw [if_pos hv, cut_first _ _ _ hn]
      simp [numZ_itoa v hv (by omega)]
    · rw [if_neg hv, List.append_nil, cut_none _ _ hn]
      simp; omega
  have e2 : stepK (opName a ++ keyL k) true = (k, true, opName a) := by
    have hn := name_notin a 58 (.inl rfl) hq.1 hq.2.1
    unfold stepK keyL
    by_cases hk : 0 < k
    · rw [if_pos hk, cut_first _ _ _ hn]
      simp [numZ_itoa k hk (by omega)]
    · rw [if_neg hk, List.append_nil, cut_none _ _ hn]
      simp; omega
  unfold progP
  simp only [e1, e2, whatZ_name a hq.1 hq.2.1]

/-- A text that is an operation's. -/
def good (s : List UInt8) (a k v : Int) : Prop := opRightB a k v = true ∧ optL a k v = s
theorem good_unique {s : List UInt8} {a k v a' k' v' : Int} (h : good s a k v) (h' : good s a' k' v') : a = a' ∧ k = k' ∧ v = v' := by
  have e := progP_good a k v h.1
  have e' := progP_good a' k' v' h'.1
  rw [h.2] at e
  rw [h'.2, e] at e'
  simp only [Prod.mk.injEq, and_true] at e'
  exact e'
/-- What Parse returns. -/
def parseZ (s : List UInt8) : Int × Int × Int × Bool := if (progP s).2.2.2 && opRightB (progP s).1 (progP s).2.1 (progP s).2.2.1 then ((progP s).1, (progP s).2.1, (progP s).2.2.1, true) else (0, 0, 0, false)
theorem parseZ_good {s : List UInt8} {a k v : Int} (h : good s a k v) : parseZ s = (a, k, v, true) := by
  have e := progP_good a k v h.1
  rw [h.2] at e
  unfold parseZ
  rw [e]
  simp [h.1]
theorem parseZ_none {s : List UInt8} (h : ∀ a k v, ¬ good s a k v) : parseZ s = (0, 0, 0, false) := by
  unfold parseZ
  split
  · rename_i e
    simp only [Bool.and_eq_true] at e
    exact absurd ⟨e.2, progP_sound s e.1 e.2⟩ (h _ _ _)
  · rfl

/-! The reference's OpParse. -/
/-- digitsOf's loop: at most f digits more. -/
def digGo : Nat → Nat → List UInt8 → Nat × List UInt8
  | 0, n, l => (n, l)
  | _ + 1, n, [] => (n, [])
  | f + 1, n, b :: l => if isDig b then digGo f (n * 10 + (b.toNat - 48)) l else (n, b :: l)
def digO (l : List UInt8) : Int × List UInt8 :=
  match l with
  | [] => (-1, [])
  | b :: r => if isDig b && decide (b ≠ 48) then (((digGo 12 0 (b :: r)).1 : Int), (digGo 12 0 (b :: r)).2) else (-1, b :: r)
def stops (r : List UInt8) : Prop := ∀ b l, r = b :: l → isDig b = false
theorem digGo_stop (f n : Nat) (r : List UInt8) (h : stops r) : digGo f n r = (n, r) := by
  cases f with
  | zero => rfl
  | succ f =>
    cases r with
    | nil => rfl
    | cons b l => simp [digGo, h b l rfl]
theorem digGo_pu : ∀ (l : List UInt8) (f n m : Nat) (r : List UInt8), Lib.parseUint10 n l = .ok m → l.length ≤ f → stops r → digGo f n (l ++ r) = (m, r)
  | [], f, n, m, r, h, _, hr => by
    simp only [Lib.parseUint10] at h
    injection h with h
    subst h
    exact digGo_stop f n r hr
  | c :: l, 0, n, m, r, _, hf, _ => by simp at hf
  | c :: l, f + 1, n, m, r, h, hf, hr => by
    simp only [Lib.parseUint10] at h
    split at h
    · rename_i h1
      split at h
      · cases h
      · split at h
        · cases h
        · rw [List.cons_append]
          have hd : isDig c = true := by unfold isDig; simpa using h1
          unfold digGo
          rw [if_pos hd]
          exact digGo_pu l f _ m r h (by simpa using hf) hr
    · cases h
theorem dd_len (j : Nat) : ∀ u, u < 10 ^ (j + 1) → (Lib.decDigits u).length ≤ j + 1 := by
  induction j with
  | zero =>
    intro u hu
    rw [dd_one u (by simpa using hu)]
    simp
  | succ j ih =>
    intro u hu
    by_cases h : u < 10
    · rw [dd_one u h]; simp
    · rw [dd_step u h, List.length_append]
      have := ih (u / 10) (by rw [Nat.pow_succ] at hu; omega)
      simp; omega
theorem digO_itoa (m : Int) (r : List UInt8) (h0 : 0 < m) (h1 : m ≤ 4294967295) (hr : stops r) : digO (Lib.itoa m ++ r) = (m, r) := by
  rw [itoa_pos m h0]
  obtain ⟨b, l, e, hb1, hb2⟩ := dd_head m.toNat (by omega)
  have hp := pu_dd m.toNat (by omega)
  have hl := dd_len 11 m.toNat (by omega)
  have hg := digGo_pu _ 12 0 m.toNat r hp hl hr
  have hd : isDig b = true := by unfold isDig; simp; omega
  have hn : b ≠ 48 := by intro e; subst e; revert hb1; decide
  rw [e] at hg ⊢
  rw [List.cons_append] at hg ⊢
  unfold digO
  simp only [hd, hn, ne_eq, not_false_eq_true, decide_true, Bool.and_self, if_true, hg]
  congr 1
  omega
def refK (r : List UInt8) : Int × List UInt8 := if Lib.hasPrefix r [58] then digO (r.drop 1) else (0, r)
def refV (r : List UInt8) : Int × List UInt8 := if Lib.hasPrefix r [61] then digO (r.drop 1) else (0, r)
/-- At the name i (from 1): key, value, what is left. -/
def refTry (s : List UInt8) (i : Int) : Int × Int × List UInt8 :=
  let x := refK (s.drop (opName i).length); let y := refV x.2
  (x.1, y.1, y.2)
theorem stops_val (v : Int) : stops (valL v) := by
  unfold valL
  intro b l h
  split at h
  · injection h with h1 h2; subst h1; decide
  · cases h
theorem refTry_good (a k v : Int) (h : opRightB a k v = true) : Lib.hasPrefix (optL a k v) (opName a) = true ∧ refTry (optL a k v) a = (k, v, []) := by
  have hq : 1 ≤ a ∧ a ≤ 6 ∧ 0 ≤ k ∧ k ≤ 1000 ∧ 0 ≤ v ∧ v ≤ 4294967295 := by simpa [opRightB] using h
  have hd : (optL a k v).drop (opName a).length = keyL k ++ valL v := by unfold optL; rw [List.append_assoc, List.drop_left]
  have e1 : refK (keyL k ++ valL v) = (k, valL v) := by
    unfold refK
    by_cases hk : 0 < k
    · have e : keyL k ++ valL v = 58 :: (Lib.itoa k ++ valL v) := by unfold keyL; rw [if_pos hk]; rfl
      rw [e]
      have hp : Lib.hasPrefix (58 :: (Lib.itoa k ++ valL v)) [58] = true := by simp [Lib.hasPrefix, List.isPrefixOf]
      rw [if_pos hp]
      exact digO_itoa k _ hk (by omega) (stops_val v)
    · have e : keyL k = [] := by unfold keyL; rw [if_neg hk]
      rw [e, List.nil_append]
      have hp : Lib.hasPrefix (valL v) [58] = false := by unfold valL; split <;> simp [Lib.hasPrefix, List.isPrefixOf]
      rw [hp]
      simp; omega
  have e2 : refV (valL v) = (v, []) := by
    unfold refV
    by_cases hv : 0 < v
    · have e : valL v = 61 :: (Lib.itoa v ++ []) := by unfold valL; rw [if_pos hv, List.append_nil]
      rw [e]
      have hp : Lib.hasPrefix (61 :: (Lib.itoa v ++ [])) [61] = true := by simp [Lib.hasPrefix, List.isPrefixOf]
      rw [if_pos hp]
      exact digO_itoa v [] hv hq.2.2.2.2.2 (by intro b l h; cases h)
    · have e : valL v = [] := by unfold valL; rw [if_neg hv]
      rw [e]
      simp [Lib.hasPrefix, List.isPrefixOf]; omega
  constructor
  · unfold optL
    rw [List.append_assoc]
    simp [Lib.hasPrefix, List.isPrefixOf_iff_prefix]
  · unfold refTry
    simp only [hd, e1, e2]
end Go.Proofs.YtagdjpcbgnppnaaDoor
