/-
  The reference's digitsOf and OpParse, for any text of up to 200 bytes. The tables hold what they hold (premises on variables).
-/
import Derived.Test.YtagdjpcbgnppnaaDoorParseC
namespace Go.Proofs.YtagdjpcbgnppnaaDoor
set_option linter.unusedSimpArgs false
set_option linter.unusedVariables false
set_option linter.unusedSectionVars false
open Go.RowKit
attribute [local go_sem ↓] Go.wp_at_zero Go.wp_at_succ

theorem prefixE (s : ByteArray) (p : List UInt8) (w : World) : Calls Tryd.prog 8 #[.string s, .string ⟨p.toArray⟩] w fun e w' => e = .returned (.bool (Lib.hasPrefix s.data.toList p)) ∧ w' = w := by
  have := Tryd.strings_HasPrefix s ⟨p.toArray⟩ w
  simpa using this
/-- The loop's number and rest behind i digits. -/
theorem digGo_step (f n : Nat) (b : UInt8) (l : List UInt8) (h : isDig b = true) : digGo (f + 1) n (b :: l) = digGo f (n * 10 + (b.toNat - 48)) l := by
  show (if isDig b then _ else _) = _
  rw [if_pos h]
theorem digGo_lt : ∀ (f n m : Nat) (l : List UInt8), n < 10 ^ m → (digGo f n l).1 < 10 ^ (m + f)
  | 0, n, m, l, h => h
  | f + 1, n, m, [], h => Nat.lt_of_lt_of_le h (Nat.pow_le_pow_right (by decide) (by omega))
  | f + 1, n, m, b :: l, h => by
    unfold digGo
    split
    · rename_i hd
      have hb : b.toNat - 48 ≤ 9 := by unfold isDig at hd; simp at hd; omega
      have := digGo_lt f (n * 10 + (b.toNat - 48)) (m + 1) l (by rw [Nat.pow_succ]; omega)
      rwa [show m + 1 + f = m + (f + 1) by omega] at this
    · exact Nat.lt_of_lt_of_le h (Nat.pow_le_pow_right (by decide) (by omega))

theorem extract_drop (s : ByteArray) (k : Nat) : s.extract k s.size = ⟨(s.data.toList.drop k).toArray⟩ := by
  apply ByteArray.ext
  apply Array.toList_inj.1
  have h : s.size = s.data.toList.length := by rw [Array.length_toList]; rfl
  rw [ByteArray.data_extract, Array.toList_extract, List.extract_eq_take_drop]
  show List.take (s.size - k) (List.drop k s.data.toList) = List.drop k s.data.toList
  exact List.take_of_length_le (by rw [List.length_drop, h]; exact Nat.le_refl _)
theorem below_any {a w : World} {B : Nat} (h : Below B a w) : Below B a w.drew := Below.drew h
set_option maxHeartbeats 2000000 in
set_option maxRecDepth 100000 in
theorem digTxt_any (s : ByteArray) (hs : s.size ≤ 200) (w : World) : Calls Tryd.prog 9 #[.string s] w fun e w' =>
    e = .returned (.tuple #[.int .i64 (digO s.data.toList).1, .string ⟨(digO s.data.toList).2.toArray⟩]) ∧ Below w.heap.size w w' := by
  obtain ⟨dn, dr, hDO⟩ : ∃ dn dr, digO s.data.toList = (dn, dr) := ⟨_, _, rfl⟩
  rw [hDO]
  have HDO := Lib.hid hDO
  clear hDO
  have hlen : s.data.toList.length = s.size := by rw [Array.length_toList]; rfl
  go_enter Tryd.func9, Tryd.ntmps9
  go_wp2
  go_loopw [4, 5] (fun n i wr => ∃ k m : Nat, k ≤ 12 ∧ k ≤ s.size ∧ i = .int .i64 k ∧ n = .int .i64 m ∧ m < 10 ^ k ∧ Hid (digGo 12 0 s.data.toList = digGo (12 - k) m (s.data.toList.drop k)) ∧ Hid (0 < k → ∃ b l, s.data.toList = b :: l ∧ isDig b = true) ∧ Below w.heap.size w wr) (fun _ i _ => 12 - (intOf i).toNat)
  case atStart => exact ⟨0, 0, by omega, by omega, rfl, rfl, by decide, Lib.hid rfl, Lib.hid (fun h => absurd h (by decide)), Below.refl _ _⟩
  case round =>
    obtain ⟨k, m, hk, hks, rfl, rfl, hm, HE, HF, hB⟩ := hrel
    have hbz := hB.size
    have hp12 : 10 ^ k ≤ 10 ^ 12 := Nat.pow_le_pow_right (by decide) hk
    have hm12 : m < 1000000000000 := by
      have h12 : (10 : Nat) ^ 12 = 1000000000000 := by decide
      omega
    by_cases hks2 : k < s.size
    · have hk2 : k < s.data.size := hks2
      have hdrop : s.data.toList.drop k = s.data[k] :: s.data.toList.drop (k + 1) := by
        rw [List.drop_eq_getElem_cons (by rw [hlen]; exact hks2), Array.getElem_toList]
      have ix : ∀ w, (Instr.index 9 (.string s) (.int .i64 (k : Int))).run Tryd.prog w = .ok (.int .u8 ((s.data[k]).toNat : Int)) w := fun w => by
        rw [run_index_string w 9 s .i64 _ Tryd.underlying9, dif_pos ⟨by omega, by omega⟩]
        rfl
      have hbt : (s.data[k]).toNat < 256 := (s.data[k]).toNat_lt
      generalize s.data[k] = b at *
      have q1 : (k : Int) < (s.size : Int) := by omega
      have hid : withinB (b.toNat : Int) 48 57 = isDig b := by unfold withinB isDig; simp only [decide_eq_decide]; omega
      cases hd : isDig b with
      | true =>
        rw [hd] at hid
        by_cases hk12 : k < 12
        · have q2 : (k : Int) < 12 := by omega
          have hd2 : 48 ≤ b.toNat ∧ b.toNat ≤ 57 := by unfold isDig at hd; simpa using hd
          have HD := Lib.hid hd
          clear hd hd2
          go_wp2_with (go_at_call 18; refine (within_any _ _ _ _).mono ?_; rintro e w2 ⟨rfl, rfl⟩; rw [hid])
          have hd2 : 48 ≤ b.toNat ∧ b.toNat ≤ 57 := by have := HD.out; unfold isDig at this; simpa using this
          refine ⟨⟨k + 1, m * 10 + (b.toNat - 48), by omega, by omega, by go_num, ?_, by rw [Nat.pow_succ]; omega, Lib.hid ?_, Lib.hid (fun _ => ?_), hB⟩, by simp [intOf]; omega⟩
          · congr 1
            omega
          · rw [HE.out, hdrop, show 12 - k = 12 - (k + 1) + 1 by omega, digGo_step _ _ _ _ HD.out]
          · rcases Nat.eq_zero_or_pos k with h0 | h0
            · subst h0
              exact ⟨b, _, hdrop, HD.out⟩
            · exact HF.out h0
        · obtain rfl : k = 12 := by omega
          have hend : digGo 12 0 s.data.toList = (m, s.data.toList.drop 12) := by rw [HE.out]; rfl
          have hz : 12 = 0 → digO s.data.toList = (-1, s.data.toList) := fun h => absurd h (by decide)
          clear hdrop hd
          have ix12 : ∀ w, (Instr.index 9 (.string s) (.int .i64 12)).run Tryd.prog w = .ok (.int .u8 (b.toNat : Int)) w := ix
          clear HE
          have hk0 : 0 < 12 := by decide
          obtain ⟨b0, l', hl, hd0⟩ := HF.out hk0
          have hsz : 0 < s.size := by omega
          have hdO : digO s.data.toList = if b0 = 48 then (-1, s.data.toList) else ((m : Int), s.data.toList.drop 12) := by
            rw [hl] at hend ⊢
            unfold digO
            by_cases e : b0 = 48
            · simp [e]
            · simp [hd0, e, hend]
          have hb0 : s.data[0]? = some b0 := by
            rw [← Array.getElem?_toList, hl]
            rfl
          have hsz2 : 0 < s.data.size := hsz
          have hg0 : (s[0]'hsz) = b0 := by
            rw [Array.getElem?_eq_getElem hsz2] at hb0
            exact Option.some.inj hb0
          have ix0 : ∀ w, (Instr.index 9 (.string s) (.int .i64 0)).run Tryd.prog w = .ok (.int .u8 (b0.toNat : Int)) w := fun w => by
            rw [run_index_string w 9 s .i64 _ Tryd.underlying9, dif_pos (show 0 ≤ (0 : Int) ∧ (0 : Int) < (s.size : Int) from ⟨Int.le_refl 0, by omega⟩), ← hg0]
            rfl
          have hk00 : (((12 : Nat) : Int) == 0) = false := by rw [beq_eq_false_iff_ne]; omega
          have hdP := HDO.out.symm.trans hdO
          clear hdO hend hb0 hg0 hl hd0 HF hz hsz2
          by_cases e : b0 = 48
          · rw [if_pos e] at hdP
            have H12 : Hid (dn = -1 ∧ dr = s.data.toList) := Lib.hid (Prod.mk.inj hdP)
            clear hdP
            have q48 : ((b0.toNat : Int) == 48) = true := by subst e; rfl
            clear e
            go_wp2_with (go_at_call 18; refine (within_any _ _ _ _).mono ?_; rintro e w2 ⟨rfl, rfl⟩; rw [hid])
            go_wp2
            go_ret2
            exact ⟨by rw [H12.out.1, H12.out.2]; rfl, hB⟩
          · rw [if_neg e] at hdP
            have H12 : Hid (dn = (m : Int) ∧ dr = s.data.toList.drop 12) := Lib.hid (Prod.mk.inj hdP)
            clear hdP
            have q48 : ((b0.toNat : Int) == 48) = false := by
              rw [beq_eq_false_iff_ne]
              intro h
              apply e
              have h3 : b0.toNat = (48 : UInt8).toNat := by have : (48 : UInt8).toNat = 48 := rfl; omega
              exact UInt8.toNat_inj.1 h3
            have hks3 : ((12 : Nat) : Int) ≤ (s.size : Int) := by omega
            have hk1 : (0 : Int) ≤ ((12 : Nat) : Int) := by omega
            have hext : s.extract ((12 : Nat) : Int).toNat s.size = ⟨(s.data.toList.drop 12).toArray⟩ := extract_drop s 12
            have HX := Lib.hid hext
            clear e hext
            go_wp2_with (go_at_call 18; refine (within_any _ _ _ _).mono ?_; rintro e w2 ⟨rfl, rfl⟩; rw [hid])
            go_region
            all_goals (go_wp2; go_ret2; exact ⟨by rw [H12.out.1, H12.out.2, ← HX.out]; rfl, below_any hB⟩)
      | false =>
        rw [hd] at hid
        have hend : digGo 12 0 s.data.toList = (m, s.data.toList.drop k) := by
          rw [HE.out, hdrop]
          exact digGo_stop _ _ _ (fun b' l' h => by injection h with h1 _; rw [← h1]; exact hd)
        have hz : k = 0 → digO s.data.toList = (-1, s.data.toList) := fun h => by
          subst h
          have e : s.data.toList = b :: s.data.toList.drop 1 := hdrop
          rw [e]
          simp [digO, hd]
        clear hdrop hd
        clear HE
        rcases Nat.eq_zero_or_pos k with hk0 | hk0
        · subst hk0
          have H12 : Hid (dn = -1 ∧ dr = s.data.toList) := Lib.hid (Prod.mk.inj (HDO.out.symm.trans (hz rfl)))
          clear hz hend HF
          try (have ixz : ∀ w, (Instr.index 9 (.string s) (.int .i64 0)).run Tryd.prog w = .ok (.int .u8 (b.toNat : Int)) w := ix)
          go_wp2_with (go_at_call 18; refine (within_any _ _ _ _).mono ?_; rintro e w2 ⟨rfl, rfl⟩; rw [hid])
          go_wp2
          go_ret2
          exact ⟨by rw [H12.out.1, H12.out.2]; rfl, hB⟩
        · obtain ⟨b0, l', hl, hd0⟩ := HF.out hk0
          have hsz : 0 < s.size := by omega
          have hdO : digO s.data.toList = if b0 = 48 then (-1, s.data.toList) else ((m : Int), s.data.toList.drop k) := by
            rw [hl] at hend ⊢
            unfold digO
            by_cases e : b0 = 48
            · simp [e]
            · simp [hd0, e, hend]
          have hb0 : s.data[0]? = some b0 := by
            rw [← Array.getElem?_toList, hl]
            rfl
          have hsz2 : 0 < s.data.size := hsz
          have hg0 : (s[0]'hsz) = b0 := by
            rw [Array.getElem?_eq_getElem hsz2] at hb0
            exact Option.some.inj hb0
          have ix0 : ∀ w, (Instr.index 9 (.string s) (.int .i64 0)).run Tryd.prog w = .ok (.int .u8 (b0.toNat : Int)) w := fun w => by
            rw [run_index_string w 9 s .i64 _ Tryd.underlying9, dif_pos (show 0 ≤ (0 : Int) ∧ (0 : Int) < (s.size : Int) from ⟨Int.le_refl 0, by omega⟩), ← hg0]
            rfl
          have hk00 : ((k : Int) == 0) = false := by rw [beq_eq_false_iff_ne]; omega
          have hdP := HDO.out.symm.trans hdO
          clear hdO hend hb0 hg0 hl hd0 HF hz hsz2
          by_cases e : b0 = 48
          · rw [if_pos e] at hdP
            have H12 : Hid (dn = -1 ∧ dr = s.data.toList) := Lib.hid (Prod.mk.inj hdP)
            clear hdP
            have q48 : ((b0.toNat : Int) == 48) = true := by subst e; rfl
            clear e
            go_wp2_with (go_at_call 18; refine (within_any _ _ _ _).mono ?_; rintro e w2 ⟨rfl, rfl⟩; rw [hid])
            go_wp2
            go_ret2
            exact ⟨by rw [H12.out.1, H12.out.2]; rfl, hB⟩
          · rw [if_neg e] at hdP
            have H12 : Hid (dn = (m : Int) ∧ dr = s.data.toList.drop k) := Lib.hid (Prod.mk.inj hdP)
            clear hdP
            have q48 : ((b0.toNat : Int) == 48) = false := by
              rw [beq_eq_false_iff_ne]
              intro h
              apply e
              have h3 : b0.toNat = (48 : UInt8).toNat := by have : (48 : UInt8).toNat = 48 := rfl; omega
              exact UInt8.toNat_inj.1 h3
            have hks3 : (k : Int) ≤ (s.size : Int) := by omega
            have hk1 : (0 : Int) ≤ (k : Int) := by omega
            have hext : s.extract (k : Int).toNat s.size = ⟨(s.data.toList.drop k).toArray⟩ := extract_drop s k
            have HX := Lib.hid hext
            clear e hext
            go_wp2_with (go_at_call 18; refine (within_any _ _ _ _).mono ?_; rintro e w2 ⟨rfl, rfl⟩; rw [hid])
            go_region
            all_goals (go_wp2; go_ret2; exact ⟨by rw [H12.out.1, H12.out.2, ← HX.out]; rfl, below_any hB⟩)
    · obtain hke : k = s.size := by omega
      have q1 : ¬ (k : Int) < (s.size : Int) := by omega
      have hd0 : s.data.toList.drop k = [] := List.drop_eq_nil_of_le (by omega)
      have hend : digGo 12 0 s.data.toList = (m, s.data.toList.drop k) := by
        rw [HE.out, hd0]
        exact digGo_stop _ _ _ (fun b' l' h => by cases h)
      have hz : k = 0 → digO s.data.toList = (-1, s.data.toList) := fun h => by
        subst h
        have e : s.data.toList = [] := hd0
        rw [e]
        rfl
      clear hd0 hke
      clear HE
      rcases Nat.eq_zero_or_pos k with hk0 | hk0
      · subst hk0
        have H12 : Hid (dn = -1 ∧ dr = s.data.toList) := Lib.hid (Prod.mk.inj (HDO.out.symm.trans (hz rfl)))
        clear hz hend HF
        try (have ixz : ∀ w, (Instr.index 9 (.string s) (.int .i64 0)).run Tryd.prog w = .ok (.int .u8 (b.toNat : Int)) w := ix)
        go_wp2
        go_wp2
        go_ret2
        exact ⟨by rw [H12.out.1, H12.out.2]; rfl, hB⟩
      · obtain ⟨b0, l', hl, hd0⟩ := HF.out hk0
        have hsz : 0 < s.size := by omega
        have hdO : digO s.data.toList = if b0 = 48 then (-1, s.data.toList) else ((m : Int), s.data.toList.drop k) := by
          rw [hl] at hend ⊢
          unfold digO
          by_cases e : b0 = 48
          · simp [e]
          · simp [hd0, e, hend]
        have hb0 : s.data[0]? = some b0 := by
          rw [← Array.getElem?_toList, hl]
          rfl
        have hsz2 : 0 < s.data.size := hsz
        have hg0 : (s[0]'hsz) = b0 := by
          rw [Array.getElem?_eq_getElem hsz2] at hb0
          exact Option.some.inj hb0
        have ix0 : ∀ w, (Instr.index 9 (.string s) (.int .i64 0)).run Tryd.prog w = .ok (.int .u8 (b0.toNat : Int)) w := fun w => by
          rw [run_index_string w 9 s .i64 _ Tryd.underlying9, dif_pos (show 0 ≤ (0 : Int) ∧ (0 : Int) < (s.size : Int) from ⟨Int.le_refl 0, by omega⟩), ← hg0]
          rfl
        have hk00 : ((k : Int) == 0) = false := by rw [beq_eq_false_iff_ne]; omega
        have hdP := HDO.out.symm.trans hdO
        clear hdO hend hb0 hg0 hl hd0 HF hz hsz2
        by_cases e : b0 = 48
        · rw [if_pos e] at hdP
          have H12 : Hid (dn = -1 ∧ dr = s.data.toList) := Lib.hid (Prod.mk.inj hdP)
          clear hdP
          have q48 : ((b0.toNat : Int) == 48) = true := by subst e; rfl
          clear e
          go_wp2
          go_wp2
          go_ret2
          exact ⟨by rw [H12.out.1, H12.out.2]; rfl, hB⟩
        · rw [if_neg e] at hdP
          have H12 : Hid (dn = (m : Int) ∧ dr = s.data.toList.drop k) := Lib.hid (Prod.mk.inj hdP)
          clear hdP
          have q48 : ((b0.toNat : Int) == 48) = false := by
            rw [beq_eq_false_iff_ne]
            intro h
            apply e
            have h3 : b0.toNat = (48 : UInt8).toNat := by have : (48 : UInt8).toNat = 48 := rfl; omega
            exact UInt8.toNat_inj.1 h3
          have hks3 : (k : Int) ≤ (s.size : Int) := by omega
          have hk1 : (0 : Int) ≤ (k : Int) := by omega
          have hext : s.extract (k : Int).toNat s.size = ⟨(s.data.toList.drop k).toArray⟩ := extract_drop s k
          have HX := Lib.hid hext
          clear e hext
          go_wp2
          go_region
          all_goals (go_wp2; go_ret2; exact ⟨by rw [H12.out.1, H12.out.2, ← HX.out]; rfl, below_any hB⟩)
end Go.Proofs.YtagdjpcbgnppnaaDoor
