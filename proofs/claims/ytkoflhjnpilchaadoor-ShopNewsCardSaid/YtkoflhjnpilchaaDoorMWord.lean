/-
  What gristmillref.digits and number return. digits: every word; number: lists of at most 64 bits.
  What word.Bit, word.Flip and the reference's return: for every word and every place.
  What a record's Kind, Object and Toggle return, and cellsOf: for every record, every thread; for slices of at most 17 words.
  What slices.Clone at []int and sameInts return: for lists of at most 60 numbers (Clone), for any two lists (sameInts).
  append of one list of numbers onto another that has no room, or of nothing; the copy append([]int(nil), l...).
  What object.list returns: for any seventeen words.
-/
import Derived.Test.YtkoflhjnpilchaaDoorProg
import Derived.Test.YtkoflhjnpilchaaDoorMBase
import Derived.Deep.Onto
import Derived.Deep.RegionLawGrows
namespace Go.Proofs.YtkoflhjnpilchaaDoor
set_option linter.unusedSimpArgs false
set_option linter.unusedVariables false
set_option linter.unusedSectionVars false
open Go.RowKit
attribute [local go_sem ↓] Go.wp_at_zero Go.wp_at_succ

/-- The cells of digits behind k rounds. -/
def digArr (x k : Nat) : Array Value := ((List.range 64).map fun i => Value.int .i64 ((if i < k then x / 2 ^ i % 2 else 0 : Nat) : Int)).toArray
theorem digArr_get (x k i : Nat) (h : i < 64) : (digArr x k)[i]? = some (.int .i64 ((if i < k then x / 2 ^ i % 2 else 0 : Nat) : Int)) := by
  simp [digArr, h]
theorem digArr_set (x k : Nat) : (digArr x k).setIfInBounds k (.int .i64 ((x / 2 ^ k % 2 : Nat) : Int)) = digArr x (k + 1) := by
  apply Array.ext_getElem?
  intro i
  rw [Array.getElem?_setIfInBounds]
  by_cases hk : i < 64
  · by_cases h : k = i
    · subst h
      have hs : k < (digArr x k).size := by simp [digArr]; exact hk
      rw [if_pos rfl, if_pos hs, digArr_get _ _ _ hk, if_pos (by omega)]
    · rw [if_neg h, digArr_get _ _ _ hk, digArr_get _ _ _ hk]
      by_cases h2 : i < k
      · rw [if_pos h2, if_pos (by omega)]
      · rw [if_neg h2, if_neg (by omega)]
  · have e1 : (digArr x k)[i]? = none := by simp [digArr]; omega
    have e2 : (digArr x (k + 1))[i]? = none := by simp [digArr]; omega
    have hs : ¬ k = i ∨ ¬ k < (digArr x k).size := by
      by_cases h : k = i
      · right; simp [digArr]; omega
      · exact .inl h
    rw [e1, e2]
    by_cases h : k = i
    · rw [if_pos h, if_neg (by rcases hs with h' | h'; exact absurd h h'; exact h')]
    · rw [if_neg h]

theorem digits_mk (w : World) : (Instr.makeSlice 37 (.int .i64 64) (.int .i64 64)).run Tryd.prog w = .ok (.slice (some ⟨w.heap.size, 0, none⟩) 64 64) (w.alloc (.cells (digArr 0 0) 3)) := by kernel_rfl

theorem digArr_zero (x : Nat) : digArr x 0 = digArr 0 0 := by
  unfold digArr
  congr 1

set_option maxRecDepth 100000 in
theorem digits_any (x : Nat) (w : World) (hx : x < 18446744073709551616) :
    Calls Tryd.prog 31 #[.int .u64 x] w fun e w' => e = .returned (.slice (some ⟨w.heap.size, 0, none⟩) 64 64) ∧ Blk w' w.heap.size 3 (digArr x 64) ∧ Below w.heap.size w w' := by
  have hmk := digits_mk
  have hblk0 : Blk (w.alloc (.cells (digArr 0 0) 3)) w.heap.size 3 (digArr x 0) := by rw [digArr_zero]; exact Blk.new _ _ _
  have HB0 := Lib.hid hblk0
  clear hblk0
  go_enter Tryd.func31, Tryd.ntmps31
  go_wp2
  clear hmk
  go_loopw [0, 8] (fun y i wr => ∃ k : Nat, k ≤ 64 ∧ i = .int .i64 k ∧ y = .int .u64 ((x / 2 ^ k : Nat) : Int) ∧ Hid (Blk wr w.heap.size 3 (digArr x k)) ∧ Below w.heap.size w wr) (fun _ i _ => 64 - (intOf i).toNat)
  case atStart => exact ⟨0, by omega, rfl, by simp, HB0.out, by go_grown⟩
  case round =>
    obtain ⟨k, hk, rfl, rfl, hblk, hb⟩ := hrel
    have hyx : x / 2 ^ k < 18446744073709551616 := Nat.lt_of_le_of_lt (Nat.div_le_self _ _) hx
    have hnext : x / 2 ^ (k + 1) = x / 2 ^ k / 2 := by rw [Nat.pow_succ, Nat.div_div_eq_div_mul]
    have HN := Lib.hid hnext
    clear hnext
    have hset := digArr_set x k
    have HS := Lib.hid hset
    clear hset
    generalize hy : x / 2 ^ k = y at *
    have HY := Lib.hid hy
    clear hy
    by_cases hk64 : k < 64
    · have hc : wr.cell? ⟨w.heap.size, k, none⟩ = some (.int .i64 0) := by rw [hblk.out.cell k, digArr_get _ _ _ hk64, if_neg (by omega)]; rfl
      have hf : wr.frozen? ⟨w.heap.size, k, none⟩ = false := hblk.out.frozen k
      go_wp2
      go_roundw
      case rel => exact ⟨k + 1, by omega, by go_num, by rw [HN.out]; simp; try omega, by
        have h := hblk.out.set_ k (.int .i64 ((y : Int) % 2))
        rw [show ((y : Int) % 2) = ((y % 2 : Nat) : Int) by omega, HS.out] at h
        exact Lib.hid (by simpa using h), hb.setCell (by simp) _⟩
      case measure => simp [intOf]; omega
    · obtain rfl : k = 64 := by omega
      go_wp2
      go_ret
      exact ⟨rfl, hblk.out, hb⟩

theorem drop_bit {xs : List Nat} {k : Nat} (hk : k < xs.length) : Pl.nof (xs.drop k) = xs[k]?.getD 0 + 2 * Pl.nof (xs.drop (k + 1)) := by
  rw [List.drop_eq_getElem_cons hk, Pl.nof, List.getElem?_eq_getElem hk]
  rfl

theorem nof_drop_lt {xs : List Nat} (hb : ∀ b ∈ xs, b < 2) (hl : xs.length ≤ 64) (k : Nat) : Pl.nof (xs.drop k) < 18446744073709551616 := by
  have h1 := Pl.nof_lt (xs.drop k) (fun b h => hb b (List.mem_of_mem_drop h))
  have h2 : 2 ^ (xs.drop k).length ≤ 2 ^ 64 := Nat.pow_le_pow_right (by decide) (by rw [List.length_drop]; omega)
  have h3 : (2 : Nat) ^ 64 = 18446744073709551616 := by decide
  omega

theorem number_any (A : Option Addr) (n c : Nat) (xs : List Nat) (w : World) (h : SlI w A n c (xs.map fun b : Nat => (b : Int))) (hbit : ∀ b ∈ xs, b < 2) (hl : xs.length ≤ 64) :
    Calls Tryd.prog 32 #[.slice A n c] w fun e w' => e = .returned (.int .u64 ((Pl.nof xs : Nat) : Int)) ∧ w = w' := by
  have hn : xs.length = n := by simpa using h.len
  have h64 : n ≤ 64 := by omega
  have HN := Lib.hid hn
  clear hn
  have HS := Lib.hid h
  clear h
  have HB := Lib.hid hbit
  clear hbit
  go_enter Tryd.func32, Tryd.ntmps32
  go_wp2
  go_loop [3, 4] (fun a i => ∃ k : Nat, k ≤ n ∧ i = .int .i64 ((k : Int) - 1) ∧ a = .int .u64 ((Pl.nof (xs.drop k) : Nat) : Int)) (fun _ i => (intOf i + 1).toNat)
  case atStart => exact ⟨n, Nat.le_refl _, by go_num, by rw [List.drop_of_length_le (by rw [HN.out]; exact Nat.le_refl _)]; rfl⟩
  case round =>
    obtain ⟨k, hk, rfl, rfl⟩ := hrel
    by_cases hk0 : 0 < k
    · obtain ⟨j, rfl⟩ : ∃ j, k = j + 1 := ⟨k - 1, by omega⟩
      obtain ⟨b, off, rfl, hblt, hcell⟩ := HS.out.at_ (by omega)
      have hc := hcell j (by omega)
      clear hcell
      have hjl : j < xs.length := by rw [HN.out]; omega
      have hbj : xs[j]?.getD 0 < 2 := by rw [List.getElem?_eq_getElem hjl]; exact HB.out _ (List.getElem_mem hjl)
      have e1 : ((xs.map fun b : Nat => (b : Int))[j]?.getD 0) = ((xs[j]?.getD 0 : Nat) : Int) := by simp [List.getElem?_eq_getElem hjl]
      rw [e1] at hc
      clear e1
      have hdrop := drop_bit hjl
      have hlt := nof_drop_lt HB.out hl j
      have e2 : ((j + 1 : Nat) : Int) - 1 = (j : Int) := by omega
      rw [e2]
      clear e2
      generalize ha : Pl.nof (xs.drop (j + 1)) = a at *
      generalize hbb : xs[j]?.getD 0 = bb at *
      have HA := Lib.hid ha
      clear ha
      have HBB := Lib.hid hbb
      clear hbb
      have HD := Lib.hid hdrop
      have hs : bb + 2 * a < 18446744073709551616 := by omega
      clear hdrop hlt hl
      go_wp2
      go_round
      case rel => exact ⟨j, by omega, by go_num, by rw [HD.out]; exact val_int (by omega)⟩
      case measure => simp [intOf]; try omega
    · obtain rfl : k = 0 := by omega
      go_wp2
      go_ret
      exact ⟨by simp, rfl⟩
end Go.Proofs.YtkoflhjnpilchaaDoor

namespace Go.Proofs.YtkoflhjnpilchaaDoor
open Go.RowKit
attribute [local go_sem ↓] Go.wp_at_zero Go.wp_at_succ

def bitB (x : Nat) (a : Int) : Bool := decide (0 ≤ a ∧ a < 64 ∧ x / 2 ^ a.toNat % 2 = 1)
def flipN (x : Nat) (a : Int) : Nat := if 0 ≤ a ∧ a < 64 then x ^^^ 2 ^ a.toNat else x

theorem two_pow_lt {j : Nat} (h : j < 64) : 2 ^ j < 18446744073709551616 := by
  have h1 : 2 ^ j < 2 ^ 64 := Nat.pow_lt_pow_right (by decide) h
  have h2 : (2 : Nat) ^ 64 = 18446744073709551616 := by decide
  omega
theorem and_one (x j : Nat) (hx : x < 18446744073709551616) : bits .and .u64 ((x : Int) / 2 ^ j) 1 = ((x / 2 ^ j % 2 : Nat) : Int) := by
  have e : (x : Int) / 2 ^ j = ((x / 2 ^ j : Nat) : Int) := by simp
  rw [e, show (1 : Int) = ((1 : Nat) : Int) from rfl, u64_and_nat _ _ (Nat.lt_of_le_of_lt (Nat.div_le_self _ _) hx) (by decide), Nat.and_one_is_mod]
theorem xor_pow (x j : Nat) (hx : x < 18446744073709551616) (hj : j < 64) : bits .xor .u64 (x : Int) (IntKind.u64.wrap (2 ^ j)) = ((x ^^^ 2 ^ j : Nat) : Int) := by
  have h1 := two_pow_lt hj
  have h2 : (2 : Int) ^ j = ((2 ^ j : Nat) : Int) := by simp
  have e : IntKind.u64.wrap ((2 : Int) ^ j) = ((2 ^ j : Nat) : Int) := by
    rw [h2]
    generalize 2 ^ j = q at h1
    exact IntWalk.u64_in _ (by omega)
  rw [e, u64_xor_nat _ _ hx (two_pow_lt hj)]

theorem bitB_in (x j : Nat) (hj : j < 64) : bitB x (j : Int) = decide (x / 2 ^ j % 2 = 1) := by
  have h : (j : Int) < 64 := by omega
  simp [bitB, h]
theorem eq_one (m : Nat) : (((m : Nat) : Int) == 1) = decide (m = 1) := by
  rw [Bool.eq_iff_iff]; simp; omega
theorem flipN_in (x j : Nat) (hj : j < 64) : flipN x (j : Int) = x ^^^ 2 ^ j := by
  have h : (j : Int) < 64 := by omega
  simp [flipN, h]

theorem digs_slI {w : World} {g x : Nat} (h : Blk w g 3 (digArr x 64)) : SlI w (some ⟨g, 0, none⟩) 64 64 ((Pl.digs x).map fun b : Nat => (b : Int)) := by
  have hget : ∀ i : Nat, i < 64 → ((Pl.digs x).map fun b : Nat => (b : Int))[i]?.getD 0 = ((x / 2 ^ i % 2 : Nat) : Int) := fun i hi => by
    rw [List.getElem?_map, Pl.digs_get x i hi]; rfl
  refine SlI.of_blk h (by simp [Pl.digs_length]) (Nat.le_refl _) (by decide) (fun i hi => ?_) (fun i => ?_)
  · rw [digArr_get _ _ _ hi, if_pos hi, hget i hi]
  · by_cases hi : i < 64
    · rw [hget i hi]; omega
    · rw [List.getElem?_eq_none (by simp [Pl.digs_length]; omega)]; decide

theorem refFlip_any (x : Nat) (a : Int) (w : World) (hx : x < 18446744073709551616) :
    Calls Tryd.prog 24 #[.int .u64 x, .int .i64 a] w fun e w' => e = .returned (.int .u64 ((flipN x a : Nat) : Int)) ∧ Below w.heap.size w w' := by
  have hx64 : x < 2 ^ 64 := by have h2 : (2 : Nat) ^ 64 = 18446744073709551616 := by decide
                               omega
  by_cases ha : 0 ≤ a ∧ a < 64
  · obtain ⟨h0, h1⟩ := ha
    obtain ⟨j, rfl⟩ := Int.eq_ofNat_of_zero_le h0
    have hw : withinB (j : Int) 0 63 = true := by simp [withinB]; omega
    have hj : j < 64 := by omega
    go_enter Tryd.func24, Tryd.ntmps24
    go_wp2_with fail
    refine (digits_any x _ hx).mono ?_
    rintro e w1 ⟨rfl, hblk, hb⟩
    have hc : w1.cell? ⟨w.heap.size, j, none⟩ = some (.int .i64 ((x / 2 ^ j % 2 : Nat) : Int)) := by rw [hblk.cell j, digArr_get _ _ _ (by omega), if_pos (by omega)]
    have hf : w1.frozen? ⟨w.heap.size, j, none⟩ = false := hblk.frozen j
    have hm2 : x / 2 ^ j % 2 < 2 := Nat.mod_lt _ (by decide)
    generalize hm : x / 2 ^ j % 2 = m at hc hm2
    have HM := Lib.hid hm
    clear hm
    go_wp2_with (go_at_call 18; refine (within_any _ _ _ _).mono ?_; rintro e w1 ⟨rfl, rfl⟩)
    have hsl : SlI (w1.setCell ⟨w.heap.size, j, none⟩ (.int .i64 (1 - (m : Int)))) (some ⟨w.heap.size, 0, none⟩) 64 64 (((Pl.digs x).set j (1 - m)).map fun b : Nat => (b : Int)) := by
      have hlen : (Pl.digs x).length = 64 := Pl.digs_length x
      have hget : ∀ i : Nat, i < 64 → (((Pl.digs x).set j (1 - m)).map fun b : Nat => (b : Int))[i]?.getD 0 = if j = i then 1 - (m : Int) else ((x / 2 ^ i % 2 : Nat) : Int) := fun i hi => by
        rw [List.getElem?_map, List.getElem?_set, hlen, if_pos hj]
        by_cases h : j = i
        · rw [if_pos h, if_pos h]
          simp only [Option.map_some, Option.getD_some]
          omega
        · rw [if_neg h, if_neg h, Pl.digs_get x i hi]; rfl
      refine SlI.of_blk (hblk.set_ j _) (by simp [hlen]) (Nat.le_refl _) (by decide) (fun i hi => ?_) (fun i => ?_)
      · rw [Array.getElem?_setIfInBounds, hget i hi]
        by_cases h : j = i
        · subst h
          rw [if_pos rfl, if_pos rfl, if_pos (by simp [digArr]; exact hj)]
        · rw [if_neg h, if_neg h, digArr_get _ _ _ hi, if_pos hi]
      · by_cases hi : i < 64
        · rw [hget i hi]
          split
          · omega
          · have : x / 2 ^ i % 2 < 2 := Nat.mod_lt _ (by decide)
            generalize x / 2 ^ i % 2 = z at this
            omega
        · rw [List.getElem?_eq_none (by simp [hlen]; omega)]; decide
    refine (number_any _ _ _ _ _ hsl (Pl.mem_set_bit (Pl.digs_bit x) (by omega)) (by simp [Pl.digs_length])).mono ?_
    rintro e w2 ⟨rfl, rfl⟩
    go_wp2
    go_ret
    exact ⟨ret_int (by rw [flipN_in x j hj, ← HM.out, Pl.nof_flip x j hx64 hj]), by go_grown⟩
  · have hw : withinB a 0 63 = false := by simp [withinB]; omega
    go_enter Tryd.func24, Tryd.ntmps24
    go_wp2_with fail
    refine (digits_any x _ hx).mono ?_
    rintro e w1 ⟨rfl, hblk, hb⟩
    go_wp2_with (first | (go_at_call 18; refine (within_any _ _ _ _).mono ?_; rintro e w1 ⟨rfl, rfl⟩) | (go_at_call 32; refine (number_any _ _ _ (Pl.digs x) _ (digs_slI hblk) (Pl.digs_bit x) (by rw [Pl.digs_length]; exact Nat.le_refl _)).mono ?_; rintro e w2 ⟨rfl, rfl⟩))
    go_ret
    exact ⟨ret_int (by simp only [flipN]; rw [if_neg ha, Pl.nof_digs x hx64]), hb⟩
end Go.Proofs.YtkoflhjnpilchaaDoor

namespace Go.Proofs.YtkoflhjnpilchaaDoor
open Go.RowKit
attribute [local go_sem ↓] Go.wp_at_zero Go.wp_at_succ

theorem kind_any (C : Array Value) (z : Nat → Int) (w : World) (h : U64s C 32 z) :
    Calls Tryd.prog 63 #[.agg C] w fun e w' => e = .returned (.int .i64 (if z 0 ≤ 4294967296 then z 0 else 4294967296)) ∧ Below w.heap.size w w' := by
  have h0 := h.get 0 (by decide)
  obtain ⟨b1, b2⟩ := h.bd 0 (by decide)
  have H := Lib.hid h
  clear h
  go_enter Tryd.func63, Tryd.ntmps63
  go_wp2
  all_goals (go_ret; refine ⟨ret_int ?_, by go_grown⟩; first | rfl | (split <;> omega))

def togN (x : Nat) (t : Int) : Int := if 0 ≤ t ∧ t < 4 ∧ bitB x t = true then 1 else 0

end Go.Proofs.YtkoflhjnpilchaaDoor

namespace Go.Proofs.YtkoflhjnpilchaaDoor
open Go.RowKit
attribute [local go_sem ↓] Go.wp_at_zero Go.wp_at_succ

theorem infoInt : (Tryd.prog.info? 3).map (fun i => (i.zero, i.size, i.bytes)) = some (some (.int .i64 0), 1, 8) := by kernel_rfl

/-- The result is a slice of the call's own, with the numbers xs. -/
def OwnI (xs : List Int) (w : World) (e : Ending) (w' : World) : Prop :=
  ∃ v', e = .returned v' ∧ w'.ownsRow w.heap.size 3 1 v' xs.length (xs.map (Value.int .i64)) ∧ Below w.heap.size w w'

theorem own_form {w : World} {B : Nat} {e : TypeId} {v : Value} {n : Nat} {xs : List Value} (h : w.ownsRow B e 1 v n xs) : ∃ A c, v = .slice A n c ∧ n ≤ c ∧ c ≤ maxLen ∧ (0 < n → ∃ g, A = some ⟨g, 0, none⟩ ∧ B ≤ g ∧ g < w.heap.size) := by
  rcases h.2 with ⟨rfl, rfl⟩ | ⟨g, cap, cur, rfl, hb, hg, hc, hm, _⟩
  · exact ⟨none, 0, rfl, Nat.le_refl _, Nat.zero_le _, fun h => absurd h (by omega)⟩
  · exact ⟨_, cap, rfl, hc, hm, fun _ => ⟨g, rfl, hb, (Array.getElem?_eq_some_iff.1 hg).1⟩⟩

theorem SlI.of_own {w : World} {B : Nat} {e : TypeId} {A : Option Addr} {c n : Nat} {xs : List Int} (h : w.ownsRow B e 1 (.slice A n c) n (xs.map (Value.int .i64))) (bd : ∀ i : Nat, -9223372036854775808 ≤ xs[i]?.getD 0 ∧ xs[i]?.getD 0 ≤ 9223372036854775807) :
    SlI w A n c xs := by
  have hlen : xs.length = n := by have := h.1; simpa using this
  obtain ⟨A', c', hv, hc, hm, hp⟩ := own_form h
  simp only [Value.slice.injEq, true_and] at hv
  obtain ⟨rfl, rfl⟩ := hv
  refine ⟨hlen, hc, by unfold maxLen at hm; omega, bd, fun hn => ?_⟩
  obtain ⟨g, rfl, _, hlt⟩ := hp hn
  refine ⟨g, 0, rfl, hlt, fun i hi => ?_⟩
  have := h.cells (g := g) rfl i (.int .i64 (xs[i]?.getD 0)) (by rw [List.getElem?_map, List.getElem?_eq_getElem (by omega)]; rfl)
  rw [Nat.zero_add]
  simpa [Addr.add_lit] using this

/-- A slice of the call's own (block B or later), with the numbers xs. -/
def Own (w : World) (B : Nat) (A : Option Addr) (n c : Nat) (xs : List Int) : Prop := w.ownsRow B 3 1 (.slice A n c) n (xs.map (Value.int .i64))
theorem Own.alloc {w : World} {B : Nat} {A : Option Addr} {n c : Nat} {xs : List Int} (h : Own w B A n c xs) (o : Obj) : Own (w.alloc o) B A n c xs := World.ownsRow.alloc h o
theorem Own.mono {w : World} {B B' : Nat} {A : Option Addr} {n c : Nat} {xs : List Int} (h : Own w B A n c xs) (hb : B' ≤ B) : Own w B' A n c xs := World.ownsRow.mono h hb
theorem Own.len {w : World} {B : Nat} {A : Option Addr} {n c : Nat} {xs : List Int} (h : Own w B A n c xs) : xs.length = n := by have := h.1; simpa using this
theorem Own.far {w : World} {B : Nat} {A : Option Addr} {n c : Nat} {xs : List Int} (h : Own w B A n c xs) {p : Addr} (hp : p.block < B) (u : Value) : Own (w.setCell p u) B A n c xs := by
  refine World.ownsRow.kept (row := some p.block) h ⟨rfl, rfl, rfl, by simp, fun k hk hne => Below.heap_setCell w p u k (fun e => hne (by rw [e]))⟩ ?_
  cases ho : (Value.slice A n c).ownBlock with
  | none => exact .inl rfl
  | some k =>
    refine .inr fun e => ?_
    have h1 := (World.ownsRow.lt h k ho).1
    have h2 : k = p.block := Option.some.inj e
    omega
theorem Own.drewN {w : World} {B : Nat} {A : Option Addr} {n c : Nat} {xs : List Int} (h : Own w B A n c xs) (k : Nat) : Own (w.drewN k) B A n c xs := h
theorem Own.drew {w : World} {B : Nat} {A : Option Addr} {n c : Nat} {xs : List Int} (h : Own w B A n c xs) : Own w.drew B A n c xs := h
theorem Own.sli {w : World} {B : Nat} {A : Option Addr} {n c : Nat} {xs : List Int} (h : Own w B A n c xs) (bd : ∀ i : Nat, -9223372036854775808 ≤ xs[i]?.getD 0 ∧ xs[i]?.getD 0 ≤ 9223372036854775807) : SlI w A n c xs := SlI.of_own h bd
theorem cell_alloc_lt {w : World} {o : Obj} {b i : Nat} (h : b < w.heap.size) : (w.alloc o).cell? ⟨b, i, none⟩ = w.cell? ⟨b, i, none⟩ := World.cell?_alloc_lt _ _ _ h
theorem frozen_alloc_lt {w : World} {o : Obj} {b i : Nat} (h : b < w.heap.size) : (w.alloc o).frozen? ⟨b, i, none⟩ = w.frozen? ⟨b, i, none⟩ := World.frozen?_of_block (Below.heap_alloc w o b h)
/-- What stands behind the first. -/
theorem SlI.tail {w : World} {b off n c : Nat} {xs : List Int} (h : SlI w (some ⟨b, off, none⟩) n c xs) (hn : 0 < n) : SlI w (some ⟨b, off + 1, none⟩) (n - 1) (c - 1) xs.tail :=
  ⟨by simp [h.len], by have := h.cap; omega, by have := h.cap63; omega, fun i => by rw [List.getElem?_tail]; exact h.bd (i + 1), fun _ => by
    obtain ⟨b', off', hA, hlt, hc⟩ := h.at_ hn
    cases hA
    refine ⟨b, off + 1, rfl, hlt, fun i hi => ?_⟩
    rw [List.getElem?_tail, Nat.add_assoc, Nat.add_comm 1 i]
    exact hc (i + 1) (by omega)⟩
theorem SlI.tailIf {w : World} {b off n c : Nat} {xs : List Int} (h : SlI w (some ⟨b, off, none⟩) n c xs) (hn : 0 < n) : SlI w (if c = 1 then some ⟨b, off, none⟩ else some ⟨b, off + 1, none⟩) (n - 1) (c - 1) xs.tail := by
  by_cases hc : c = 1
  · have h1 := h.cap
    have h2 := h.tail hn
    exact ⟨h2.len, h2.cap, h2.cap63, h2.bd, fun k => by omega⟩
  · rw [if_neg hc]; exact h.tail hn
theorem Own.nil (w : World) (B : Nat) : Own w B none 0 0 [] := World.ownsRow_nil _ _ _ _
/-- The cells of it. -/
theorem Own.at_ {w : World} {B : Nat} {A : Option Addr} {n c : Nat} {xs : List Int} (h : Own w B A n c xs) (hn : 0 < n) : ∃ g, A = some ⟨g, 0, none⟩ ∧ B ≤ g ∧ g < w.heap.size ∧ ∀ i : Nat, i < n → w.cell? ⟨g, i, none⟩ = some (.int .i64 (xs[i]?.getD 0)) := by
  obtain ⟨A', c', hv, hc, hm, hp⟩ := own_form h
  simp only [Value.slice.injEq, true_and] at hv
  obtain ⟨rfl, rfl⟩ := hv
  obtain ⟨g, rfl, hb, hlt⟩ := hp hn
  refine ⟨g, rfl, hb, hlt, fun i hi => ?_⟩
  have hl := h.len
  have := World.ownsRow.cells h (g := g) rfl i (.int .i64 (xs[i]?.getD 0)) (by rw [List.getElem?_map, List.getElem?_eq_getElem (by omega)]; rfl)
  simpa [Addr.add_lit] using this

/-- append of one number onto a slice of the call's own, at a step of a region that draws. -/
theorem own_append {w : World} {B : Nat} {A : Option Addr} {n c : Nat} {xs : List Int} (hown : Own w B A n c xs) {g : Nat} {v : Int} (hv : w.cell? ⟨g, 0, none⟩ = some (.int .i64 v)) (hn : n ≤ 1000) (hB : B ≤ w.heap.size) (ty : TypeId) (c' : Nat) :
    ∃ g' cap w', (Builtin.append_ #[37, 37] ty #[.slice A n c, .slice (some ⟨g, 0, none⟩) 1 c']).run Tryd.prog w = .ok (.slice (some ⟨g', 0, none⟩) (n + 1) cap) w' ∧ Own w' B (some ⟨g', 0, none⟩) (n + 1) cap (xs ++ [v]) ∧ Below B w w' := by
  obtain ⟨i0, hi, hz0, hz1, hz2⟩ := info_parts infoInt
  obtain ⟨g', cap, w', hr, ho, hg, hat, hlt⟩ := run_append_lies (P := Tryd.prog) w 37 ty B 3 i0 (.int .i64 0) 1 8 Tryd.underlying37 hi hz0 hz1 hz2 rfl (by decide) (.slice A n c) n _ hown ⟨g, 0, none⟩ 1 c' [.int .i64 v] rfl
    (by intro j u hj
        have hj0 : j = 0 := by have := (List.getElem?_eq_some_iff.1 hj).1; simp at this; exact this
        subst hj0
        simp only [List.getElem?_cons_zero, Option.some.injEq] at hj
        subst hj
        simpa [Addr.add_lit] using hv) (by intro u hu; simp at hu; subst hu; rfl) (by decide) (by unfold maxLen; omega) (by omega) hB _ rfl
  refine ⟨g', cap, w', hr, by unfold Own; simpa using ho, ⟨hg.os, hg.tape, hg.output, hg.size, fun k hk => hg.block k (by omega) ?_⟩⟩
  intro e
  have := (World.ownsRow.lt hown k e.symm).1
  omega
theorem step_append1 {ops : Array Oper} {o : Oper} {a : Act} {w : World} {K : Act → World → Prop} {Q : Exit → Act → World → Prop} {E : Prop} (hgd : o.guard = none) (s x : Operand)
    (ho : o.op = .call { callee := .builtin .append, args := #[s, x], argTypes := #[37, 37] }) {B : Nat} {A : Option Addr} {n c : Nat} {xs : List Int} (hs : a.eval s = .slice A n c) (hown : Own w B A n c xs) {g : Nat} {v : Int} {c' : Nat}
    (hx : a.eval x = .slice (some ⟨g, 0, none⟩) 1 c') (hv : w.cell? ⟨g, 0, none⟩ = some (.int .i64 v)) (hn : n ≤ 1000) (hB : B ≤ w.heap.size)
    (h : ∀ g' cap w', Own w' B (some ⟨g', 0, none⟩) (n + 1) cap (xs ++ [v]) → Below B w w' → K (a.put o.dst (.slice (some ⟨g', 0, none⟩) (n + 1) cap)) w') :
    if Region.wanted o (yielded ops a.tmps) = true then Oper.wp Tryd.prog o a w K Q else E := by
  have hw : Region.wanted o (yielded ops a.tmps) = true := by simp [Region.wanted, hgd]
  rw [if_pos hw]
  obtain ⟨g', cap, w', hr, h2, h3⟩ := own_append hown hv hn hB o.type c'
  unfold Oper.wp execOp
  simp only [ho, resolve, invoke, builtin, Sem.run_bind, Sem.run_pure, Result.andThen_ok, List.map_toArray, List.map_cons, List.map_nil, hs, hx, hr]
  exact h g' cap w' h2 h3
theorem wpList_append1 {ops : Array Oper} {rest : List Oper} {o : Oper} {a : Act} {w : World} {Q : Exit → Act → World → Prop} (hgd : o.guard = none) (s x : Operand)
    (ho : o.op = .call { callee := .builtin .append, args := #[s, x], argTypes := #[37, 37] }) {B : Nat} {A : Option Addr} {n c : Nat} {xs : List Int} (hs : a.eval s = .slice A n c) (hown : Own w B A n c xs) {g : Nat} {v : Int} {c' : Nat}
    (hx : a.eval x = .slice (some ⟨g, 0, none⟩) 1 c') (hv : w.cell? ⟨g, 0, none⟩ = some (.int .i64 v)) (hn : n ≤ 1000) (hB : B ≤ w.heap.size)
    (h : ∀ g' cap w', Own w' B (some ⟨g', 0, none⟩) (n + 1) cap (xs ++ [v]) → Below B w w' → wpList Tryd.prog ops Q rest (a.put o.dst (.slice (some ⟨g', 0, none⟩) (n + 1) cap)) w') : wpList Tryd.prog ops Q (o :: rest) a w :=
  wpList_plain hgd fun _ hK => by
    obtain ⟨g', cap, w', hr, h2, h3⟩ := own_append hown hv hn hB o.type c'
    unfold Oper.wp execOp
    simp only [ho, resolve, invoke, builtin, Sem.run_bind, Sem.run_pure, Result.andThen_ok, List.map_toArray, List.map_cons, List.map_nil, hs, hx, hr]
    exact hK _ _ (h g' cap w' h2 h3)

/-- The same, said of a world that is grown over another, with the value written out. -/
def CloneAt (xs : List Int) (n : Nat) (w W : World) (e : Ending) (w1 : World) : Prop :=
  ∃ A c, e = .returned (.slice A n c) ∧ Own w1 W.heap.size A n c xs ∧ Below W.heap.size W w1 ∧ Below w.heap.size w w1
end Go.Proofs.YtkoflhjnpilchaaDoor

namespace Go.Proofs.YtkoflhjnpilchaaDoor
open Go.RowKit

theorem SlI.cellsAt {w : World} {A : Option Addr} {n c : Nat} {xs : List Int} (h : SlI w A n c xs) : ∀ b, A = some b → ∀ j u, (xs.map (Value.int .i64))[j]? = some u → w.cell? (b.add j) = some u := by
  intro b hb j u hj
  have hjn : j < n := by
    have := (List.getElem?_eq_some_iff.1 hj).1
    simpa [h.len] using this
  obtain ⟨b', off, hA, hlt, hc⟩ := h.at_ (by omega)
  rw [hb] at hA
  cases hA
  have e : (xs.map (Value.int .i64))[j]? = some (Value.int .i64 (xs[j]?.getD 0)) := by rw [List.getElem?_map, List.getElem?_eq_getElem (by rw [h.len]; exact hjn)]; rfl
  rw [e] at hj
  rw [← hj, Addr.add_lit]
  exact hc j hjn

theorem below_of_grown {w w' : World} (hg : w.grownBy w' none) : Below w.heap.size w w' := ⟨hg.os, hg.tape, hg.output, hg.size, fun k hk => hg.block k hk (by simp)⟩

theorem SlI.pos_some {w : World} {A : Option Addr} {n c : Nat} {xs : List Int} (h : SlI w A n c xs) (hn : 0 < n) : ∃ b, A = some b := by
  obtain ⟨b, off, hA, _⟩ := h.at_ hn
  exact ⟨_, hA⟩

/-- Nothing is appended. -/
theorem append_none (w : World) (ty : TypeId) (A B : Option Addr) (n c d : Nat) (hc : n ≤ c) :
    (Builtin.append_ #[37, 37] ty #[.slice A n c, .slice B 0 d]).run Tryd.prog w = .ok (.slice A n c) w := by
  obtain ⟨i0, hi, hz0, hz1, hz2⟩ := info_parts infoInt
  cases A <;> cases B <;> simp [Builtin.append_, run_underlying Tryd.underlying37, sizeOf, typeInfo, hi, Builtin.lenOf, Builtin.firstCells, loadCells, loadCellsFrom, storeCells, hc]

/-- A slice of ints whose cells lie in block B or later. -/
structure SlO (w : World) (B : Nat) (A : Option Addr) (n c : Nat) (xs : List Int) : Prop where
  sli : SlI w A n c xs
  up : 0 < n → ∀ b, A = some b → B ≤ b.block
theorem SlO.far {w : World} {B : Nat} {A : Option Addr} {n c : Nat} {xs : List Int} (h : SlO w B A n c xs) {p : Addr} (hp : p.block < B) (u : Value) : SlO (w.setCell p u) B A n c xs :=
  ⟨⟨h.sli.len, h.sli.cap, h.sli.cap63, h.sli.bd, fun hn => by
    obtain ⟨b, off, hA, hlt, hc⟩ := h.sli.at_ hn
    have hb := h.up hn _ hA
    refine ⟨b, off, hA, by simpa using hlt, fun i hi => ?_⟩
    rw [World.cell?_setCell_far _ _ _ _ (by show p.block ≠ b; have : B ≤ b := hb; omega)]
    exact hc i hi⟩, h.up⟩
theorem SlO.below {w w' : World} {B : Nat} {A : Option Addr} {n c : Nat} {xs : List Int} (h : SlO w B A n c xs) (hb : Below w.heap.size w w') : SlO w' B A n c xs := ⟨h.sli.below hb, h.up⟩
theorem SlO.alloc {w : World} {B : Nat} {A : Option Addr} {n c : Nat} {xs : List Int} (h : SlO w B A n c xs) (o : Obj) : SlO (w.alloc o) B A n c xs := h.below ((Below.refl _ _).alloc (Nat.le_refl _) _)
theorem SlO.mono {w : World} {B B' : Nat} {A : Option Addr} {n c : Nat} {xs : List Int} (h : SlO w B A n c xs) (hb : B' ≤ B) : SlO w B' A n c xs := ⟨h.sli, fun hn b hA => Nat.le_trans hb (h.up hn b hA)⟩
theorem Own.slo {w : World} {B : Nat} {A : Option Addr} {n c : Nat} {xs : List Int} (h : Own w B A n c xs) (bd : ∀ i : Nat, -9223372036854775808 ≤ xs[i]?.getD 0 ∧ xs[i]?.getD 0 ≤ 9223372036854775807) : SlO w B A n c xs :=
  ⟨h.sli bd, fun hn b hA => by
    obtain ⟨g, hA', hb, _⟩ := h.at_ hn
    rw [hA] at hA'
    cases hA'
    exact hb⟩
/-- One number in a block of its own. -/
theorem SlO.one (w : World) (t : TypeId) (v : Int) (hv : -9223372036854775808 ≤ v ∧ v ≤ 9223372036854775807) : SlO (w.alloc (.cells #[.int .i64 v] t)) w.heap.size (some ⟨w.heap.size, 0, none⟩) 1 1 [v] :=
  ⟨SlI.of_blk (Blk.new w t _) rfl (Nat.le_refl _) (by decide) (fun i (hi : i < 1) => by have h0 : i = 0 := Nat.lt_one_iff.1 hi; subst h0; rfl) (fun i => by
    cases i with
    | zero => exact hv
    | succ i => simp), fun _ b hA => by cases hA; exact Nat.le_refl _⟩

theorem append_full {w : World} {A B : Option Addr} {n c m d G : Nat} {xs ys : List Int} (ho : SlO w G A n c xs) (hG : G ≤ w.heap.size) (hA : A = none → c = 0) (k : SlI w B m d ys) (hfull : m = 0 ∨ c < n + m) (hb : n + m ≤ 1000) (ty : TypeId) :
    ∃ A' c' w', (Builtin.append_ #[37, 37] ty #[.slice A n c, .slice B m d]).run Tryd.prog w = .ok (.slice A' (n + m) c') w' ∧ SlO w' G A' (n + m) c' (xs ++ ys) ∧ Below w.heap.size w w' := by
  have h := ho.sli
  obtain ⟨i0, hi, hz0, hz1, hz2⟩ := info_parts infoInt
  rcases Nat.eq_zero_or_pos m with hm | hm
  · subst hm
    have : ys = [] := List.eq_nil_of_length_eq_zero k.len
    subst this
    exact ⟨A, c, w, append_none w ty A B n c d h.cap, by simpa using ho, Below.refl _ _⟩
  · have hf : c < n + m := by omega
    obtain ⟨ad, rfl⟩ := k.pos_some hm
    have bd : ∀ i : Nat, -9223372036854775808 ≤ (xs ++ ys)[i]?.getD 0 ∧ (xs ++ ys)[i]?.getD 0 ≤ 9223372036854775807 := fun i => by
      rw [List.getElem?_append]; split
      · exact h.bd i
      · exact k.bd _
    have key : ∃ v' w', (Builtin.append_ #[37, 37] ty #[.slice A n c, .slice (some ad) m d]).run Tryd.prog w = .ok v' w' ∧ w'.ownsRow w.heap.size 3 1 v' (n + m) (xs.map (Value.int .i64) ++ ys.map (Value.int .i64)) ∧ w.grownBy w' none := by
      cases A with
      | some b =>
        exact run_append_arg_grows (P := Tryd.prog) w 37 ty 3 i0 (.int .i64 0) 1 8 Tryd.underlying37 hi hz0 hz1 hz2 rfl (by decide) b n c _ (by simp [h.len]) (h.cellsAt b rfl) ad m d _ (by simp [k.len]) (k.cellsAt ad rfl) hf (by unfold maxLen; omega) (by omega)
      | none =>
        obtain rfl := hA rfl
        have hn0 : n = 0 := by have := h.cap; omega
        subst hn0
        obtain rfl : xs = [] := List.eq_nil_of_length_eq_zero h.len
        obtain ⟨v', w', hrun, r1, r2, _⟩ := run_append_own (P := Tryd.prog) w w.heap.size 37 ty 3 i0 (.int .i64 0) 1 8 Tryd.underlying37 hi hz0 hz1 hz2 rfl (by decide) (.slice none 0 0) 0 [] (World.ownsRow_nil w _ _ _) ad m d _ (by simp [k.len]) (k.cellsAt ad rfl) (by intro u hu; obtain ⟨x, _, rfl⟩ := List.mem_map.1 hu; rfl) (by unfold maxLen; omega) (by omega) (Nat.le_refl _)
        exact ⟨v', w', hrun, r1, r2⟩
    obtain ⟨v', w', hrun, r1, r2⟩ := key
    obtain ⟨A', c', rfl, _, _, _⟩ := own_form r1
    have ow : Own w' w.heap.size A' (n + m) c' (xs ++ ys) := by unfold Own; simpa using r1
    exact ⟨A', c', w', hrun, (ow.slo bd).mono hG, below_of_grown r2⟩

/-- append([]int(nil), l...) -/
theorem append_copy {w : World} {B : Option Addr} {m d : Nat} {ys : List Int} (k : SlI w B m d ys) (hb : m ≤ 1000) (ty : TypeId) :
    ∃ A' c' w', (Builtin.append_ #[37, 37] ty #[.slice none 0 0, .slice B m d]).run Tryd.prog w = .ok (.slice A' m c') w' ∧ Own w' w.heap.size A' m c' ys ∧ Below w.heap.size w w' := by
  obtain ⟨i0, hi, hz0, hz1, hz2⟩ := info_parts infoInt
  rcases Nat.eq_zero_or_pos m with hm | hm
  · subst hm
    have : ys = [] := List.eq_nil_of_length_eq_zero k.len
    subst this
    exact ⟨none, 0, w, append_none w ty none B 0 0 d (Nat.le_refl _), Own.nil _ _, Below.refl _ _⟩
  · obtain ⟨ad, rfl⟩ := k.pos_some hm
    obtain ⟨v', w', hrun, r1, r2, _⟩ := run_append_own (P := Tryd.prog) w w.heap.size 37 ty 3 i0 (.int .i64 0) 1 8 Tryd.underlying37 hi hz0 hz1 hz2 rfl (by decide) (.slice none 0 0) 0 [] (World.ownsRow_nil w _ _ _) ad m d _ (by simp [k.len]) (k.cellsAt ad rfl) (by intro u hu; obtain ⟨x, _, rfl⟩ := List.mem_map.1 hu; rfl) (by unfold maxLen; omega) (by omega) (Nat.le_refl _)
    rw [Nat.zero_add] at r1
    obtain ⟨A', c', rfl, _, _, _⟩ := own_form r1
    exact ⟨A', c', w', hrun, by unfold Own; simpa using r1, below_of_grown r2⟩

theorem step_append_full {ops : Array Oper} {o : Oper} {a : Act} {w : World} {K : Act → World → Prop} {Q : Exit → Act → World → Prop} {E : Prop} (hgd : o.guard = none) (s x : Operand)
    (ho : o.op = .call { callee := .builtin .append, args := #[s, x], argTypes := #[37, 37] }) {A B : Option Addr} {n c m d G : Nat} {xs ys : List Int} (hs : a.eval s = .slice A n c) (hx : a.eval x = .slice B m d) (h : SlO w G A n c xs) (hG : G ≤ w.heap.size) (hA : A = none → c = 0) (k : SlI w B m d ys) (hfull : m = 0 ∨ c < n + m) (hb : n + m ≤ 1000)
    (hK : ∀ A' c' w', SlO w' G A' (n + m) c' (xs ++ ys) → Below w.heap.size w w' → K (a.put o.dst (.slice A' (n + m) c')) w') :
    if Region.wanted o (yielded ops a.tmps) = true then Oper.wp Tryd.prog o a w K Q else E := by
  have hw : Region.wanted o (yielded ops a.tmps) = true := by simp [Region.wanted, hgd]
  rw [if_pos hw]
  obtain ⟨A', c', w', hr, h2, h3⟩ := append_full h hG hA k hfull hb o.type
  unfold Oper.wp execOp
  simp only [ho, resolve, invoke, builtin, Sem.run_bind, Sem.run_pure, Result.andThen_ok, List.map_toArray, List.map_cons, List.map_nil, hs, hx, hr]
  exact hK A' c' w' h2 h3
theorem wpList_append_full {ops : Array Oper} {rest : List Oper} {o : Oper} {a : Act} {w : World} {Q : Exit → Act → World → Prop} (hgd : o.guard = none) (s x : Operand)
    (ho : o.op = .call { callee := .builtin .append, args := #[s, x], argTypes := #[37, 37] }) {A B : Option Addr} {n c m d G : Nat} {xs ys : List Int} (hs : a.eval s = .slice A n c) (hx : a.eval x = .slice B m d) (h : SlO w G A n c xs) (hG : G ≤ w.heap.size) (hA : A = none → c = 0) (k : SlI w B m d ys) (hfull : m = 0 ∨ c < n + m) (hb : n + m ≤ 1000)
    (hK : ∀ A' c' w', SlO w' G A' (n + m) c' (xs ++ ys) → Below w.heap.size w w' → wpList Tryd.prog ops Q rest (a.put o.dst (.slice A' (n + m) c')) w') : wpList Tryd.prog ops Q (o :: rest) a w :=
  wpList_plain hgd fun _ hKK => by
    obtain ⟨A', c', w', hr, h2, h3⟩ := append_full h hG hA k hfull hb o.type
    unfold Oper.wp execOp
    simp only [ho, resolve, invoke, builtin, Sem.run_bind, Sem.run_pure, Result.andThen_ok, List.map_toArray, List.map_cons, List.map_nil, hs, hx, hr]
    exact hKK _ _ (hK A' c' w' h2 h3)
theorem wpList_append_copy {ops : Array Oper} {rest : List Oper} {o : Oper} {a : Act} {w : World} {Q : Exit → Act → World → Prop} (hgd : o.guard = none) (s x : Operand)
    (ho : o.op = .call { callee := .builtin .append, args := #[s, x], argTypes := #[37, 37] }) {B : Option Addr} {m d : Nat} {ys : List Int} (hs : a.eval s = .slice none 0 0) (hx : a.eval x = .slice B m d) (k : SlI w B m d ys) (hb : m ≤ 1000)
    (hK : ∀ A' c' w', Own w' w.heap.size A' m c' ys → Below w.heap.size w w' → wpList Tryd.prog ops Q rest (a.put o.dst (.slice A' m c')) w') : wpList Tryd.prog ops Q (o :: rest) a w :=
  wpList_plain hgd fun _ hKK => by
    obtain ⟨A', c', w', hr, h2, h3⟩ := append_copy k hb o.type
    unfold Oper.wp execOp
    simp only [ho, resolve, invoke, builtin, Sem.run_bind, Sem.run_pure, Result.andThen_ok, List.map_toArray, List.map_cons, List.map_nil, hs, hx, hr]
    exact hKK _ _ (hK A' c' w' h2 h3)

theorem relyAt_append_full {o : Oper} {a : Act} {w : World} {T : Value → World → Prop} (s x : Operand)
    (ho : o.op = .call { callee := .builtin .append, args := #[s, x], argTypes := #[37, 37] }) {A B : Option Addr} {n c m d G : Nat} {xs ys : List Int} (hs : a.eval s = .slice A n c) (hx : a.eval x = .slice B m d) (h : SlO w G A n c xs) (hG : G ≤ w.heap.size) (hA : A = none → c = 0) (k : SlI w B m d ys) (hfull : m = 0 ∨ c < n + m) (hb : n + m ≤ 1000)
    (hK : ∀ A' c' w', SlO w' G A' (n + m) c' (xs ++ ys) → Below w.heap.size w w' → T (.slice A' (n + m) c') w') : relyAt Tryd.prog o a w T := by
  obtain ⟨A', c', w', hr, h2, h3⟩ := append_full h hG hA k hfull hb o.type
  unfold relyAt execOp
  simp only [ho, resolve, invoke, builtin, Sem.run_bind, Sem.run_pure, Result.andThen_ok, List.map_toArray, List.map_cons, List.map_nil, hs, hx, hr]
  exact hK A' c' w' h2 h3
theorem relyAt_append1 {o : Oper} {a : Act} {w : World} {T : Value → World → Prop} (s x : Operand)
    (ho : o.op = .call { callee := .builtin .append, args := #[s, x], argTypes := #[37, 37] }) {B : Nat} {A : Option Addr} {n c : Nat} {xs : List Int} (hs : a.eval s = .slice A n c) (hown : Own w B A n c xs) {g : Nat} {v : Int} {c' : Nat}
    (hx : a.eval x = .slice (some ⟨g, 0, none⟩) 1 c') (hv : w.cell? ⟨g, 0, none⟩ = some (.int .i64 v)) (hn : n ≤ 1000) (hB : B ≤ w.heap.size)
    (hK : ∀ g' cap w', Own w' B (some ⟨g', 0, none⟩) (n + 1) cap (xs ++ [v]) → Below B w w' → T (.slice (some ⟨g', 0, none⟩) (n + 1) cap) w') : relyAt Tryd.prog o a w T := by
  obtain ⟨g', cap, w', hr, h2, h3⟩ := own_append hown hv hn hB o.type c'
  unfold relyAt execOp
  simp only [ho, resolve, invoke, builtin, Sem.run_bind, Sem.run_pure, Result.andThen_ok, List.map_toArray, List.map_cons, List.map_nil, hs, hx, hr]
  exact hK g' cap w' h2 h3

/-- The first k, without room behind them. -/
theorem SlO.take {w : World} {G : Nat} {A : Option Addr} {n c : Nat} {xs : List Int} (h : SlO w G A n c xs) (k : Nat) (hk : k ≤ n) : SlO w G A k k (xs.take k) :=
  ⟨⟨by rw [List.length_take, h.sli.len]; omega, Nat.le_refl _, by have := h.sli.cap; have := h.sli.cap63; omega, fun i => by
    rw [List.getElem?_take]; split
    · exact h.sli.bd i
    · decide, fun hk0 => by
    obtain ⟨b, off, hA, hlt, hc⟩ := h.sli.at_ (by omega)
    exact ⟨b, off, hA, hlt, fun i hi => by rw [List.getElem?_take, if_pos hi]; exact hc i (by omega)⟩⟩, fun hk0 b hA => h.up (by omega) b hA⟩
/-- What stands behind the first k. -/
theorem SlI.dropIf {w : World} {b off n c : Nat} {xs : List Int} (h : SlI w (some ⟨b, off, none⟩) n c xs) (k : Nat) (hk : k ≤ n) : SlI w (if c = k then some ⟨b, off, none⟩ else some ⟨b, off + k, none⟩) (n - k) (c - k) (xs.drop k) :=
  ⟨by simp [h.len], by have := h.cap; omega, by have := h.cap63; omega, fun i => by rw [List.getElem?_drop]; exact h.bd (k + i), fun hn => by
    have h1 := h.cap
    rw [if_neg (by omega)]
    obtain ⟨b', off', hA, hlt, hc⟩ := h.at_ (by omega)
    cases hA
    refine ⟨b, off + k, rfl, hlt, fun i hi => ?_⟩
    rw [List.getElem?_drop, Nat.add_assoc]
    exact hc (k + i) (by omega)⟩
theorem SlO.of_keeps {S : Nat → Prop} {w w' : World} {B : Nat} {A : Option Addr} {n c : Nat} {xs : List Int} (h : SlO w B A n c xs) (hk : Keeps S w w') (hS : ∀ b, B ≤ b → ¬ S b) : SlO w' B A n c xs :=
  ⟨⟨h.sli.len, h.sli.cap, h.sli.cap63, h.sli.bd, fun hn => by
    obtain ⟨b, off, hA, hlt, hc⟩ := h.sli.at_ hn
    exact ⟨b, off, hA, Nat.lt_of_lt_of_le hlt hk.size, fun i hi => (hk.cell (p := ⟨b, off + i, none⟩) hlt (hS b (h.up hn _ hA))).trans (hc i hi)⟩⟩, h.up⟩
theorem SlI.keeps {w w' : World} {A : Option Addr} {n c : Nat} {xs : List Int} (h : SlI w A n c xs) (hk : Keeps nowhere w w') : SlI w' A n c xs := h.below hk.same
theorem SlO.keeps {w w' : World} {B : Nat} {A : Option Addr} {n c : Nat} {xs : List Int} (h : SlO w B A n c xs) (hk : Keeps nowhere w w') : SlO w' B A n c xs := h.below hk.same
theorem SlO.nil (w : World) (B : Nat) (c : Nat) (hc : c ≤ 9223372036854775807) (A : Option Addr) : SlO w B A 0 c [] := ⟨⟨rfl, Nat.zero_le _, hc, fun i => by simp, fun h => absurd h (by omega)⟩, fun h => absurd h (by omega)⟩
def IBd (xs : List Int) : Prop := ∀ i : Nat, -9223372036854775808 ≤ xs[i]?.getD 0 ∧ xs[i]?.getD 0 ≤ 9223372036854775807

/-- A list and an answer. -/
def RetL (ys : List Int) (code val : Int) (w : World) (e : Ending) (w' : World) : Prop :=
  ∃ A n c, e = .returned (.tuple #[.slice A n c, .agg #[.int .i64 code, .int .i64 val]]) ∧ SlO w' w.heap.size A n c ys ∧ Below w.heap.size w w'

/-- The same, wherever the list lies. -/
def RetI (ys : List Int) (code val : Int) (w : World) (e : Ending) (w' : World) : Prop :=
  ∃ A n c, e = .returned (.tuple #[.slice A n c, .agg #[.int .i64 code, .int .i64 val]]) ∧ SlI w' A n c ys ∧ Below w.heap.size w w'
theorem RetL.weak {ys : List Int} {code val : Int} {w : World} {e : Ending} {w' : World} (h : RetL ys code val w e w') : RetI ys code val w e w' := by
  obtain ⟨A, n, c, he, hs, hb⟩ := h
  exact ⟨A, n, c, he, hs.sli, hb⟩
theorem retI_old {ys : List Int} {code val co va : Int} {w w' : World} {A : Option Addr} {n c : Nat} (h : SlI w A n c ys) (hb : Below w.heap.size w w') (h1 : co = code) (h2 : va = val) : RetI ys code val w (.returned (.tuple #[.slice A n c, .agg #[.int .i64 co, .int .i64 va]])) w' :=
  ⟨A, n, c, by rw [h1, h2], h.below hb, hb⟩

theorem IBd.app {xs : List Int} (h : IBd xs) {v : Int} (hv : -9223372036854775808 ≤ v ∧ v ≤ 9223372036854775807) : IBd (xs ++ [v]) := fun i => by
  rw [List.getElem?_append]
  split
  · exact h i
  · rcases Nat.eq_zero_or_pos (i - xs.length) with e | e
    · rw [e]; exact hv
    · rw [List.getElem?_eq_none (by simp; omega)]; decide
theorem IBd.tail {xs : List Int} (h : IBd xs) : IBd xs.tail := fun i => by rw [List.getElem?_tail]; exact h (i + 1)
theorem IBd.nil : IBd [] := fun i => by simp

/-- The end of such a function: the result's cells are written behind the list's. -/
theorem retL_slo {w w1 : World} {B : Nat} {A : Option Addr} {n c : Nat} {ys ys' : List Int} {code val : Int} (hown : SlO w1 B A n c ys') (hb : Below w.heap.size w w1) {p q : Addr} {u u' : Value} {co va : Int} (hp : p.block < B) (hq : q.block < B) (hp' : w.heap.size ≤ p.block) (hq' : w.heap.size ≤ q.block) (h0 : ys' = ys) (h1 : co = code) (h2 : va = val) :
    RetL ys code val w (.returned (.tuple #[.slice A n c, .agg #[.int .i64 co, .int .i64 va]])) ((w1.setCell p u).setCell q u') :=
  ⟨A, n, c, by rw [h1, h2], by rw [← h0]; exact ((hown.far hp u).far hq u').mono (by omega), (hb.setCell hp' _).setCell hq' _⟩
theorem retL_own {w w1 : World} {B : Nat} {A : Option Addr} {n c : Nat} {ys ys' : List Int} {code val : Int} (hown : Own w1 B A n c ys') (hb : Below w.heap.size w w1) (bd : IBd ys') {p q : Addr} {u u' : Value} {co va : Int} (hp : p.block < B) (hq : q.block < B) (hp' : w.heap.size ≤ p.block) (hq' : w.heap.size ≤ q.block) (h0 : ys' = ys) (h1 : co = code) (h2 : va = val) :
    RetL ys code val w (.returned (.tuple #[.slice A n c, .agg #[.int .i64 co, .int .i64 va]])) ((w1.setCell p u).setCell q u') := retL_slo (hown.slo bd) hb hp hq hp' hq' h0 h1 h2
theorem retL_nil {w w1 : World} {ys : List Int} {code val : Int} (hb : Below w.heap.size w w1) {co va : Int} (h0 : [] = ys) (h1 : co = code) (h2 : va = val) : RetL ys code val w (.returned (.tuple #[.slice none 0 0, .agg #[.int .i64 co, .int .i64 va]])) w1 :=
  ⟨none, 0, 0, by rw [h1, h2], by rw [← h0]; exact SlO.nil _ _ _ (by omega) _, hb⟩
theorem RetL.alloc {ys : List Int} {code val : Int} {w : World} {e : Ending} {w' : World} (h : RetL ys code val w e w') (o : Obj) : RetL ys code val w e (w'.alloc o) := by
  obtain ⟨A, n, c, he, hs, hb⟩ := h
  exact ⟨A, n, c, he, hs.below ((Below.refl _ _).alloc (Nat.le_refl _) _), hb.alloc hb.size _⟩
/-- A callee's result is handed on through a result cell. -/
theorem retL_on {w W w1 : World} {A : Option Addr} {n c : Nat} {ys : List Int} {code val : Int} (hs : SlO w1 W.heap.size A n c ys) (hW : Below w.heap.size w W) (hb : Below W.heap.size W w1) {p q : Addr} {u u' : Value} (hp : p.block < W.heap.size) (hq : q.block < W.heap.size) (hp' : w.heap.size ≤ p.block) (hq' : w.heap.size ≤ q.block) :
    RetL ys code val w (.returned (.tuple #[.slice A n c, .agg #[.int .i64 code, .int .i64 val]])) ((w1.setCell p u).setCell q u') :=
  retL_slo hs (hW.trans (hb.mono hW.size)) hp hq hp' hq' rfl rfl rfl

end Go.Proofs.YtkoflhjnpilchaaDoor

namespace Go.Proofs.YtkoflhjnpilchaaDoor
open Go.RowKit
set_option linter.unusedSimpArgs false
set_option linter.unusedVariables false
attribute [local go_sem ↓] Go.wp_at_zero Go.wp_at_succ

/-- The numbers of words 1 .. n. -/
def upL (z : Nat → Int) (n : Nat) : List Int := (List.range n).map fun i => z (i + 1)
theorem upL_succ (z : Nat → Int) (n : Nat) : upL z (n + 1) = upL z n ++ [z (n + 1)] := by unfold upL; rw [List.range_succ, List.map_append]; rfl
theorem upL_len (z : Nat → Int) (n : Nat) : (upL z n).length = n := by unfold upL; simp
theorem upL_get (z : Nat → Int) (n i : Nat) (h : i < n) : (upL z n)[i]?.getD 0 = z (i + 1) := by unfold upL; simp [h]
/-- Word i + 1 is as a list of n0 numbers has it. -/
def wordOk (z : Nat → Int) (n0 : Nat) (i : Nat) : Prop := z (i + 1) ≤ 4294967295 ∧ (n0 ≤ i → z (i + 1) = 0)
def listOk (z : Nat → Int) : Prop := z 0 ≤ 6 ∧ ∀ i, i < 16 → wordOk z (z 0).toNat i

def ListOut (z : Nat → Int) (w : World) (e : Ending) (w' : World) : Prop :=
  Below w.heap.size w w' ∧ ((listOk z ∧ ∃ A c, e = .returned (.tuple #[.slice A (z 0).toNat c, .bool true]) ∧ Own w' (w.heap.size + 1) A (z 0).toNat c (upL z (z 0).toNat)) ∨ (¬ listOk z ∧ e = .returned (.tuple #[.slice none 0 0, .bool false])))

end Go.Proofs.YtkoflhjnpilchaaDoor
