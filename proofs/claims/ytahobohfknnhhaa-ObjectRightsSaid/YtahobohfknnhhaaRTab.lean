/-
  What gristmillref.row, TableLen and TableRight return. For every table.
-/
import Derived.Test.YtahobohfknnhhaaTabR
import Derived.Test.YtahobohfknnhhaaApp
import Derived.Test.YtahobohfknnhhaaOps
namespace Go.Proofs.Ytahobohfknnhhaa
set_option linter.unusedSimpArgs false
set_option linter.unusedVariables false
set_option linter.unusedSectionVars false
open Go.RowKit
attribute [local go_sem ↓] Go.wp_at_zero Go.wp_at_succ

def rowL (key n : Nat) : List Int := (List.range n).map fun k => (rowP key k : Int)
theorem rowL_succ (key n : Nat) : rowL key (n + 1) = rowL key n ++ [(rowP key n : Int)] := by
  unfold rowL
  rw [List.range_succ, List.map_append]
  rfl
theorem rowL_get (key n j : Nat) (hj : j < n) : (rowL key n)[j]?.getD 0 = rowP key j := by
  unfold rowL
  rw [List.getElem?_map, List.getElem?_range hj]
  rfl
theorem rowL_bd (key n : Nat) : IBd (rowL key n) := fun i => by
  rcases Nat.lt_or_ge i n with h | h
  · rw [rowL_get key n i h]
    have := rowP_lt key i
    omega
  · rw [List.getElem?_eq_none (by simp [rowL]; omega)]
    decide
theorem rowP_surj (key i : Nat) (hi : i < 8) : ∃ j, j < 8 ∧ rowP key j = i := by
  refine ⟨(i + 8 - key * 5 % 8) % 8, Nat.mod_lt _ (by decide), ?_⟩
  unfold rowP
  omega

set_option maxHeartbeats 1000000 in
theorem row_any (key : Nat) (w : World) (hk : key ≤ 1000) :
    Calls Try.prog 23 #[.int .i64 key] w fun e w' => ∃ A c, e = .returned (.slice A 8 c) ∧ SlO w' w.heap.size A 8 c (rowL key 8) ∧ Below w.heap.size w w' := by
  have hk1 : (key : Int) ≤ 1000 := by omega
  go_enter Try.func23, Try.ntmps23
  go_wp2
  go_loopw [3, 5] (fun s i wr => ∃ k : Nat, k ≤ 8 ∧ i = .int .i64 k ∧ Below w.heap.size w wr ∧ Hid (∃ A c, s = .slice A k c ∧ Own wr w.heap.size A k c (rowL key k))) (fun _ i _ => 8 - (intOf i).toNat)
  case atStart => exact ⟨0, by omega, rfl, Below.refl _ _, Lib.hid ⟨none, 0, rfl, Own.nil _ _⟩⟩
  case round =>
    obtain ⟨k, hk8, rfl, hb, hex⟩ := hrel
    obtain ⟨A, c, rfl, hown⟩ := hex.out
    have HO := Lib.hid hown
    clear hown hex
    have hsz := hb.size
    by_cases hlt : k < 8
    · have b1 : (k : Int) < 8 := by omega
      have hr : ((key : Int) * 5 % 8 + k) % 8 = ((rowP key k : Nat) : Int) := by unfold rowP; omega
      go_wp2_with (at_builtin; refine wpList_append1 rfl (.tmp 8) (.tmp 15) rfl (B := w.heap.size) (v := ((rowP key k : Nat) : Int)) rfl (HO.out.alloc _) rfl ((Blk.new _ _ _).cell 0) (by omega) (by simp; omega) ?_; intro g2 c2 w2 hown2 hb2)
      go_roundw
      case rel => exact ⟨k + 1, by omega, by go_num, (hb.alloc hsz _).trans hb2, Lib.hid ⟨_, _, rfl, by rw [rowL_succ]; exact hown2⟩⟩
      case measure => simp [intOf]; omega
    · obtain rfl : k = 8 := by omega
      go_wp2
      go_ret
      exact ⟨A, c, rfl, HO.out.slo (rowL_bd key 8), hb⟩

set_option maxRecDepth 100000 in
set_option maxHeartbeats 1000000 in
theorem refLen_any (C : Array Value) (z : Nat → Int) (w : World) (h : I64s C 16 z) :
    Calls Try.prog 24 #[.agg C] w fun e w' => e = .returned (.int .i64 (lenT z 8)) ∧ Below w.heap.size w w' := by
  have H := Lib.hid h
  clear h
  have HBK : Hid (Blk (w.alloc (.cells C 29)) w.heap.size 29 C) := Blk.new _ _ _
  go_enter Try.func24, Try.ntmps24
  go_wp2
  go_loopw [3, 5] (fun n i wr => ∃ k : Nat, k ≤ 8 ∧ i = .int .i64 k ∧ n = .int .i64 (lenT z k) ∧ Below (w.heap.size + 1) (w.alloc (.cells C 29)) wr) (fun _ i _ => 8 - (intOf i).toNat)
  case atStart => exact ⟨0, by omega, rfl, rfl, Below.refl _ _⟩
  case round =>
    obtain ⟨k, hk, rfl, rfl, hb⟩ := hrel
    by_cases hk8 : k < 8
    · have b1 : (k : Int) < 8 := by omega
      have hcell : wr.cell? ⟨w.heap.size, k * 2, none⟩ = some (.int .i64 (z (2 * k))) := (hb.cell (p := ⟨w.heap.size, k * 2, none⟩) (by simp)).trans (by rw [Nat.mul_comm, HBK.out.cell, H.out.get _ (by omega)])
      have hls := lenT_succ z k
      have hlb := lenT_bd z k
      have HLS := Lib.hid hls
      clear hls
      generalize hy : z (2 * k) = y at *
      by_cases hy0 : y = 0
      · have hyb : (y != 0) = false := by simpa using hy0
        have hys : lenT z (k + 1) = lenT z k := by rw [HLS.out, if_neg (by simpa using hy0)]; omega
        have HYS := Lib.hid hys
        clear hys hy0
        go_wp2
        go_roundw
        case rel => exact ⟨k + 1, by omega, by go_num, by rw [HYS.out], hb⟩
        case measure => simp [intOf]; omega
      · have hyb : (y != 0) = true := by simpa using hy0
        have hys : lenT z (k + 1) = lenT z k + 1 := by rw [HLS.out, if_pos (by simpa using hy0)]
        have HYS := Lib.hid hys
        clear hys hy0
        go_wp2
        go_roundw
        case rel => exact ⟨k + 1, by omega, by go_num, by rw [HYS.out], hb⟩
        case measure => simp [intOf]; omega
    · obtain rfl : k = 8 := by omega
      go_wp2
      go_ret
      exact ⟨rfl, Below.trans (by go_grown) (hb.mono (by omega))⟩

theorem run_index_slotR {C : Array Value} {z : Nat → Int} (h : I64s C 16 z) (k : Nat) (hk : k < 8) (w : World) : (Instr.index 29 (.agg C) (.int .i64 k)).run Try.prog w = .ok (.agg #[.int .i64 (z (2 * k)), .int .i64 (z (2 * k + 1))]) w := by
  have hp := h.pair (2 * k) (by omega)
  have h8 : (k : Int) < 8 := by omega
  have s2 : ∀ w, (sizeOf 27).run Try.prog w = .ok 2 w := fun w => by kernel_rfl
  have a2 : ∀ w, (isAgg 27).run Try.prog w = .ok true w := fun w => by kernel_rfl
  simp [Instr.index, asIntOf, run_underlying Try.underlying29, part, a2, s2]
  rw [if_pos hk, Nat.mul_comm k 2, hp]

/-- The row of a key is searched for place i, which bears the key. -/
theorem inner_hit {z : Nat → Int} {key i j : Nat} (hj : j < 8) (hi : i < 8) (hz : z (2 * i) = key) (hno : ∀ j', j' < j → hitB z key j' = false) (h : rowP key j = i) : atT z key = i := by
  have hh : hitB z key j = true := by unfold hitB; rw [h]; simp [hz]
  unfold atT
  rw [find_range hj hh hno]
  show (rowP key j : Int) = i
  rw [h]
theorem inner_miss {z : Nat → Int} {key i j : Nat} (hj : j < 8) (hno : ∀ j', j' < j → hitB z key j' = false) (hh : hitB z key j = true) (h : rowP key j ≠ i) : atT z key ≠ i := by
  unfold atT
  rw [find_range hj hh hno]
  simp only [ne_eq]
  omega
theorem inner_end {z : Nat → Int} {key i : Nat} (hi : i < 8) (hz : z (2 * i) = key) (hno : ∀ j', j' < 8 → hitB z key j' = false) : False := by
  obtain ⟨j, hj, hr⟩ := rowP_surj key i hi
  have := hno j hj
  unfold hitB at this
  rw [hr] at this
  simp [hz] at this

set_option linter.unusedSimpArgs false in
set_option maxRecDepth 100000 in
set_option maxHeartbeats 4000000 in
theorem refRight_any (C : Array Value) (z : Nat → Int) (w : World) (h : I64s C 16 z) :
    Calls Try.prog 10 #[.agg C] w fun e w' => e = .returned (.bool (rightT z)) ∧ Below w.heap.size w w' := by
  have H := Lib.hid h
  have hs := h.size
  have hi : (Try.prog.info? 29).map (·.size) = some C.size := by rw [hs]; kernel_rfl
  have HI := Lib.hid hi
  clear hi hs h
  have HU : Hid (Try.prog.underlying 29 = _) := Try.underlying29
  have HBK : Hid (Blk (w.alloc (.cells C 29)) w.heap.size 29 C) := Blk.new _ _ _
  go_enter Try.func10, Try.ntmps10
  go_wp2_with (refine wpList_load_row rfl 29 _ rfl w.heap.size rfl 29 C (0, 0) _ ?_ HU.out rfl ?_ ?_; (exact HBK.out); (exact HI.out))
  go_loopw [8] (fun i wr => ∃ k : Nat, k ≤ 8 ∧ i = .int .i64 k ∧ Below (w.heap.size + 1) (w.alloc (.cells C 29)) wr ∧ Hid (∀ j, j < k → slotOk z j = true)) (fun i _ => 8 - (intOf i).toNat)
  case atStart => exact ⟨0, by omega, rfl, Below.refl _ _, fun j hj => absurd hj (by omega)⟩
  case round =>
    obtain ⟨k, hk, rfl, hb, hall⟩ := hrel
    rename World => w5
    have hsz : w.heap.size + 1 ≤ w5.heap.size := by have := hb.size; simpa using this
    by_cases hk8 : k < 8
    · have b1 : (k : Int) < 8 := by omega
      have hix := run_index_slotR H.out k hk8
      have hbd := H.out.bd (2 * k) (by omega)
      have HS : Hid (slotOk z k = decide (0 ≤ z (2 * k) ∧ z (2 * k) ≤ 1000 ∧ 0 ≤ z (2 * k + 1) ∧ z (2 * k + 1) ≤ 4294967295 ∧ (z (2 * k) = 0 → z (2 * k + 1) = 0) ∧ (z (2 * k) ≠ 0 → atT z (z (2 * k)).toNat = k))) := rfl
      have HNO : Hid (slotOk z k = false → rightT z = false) := fun h => rightT_no hk8 h
      obtain ⟨y, hy⟩ : ∃ y, z (2 * k) = y := ⟨_, rfl⟩
      have HY := Lib.hid hy
      rw [hy] at HS hix hbd
      clear hy
      generalize hv : z (2 * k + 1) = v at *
      clear hv
      by_cases hq : 0 ≤ y ∧ y ≤ 1000 ∧ 0 ≤ v ∧ v ≤ 4294967295 ∧ (y = 0 → v = 0)
      · obtain ⟨q1, q2, q3, q4, q5⟩ := hq
        have hw1 : withinB y 0 1000 = true := by simp [withinB]; omega
        have hw2 : withinB v 0 4294967295 = true := by simp [withinB]; omega
        obtain ⟨key, rfl⟩ := Int.eq_ofNat_of_zero_le q1
        by_cases hy0 : key = 0
        · subst hy0
          have hv0 : v = 0 := q5 rfl
          subst hv0
          go_wp2_with (go_at_call 9; refine (within_any _ _ _ _).mono ?_; rintro e w' ⟨rfl, rfl⟩)
          go_roundw
          case rel => exact ⟨k + 1, by omega, by go_num, hb.alloc (by omega) _, Lib.hid fun j hj => by
            rcases Nat.lt_or_ge j k with h | h
            · exact hall.out j h
            · obtain rfl : j = k := by omega
              rw [HS.out]
              simp⟩
          case measure => simp [intOf]; omega
        · have hk0 : ((key : Int) == 0) = false := by simp; omega
          have hk1 : key ≤ 1000 := by omega
          have hR := row_any key
          have HRow := Lib.hid hR
          clear hR
          go_wp2_with (first
            | (go_at_call 9; refine (within_any _ _ _ _).mono ?_; rintro e w' ⟨rfl, rfl⟩)
            | (go_at_call 23; refine (HRow.out _ hk1).mono ?_; rintro e w2 ⟨A2, c2, rfl, hslo, hb2⟩))
          have hzk : z (2 * k) = key := HY.out
          have HZK := Lib.hid hzk
          clear hzk
          obtain ⟨b, off, rfl, hblt, hcell⟩ := hslo.sli.at_ (by omega)
          have HC := Lib.hid hcell
          clear hcell
          have hz2 : w5.heap.size + 1 ≤ w2.heap.size := by have := hb2.size; simpa using this
          have hbx := hb2.mono (show w.heap.size + 1 ≤ _ by simp; omega)
          have hb1x : Below (w.heap.size + 1) w5 (w5.alloc (.cells #[.int .i64 (key : Int), .int .i64 v] 27)) := (Below.refl _ _).alloc (by omega) _
          have HB2 : Below (w.heap.size + 1) (w.alloc (.cells C 29)) w2 := hb.trans (hb1x.trans hbx)
          have hkey : w2.cell? ⟨w5.heap.size, 0, none⟩ = some (.int .i64 (key : Int)) := (hb2.cell (p := ⟨w5.heap.size, 0, none⟩) (by simp)).trans ((Blk.new w5 27 #[.int .i64 (key : Int), .int .i64 v]).cell 0)
          clear hslo hb2 hbx hb1x
          go_loopw [39] (fun jv wr => ∃ j : Nat, j ≤ 8 ∧ jv = .int .i64 j ∧ Below w2.heap.size w2 wr ∧ Hid (∀ j', j' < j → hitB z key j' = false)) (fun jv _ => 8 - (intOf jv).toNat)
          case atStart => exact ⟨0, by omega, rfl, Below.refl _ _, fun j hj => absurd hj (by omega)⟩
          case round =>
            obtain ⟨j, hj, rfl, hbq, hno⟩ := hrel
            by_cases hj8 : j < 8
            · have b2 : (j : Int) < 8 := by omega
              have hrl := rowP_lt key j
              have c1 : wr.cell? ⟨b, off + j, none⟩ = some (.int .i64 ((rowP key j : Nat) : Int)) := (hbq.cell (p := ⟨b, off + j, none⟩) hblt).trans (by rw [HC.out j hj8, rowL_get key 8 j hj8])
              have c2 : wr.cell? ⟨w5.heap.size, 0, none⟩ = some (.int .i64 (key : Int)) := (hbq.cell (p := ⟨w5.heap.size, 0, none⟩) (by show w5.heap.size < w2.heap.size; omega)).trans hkey
              have c3 : wr.cell? ⟨w.heap.size, rowP key j * 2, none⟩ = some (.int .i64 (z (2 * rowP key j))) := (hbq.cell (p := ⟨w.heap.size, rowP key j * 2, none⟩) (by show w.heap.size < w2.heap.size; omega)).trans ((HB2.cell (p := ⟨w.heap.size, rowP key j * 2, none⟩) (by simp)).trans (by rw [Nat.mul_comm, HBK.out.cell, H.out.get _ (by omega)]))
              have HH : Hid (hitB z key j = decide (z (2 * rowP key j) = key ∨ z (2 * rowP key j) = 0)) := rfl
              have HIN : Hid (rowP key j = k → atT z key = k) := fun hh => inner_hit hj8 hk8 HZK.out hno.out hh
              have HMI : Hid (hitB z key j = true → rowP key j ≠ k → atT z key ≠ k) := fun h1 h2 => inner_miss hj8 hno.out h1 h2
              have s1 : w.heap.size < wr.heap.size := by have := hbq.size; omega
              have s2 : w5.heap.size < wr.heap.size := by have := hbq.size; omega
              generalize hr : rowP key j = r at *
              have HR := Lib.hid hr
              clear hr
              have hr8 : (r : Int) < 8 := by omega
              by_cases hrk : r = k
              · have d1 : ((r : Int) == k) = true := by simp [hrk]
                have hat := HIN.out hrk
                have HAT := Lib.hid hat
                clear hat hrk
                go_wp2
                go_roundw
                case rel => exact ⟨k + 1, by omega, by go_num, HB2.trans (hbq.mono (by omega)), Lib.hid fun j' hj' => by
                  rcases Nat.lt_or_ge j' k with h | h
                  · exact hall.out j' h
                  · obtain rfl : j' = k := by omega
                    rw [HS.out]
                    have := HAT.out
                    simp [this]
                    omega⟩
                case measure => simp [intOf]; omega
              · have d1 : ((r : Int) == k) = false := by simp; omega
                generalize hyr : z (2 * r) = yr at *
                clear hyr
                by_cases hz : yr = key ∨ yr = 0
                · have hne : atT z key ≠ k := HMI.out (by rw [HH.out]; simpa using hz) hrk
                  have hf : rightT z = false := HNO.out (by rw [HS.out]; simp [hy0, hne])
                  have HF := Lib.hid hf
                  clear hf hne hrk
                  have hz' := Lib.hid hz
                  clear hz
                  by_cases hz0 : yr = 0
                  · have d2 : (yr == 0) = true := by simpa using hz0
                    clear hz0
                    go_wp2
                    refine wp_region_rely 14 nowhere [] (by kernel_rfl) (by kernel_rfl) ?_
                    iterate 14
                      refine wpRely_step (fun K hK => ?_)
                      first
                      | (refine .inl ?_
                         apply Exists.intro
                         refine ⟨Any, ?_, hK _ _ _ _ ?_⟩
                         · simp only [RelyOp, fillE]
                           refine ⟨?_, fun w9 hw9 _ => ?_⟩
                           · first | rfl | (go_simp; done)
                           obtain ⟨hc9, hf9⟩ := hw9.all
                           go_simp
                           first
                           | exact ⟨⟨rfl, trivial⟩, Keeps.refl _ _⟩
                         clear hK K
                         try simp only [Act.put, List.setIfInBounds_toArray, List.set_cons_zero, List.set_cons_succ])
                      | (refine .inr (.inl ⟨?_, hK _ _ _ _ ?_⟩)
                         · simp only [fillE]
                           first | rfl | (go_simp; done)
                         clear hK K
                         try simp only [Act.put, List.setIfInBounds_toArray, List.set_cons_zero, List.set_cons_succ])
                    refine wpRely_nil ?_
                    simp only [fillE]
                    intro w9 hw9 _
                    obtain ⟨hc9, hf9⟩ := hw9.all
                    go_wp2
                    apply_assumption
                    go_wp2
                    go_ret
                    exact ⟨ret_bool (by rw [HF.out]), Below.trans (by go_grown) ((HB2.trans ((hbq.trans (hw9.same.mono hbq.size)).mono (by omega))).mono (by omega))⟩
                  · have d2 : (yr == 0) = false := by simpa using hz0
                    have d3 : yr = key := by rcases hz'.out with h | h
                                             · exact h
                                             · exact absurd h hz0
                    have d4 : (yr == (key : Int)) = true := by simpa using d3
                    clear hz0 d3
                    go_wp2
                    refine wp_region_rely 14 nowhere [] (by kernel_rfl) (by kernel_rfl) ?_
                    iterate 14
                      refine wpRely_step (fun K hK => ?_)
                      first
                      | (refine .inl ?_
                         apply Exists.intro
                         refine ⟨Any, ?_, hK _ _ _ _ ?_⟩
                         · simp only [RelyOp, fillE]
                           refine ⟨?_, fun w9 hw9 _ => ?_⟩
                           · first | rfl | (go_simp; done)
                           obtain ⟨hc9, hf9⟩ := hw9.all
                           go_simp
                           first
                           | exact ⟨⟨rfl, trivial⟩, Keeps.refl _ _⟩
                         clear hK K
                         try simp only [Act.put, List.setIfInBounds_toArray, List.set_cons_zero, List.set_cons_succ])
                      | (refine .inr (.inl ⟨?_, hK _ _ _ _ ?_⟩)
                         · simp only [fillE]
                           first | rfl | (go_simp; done)
                         clear hK K
                         try simp only [Act.put, List.setIfInBounds_toArray, List.set_cons_zero, List.set_cons_succ])
                    refine wpRely_nil ?_
                    simp only [fillE]
                    intro w9 hw9 _
                    obtain ⟨hc9, hf9⟩ := hw9.all
                    go_wp2
                    apply_assumption
                    go_wp2
                    go_ret
                    exact ⟨ret_bool (by rw [HF.out]), Below.trans (by go_grown) ((HB2.trans ((hbq.trans (hw9.same.mono hbq.size)).mono (by omega))).mono (by omega))⟩
                · have hno' : hitB z key j = false := by rw [HH.out]; simpa using hz
                  have HNO' := Lib.hid hno'
                  have d2 : (yr == 0) = false := by simp; omega
                  have d4 : (yr == (key : Int)) = false := by simp; omega
                  clear hno' hz
                  go_wp2
                  refine wp_region_rely 14 nowhere [] (by kernel_rfl) (by kernel_rfl) ?_
                  iterate 14
                    refine wpRely_step (fun K hK => ?_)
                    first
                    | (refine .inl ?_
                       apply Exists.intro
                       refine ⟨Any, ?_, hK _ _ _ _ ?_⟩
                       · simp only [RelyOp, fillE]
                         refine ⟨?_, fun w9 hw9 _ => ?_⟩
                         · first | rfl | (go_simp; done)
                         obtain ⟨hc9, hf9⟩ := hw9.all
                         go_simp
                         first
                         | exact ⟨⟨rfl, trivial⟩, Keeps.refl _ _⟩
                       clear hK K
                       try simp only [Act.put, List.setIfInBounds_toArray, List.set_cons_zero, List.set_cons_succ])
                    | (refine .inr (.inl ⟨?_, hK _ _ _ _ ?_⟩)
                       · simp only [fillE]
                         first | rfl | (go_simp; done)
                       clear hK K
                       try simp only [Act.put, List.setIfInBounds_toArray, List.set_cons_zero, List.set_cons_succ])
                  refine wpRely_nil ?_
                  simp only [fillE]
                  intro w9 hw9 _
                  obtain ⟨hc9, hf9⟩ := hw9.all
                  go_wp2
                  apply_assumption
                  go_wp2
                  go_roundw
                  case rel => exact ⟨j + 1, by omega, by go_num, hbq.trans (hw9.same.mono hbq.size), Lib.hid fun j' hj' => by
                    rcases Nat.lt_or_ge j' j with h | h
                    · exact hno.out j' h
                    · obtain rfl : j' = j := by omega
                      exact HNO'.out⟩
                  case measure => simp [intOf]; omega
            · exfalso
              obtain rfl : j = 8 := by omega
              exact inner_end hk8 HZK.out hno.out
      · have hf : rightT z = false := HNO.out (by rw [HS.out]; simp only [decide_eq_false_iff_not]; intro h; exact hq ⟨h.1, h.2.1, h.2.2.1, h.2.2.2.1, h.2.2.2.2.1⟩)
        have HF := Lib.hid hf
        clear hf
        have HQ := Lib.hid hq
        clear hq
        go_wp2_with (go_at_call 9; refine (within_any _ _ _ _).mono ?_; rintro e w' ⟨rfl, rfl⟩)
        all_goals first
          | (go_ret
             exact ⟨ret_bool (by rw [HF.out]), Below.trans (by go_grown) ((hb.alloc (by omega) _).mono (by omega))⟩)
          | (exfalso
             apply HQ.out
             simp only [withinB, decide_eq_true_eq, decide_eq_false_iff_not, Bool.not_eq_true', Bool.not_eq_false', beq_iff_eq, bne_iff_ne, beq_eq_false_iff_ne, bne_eq_false_iff_eq, ne_eq] at *
             omega)
    · obtain rfl : k = 8 := by omega
      have HBKr := Lib.hid (HBK.out.below hb (by simp))
      have hlb := lenT_bd z 8
      obtain ⟨l, hl⟩ : ∃ l, lenT z 8 = l := ⟨_, rfl⟩
      rw [hl] at hlb
      have HL := Lib.hid hl
      clear hl
      go_wp2_with (first
        | (refine wpList_load_row rfl 29 _ rfl w.heap.size rfl 29 C (0, 0) _ ?_ HU.out rfl ?_ ?_; (exact HBKr.out); (exact HI.out))
        | (go_at_call 24; refine (refLen_any C z _ H.out).mono ?_; rintro e w2 ⟨rfl, hb2⟩; rw [HL.out]))
      go_ret
      have hall' := hall.out
      exact ⟨ret_bool (by
        by_cases hle : l ≤ 6
        · rw [rightT_end (by rw [HL.out]; exact hle) hall']
          simpa using hle
        · have e : rightT z = false := by
            unfold rightT
            rw [Bool.and_eq_false_iff]
            left
            rw [HL.out]
            simp; omega
          rw [e]
          simpa using hle), Below.trans (by go_grown) ((hb.trans (hb2.mono (by omega))).mono (by omega))⟩
end Go.Proofs.Ytahobohfknnhhaa
