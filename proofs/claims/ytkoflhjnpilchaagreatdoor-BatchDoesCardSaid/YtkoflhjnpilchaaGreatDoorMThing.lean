/-
  What gristmillref.row, TableLen and TableRight return. For every table.
  What gristmilllaw.slotsOf returns: the same slots. For every table.
  What table.closed returns: a table out of which a key is taken. For every table.
  What gristmillref.Thing's Cells return.
-/
import Derived.Test.YtkoflhjnpilchaaGreatDoorMTabA
import Derived.Test.YtkoflhjnpilchaaGreatDoorMWord
import Derived.Test.YtkoflhjnpilchaaGreatDoorMBase
import Derived.Test.YtkoflhjnpilchaaGreatDoorProg
namespace Go.Proofs.YtkoflhjnpilchaaGreatDoor
set_option linter.unusedSimpArgs false
set_option linter.unusedVariables false
set_option linter.unusedSectionVars false
open Go.RowKit
attribute [local go_sem ↓] Go.wp_at_zero Go.wp_at_succ

def rowL (key n : Nat) : List Int := (List.range n).map fun k => (rowP key k : Int)
theorem rowL_succ (key n : Nat) : rowL key (n + 1) = rowL key n ++ [(rowP key n : Int)] := by
  unfold rowL
  rw [List.range_succ, List.map_append]
  rfl
theorem rowL_get (key n j : Nat) (hj : j < n) : (rowL key n)[j]?.getD 0 = rowP key j := by
  unfold rowL
  rw [List.getElem?_map, List.getElem?_range hj]
  rfl
theorem rowL_bd (key n : Nat) : IBd (rowL key n) := fun i => by
  rcases Nat.lt_or_ge i n with h | h
  · rw [rowL_get key n i h]
    have := rowP_lt key i
    omega
  · rw [List.getElem?_eq_none (by simp [rowL]; omega)]
    decide
theorem rowP_surj (key i : Nat) (hi : i < 8) : ∃ j, j < 8 ∧ rowP key j = i := by
  refine ⟨(i + 8 - key * 5 % 8) % 8, Nat.mod_lt _ (by decide), ?_⟩
  unfold rowP
  omega

set_option maxHeartbeats 1000000 in
theorem row_any (key : Nat) (w : World) (hk : key ≤ 1000) :
    Calls Tryz.prog 69 #[.int .i64 key] w fun e w' => ∃ A c, e = .returned (.slice A 8 c) ∧ SlO w' w.heap.size A 8 c (rowL key 8) ∧ Below w.heap.size w w' := by
  have hk1 : (key : Int) ≤ 1000 := by omega
  go_enter Tryz.func69, Tryz.ntmps69
  go_wp2
  go_loopw [3, 5] (fun s i wr => ∃ k : Nat, k ≤ 8 ∧ i = .int .i64 k ∧ Below w.heap.size w wr ∧ Hid (∃ A c, s = .slice A k c ∧ Own wr w.heap.size A k c (rowL key k))) (fun _ i _ => 8 - (intOf i).toNat)
  case atStart => exact ⟨0, by omega, rfl, Below.refl _ _, Lib.hid ⟨none, 0, rfl, Own.nil _ _⟩⟩
  case round =>
    obtain ⟨k, hk8, rfl, hb, hex⟩ := hrel
    obtain ⟨A, c, rfl, hown⟩ := hex.out
    have HO := Lib.hid hown
    clear hown hex
    have hsz := hb.size
    by_cases hlt : k < 8
    · have b1 : (k : Int) < 8 := by omega
      have hr : ((key : Int) * 5 % 8 + k) % 8 = ((rowP key k : Nat) : Int) := by unfold rowP; omega
      go_wp2_with (at_builtin; refine wpList_append1 rfl (.tmp 8) (.tmp 15) rfl (B := w.heap.size) (v := ((rowP key k : Nat) : Int)) rfl (HO.out.alloc _) rfl ((Blk.new _ _ _).cell 0) (by omega) (by simp; omega) ?_; intro g2 c2 w2 hown2 hb2)
      go_roundw
      case rel => exact ⟨k + 1, by omega, by go_num, (hb.alloc hsz _).trans hb2, Lib.hid ⟨_, _, rfl, by rw [rowL_succ]; exact hown2⟩⟩
      case measure => simp [intOf]; omega
    · obtain rfl : k = 8 := by omega
      go_wp2
      go_ret
      exact ⟨A, c, rfl, HO.out.slo (rowL_bd key 8), hb⟩

set_option maxRecDepth 100000 in
set_option maxHeartbeats 1000000 in
theorem refLen_any (C : Array Value) (z : Nat → Int) (w : World) (h : I64s C 16 z) :
    Calls Tryz.prog 70 #[.agg C] w fun e w' => e = .returned (.int .i64 (lenT z 8)) ∧ Below w.heap.size w w' := by
  have H := Lib.hid h
  clear h
  have HBK : Hid (Blk (w.alloc (.cells C 47)) w.heap.size 47 C) := Blk.new _ _ _
  go_enter Tryz.func70, Tryz.ntmps70
  go_wp2
  go_loopw [3, 5] (fun n i wr => ∃ k : Nat, k ≤ 8 ∧ i = .int .i64 k ∧ n = .int .i64 (lenT z k) ∧ Below (w.heap.size + 1) (w.alloc (.cells C 47)) wr) (fun _ i _ => 8 - (intOf i).toNat)
  case atStart => exact ⟨0, by omega, rfl, rfl, Below.refl _ _⟩
  case round =>
    obtain ⟨k, hk, rfl, rfl, hb⟩ := hrel
    by_cases hk8 : k < 8
    · have b1 : (k : Int) < 8 := by omega
      have hcell : wr.cell? ⟨w.heap.size, k * 2, none⟩ = some (.int .i64 (z (2 * k))) := (hb.cell (p := ⟨w.heap.size, k * 2, none⟩) (by simp)).trans (by rw [Nat.mul_comm, HBK.out.cell, H.out.get _ (by omega)])
      have hls := lenT_succ z k
      have hlb := lenT_bd z k
      have HLS := Lib.hid hls
      clear hls
      generalize hy : z (2 * k) = y at *
      by_cases hy0 : y = 0
      · have hyb : (y != 0) = false := by simpa using hy0
        have hys : lenT z (k + 1) = lenT z k := by rw [HLS.out, if_neg (by simpa using hy0)]; omega
        have HYS := Lib.hid hys
        clear hys hy0
        go_wp2
        go_roundw
        case rel => exact ⟨k + 1, by omega, by go_num, by rw [HYS.out], hb⟩
        case measure => simp [intOf]; omega
      · have hyb : (y != 0) = true := by simpa using hy0
        have hys : lenT z (k + 1) = lenT z k + 1 := by rw [HLS.out, if_pos (by simpa using hy0)]
        have HYS := Lib.hid hys
        clear hys hy0
        go_wp2
        go_roundw
        case rel => exact ⟨k + 1, by omega, by go_num, by rw [HYS.out], hb⟩
        case measure => simp [intOf]; omega
    · obtain rfl : k = 8 := by omega
      go_wp2
      go_ret
      exact ⟨rfl, Below.trans (by go_grown) (hb.mono (by omega))⟩

theorem run_index_slotR {C : Array Value} {z : Nat → Int} (h : I64s C 16 z) (k : Nat) (hk : k < 8) (w : World) : (Instr.index 47 (.agg C) (.int .i64 k)).run Tryz.prog w = .ok (.agg #[.int .i64 (z (2 * k)), .int .i64 (z (2 * k + 1))]) w := by
  have hp := h.pair (2 * k) (by omega)
  have h8 : (k : Int) < 8 := by omega
  have s2 : ∀ w, (sizeOf 45).run Tryz.prog w = .ok 2 w := fun w => by kernel_rfl
  have a2 : ∀ w, (isAgg 45).run Tryz.prog w = .ok true w := fun w => by kernel_rfl
  simp [Instr.index, asIntOf, run_underlying Tryz.underlying47, part, a2, s2]
  rw [if_pos hk, Nat.mul_comm k 2, hp]

/-- The row of a key is searched for place i, which bears the key. -/
theorem inner_hit {z : Nat → Int} {key i j : Nat} (hj : j < 8) (hi : i < 8) (hz : z (2 * i) = key) (hno : ∀ j', j' < j → hitB z key j' = false) (h : rowP key j = i) : atT z key = i := by
  have hh : hitB z key j = true := by unfold hitB; rw [h]; simp [hz]
  unfold atT
  rw [find_range hj hh hno]
  show (rowP key j : Int) = i
  rw [h]
theorem inner_miss {z : Nat → Int} {key i j : Nat} (hj : j < 8) (hno : ∀ j', j' < j → hitB z key j' = false) (hh : hitB z key j = true) (h : rowP key j ≠ i) : atT z key ≠ i := by
  unfold atT
  rw [find_range hj hh hno]
  simp only [ne_eq]
  omega
theorem inner_end {z : Nat → Int} {key i : Nat} (hi : i < 8) (hz : z (2 * i) = key) (hno : ∀ j', j' < 8 → hitB z key j' = false) : False := by
  obtain ⟨j, hj, hr⟩ := rowP_surj key i hi
  have := hno j hj
  unfold hitB at this
  rw [hr] at this
  simp [hz] at this

set_option linter.unusedSimpArgs false in
set_option maxRecDepth 100000 in
set_option maxHeartbeats 4000000 in
theorem refRight_any (C : Array Value) (z : Nat → Int) (w : World) (h : I64s C 16 z) :
    Calls Tryz.prog 40 #[.agg C] w fun e w' => e = .returned (.bool (rightT z)) ∧ Below w.heap.size w w' := by
  have H := Lib.hid h
  have hs := h.size
  have hi : (Tryz.prog.info? 47).map (·.size) = some C.size := by rw [hs]; kernel_rfl
  have HI := Lib.hid hi
  clear hi hs h
  have HU : Hid (Tryz.prog.underlying 47 = _) := Tryz.underlying47
  have HBK : Hid (Blk (w.alloc (.cells C 47)) w.heap.size 47 C) := Blk.new _ _ _
  go_enter Tryz.func40, Tryz.ntmps40
  go_wp2_with (refine wpList_load_row rfl 47 _ rfl w.heap.size rfl 47 C (0, 0) _ ?_ HU.out rfl ?_ ?_; (exact HBK.out); (exact HI.out))
  go_loopw [8] (fun i wr => ∃ k : Nat, k ≤ 8 ∧ i = .int .i64 k ∧ Below (w.heap.size + 1) (w.alloc (.cells C 47)) wr ∧ Hid (∀ j, j < k → slotOk z j = true)) (fun i _ => 8 - (intOf i).toNat)
  case atStart => exact ⟨0, by omega, rfl, Below.refl _ _, fun j hj => absurd hj (by omega)⟩
  case round =>
    obtain ⟨k, hk, rfl, hb, hall⟩ := hrel
    rename World => w5
    have hsz : w.heap.size + 1 ≤ w5.heap.size := by have := hb.size; simpa using this
    by_cases hk8 : k < 8
    · have b1 : (k : Int) < 8 := by omega
      have hix := run_index_slotR H.out k hk8
      have hbd := H.out.bd (2 * k) (by omega)
      have HS : Hid (slotOk z k = decide (0 ≤ z (2 * k) ∧ z (2 * k) ≤ 1000 ∧ 0 ≤ z (2 * k + 1) ∧ z (2 * k + 1) ≤ 4294967295 ∧ (z (2 * k) = 0 → z (2 * k + 1) = 0) ∧ (z (2 * k) ≠ 0 → atT z (z (2 * k)).toNat = k))) := rfl
      have HNO : Hid (slotOk z k = false → rightT z = false) := fun h => rightT_no hk8 h
      obtain ⟨y, hy⟩ : ∃ y, z (2 * k) = y := ⟨_, rfl⟩
      have HY := Lib.hid hy
      rw [hy] at HS hix hbd
      clear hy
      generalize hv : z (2 * k + 1) = v at *
      clear hv
      by_cases hq : 0 ≤ y ∧ y ≤ 1000 ∧ 0 ≤ v ∧ v ≤ 4294967295 ∧ (y = 0 → v = 0)
      · obtain ⟨q1, q2, q3, q4, q5⟩ := hq
        have hw1 : withinB y 0 1000 = true := by simp [withinB]; omega
        have hw2 : withinB v 0 4294967295 = true := by simp [withinB]; omega
        obtain ⟨key, rfl⟩ := Int.eq_ofNat_of_zero_le q1
        by_cases hy0 : key = 0
        · subst hy0
          have hv0 : v = 0 := q5 rfl
          subst hv0
          go_wp2_with (go_at_call 12; refine (within_any _ _ _ _).mono ?_; rintro e w' ⟨rfl, rfl⟩)
          go_roundw
          case rel => exact ⟨k + 1, by omega, by go_num, hb.alloc (by omega) _, Lib.hid fun j hj => by
            rcases Nat.lt_or_ge j k with h | h
            · exact hall.out j h
            · obtain rfl : j = k := by omega
              rw [HS.out]
              simp⟩
          case measure => simp [intOf]; omega
        · have hk0 : ((key : Int) == 0) = false := by simp; omega
          have hk1 : key ≤ 1000 := by omega
          have hR := row_any key
          have HRow := Lib.hid hR
          clear hR
          go_wp2_with (first
            | (go_at_call 12; refine (within_any _ _ _ _).mono ?_; rintro e w' ⟨rfl, rfl⟩)
            | (go_at_call 69; refine (HRow.out _ hk1).mono ?_; rintro e w2 ⟨A2, c2, rfl, hslo, hb2⟩))
          have hzk : z (2 * k) = key := HY.out
          have HZK := Lib.hid hzk
          clear hzk
          obtain ⟨b, off, rfl, hblt, hcell⟩ := hslo.sli.at_ (by omega)
          have HC := Lib.hid hcell
          clear hcell
          have hz2 : w5.heap.size + 1 ≤ w2.heap.size := by have := hb2.size; simpa using this
          have hbx := hb2.mono (show w.heap.size + 1 ≤ _ by simp; omega)
          have hb1x : Below (w.heap.size + 1) w5 (w5.alloc (.cells #[.int .i64 (key : Int), .int .i64 v] 45)) := (Below.refl _ _).alloc (by omega) _
          have HB2 : Below (w.heap.size + 1) (w.alloc (.cells C 47)) w2 := hb.trans (hb1x.trans hbx)
          have hkey : w2.cell? ⟨w5.heap.size, 0, none⟩ = some (.int .i64 (key : Int)) := (hb2.cell (p := ⟨w5.heap.size, 0, none⟩) (by simp)).trans ((Blk.new w5 45 #[.int .i64 (key : Int), .int .i64 v]).cell 0)
          clear hslo hb2 hbx hb1x
          go_loopw [39] (fun jv wr => ∃ j : Nat, j ≤ 8 ∧ jv = .int .i64 j ∧ Below w2.heap.size w2 wr ∧ Hid (∀ j', j' < j → hitB z key j' = false)) (fun jv _ => 8 - (intOf jv).toNat)
          case atStart => exact ⟨0, by omega, rfl, Below.refl _ _, fun j hj => absurd hj (by omega)⟩
          case round =>
            obtain ⟨j, hj, rfl, hbq, hno⟩ := hrel
            by_cases hj8 : j < 8
            · have b2 : (j : Int) < 8 := by omega
              have hrl := rowP_lt key j
              have c1 : wr.cell? ⟨b, off + j, none⟩ = some (.int .i64 ((rowP key j : Nat) : Int)) := (hbq.cell (p := ⟨b, off + j, none⟩) hblt).trans (by rw [HC.out j hj8, rowL_get key 8 j hj8])
              have c2 : wr.cell? ⟨w5.heap.size, 0, none⟩ = some (.int .i64 (key : Int)) := (hbq.cell (p := ⟨w5.heap.size, 0, none⟩) (by show w5.heap.size < w2.heap.size; omega)).trans hkey
              have c3 : wr.cell? ⟨w.heap.size, rowP key j * 2, none⟩ = some (.int .i64 (z (2 * rowP key j))) := (hbq.cell (p := ⟨w.heap.size, rowP key j * 2, none⟩) (by show w.heap.size < w2.heap.size; omega)).trans ((HB2.cell (p := ⟨w.heap.size, rowP key j * 2, none⟩) (by simp)).trans (by rw [Nat.mul_comm, HBK.out.cell, H.out.get _ (by omega)]))
              have HH : Hid (hitB z key j = decide (z (2 * rowP key j) = key ∨ z (2 * rowP key j) = 0)) := rfl
              have HIN : Hid (rowP key j = k → atT z key = k) := fun hh => inner_hit hj8 hk8 HZK.out hno.out hh
              have HMI : Hid (hitB z key j = true → rowP key j ≠ k → atT z key ≠ k) := fun h1 h2 => inner_miss hj8 hno.out h1 h2
              have s1 : w.heap.size < wr.heap.size := by have := hbq.size; omega
              have s2 : w5.heap.size < wr.heap.size := by have := hbq.size; omega
              generalize hr : rowP key j = r at *
              have HR := Lib.hid hr
              clear hr
              have hr8 : (r : Int) < 8 := by omega
              by_cases hrk : r = k
              · have d1 : ((r : Int) == k) = true := by simp [hrk]
                have hat := HIN.out hrk
                have HAT := Lib.hid hat
                clear hat hrk
                go_wp2
                go_roundw
                case rel => exact ⟨k + 1, by omega, by go_num, HB2.trans (hbq.mono (by omega)), Lib.hid fun j' hj' => by
                  rcases Nat.lt_or_ge j' k with h | h
                  · exact hall.out j' h
                  · obtain rfl : j' = k := by omega
                    rw [HS.out]
                    have := HAT.out
                    simp [this]
                    omega⟩
                case measure => simp [intOf]; omega
              · have d1 : ((r : Int) == k) = false := by simp; omega
                generalize hyr : z (2 * r) = yr at *
                clear hyr
                by_cases hz : yr = key ∨ yr = 0
                · have hne : atT z key ≠ k := HMI.out (by rw [HH.out]; simpa using hz) hrk
                  have hf : rightT z = false := HNO.out (by rw [HS.out]; simp [hy0, hne])
                  have HF := Lib.hid hf
                  clear hf hne hrk
                  have hz' := Lib.hid hz
                  clear hz
                  by_cases hz0 : yr = 0
                  · have d2 : (yr == 0) = true := by simpa using hz0
                    clear hz0
                    go_wp2
                    refine wp_region_rely 14 nowhere [] (by kernel_rfl) (by kernel_rfl) ?_
                    iterate 14
                      refine wpRely_step (fun K hK => ?_)
                      first
                      | (refine .inl ?_
                         apply Exists.intro
                         refine ⟨Any, ?_, hK _ _ _ _ ?_⟩
                         · simp only [RelyOp, fillE]
                           refine ⟨?_, fun w9 hw9 _ => ?_⟩
                           · first | rfl | (go_simp; done)
                           obtain ⟨hc9, hf9⟩ := hw9.all
                           go_simp
                           first
                           | exact ⟨⟨rfl, trivial⟩, Keeps.refl _ _⟩
                         clear hK K
                         try simp only [Act.put, List.setIfInBounds_toArray, List.set_cons_zero, List.set_cons_succ])
                      | (refine .inr (.inl ⟨?_, hK _ _ _ _ ?_⟩)
                         · simp only [fillE]
                           first | rfl | (go_simp; done)
                         clear hK K
                         try simp only [Act.put, List.setIfInBounds_toArray, List.set_cons_zero, List.set_cons_succ])
                    refine wpRely_nil ?_
                    simp only [fillE]
                    intro w9 hw9 _
                    obtain ⟨hc9, hf9⟩ := hw9.all
                    go_wp2
                    apply_assumption
                    go_wp2
                    go_ret
                    exact ⟨ret_bool (by rw [HF.out]), Below.trans (by go_grown) ((HB2.trans ((hbq.trans (hw9.same.mono hbq.size)).mono (by omega))).mono (by omega))⟩
                  · have d2 : (yr == 0) = false := by simpa using hz0
                    have d3 : yr = key := by rcases hz'.out with h | h
                                             · exact h
                                             · exact absurd h hz0
                    have d4 : (yr == (key : Int)) = true := by simpa using d3
                    clear hz0 d3
                    go_wp2
                    refine wp_region_rely 14 nowhere [] (by kernel_rfl) (by kernel_rfl) ?_
                    iterate 14
                      refine wpRely_step (fun K hK => ?_)
                      first
                      | (refine .inl ?_
                         apply Exists.intro
                         refine ⟨Any, ?_, hK _ _ _ _ ?_⟩
                         · simp only [RelyOp, fillE]
                           refine ⟨?_, fun w9 hw9 _ => ?_⟩
                           · first | rfl | (go_simp; done)
                           obtain ⟨hc9, hf9⟩ := hw9.all
                           go_simp
                           first
                           | exact ⟨⟨rfl, trivial⟩, Keeps.refl _ _⟩
                         clear hK K
                         try simp only [Act.put, List.setIfInBounds_toArray, List.set_cons_zero, List.set_cons_succ])
                      | (refine .inr (.inl ⟨?_, hK _ _ _ _ ?_⟩)
                         · simp only [fillE]
                           first | rfl | (go_simp; done)
                         clear hK K
                         try simp only [Act.put, List.setIfInBounds_toArray, List.set_cons_zero, List.set_cons_succ])
                    refine wpRely_nil ?_
                    simp only [fillE]
                    intro w9 hw9 _
                    obtain ⟨hc9, hf9⟩ := hw9.all
                    go_wp2
                    apply_assumption
                    go_wp2
                    go_ret
                    exact ⟨ret_bool (by rw [HF.out]), Below.trans (by go_grown) ((HB2.trans ((hbq.trans (hw9.same.mono hbq.size)).mono (by omega))).mono (by omega))⟩
                · have hno' : hitB z key j = false := by rw [HH.out]; simpa using hz
                  have HNO' := Lib.hid hno'
                  have d2 : (yr == 0) = false := by simp; omega
                  have d4 : (yr == (key : Int)) = false := by simp; omega
                  clear hno' hz
                  go_wp2
                  refine wp_region_rely 14 nowhere [] (by kernel_rfl) (by kernel_rfl) ?_
                  iterate 14
                    refine wpRely_step (fun K hK => ?_)
                    first
                    | (refine .inl ?_
                       apply Exists.intro
                       refine ⟨Any, ?_, hK _ _ _ _ ?_⟩
                       · simp only [RelyOp, fillE]
                         refine ⟨?_, fun w9 hw9 _ => ?_⟩
                         · first | rfl | (go_simp; done)
                         obtain ⟨hc9, hf9⟩ := hw9.all
                         go_simp
                         first
                         | exact ⟨⟨rfl, trivial⟩, Keeps.refl _ _⟩
                       clear hK K
                       try simp only [Act.put, List.setIfInBounds_toArray, List.set_cons_zero, List.set_cons_succ])
                    | (refine .inr (.inl ⟨?_, hK _ _ _ _ ?_⟩)
                       · simp only [fillE]
                         first | rfl | (go_simp; done)
                       clear hK K
                       try simp only [Act.put, List.setIfInBounds_toArray, List.set_cons_zero, List.set_cons_succ])
                  refine wpRely_nil ?_
                  simp only [fillE]
                  intro w9 hw9 _
                  obtain ⟨hc9, hf9⟩ := hw9.all
                  go_wp2
                  apply_assumption
                  go_wp2
                  go_roundw
                  case rel => exact ⟨j + 1, by omega, by go_num, hbq.trans (hw9.same.mono hbq.size), Lib.hid fun j' hj' => by
                    rcases Nat.lt_or_ge j' j with h | h
                    · exact hno.out j' h
                    · obtain rfl : j' = j := by omega
                      exact HNO'.out⟩
                  case measure => simp [intOf]; omega
            · exfalso
              obtain rfl : j = 8 := by omega
              exact inner_end hk8 HZK.out hno.out
      · have hf : rightT z = false := HNO.out (by rw [HS.out]; simp only [decide_eq_false_iff_not]; intro h; exact hq ⟨h.1, h.2.1, h.2.2.1, h.2.2.2.1, h.2.2.2.2.1⟩)
        have HF := Lib.hid hf
        clear hf
        have HQ := Lib.hid hq
        clear hq
        go_wp2_with (go_at_call 12; refine (within_any _ _ _ _).mono ?_; rintro e w' ⟨rfl, rfl⟩)
        all_goals first
          | (go_ret
             exact ⟨ret_bool (by rw [HF.out]), Below.trans (by go_grown) ((hb.alloc (by omega) _).mono (by omega))⟩)
          | (exfalso
             apply HQ.out
             simp only [withinB, decide_eq_true_eq, decide_eq_false_iff_not, Bool.not_eq_true', Bool.not_eq_false', beq_iff_eq, bne_iff_ne, beq_eq_false_iff_ne, bne_eq_false_iff_eq, ne_eq] at *
             omega)
    · obtain rfl : k = 8 := by omega
      have HBKr := Lib.hid (HBK.out.below hb (by simp))
      have hlb := lenT_bd z 8
      obtain ⟨l, hl⟩ : ∃ l, lenT z 8 = l := ⟨_, rfl⟩
      rw [hl] at hlb
      have HL := Lib.hid hl
      clear hl
      go_wp2_with (first
        | (refine wpList_load_row rfl 47 _ rfl w.heap.size rfl 47 C (0, 0) _ ?_ HU.out rfl ?_ ?_; (exact HBKr.out); (exact HI.out))
        | (go_at_call 70; refine (refLen_any C z _ H.out).mono ?_; rintro e w2 ⟨rfl, hb2⟩; rw [HL.out]))
      go_ret
      have hall' := hall.out
      exact ⟨ret_bool (by
        by_cases hle : l ≤ 6
        · rw [rightT_end (by rw [HL.out]; exact hle) hall']
          simpa using hle
        · have e : rightT z = false := by
            unfold rightT
            rw [Bool.and_eq_false_iff]
            left
            rw [HL.out]
            simp; omega
          rw [e]
          simpa using hle), Below.trans (by go_grown) ((hb.trans (hb2.mono (by omega))).mono (by omega))⟩
end Go.Proofs.YtkoflhjnpilchaaGreatDoor

namespace Go.Proofs.YtkoflhjnpilchaaGreatDoor
set_option linter.unusedSimpArgs false
set_option linter.unusedVariables false
set_option linter.unusedSectionVars false
open Go.RowKit
attribute [local go_sem ↓] Go.wp_at_zero Go.wp_at_succ

theorem relyAt_load_row {P : Program} {o : Oper} {a : Act} {w : World} {T : Value → World → Prop} (ty : TypeId) (x : Operand) (ho : o.op = .load ty x) (g : Nat) (hx : a.eval x = .pointer (some ⟨g, 0, none⟩))
    (t : TypeId) (cs : Array Value) (d : TypeDesc) (hg : Blk w g t cs) (hu : P.underlying ty = some d) (hd : (match d with | .struct _ | .array _ _ => true | _ => false) = true) (hi : (P.info? ty).map (·.size) = some cs.size)
    (hT : T (.agg cs) w) : relyAt P o a w T := by
  refine relyAt_value (u := .agg cs) ?_ hT
  unfold execOp
  simp only [ho, hx, Instr.loadAt, Instr.sureAddr, Sem.run_bind, Sem.run_pure, Result.andThen_ok, run_loadVar_row w g t ty cs (0, 0) d hg hu hd hi]

theorem I64s.congr {C : Array Value} {n : Nat} {z z' : Nat → Int} (h : I64s C n z) (e : ∀ i, i < n → z' i = z i) : I64s C n z' :=
  ⟨h.size, fun i hi => by rw [e i hi]; exact h.get i hi, fun i hi => by rw [e i hi]; exact h.bd i hi⟩
theorem I64s.set_ {C : Array Value} {n k : Nat} {z : Nat → Int} (h : I64s C n z) {v : Int} (hv : -9223372036854775808 ≤ v ∧ v ≤ 9223372036854775807) : I64s (C.setIfInBounds k (.int .i64 v)) n (fun i => if i = k then v else z i) :=
  ⟨by simp [h.size], fun i hi => by
    rw [Array.getElem?_setIfInBounds]
    by_cases hk : k = i
    · subst hk
      rw [if_pos rfl, if_pos (by rw [h.size]; exact hi), if_pos rfl]
    · rw [if_neg hk, if_neg (fun e => hk e.symm)]
      exact h.get i hi, fun i hi => by
    by_cases hk : i = k
    · rw [if_pos hk]; exact hv
    · rw [if_neg hk]; exact h.bd i hi⟩
theorem I64s.zero (n : Nat) : I64s (Array.replicate n (.int .i64 0)) n (fun _ => 0) :=
  ⟨by simp, fun i hi => by simp [hi], fun _ _ => by decide⟩
theorem I64s.ext {C D : Array Value} {n : Nat} {z : Nat → Int} (h : I64s C n z) (k : I64s D n z) : C = D := by
  apply Array.ext_getElem?
  intro i
  by_cases hi : i < n
  · rw [h.get i hi, k.get i hi]
  · rw [Array.getElem?_eq_none (by rw [h.size]; omega), Array.getElem?_eq_none (by rw [k.size]; omega)]

theorem flatI (n : Nat) {z : Nat → Int} (h : ∀ i, i < (List.replicate n IntKind.i64).length → (Lit.int ((List.replicate n IntKind.i64).getD i .i64) (z i)).wf = true) :
    I64s (cellsK (List.replicate n .i64) z).toArray n z := by
  have hk : ∀ i, i < n → (List.replicate n IntKind.i64).getD i .i64 = .i64 := fun i hi => by simp [hi]
  refine ⟨by simp [cellsK], fun i hi => ?_, fun i hi => ?_⟩
  · simp [cellsK, hi]
  · have h1 := h i (by simpa using hi)
    rw [hk i hi] at h1
    exact bounds_i64 h1

theorem infoT : (Tryz.prog.info? 131).map (·.size) = some 16 := by kernel_rfl

end Go.Proofs.YtkoflhjnpilchaaGreatDoor

namespace Go.Proofs.YtkoflhjnpilchaaGreatDoor
set_option linter.unusedSimpArgs false
set_option linter.unusedVariables false
set_option linter.unusedSectionVars false
open Go.RowKit
attribute [local go_sem ↓] Go.wp_at_zero Go.wp_at_succ

/-- Block g is a table with the numbers z. -/
structure TabAt (w : World) (g : Nat) (t : TypeId) (z : Nat → Int) : Prop where
  ex : ∃ C, Blk w g t C ∧ I64s C 16 z
section
variable {w w' : World} {g : Nat} {t : TypeId} {z : Nat → Int}
theorem TabAt.mk' {C : Array Value} (h : Blk w g t C) (k : I64s C 16 z) : TabAt w g t z := ⟨C, h, k⟩
theorem TabAt.lt (h : TabAt w g t z) : g < w.heap.size := by obtain ⟨C, hb, _⟩ := h.ex; exact hb.lt
theorem TabAt.cell (h : TabAt w g t z) {i : Nat} (hi : i < 16) : w.cell? ⟨g, i, none⟩ = some (.int .i64 (z i)) := by
  obtain ⟨C, hb, hc⟩ := h.ex; rw [hb.cell]; exact hc.get i hi
theorem TabAt.key (h : TabAt w g t z) {i : Nat} (hi : i < 8) : w.cell? ⟨g, i * 2, none⟩ = some (.int .i64 (z (2 * i))) := by rw [Nat.mul_comm]; exact h.cell (by omega)
theorem TabAt.val (h : TabAt w g t z) {i : Nat} (hi : i < 8) : w.cell? ⟨g, i * 2 + 1, none⟩ = some (.int .i64 (z (2 * i + 1))) := by rw [Nat.mul_comm]; exact h.cell (by omega)
theorem TabAt.frozen (h : TabAt w g t z) (i : Nat) : w.frozen? ⟨g, i, none⟩ = false := by obtain ⟨C, hb, _⟩ := h.ex; exact hb.frozen i
theorem TabAt.bd (h : TabAt w g t z) {i : Nat} (hi : i < 16) : -9223372036854775808 ≤ z i ∧ z i ≤ 9223372036854775807 := by obtain ⟨C, _, hc⟩ := h.ex; exact hc.bd i hi
theorem TabAt.below {B : Nat} (h : TabAt w g t z) (hb : Below B w w') (hg : g < B) : TabAt w' g t z := by obtain ⟨C, h1, h2⟩ := h.ex; exact ⟨C, h1.below hb hg, h2⟩
theorem TabAt.alloc (h : TabAt w g t z) (o : Obj) : TabAt (w.alloc o) g t z := by obtain ⟨C, h1, h2⟩ := h.ex; exact ⟨C, h1.alloc o, h2⟩
theorem TabAt.far (h : TabAt w g t z) {p : Addr} (hp : g ≠ p.block) (u : Value) : TabAt (w.setCell p u) g t z := by obtain ⟨C, h1, h2⟩ := h.ex; exact ⟨C, h1.far hp u, h2⟩
theorem TabAt.setS (h : TabAt w g t z) (i : Nat) {k v : Int} (hk : -9223372036854775808 ≤ k ∧ k ≤ 9223372036854775807) (hv : -9223372036854775808 ≤ v ∧ v ≤ 9223372036854775807) :
    TabAt ((w.setCell ⟨g, i * 2, none⟩ (.int .i64 k)).setCell ⟨g, i * 2 + 1, none⟩ (.int .i64 v)) g t (setS z i k v) := by
  obtain ⟨C, h1, h2⟩ := h.ex
  refine ⟨_, (h1.set_ _ _).set_ _ _, ((h2.set_ hk).set_ hv).congr (fun j _ => ?_)⟩
  unfold Proofs.YtkoflhjnpilchaaGreatDoor.setS
  by_cases e1 : j = i * 2 + 1
  · subst e1; rw [if_neg (by omega), if_pos (by omega), if_pos rfl]
  · by_cases e2 : j = i * 2
    · subst e2; rw [if_pos (by omega), if_neg e1, if_pos rfl]
    · rw [if_neg (by omega), if_neg (by omega), if_neg e1, if_neg e2]
end

theorem setS_bd {z : Nat → Int} {i : Nat} {k v : Int} (hz : ∀ j, j < 16 → -9223372036854775808 ≤ z j ∧ z j ≤ 9223372036854775807) (hk : -9223372036854775808 ≤ k ∧ k ≤ 9223372036854775807) (hv : -9223372036854775808 ≤ v ∧ v ≤ 9223372036854775807) :
    ∀ j, j < 16 → -9223372036854775808 ≤ setS z i k v j ∧ setS z i k v j ≤ 9223372036854775807 := fun j hj => by
  unfold setS
  split
  · exact hk
  · split
    · exact hv
    · exact hz j hj

set_option maxRecDepth 100000 in
set_option maxHeartbeats 2000000 in
theorem closed_any (C D : Array Value) (z : Nat → Int) (i m : Nat) (w : World) (h : I64s C 16 z) (b : Beh z i m) (hD : I64s D 16 (runT z i m)) :
    Calls Tryz.prog 82 #[.agg C, .int .i64 i] w fun e w' => e = .returned (.agg D) ∧ Below w.heap.size w w' := by
  have HB := Lib.hid b
  have hi8 := b.hi
  have H := Lib.hid h
  have hDs := Lib.hid hD.size
  have h1 := hD.one
  have HD := Lib.hid hD
  have hm6 := b.m6
  clear h b hD
  have hi8' : (i : Int) < 8 := by omega
  have hr0 : Hid (((i : Int) + 1) % 8 = ((kk i 0 : Nat) : Int)) := by show _ = _; unfold kk; omega
  have HT0 : Hid (TabAt (w.alloc (.cells C 131)) w.heap.size 131 z) := Lib.hid (TabAt.mk' (Blk.new _ _ _) H.out)
  have k0 : C[i * 2]? = some (.int .i64 (z (2 * i))) := by rw [Nat.mul_comm]; exact H.out.get _ (by omega)
  have k1 : C[i * 2 + 1]? = some (.int .i64 (z (2 * i + 1))) := by rw [Nat.mul_comm]; exact H.out.get _ (by omega)
  go_enter Tryz.func82, Tryz.ntmps82
  go_wp2
  have hT1 : TabAt ((w.alloc (.cells ((C.setIfInBounds (i * 2) (.int .i64 0)).setIfInBounds (i * 2 + 1) (.int .i64 0)) 131)).alloc (.cells #[.int .i64 0, .int .i64 0, .int .i64 0, .int .i64 0, .int .i64 0, .int .i64 0, .int .i64 0, .int .i64 0, .int .i64 0, .int .i64 0, .int .i64 0, .int .i64 0, .int .i64 0, .int .i64 0, .int .i64 0, .int .i64 0] 131)) w.heap.size 131 (setS z i 0 0) := by
    refine TabAt.mk' ((Blk.new _ _ _).alloc _) (((H.out.set_ (by decide)).set_ (by decide)).congr (fun x _ => ?_))
    unfold setS
    by_cases e1 : x = i * 2 + 1
    · subst e1; rw [if_neg (by omega), if_pos (by omega), if_pos rfl]
    · by_cases e2 : x = i * 2
      · subst e2; rw [if_pos (by omega), if_neg e1, if_pos rfl]
      · rw [if_neg (by omega), if_neg (by omega), if_neg e1, if_neg e2]
  have HT1 := Lib.hid hT1
  clear hT1
  go_loopw [5] (fun s wr => ∃ j : Nat, j ≤ m ∧ s = .int .i64 ((kk i j : Nat) : Int) ∧ Hid (TabAt wr w.heap.size 131 (runT z i j)) ∧ Hid (Blk wr (w.heap.size + 1) 131 #[.int .i64 0, .int .i64 0, .int .i64 0, .int .i64 0, .int .i64 0, .int .i64 0, .int .i64 0, .int .i64 0, .int .i64 0, .int .i64 0, .int .i64 0, .int .i64 0, .int .i64 0, .int .i64 0, .int .i64 0, .int .i64 0]) ∧ Below w.heap.size w wr) (fun s _ => 8 - ((intOf s).toNat + 7 - i) % 8)
  case atStart => exact ⟨0, by omega, val_int hr0.out, HT1, Lib.hid (Blk.newAt _ _ _ (by simp)), by go_grown⟩
  case round =>
    obtain ⟨j, hjm, rfl, hT, hZ, hb⟩ := hrel
    have hgl := hT.out.lt
    have hzl := hZ.out.lt
    by_cases hj : j < m
    · have hq8 := kk_lt i j
      have hnx : (((kk i j : Nat) : Int) + 1) % 8 = ((kk i (j + 1) : Nat) : Int) := by unfold kk; omega
      have hme : 8 - (kk i (j + 1) + 7 - i) % 8 < 8 - (kk i j + 7 - i) % 8 := by unfold kk; omega
      obtain ⟨y1, y2, v1, v2⟩ := HB.out.bd hj
      have hT2 := HB.out.run j (by omega)
      obtain ⟨p, hp8, hat, _⟩ := HB.out.step hj hT2
      have hstep : runT z i (j + 1) = setS (setS (runT z i j) (kk i j) 0 0) p (runT z i j (2 * kk i j)) (runT z i j (2 * kk i j + 1)) := by
        show stepT (runT z i j) (kk i j) = _
        unfold stepT
        rw [hat, Int.toNat_natCast]
      have c0 := hT.out.key hq8
      have c1 := hT.out.val hq8
      clear hT2
      have hmm : m ≤ 6 := hm6
      generalize hq : kk i j = q at *
      generalize hTT : runT z i j = T at *
      generalize hy : T (2 * q) = y at *
      generalize hv : T (2 * q + 1) = v at *
      have f0 := hT.out.frozen (q * 2)
      have f1 := hT.out.frozen (q * 2 + 1)
      have hyb : (y != 0) = true := by simp; omega
      have hq8' : (q : Int) < 8 := by omega
      have HAT := Lib.hid hat
      have HST := Lib.hid hstep
      have HNX := Lib.hid hnx
      have HQ := Lib.hid hq
      have HME := Lib.hid hme
      clear hat hstep hTT hy hv hnx hq hme
      have hyi : -9223372036854775808 ≤ y ∧ y ≤ 9223372036854775807 := by omega
      have hvi : -9223372036854775808 ≤ v ∧ v ≤ 9223372036854775807 := by omega
      have hU := Lib.hid ((hT.out.setS q (k := 0) (v := 0) (by decide) (by decide)).alloc (.cells #[.int .i64 y, .int .i64 v] 129))
      have hS : Blk (((wr.setCell ⟨w.heap.size, q * 2, none⟩ (.int .i64 0)).setCell ⟨w.heap.size, q * 2 + 1, none⟩ (.int .i64 0)).alloc (.cells #[.int .i64 y, .int .i64 v] 129)) wr.heap.size 129 #[.int .i64 y, .int .i64 v] := Blk.newAt _ _ _ (by simp)
      have hZ2 := Lib.hid (((hZ.out.far (p := ⟨w.heap.size, q * 2, none⟩) (by simp) (.int .i64 0)).far (p := ⟨w.heap.size, q * 2 + 1, none⟩) (by simp) (.int .i64 0)).alloc (.cells #[.int .i64 y, .int .i64 v] 129))
      have hb2 : Below w.heap.size w (((wr.setCell ⟨w.heap.size, q * 2, none⟩ (.int .i64 0)).setCell ⟨w.heap.size, q * 2 + 1, none⟩ (.int .i64 0)).alloc (.cells #[.int .i64 y, .int .i64 v] 129)) := by go_grown
      go_wp2
      clear c0 c1 f0 f1 hT hZ hb
      generalize ((wr.setCell ⟨w.heap.size, q * 2, none⟩ (.int .i64 0)).setCell ⟨w.heap.size, q * 2 + 1, none⟩ (.int .i64 0)).alloc (.cells #[.int .i64 y, .int .i64 v] 129) = W at *
      have hgl2 := hU.out.lt
      have hsl := hS.lt
      have s0 := hS.cell 0
      have s1 := hS.cell 1
      simp only [List.getElem?_toArray, List.getElem?_cons_zero, List.getElem?_cons_succ] at s0 s1
      obtain ⟨CU, hCU, hIU⟩ := hU.out.ex
      have HCU := Lib.hid hCU
      have HIU := Lib.hid hIU
      clear hCU hIU hS
      have hp8' : (p : Int) < 8 := by omega
      have hcall : ∀ w9, Below W.heap.size W w9 → Calls Tryz.prog 81 #[.pointer (some ⟨w.heap.size, 0, none⟩), .int .i64 y] w9 fun e w' => e = .returned (.int .i64 (p : Int)) ∧ Below w9.heap.size w9 w' := fun w9 h9 => by
        rw [← HAT.out]
        exact at_int CU _ w.heap.size y w9 HIU.out (HCU.out.below h9 hgl2) (by omega) y2
      have HCALL := Lib.hid hcall
      clear hcall
      have c0 := hU.out.key hp8
      have c1 := hU.out.val hp8
      have f0 := hU.out.frozen (p * 2)
      have f1 := hU.out.frozen (p * 2 + 1)
      refine wp_region_rely 5 nowhere [] (by kernel_rfl) (by kernel_rfl) ?_
      iterate 5
        refine wpRely_step (fun K hK => ?_)
        first
        | (refine .inl ?_
           apply Exists.intro
           refine ⟨Any, ?_, hK _ _ _ _ ?_⟩
           · simp only [RelyOp, fillE]
             refine ⟨?_, fun w9 hw9 _ => ?_⟩
             · first | rfl | (go_simp; done)
             obtain ⟨hc9, hf9⟩ := hw9.all
             go_simp
             first
             | exact ⟨⟨rfl, trivial⟩, Keeps.refl _ _⟩
             | (go_at_call 81; exact rely_det (HCALL.out w9 hw9.same))
           clear hK K
           try simp only [Act.put, List.setIfInBounds_toArray, List.set_cons_zero, List.set_cons_succ])
        | (refine .inr (.inl ⟨?_, hK _ _ _ _ ?_⟩)
           · simp only [fillE]
             first | rfl | (go_simp; done)
           clear hK K
           try simp only [Act.put, List.setIfInBounds_toArray, List.set_cons_zero, List.set_cons_succ])
      refine wpRely_nil ?_
      simp only [fillE]
      intro w9 hw9 _
      obtain ⟨hc9, hf9⟩ := hw9.all
      go_wp2
      have hbw := hw9.same
      refine ⟨⟨j + 1, by omega, val_int HNX.out, Lib.hid ?_, Lib.hid (((hZ2.out.below hbw (by omega)).far (by simp) _).far (by simp) _), ((hb2.trans (hbw.mono hb2.size)).setCell (by simp) _).setCell (by simp) _⟩, ?_⟩
      · rw [HST.out]
        exact (hU.out.below hbw hgl2).setS p hyi hvi
      · have h1 := HME.out
        have h2 := HNX.out
        simp only [RowKit.intOf, Array.getD_eq_getD_getElem?] at *
        simp [intOf]
        omega
    · obtain rfl : j = m := by omega
      have c0 := hT.out.key (kk_lt i j)
      rw [HB.out.end_] at c0
      obtain ⟨E, hE, hIE⟩ := hT.out.ex
      obtain rfl : E = D := hIE.ext HD.out
      have hq8 := kk_lt i j
      have HBl := Lib.hid hE
      clear hE hIE
      generalize kk i j = q at *
      have hq8' : (q : Int) < 8 := by omega
      go_wp2_with (first
        | (refine wpList_load_row rfl 131 _ rfl w.heap.size rfl 131 E (0, 0) _ ?ha Tryz.underlying131 rfl ?hb1 ?_)
        | (refine wpList_store_row rfl 131 _ _ rfl (w.heap.size + 1) E rfl rfl 131 #[.int .i64 0, .int .i64 0, .int .i64 0, .int .i64 0, .int .i64 0, .int .i64 0, .int .i64 0, .int .i64 0, .int .i64 0, .int .i64 0, .int .i64 0, .int .i64 0, .int .i64 0, .int .i64 0, .int .i64 0, .int .i64 0] ?hg ?hj ?ho h1 ?_))
      case ha => exact HBl.out
      case hb1 => rw [infoT, hDs.out]
      case hg => exact hZ.out
      case hj => rw [infoT, hDs.out]
      case ho => rw [hDs.out]; rfl
      refine bodyPost_ret (results_cell_row Tryz.results82 _ _ (w.heap.size + 1) 131 E (0, 0) _ rfl (hZ.out.setRow E) Tryz.underlying131 rfl (by rw [infoT, hDs.out])) rfl ⟨rfl, below_setRow hb (by omega) _⟩
end Go.Proofs.YtkoflhjnpilchaaGreatDoor

namespace Go.Proofs.YtkoflhjnpilchaaGreatDoor
set_option linter.unusedSimpArgs false
set_option linter.unusedVariables false
set_option linter.unusedSectionVars false
open Go.RowKit
set_option linter.unusedSimpArgs false
set_option linter.unusedVariables false
attribute [local go_sem ↓] Go.wp_at_zero Go.wp_at_succ

theorem thing_mk (w : World) : (Instr.makeSlice 26 (.int .i64 17) (.int .i64 17)).run Tryz.prog w = .ok (.slice (some ⟨w.heap.size, 0, none⟩) 17 17) (w.alloc (.cells (Array.replicate 17 (.int .u64 0)) 22)) := by kernel_rfl

/-- A thing's cells. -/
structure ThR (C : Array Value) (kind : Int) (A : Option Addr) (n c : Nat) (d : Nat → Int) (N : Int) : Prop where
  size : C.size = 19
  kind_ : C[0]? = some (.int .i64 kind)
  list : C[1]? = some (.slice A n c)
  slot : ∀ i, i < 16 → C[2 + i]? = some (.int .i64 (d i))
  num : C[18]? = some (.int .i64 N)
/-- A list's words. -/
def listW (n : Nat) (xs : List Int) (i : Nat) : Int := if i = 0 then n else if i ≤ n then xs[i - 1]?.getD 0 else 0
/-- The words so far: k of them. -/
def listK (n k : Nat) (xs : List Int) (i : Nat) : Int := if i = 0 then n else if i ≤ k then xs[i - 1]?.getD 0 else 0

def CellsOut (z : Nat → Int) (w : World) (e : Ending) (w' : World) : Prop :=
  ∃ g D, e = .returned (.slice (some ⟨g, 0, none⟩) 17 17) ∧ Blk w' g 22 D ∧ U64s D 17 z ∧ w.heap.size ≤ g ∧ Below w.heap.size w w'

set_option maxHeartbeats 1000000 in
theorem cells_tally (C : Array Value) (A : Option Addr) (n c : Nat) (d : Nat → Int) (N : Int) (w : World) (h : ThR C 6 A n c d N) (hN : 0 ≤ N ∧ N ≤ 9223372036854775807) :
    Calls Tryz.prog 28 #[.agg C] w (CellsOut (fun i => if i = 0 then N else 0) w) := by
  have k0 := h.kind_
  have k18 := h.num
  have hmk := thing_mk
  have hw : N % 18446744073709551616 = N := by omega
  have HU : Hid (U64s ((Array.replicate 17 (.int .u64 0)).setIfInBounds 0 (.int .u64 N)) 17 (fun i => if i = 0 then N else 0)) := Lib.hid ((U64s.zero 17).set_ (k := 0) (by omega))
  clear h
  go_enter Tryz.func28, Tryz.ntmps28
  go_wp2
  go_ret
  exact ⟨w.heap.size + 1, _, rfl, Blk.newAt _ _ _ (by simp), HU.out, by omega, by go_grown⟩

set_option maxHeartbeats 1000000 in
theorem cells_list (C : Array Value) (kind : Int) (A : Option Addr) (n c : Nat) (xs : List Int) (d : Nat → Int) (N : Int) (w : World) (h : ThR C kind A n c d N) (hl : SlI w A n c xs) (hn : n ≤ 16) (hx : ∀ i : Nat, i < n → 0 ≤ xs[i]?.getD 0)
    (h5 : kind ≠ 5) (h6 : kind ≠ 6) :
    Calls Tryz.prog 28 #[.agg C] w (CellsOut (listW n xs) w) := by
  have k0 := h.kind_
  have k1 := h.list
  have hmk := thing_mk
  have hw : (n : Int) % 18446744073709551616 = n := by omega
  have e5 : (kind == 5) = false := by simpa using h5
  have e6 : (kind == 6) = false := by simpa using h6
  have HU : Hid (U64s ((Array.replicate 17 (.int .u64 0)).setIfInBounds 0 (.int .u64 n)) 17 (listK n 0 xs)) := Lib.hid (((U64s.zero 17).set_ (k := 0) (v := n) (by omega)).congr (fun i hi => by
    unfold listK
    by_cases h0 : i = 0
    · rw [if_pos h0, if_pos h0]
    · rw [if_neg h0, if_neg h0, if_neg (by omega)]))
  have HX := Lib.hid hx
  have HL := Lib.hid hl
  clear h h5 h6 hx hl
  go_enter Tryz.func28, Tryz.ntmps28
  go_wp2
  go_loopw [20] (fun i wr => ∃ k : Nat, k ≤ n ∧ i = .int .i64 k ∧ Hid (∃ D, Blk wr (w.heap.size + 1) 22 D ∧ U64s D 17 (listK n k xs)) ∧ Below w.heap.size w wr) (fun i _ => n - (intOf i).toNat)
  case atStart => exact ⟨0, by omega, rfl, Lib.hid ⟨_, Blk.newAt _ _ _ (by simp), HU.out⟩, by go_grown⟩
  case round =>
    obtain ⟨k, hk, rfl, hD, hb⟩ := hrel
    by_cases hkn : k < n
    · have b1 : (k : Int) < n := by omega
      obtain ⟨D, hB, hU⟩ := hD.out
      clear hD
      obtain ⟨b, off, rfl, hblt, hcell⟩ := HL.out.at_ (by omega)
      have hc1 : wr.cell? ⟨b, off + k, none⟩ = some (.int .i64 (xs[k]?.getD 0)) := (hb.cell (p := ⟨b, off + k, none⟩) hblt).trans (hcell k hkn)
      have bd1 := HL.out.bd k
      have bd0 := HX.out k hkn
      have hnc := HL.out.cap
      have c63 := HL.out.cap63
      clear hcell
      have hq := hB.cell (k + 1)
      rw [hU.get (k + 1) (by omega)] at hq
      have hf := hB.frozen (k + 1)
      have HB := Lib.hid hB
      have HU2 := Lib.hid hU
      generalize hv : xs[k]?.getD 0 = v at hc1 bd1 bd0
      have HV := Lib.hid hv
      clear hB hU hv
      have hw2 : v % 18446744073709551616 = v := by omega
      go_wp2
      go_roundw
      case rel => exact ⟨k + 1, by omega, by go_num, Lib.hid ⟨_, HB.out.set_ (k + 1) _, (HU2.out.set_ (k := k + 1) (v := v) (by omega)).congr (fun i hi => by
        have hv := HV.out
        unfold listK
        by_cases h0 : i = k + 1
        · subst h0
          rw [if_pos rfl, if_neg (by omega), if_pos (by omega), Nat.add_sub_cancel, hv]
        · rw [if_neg h0]
          by_cases h1 : i = 0
          · rw [if_pos h1, if_pos h1]
          · rw [if_neg h1, if_neg h1]
            by_cases h2 : i ≤ k
            · rw [if_pos h2, if_pos (by omega)]
            · rw [if_neg h2, if_neg (by omega)])⟩, hb.setCell (by show w.heap.size ≤ w.heap.size + 1; omega) _⟩
      case measure => simp [intOf]; omega
    · obtain rfl : k = n := by omega
      go_wp2
      go_ret
      obtain ⟨D, hB, hU⟩ := hD.out
      exact ⟨w.heap.size + 1, D, rfl, hB, hU, by omega, hb⟩

/-- A table's words so far: k slots of them. -/
def slotK (k : Nat) (d : Nat → Int) (i : Nat) : Int := if i < 2 * k then d i else 0
theorem info52 : (Tryz.prog.info? 47).map (·.size) = some 16 := by kernel_rfl

set_option maxRecDepth 100000 in
set_option maxHeartbeats 2000000 in
theorem cells_table (C : Array Value) (A : Option Addr) (n c : Nat) (d : Nat → Int) (N : Int) (w : World) (h : ThR C 5 A n c d N) (hd : ∀ i, i < 16 → 0 ≤ d i ∧ d i ≤ 9223372036854775807) :
    Calls Tryz.prog 28 #[.agg C] w (CellsOut (slotK 8 d) w) := by
  have k0 := h.kind_
  have hmk := thing_mk
  obtain ⟨D, hD⟩ : ∃ D, D = C.extract 2 18 := ⟨_, rfl⟩
  have hI : I64s D 16 d := by
    have hs := h.size
    refine ⟨by rw [hD]; simp; omega, fun i hi => ?_, fun i hi => by have := hd i hi; omega⟩
    rw [hD, Array.getElem?_extract, if_pos (by omega)]
    exact h.slot i hi
  have HI := Lib.hid hI
  have HS := Lib.hid hI.size
  have HD := Lib.hid hD
  have HB := Lib.hid hd
  have HU : Hid (U64s (Array.replicate 17 (.int .u64 0)) 17 (slotK 0 d)) := Lib.hid ((U64s.zero 17).congr (fun i hi => by unfold slotK; rw [if_neg (by omega)]))
  clear h hd hD hI
  go_enter Tryz.func28, Tryz.ntmps28
  go_wp2_with (refine wpList_load_mid rfl 47 _ rfl w.heap.size 2 rfl D.toList _ ?hc Tryz.underlying47 rfl ?hi ?_)
  case hc =>
    rw [HD.out]
    exact World.rangeAt_of_block (t := 49) (fr := (0, 0)) (((Blk.new w 49 C).alloc _)) 2 16
  case hi => rw [info52, Array.length_toList, HS.out]
  go_wp2
  go_loopw [36] (fun i wr => ∃ k : Nat, k ≤ 8 ∧ i = .int .i64 k ∧ Hid (∃ E, Blk wr (w.heap.size + 1) 22 E ∧ U64s E 17 (slotK k d)) ∧ Below w.heap.size w wr) (fun i _ => 8 - (intOf i).toNat)
  case atStart => exact ⟨0, by omega, rfl, Lib.hid ⟨_, Blk.newAt _ _ _ (by simp), HU.out⟩, by go_grown⟩
  case round =>
    obtain ⟨k, hk, rfl, hE, hb⟩ := hrel
    by_cases hk8 : k < 8
    · have b1 : (k : Int) < 8 := by omega
      obtain ⟨E, hB, hU⟩ := hE.out
      clear hE
      have hix := run_index_slotR HI.out k hk8
      have hx := HB.out (2 * k) (by omega)
      have hy := HB.out (2 * k + 1) (by omega)
      have HK : Hid (∀ i, slotK (k + 1) d i = if i = 2 * k + 1 then d (2 * k + 1) else if i = 2 * k then d (2 * k) else slotK k d i) := Lib.hid fun i => by
        unfold slotK
        by_cases h1 : i = 2 * k + 1
        · subst h1
          rw [if_pos (by omega), if_pos rfl]
        · rw [if_neg h1]
          by_cases h2 : i = 2 * k
          · subst h2
            rw [if_pos (by omega), if_pos rfl]
          · rw [if_neg h2]
            by_cases h3 : i < 2 * k
            · rw [if_pos h3, if_pos (by omega)]
            · rw [if_neg h3, if_neg (by omega)]
      generalize hdx : d (2 * k) = x at hx hix HK
      generalize hdy : d (2 * k + 1) = y at hy hix HK
      have HDX := Lib.hid hdx
      have HDY := Lib.hid hdy
      clear hdx hdy
      have hwx : x % 18446744073709551616 = x := by omega
      have hwy : y % 18446744073709551616 = y := by omega
      have q0 := (hB.alloc (.cells #[.int .i64 x, .int .i64 y] 45)).cell (2 * k)
      rw [hU.get (2 * k) (by omega)] at q0
      have q1 := (hB.alloc (.cells #[.int .i64 x, .int .i64 y] 45)).cell (2 * k + 1)
      rw [hU.get (2 * k + 1) (by omega)] at q1
      have f0 := (hB.alloc (.cells #[.int .i64 x, .int .i64 y] 45)).frozen (2 * k)
      have f1 := (hB.alloc (.cells #[.int .i64 x, .int .i64 y] 45)).frozen (2 * k + 1)
      have s0 := (Blk.new wr 45 #[.int .i64 x, .int .i64 y]).cell 0
      have s1 := (Blk.new wr 45 #[.int .i64 x, .int .i64 y]).cell 1
      simp only [List.getElem?_toArray, List.getElem?_cons_zero, List.getElem?_cons_succ] at s0 s1
      have hne : w.heap.size + 1 ≠ wr.heap.size := by have := hB.lt; omega
      have HB5 := Lib.hid (hB.alloc (.cells #[.int .i64 x, .int .i64 y] 45))
      have HBB := Lib.hid (hb.alloc hb.size (.cells #[.int .i64 x, .int .i64 y] 45))
      have HUU := Lib.hid hU
      clear hB hU hb
      go_wp2
      generalize wr.alloc (.cells #[.int .i64 x, .int .i64 y] 45) = w5 at *
      generalize wr.heap.size = gs at *
      go_region
      apply_assumption
      go_wp2
      go_roundw
      case rel => exact ⟨k + 1, by omega, by go_num, Lib.hid ⟨_, (HB5.out.set_ (2 * k) _).set_ (2 * k + 1) _, ((HUU.out.set_ (k := 2 * k) (v := x) (by omega)).set_ (k := 2 * k + 1) (v := y) (by omega)).congr (fun i hi => HK.out i)⟩,
        ((HBB.out.setCell (p := ⟨w.heap.size + 1, 2 * k, none⟩) (by show w.heap.size ≤ w.heap.size + 1; omega) _).setCell (p := ⟨w.heap.size + 1, 2 * k + 1, none⟩) (by show w.heap.size ≤ w.heap.size + 1; omega) _).drew⟩
      case measure => simp [intOf]; omega
    · obtain rfl : k = 8 := by omega
      go_wp2
      go_ret
      obtain ⟨E, hB, hU⟩ := hE.out
      exact ⟨w.heap.size + 1, E, rfl, hB, hU, by omega, hb⟩
end Go.Proofs.YtkoflhjnpilchaaGreatDoor
