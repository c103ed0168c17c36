/-
  What gristmillref.Heap returns: for lists of at most 60 numbers.
-/
import Derived.Test.YtkoflhjnpilchaaGreatDoorMHeap
import Derived.Test.YtkoflhjnpilchaaGreatDoorEnds
import Derived.Test.YtkoflhjnpilchaaGreatDoorMBase
namespace Go.Proofs.YtkoflhjnpilchaaGreatDoor
set_option linter.unusedSimpArgs false
set_option linter.unusedVariables false
set_option linter.unusedSectionVars false
open Go.RowKit
attribute [local go_sem ↓] Go.wp_at_zero Go.wp_at_succ

set_option linter.unusedSimpArgs false in
set_option maxRecDepth 100000 in
set_option maxHeartbeats 2000000 in
theorem refHeap_put (A : Option Addr) (n c : Nat) (xs : List Int) (k v : Int) (w : World) (h : SlI w A n c xs) (hn : n < 6) (hv : -9223372036854775808 ≤ v ∧ v ≤ 9223372036854775807) :
    Calls Tryz.prog 47 #[.slice A n c, .agg #[.int .i64 1, .int .i64 k, .int .i64 v]] w (RetL (rise (xs ++ [v]) n) 1 0 w) := by
  have hl := Lib.hid h.len
  have H := Lib.hid h
  clear h
  have hv' := Lib.hid hv
  clear hv
  have d0 : decide ((n : Int) < 6) = true := by simp; omega
  go_enter Tryz.func47, Tryz.ntmps47
  go_wp2_with (first
    | (at_builtin; refine wpList_append_copy rfl (.const (.slice none 0 0)) (.tmp 14) rfl rfl rfl (H.out.below (by go_grown)) (by omega) ?_; intro A1 c1 w1 hown hb1; obtain ⟨hc, hf⟩ := bcell hb1; have hz := hb1.size; simp only [World.size_alloc] at hz; have hB : Below w.heap.size w w1 := Below.trans (by go_grown) (hb1.mono (by simp; omega)); replace hown := hown.mono (B' := w.heap.size + 2) (by simp); have q1 : w.heap.size + 1 < w1.heap.size := (by omega); have q0 : w.heap.size < w1.heap.size := (by omega); have hown' := Lib.hid hown; clear hown; have r0 := hc (w.heap.size + 1) 0 (by simp); have r1 := hc (w.heap.size + 1) 1 (by simp); have p0 := hf (w.heap.size + 1) 0 (by simp); have p1 := hf (w.heap.size + 1) 1 (by simp); simp [go_sem] at r0 r1 p0 p1; have m1 : ¬ w.heap.size + 1 = w1.heap.size := (by omega))
    | (go_at_call 12; refine (within_any _ _ _ _).mono ?_; rintro e w' ⟨rfl, rfl⟩)
    | (at_builtin; refine wpList_append1 rfl (.tmp 43) (.tmp 46) rfl (B := w.heap.size + 2) rfl (hown'.out.alloc _) rfl ((Blk.new _ _ _).cell 0) (by omega) (by simp; omega) ?_; intro g2 c2 w2 hown2 hb2; obtain ⟨hc2, hf2⟩ := bcell hb2; have hz2 := hb2.size; simp only [World.size_alloc] at hz2; have hB2 : Below w.heap.size w w2 := Below.trans (by go_grown) (hb2.mono (by simp)); have s0 := (hc2 (w.heap.size + 1) 0 (by simp)).trans ((cell_alloc_lt (by omega)).trans r0); have s1 := (hc2 (w.heap.size + 1) 1 (by simp)).trans ((cell_alloc_lt (by omega)).trans r1); have y0 := (hf2 (w.heap.size + 1) 0 (by simp)).trans ((frozen_alloc_lt (by omega)).trans p0); have y1 := (hf2 (w.heap.size + 1) 1 (by simp)).trans ((frozen_alloc_lt (by omega)).trans p1); have hsl2 := Lib.hid (hown2.sli (IBd.app H.out.bd hv'.out)); obtain ⟨g3, hg3, hBg, hrow⟩ := hown2.row (IBd.app H.out.bd hv'.out) (by omega); cases hg3; have hrow' := Lib.hid hrow; clear hrow hown2; have q3 : w.heap.size + 1 < w2.heap.size := (by omega); have q4 : w.heap.size < w2.heap.size := (by omega); have m2 : ¬ w.heap.size + 1 = w2.heap.size := (by omega)))
  have hu := Lib.hid hc2
  have hu2 := Lib.hid hf2
  have hu3 := Lib.hid hc
  have hu4 := Lib.hid hf
  clear hc hf hc2 hf2
  go_loopw [6] (fun i wr => ∃ (k : Nat) (R : List Int), k ≤ n ∧ i = .int .i64 k ∧ Hid (RowI wr g2 (n + 1) R) ∧ Hid (rise R k = rise (xs ++ [v]) n) ∧ Hid (Keeps (fun b => b = g2) w2 wr)) (fun i _ => (intOf i).toNat)
  case atStart => exact ⟨n, _, by omega, rfl, hrow', Lib.hid rfl, Lib.hid (Keeps.refl _ _)⟩
  case round =>
    obtain ⟨k, R, hk, rfl, hR, hI, hKp⟩ := hrel
    have hz5 := hKp.out.size
    have hlt := hR.out.lt
    have q5 : w.heap.size + 1 < wr.heap.size := by omega
    have t0 := (hKp.out.cell (p := ⟨w.heap.size + 1, 0, none⟩) q3 (by show ¬ w.heap.size + 1 = g2; omega)).trans s0
    have t1 := (hKp.out.cell (p := ⟨w.heap.size + 1, 1, none⟩) q3 (by show ¬ w.heap.size + 1 = g2; omega)).trans s1
    have z0 := (hKp.out.frozen (p := ⟨w.heap.size + 1, 0, none⟩) q3 (by show ¬ w.heap.size + 1 = g2; omega)).trans y0
    have z1 := (hKp.out.frozen (p := ⟨w.heap.size + 1, 1, none⟩) q3 (by show ¬ w.heap.size + 1 = g2; omega)).trans y1
    have m2 : ¬ w.heap.size + 1 = wr.heap.size := by omega
    by_cases hk0 : 0 < k
    · have q1 : (k : Int) ≤ n := by omega
      have hkn : k < n + 1 := by omega
      have x1 := hR.out.cell hkn
      have x2 := hR.out.cell (i := (k - 1) / 2) (by omega)
      have b2 : ((k : Int) - 1) / 2 < n + 1 := by omega
      have b3 : 0 ≤ ((k : Int) - 1) / 2 := by omega
      have b4 : 0 < (k : Int) := by omega
      have b5 : (k : Int) < n + 1 := by omega
      have hne : k ≠ (k - 1) / 2 := by omega
      have hbx := hR.out.bd.gI k
      have hby := hR.out.bd.gI ((k - 1) / 2)
      have hS : Hid (gI R k < gI R ((k - 1) / 2) → rise R k = rise ((R.set k (gI R ((k - 1) / 2))).set ((k - 1) / 2) (gI R k)) ((k - 1) / 2)) := fun h => rise_step ⟨hk0, h⟩
      have hE : Hid (¬ gI R k < gI R ((k - 1) / 2) → rise R k = R) := fun h => rise_end (fun h' => h h'.2)
      generalize hx : gI R k = x at *
      generalize hy : gI R ((k - 1) / 2) = y at *
      have hx := Lib.hid hx
      have hy := Lib.hid hy
      go_wp2
      go_quiet (fail)
      have hR2 := Lib.hid (hR.out.drewN nq)
      have hK2 := Lib.hid (hKp.out.drewN nq)
      have hlt2 : g2 < (wr.drewN nq).heap.size := hlt
      have q5' : w.heap.size + 1 < (wr.drewN nq).heap.size := q5
      have m2' : ¬ w.heap.size + 1 = (wr.drewN nq).heap.size := m2
      have t0' : (wr.drewN nq).cell? ⟨w.heap.size + 1, 0, none⟩ = _ := t0
      have t1' : (wr.drewN nq).cell? ⟨w.heap.size + 1, 1, none⟩ = _ := t1
      have z0' : (wr.drewN nq).frozen? ⟨w.heap.size + 1, 0, none⟩ = _ := z0
      have z1' : (wr.drewN nq).frozen? ⟨w.heap.size + 1, 1, none⟩ = _ := z1
      clear x1 x2 hlt hR hKp t0 t1 z0 z1 m2 q5 hz5
      generalize wr.drewN nq = W at *
      go_wp2_with (go_at_call 71; refine (said_any _ _ _).mono ?_; rintro e w5 ⟨rfl, rfl⟩)
      · have hge : y ≤ x := by assumption
        have hEE := Lib.hid (hE.out (by omega))
        clear hge
        refine bodyPost_ret (by simp [results, Tryz.results47, go_sem, t0', t1', m2', q5']; try rfl; done) rfl ?_
        refine RetL.alloc (retL_slo (hR2.out.slo hBg hsl2.out.cap hsl2.out.cap63) (rowKeepsBelow hB2 hK2.out (by omega)) ?_ ?_ ?_ ?_ (by rw [← hI.out, hEE.out]) rfl rfl) _
        all_goals first | (show w.heap.size + 1 < w.heap.size + 2; omega) | (show w.heap.size ≤ w.heap.size + 1; omega)
      · have hlt1 : x < y := by assumption
        clear t0' t1' z0' z1' m2' q5'
        have x1 := hR2.out.cell hkn
        have x2 := hR2.out.cell (i := (k - 1) / 2) (by omega)
        rw [hx.out] at x1
        rw [hy.out] at x2
        have f1 := hR2.out.frozen k
        have f2 := hR2.out.frozen ((k - 1) / 2)
        have hSS := Lib.hid (hS.out hlt1)
        have e1 : IntKind.i64.wrap ((k : Int) - 1) = (k : Int) - 1 := IntWalk.i64_in _ (by omega)
        have e2 : IntKind.i64.wrap (((k : Int) - 1).tdiv 2) = ((k : Int) - 1) / 2 := by rw [Int.tdiv_eq_ediv_of_nonneg (by omega)]; exact IntWalk.i64_in _ (by omega)
        have e3 : (((k : Int) - 1) / 2).toNat = (k - 1) / 2 := by omega
        go_region
        all_goals go_wp2
        all_goals (refine ⟨⟨(k - 1) / 2, _, by omega, val_int (by omega), Lib.hid ?_, Lib.hid (hSS.out.symm.trans hI.out), Lib.hid ?_⟩, by simp [intOf]; omega⟩)
        all_goals first
          | exact ((hR2.out.set hby (by omega)).set hbx (by omega)).drew
          | (rw [List.set_comm _ _ (by omega)]; exact ((hR2.out.set hbx (by omega)).set hby (by omega)).drew)
          | exact ((hK2.out.set_ _ _).set_ _ _).drew
    · obtain rfl : k = 0 := by omega
      have hEE : rise R 0 = R := rise_end (fun h => absurd h.1 (by omega))
      have HEE := Lib.hid hEE
      clear hEE
      go_wp2_with (go_at_call 71; refine (said_any _ _ _).mono ?_; rintro e w5 ⟨rfl, rfl⟩)
      refine bodyPost_ret (by simp [results, Tryz.results47, go_sem, t0, t1, m2, q5]; try rfl; done) rfl ?_
      refine RetL.alloc (retL_slo ((hR.out).slo hBg hsl2.out.cap hsl2.out.cap63) (rowKeepsBelow hB2 hKp.out (by omega)) ?_ ?_ ?_ ?_ (by rw [← hI.out, HEE.out]) rfl rfl) _
      all_goals first | (show w.heap.size + 1 < w.heap.size + 2; omega) | (show w.heap.size ≤ w.heap.size + 1; omega)

set_option linter.unusedSimpArgs false in
set_option maxRecDepth 100000 in
set_option maxHeartbeats 2000000 in
theorem refHeap_take1 (A : Option Addr) (m c : Nat) (xs : List Int) (k v : Int) (w : World) (h : SlI w A (m + 1) c xs) (hm : m = 0) :
    Calls Tryz.prog 47 #[.slice A (m + 1) c, .agg #[.int .i64 2, .int .i64 k, .int .i64 v]] w (RetL [] 1 (gI xs 0) w) := by
  have hl := Lib.hid h.len
  have H := Lib.hid h
  clear h
  have d0 : decide ((0 : Int) < (m : Int) + 1) = true := by rw [decide_eq_true_eq]; omega
  have e1 : ((m : Int) + 1 - 1).toNat = m := by omega
  have e2 : IntKind.i64.wrap ((m : Int) + 1 - 1) = m := by rw [show (m : Int) + 1 - 1 = m by omega]; exact IntWalk.i64_in _ (by omega)
  have b0 : (m : Int) < m + 1 := by omega
  have b1 : (m : Int) ≤ m + 1 := by omega
  have b2 : (0 : Int) < m + 1 := by omega
  have hwi : withinB 2 1 6 = true := by decide
  have b3 : (0 : Int) ≤ m := by omega
  have dm : ((m : Int) == 0) = true := by simp; omega
  have HM := Lib.hid hm
  have hm1 : m ≤ 1 := by omega
  clear hm
  go_enter Tryz.func47, Tryz.ntmps47
  go_wp2_with (first
    | (at_builtin; refine wpList_append_copy rfl (.const (.slice none 0 0)) (.tmp 14) rfl rfl rfl (H.out.below (by go_grown)) (by omega) ?_; intro A1 c1 w1 hown hb1; obtain ⟨hc, hf⟩ := bcell hb1; have hz := hb1.size; simp only [World.size_alloc] at hz; have hB : Below w.heap.size w w1 := Below.trans (by go_grown) (hb1.mono (by simp; omega)); replace hown := hown.mono (B' := w.heap.size + 2) (by simp); have q1 : w.heap.size + 1 < w1.heap.size := (by omega); have q0 : w.heap.size < w1.heap.size := (by omega); have r0 := hc (w.heap.size + 1) 0 (by simp); have r1 := hc (w.heap.size + 1) 1 (by simp); have p0 := hf (w.heap.size + 1) 0 (by simp); have p1 := hf (w.heap.size + 1) 1 (by simp); simp [go_sem] at r0 r1 p0 p1; have m1 : ¬ w.heap.size + 1 = w1.heap.size := (by omega); obtain ⟨g, rfl, hg0, hrow⟩ := hown.row H.out.bd (by omega); have hrow' := Lib.hid hrow; have x0 := hrow.cell (i := 0) (by omega); have x1 := hrow.cell (i := m) (by omega); have hc1n := (hown.sli H.out.bd).cap; have hc163 := (hown.sli H.out.bd).cap63; have b4 : (m : Int) ≤ c1 := (by omega); have hgl := hrow.lt; have mg : ¬ w.heap.size = g := (by omega); have mg2 : ¬ w.heap.size + 1 = g := (by omega); clear hrow hown)
    | (go_at_call 12; refine (within_any _ _ _ _).mono ?_; rintro e w' ⟨rfl, rfl⟩))
  go_quiet (fail)
  have hrow2 := Lib.hid (hrow'.out.drewN nq)
  have hB2 := below_drewN hB nq
  have q5 : w.heap.size + 1 < (w1.drewN nq).heap.size := q1
  have hgl2 : g < (w1.drewN nq).heap.size := hgl
  have m5 : ¬ w.heap.size + 1 = (w1.drewN nq).heap.size := m1
  have s0 : (w1.drewN nq).cell? ⟨w.heap.size + 1, 0, none⟩ = _ := r0
  have s1 : (w1.drewN nq).cell? ⟨w.heap.size + 1, 1, none⟩ = _ := r1
  have yz0 : (w1.drewN nq).frozen? ⟨w.heap.size + 1, 0, none⟩ = _ := p0
  have yz1 : (w1.drewN nq).frozen? ⟨w.heap.size + 1, 1, none⟩ = _ := p1
  clear hc hf hb1 hB hz q1 q0 r0 r1 p0 p1 m1 hrow' x0 x1 hgl
  generalize w1.drewN nq = W at *
  go_wp2_with (go_at_call 71; refine (said_any _ _ _).mono ?_; rintro e w5 ⟨rfl, rfl⟩)
  refine bodyPost_ret (by simp [results, Tryz.results47, go_sem, s0, s1, m5, q5]; try rfl; done) rfl ?_
  refine RetL.alloc (retL_slo ((show SlO W (w.heap.size + 2) (some ⟨g, 0, none⟩) m c1 [] by rw [HM.out]; exact SlO.nil _ _ _ hc163 _)) hB2 ?_ ?_ ?_ ?_ rfl rfl rfl) _
  all_goals first | (show w.heap.size + 1 < w.heap.size + 2; omega) | (show w.heap.size ≤ w.heap.size + 1; omega)

set_option linter.unusedSimpArgs false in
set_option maxRecDepth 100000 in
set_option maxHeartbeats 8000000 in
theorem refHeap_take (A : Option Addr) (m c : Nat) (xs : List Int) (k v : Int) (w : World) (h : SlI w A (m + 1) c xs) (hn : m + 1 ≤ 60) (hm : 0 < m) :
    Calls Tryz.prog 47 #[.slice A (m + 1) c, .agg #[.int .i64 2, .int .i64 k, .int .i64 v]] w (RetL (sink (xs.take m) 0 (gI xs m)) 1 (gI xs 0) w) := by
  have hl := Lib.hid h.len
  have H := Lib.hid h
  clear h
  have d0 : decide ((0 : Int) < (m : Int) + 1) = true := by rw [decide_eq_true_eq]; omega
  have e1 : ((m : Int) + 1 - 1).toNat = m := by omega
  have e2 : IntKind.i64.wrap ((m : Int) + 1 - 1) = m := by rw [show (m : Int) + 1 - 1 = m by omega]; exact IntWalk.i64_in _ (by omega)
  have b0 : (m : Int) < m + 1 := by omega
  have b1 : (m : Int) ≤ m + 1 := by omega
  have b2 : (0 : Int) < m + 1 := by omega
  have hwi : withinB 2 1 6 = true := by decide
  have dm : ((m : Int) == 0) = false := by simp; omega
  go_enter Tryz.func47, Tryz.ntmps47
  go_wp2_with (first
    | (at_builtin; refine wpList_append_copy rfl (.const (.slice none 0 0)) (.tmp 14) rfl rfl rfl (H.out.below (by go_grown)) (by omega) ?_; intro A1 c1 w1 hown hb1; obtain ⟨hc, hf⟩ := bcell hb1; have hz := hb1.size; simp only [World.size_alloc] at hz; have hB : Below w.heap.size w w1 := Below.trans (by go_grown) (hb1.mono (by simp; omega)); replace hown := hown.mono (B' := w.heap.size + 2) (by simp); have q1 : w.heap.size + 1 < w1.heap.size := (by omega); have q0 : w.heap.size < w1.heap.size := (by omega); have r0 := hc (w.heap.size + 1) 0 (by simp); have r1 := hc (w.heap.size + 1) 1 (by simp); have p0 := hf (w.heap.size + 1) 0 (by simp); have p1 := hf (w.heap.size + 1) 1 (by simp); simp [go_sem] at r0 r1 p0 p1; have m1 : ¬ w.heap.size + 1 = w1.heap.size := (by omega); obtain ⟨g, rfl, hg0, hrow⟩ := hown.row H.out.bd (by omega); have hrow' := Lib.hid hrow; have x0 := hrow.cell (i := 0) (by omega); have x1 := hrow.cell (i := m) (by omega); have hc1n := (hown.sli H.out.bd).cap; have hc163 := (hown.sli H.out.bd).cap63; have b4 : (m : Int) ≤ c1 := (by omega); have hgl := hrow.lt; have mg : ¬ w.heap.size = g := (by omega); have mg2 : ¬ w.heap.size + 1 = g := (by omega); clear hrow hown)
    | (go_at_call 12; refine (within_any _ _ _ _).mono ?_; rintro e w' ⟨rfl, rfl⟩))
  go_quiet (fail)
  have hrow2 := Lib.hid (hrow'.out.drewN nq)
  have hB2 := below_drewN hB nq
  have q5 : w.heap.size + 1 < (w1.drewN nq).heap.size := q1
  have hgl2 : g < (w1.drewN nq).heap.size := hgl
  have m5 : ¬ w.heap.size + 1 = (w1.drewN nq).heap.size := m1
  have s0 : (w1.drewN nq).cell? ⟨w.heap.size + 1, 0, none⟩ = _ := r0
  have s1 : (w1.drewN nq).cell? ⟨w.heap.size + 1, 1, none⟩ = _ := r1
  have yz0 : (w1.drewN nq).frozen? ⟨w.heap.size + 1, 0, none⟩ = _ := p0
  have yz1 : (w1.drewN nq).frozen? ⟨w.heap.size + 1, 1, none⟩ = _ := p1
  clear hc hf hb1 hB hz q1 q0 r0 r1 p0 p1 m1 hrow' x0 x1 hgl
  generalize w1.drewN nq = W at *
  have hlb := hrow2.out.bd.gI m
  generalize hlast : gI xs m = l at *
  clear hlast
  go_wp2
  go_loopw [10] (fun i wr => ∃ (k : Nat) (R : List Int), k < m ∧ i = .int .i64 k ∧ Hid (R.length = m) ∧ Hid (RowI wr g m R) ∧ Hid (sink R k l = sink (xs.take m) 0 l) ∧ Hid (Keeps (fun b => b = g) W wr)) (fun i _ => m - (intOf i).toNat)
  case atStart => exact ⟨0, xs.take m, hm, rfl, Lib.hid (by rw [List.length_take, hl.out]; omega), Lib.hid (hrow2.out.take (by omega)), Lib.hid rfl, Lib.hid (Keeps.refl _ _)⟩
  case round =>
    obtain ⟨k, R, hk, rfl, HRl, hR, hI, hKp⟩ := hrel
    have hk60 : k < 60 := by omega
    have hlt := hR.out.lt
    have hz5 := hKp.out.size
    have f1 : IntKind.i64.wrap (2 * (k : Int)) = 2 * k := IntWalk.i64_in _ (by omega)
    have f2 : IntKind.i64.wrap (2 * (k : Int) + 1) = 2 * k + 1 := IntWalk.i64_in _ (by omega)
    have f3 : IntKind.i64.wrap (2 * (k : Int) + 2) = 2 * k + 2 := IntWalk.i64_in _ (by omega)
    have hch := child_or R k
    have hst : child R k < R.length ∧ gI R (child R k) < l → sink R k l = sink (R.set k (gI R (child R k))) (child R k) l := sink_step
    have hen : ¬ (child R k < R.length ∧ gI R (child R k) < l) → sink R k l = R.set k l := sink_end
    rw [HRl.out] at hch hst hen
    have HST := Lib.hid hst
    have HEN := Lib.hid hen
    clear hst hen
    have b5 : (k : Int) < m := by omega
    have zk := hR.out.frozen k
    have q6 : w.heap.size + 1 < wr.heap.size := by omega
    by_cases p1 : 2 * k + 1 < m
    · have q1 : 2 * (k : Int) + 1 < m := by omega
      have g1 := hR.out.cell p1
      have hb1 := hR.out.bd.gI (2 * k + 1)
      have d3 : decide (2 * (k : Int) + 1 < 0) = false := by simp; omega
      by_cases p2 : 2 * k + 2 < m
      · have q2 : 2 * (k : Int) + 2 < m := by omega
        have g2 := hR.out.cell p2
        have hb2 := hR.out.bd.gI (2 * k + 2)
        have d4 : decide (2 * (k : Int) + 2 < 0) = false := by simp; omega
        generalize hy1 : gI R (2 * k + 1) = y1 at *
        generalize hy2 : gI R (2 * k + 2) = y2 at *
        have HY1 := Lib.hid hy1
        have HY2 := Lib.hid hy2
        clear hy1 hy2
        by_cases h21 : y2 < y1
        · have hcc : child R k = 2 * k + 2 := by rcases hch with h | h <;> omega
          have HY := HY2
          have HCC := Lib.hid hcc
          clear hch hcc
          by_cases hyv : y2 < l
          · have hsS := Lib.hid (HST.out (by rw [HCC.out, HY.out]; exact ⟨by omega, hyv⟩))
            go_wp2
            refine wp_loop_rounds 3 ?_
            rw [rounds_succ]
            go_wp2
            go_quiet (fail)
            go_wp2
            rename Nat => n1
            rw [rounds_succ]
            go_wp2
            go_quiet (fail)
            have hR2 := Lib.hid (((hR.out.alloc (.cells #[.int .i64 (2 * (k : Int) + 1), .int .i64 (2 * (k : Int) + 2)] 3)).drewN n1).drewN nq)
            have hK2 := Lib.hid (((hKp.out.alloc (.cells #[.int .i64 (2 * (k : Int) + 1), .int .i64 (2 * (k : Int) + 2)] 3)).drewN n1).drewN nq)
            clear hR hKp zk hlt q6 hz5 g1 g2
            have hB5 : Blk (((wr.alloc (.cells #[.int .i64 (2 * (k : Int) + 1), .int .i64 (2 * (k : Int) + 2)] 3)).drewN n1).drewN nq) wr.heap.size 3 #[.int .i64 (2 * (k : Int) + 1), .int .i64 (2 * (k : Int) + 2)] := ((Blk.new wr 3 _).drewN n1).drewN nq
            generalize ((wr.alloc (.cells #[.int .i64 (2 * (k : Int) + 1), .int .i64 (2 * (k : Int) + 2)] 3)).drewN n1).drewN nq = W2 at *
            have hlt := hR2.out.lt
            have hz5 := hK2.out.size
            have zk := hR2.out.frozen k
            have q6 : w.heap.size + 1 < W2.heap.size := by omega
            have m2 : ¬ w.heap.size + 1 = W2.heap.size := by omega
            have t0 := (hK2.out.cell (p := ⟨w.heap.size + 1, 0, none⟩) q5 (by show ¬ w.heap.size + 1 = g; omega)).trans s0
            have t1 := (hK2.out.cell (p := ⟨w.heap.size + 1, 1, none⟩) q5 (by show ¬ w.heap.size + 1 = g; omega)).trans s1
            have z0 := (hK2.out.frozen (p := ⟨w.heap.size + 1, 0, none⟩) q5 (by show ¬ w.heap.size + 1 = g; omega)).trans yz0
            have z1 := (hK2.out.frozen (p := ⟨w.heap.size + 1, 1, none⟩) q5 (by show ¬ w.heap.size + 1 = g; omega)).trans yz1
            have xk := hR2.out.cell (i := 2 * k + 2) (by omega)
            have xc := hR2.out.cell (i := k) (by omega)
            rw [HY.out] at xk
            go_wp2
            rw [rounds_succ]
            go_wp2
            refine ⟨⟨2 * k + 2, R.set k y2, by omega, val_int (by omega), Lib.hid (by rw [List.length_set]; exact HRl.out), Lib.hid (hR2.out.set hb2 (by omega)), Lib.hid ?_, Lib.hid (hK2.out.set_ _ _)⟩, by simp [intOf]; omega⟩
            have h4 := hsS.out
            rw [HCC.out, HY.out] at h4
            exact h4.symm.trans hI.out
          · have hyv' : l ≤ y2 := by omega
            have hsE := Lib.hid (HEN.out (by rw [HCC.out, HY.out]; omega))
            go_wp2
            refine wp_loop_rounds 3 ?_
            rw [rounds_succ]
            go_wp2
            go_quiet (fail)
            go_wp2
            rename Nat => n1
            rw [rounds_succ]
            go_wp2
            go_quiet (fail)
            have hR2 := Lib.hid (((hR.out.alloc (.cells #[.int .i64 (2 * (k : Int) + 1), .int .i64 (2 * (k : Int) + 2)] 3)).drewN n1).drewN nq)
            have hK2 := Lib.hid (((hKp.out.alloc (.cells #[.int .i64 (2 * (k : Int) + 1), .int .i64 (2 * (k : Int) + 2)] 3)).drewN n1).drewN nq)
            clear hR hKp zk hlt q6 hz5 g1 g2
            have hB5 : Blk (((wr.alloc (.cells #[.int .i64 (2 * (k : Int) + 1), .int .i64 (2 * (k : Int) + 2)] 3)).drewN n1).drewN nq) wr.heap.size 3 #[.int .i64 (2 * (k : Int) + 1), .int .i64 (2 * (k : Int) + 2)] := ((Blk.new wr 3 _).drewN n1).drewN nq
            generalize ((wr.alloc (.cells #[.int .i64 (2 * (k : Int) + 1), .int .i64 (2 * (k : Int) + 2)] 3)).drewN n1).drewN nq = W2 at *
            have hlt := hR2.out.lt
            have hz5 := hK2.out.size
            have zk := hR2.out.frozen k
            have q6 : w.heap.size + 1 < W2.heap.size := by omega
            have m2 : ¬ w.heap.size + 1 = W2.heap.size := by omega
            have t0 := (hK2.out.cell (p := ⟨w.heap.size + 1, 0, none⟩) q5 (by show ¬ w.heap.size + 1 = g; omega)).trans s0
            have t1 := (hK2.out.cell (p := ⟨w.heap.size + 1, 1, none⟩) q5 (by show ¬ w.heap.size + 1 = g; omega)).trans s1
            have z0 := (hK2.out.frozen (p := ⟨w.heap.size + 1, 0, none⟩) q5 (by show ¬ w.heap.size + 1 = g; omega)).trans yz0
            have z1 := (hK2.out.frozen (p := ⟨w.heap.size + 1, 1, none⟩) q5 (by show ¬ w.heap.size + 1 = g; omega)).trans yz1
            have xk := hR2.out.cell (i := 2 * k + 2) (by omega)
            have xc := hR2.out.cell (i := k) (by omega)
            rw [HY.out] at xk
            go_wp2
            rw [rounds_succ]
            go_wp2_with (go_at_call 71; refine (said_any _ _ _).mono ?_; rintro e w5 ⟨rfl, rfl⟩)
            refine bodyPost_ret (by simp [results, Tryz.results47, go_sem, t0, t1, m2, q6]; try rfl; done) rfl ?_
            refine RetL.alloc (retL_slo ((hR2.out.set hlb (i := k) (by omega)).slo hg0 (by omega) hc163) (rowKeepsBelow hB2 (hK2.out.set_ k (.int .i64 l)) (by omega)) ?_ ?_ ?_ ?_ (by rw [← hI.out, hsE.out]) rfl rfl) _
            all_goals first | (show w.heap.size + 1 < w.heap.size + 2; omega) | (show w.heap.size ≤ w.heap.size + 1; omega)
        · have hcc : child R k = 2 * k + 1 := by rcases hch with h | h <;> omega
          have HY := HY1
          have h12 : y1 ≤ y2 := by omega
          have HCC := Lib.hid hcc
          clear hch hcc
          by_cases hyv : y1 < l
          · have hsS := Lib.hid (HST.out (by rw [HCC.out, HY.out]; exact ⟨by omega, hyv⟩))
            go_wp2
            refine wp_loop_rounds 3 ?_
            rw [rounds_succ]
            go_wp2
            go_quiet (fail)
            go_wp2
            rename Nat => n1
            rw [rounds_succ]
            go_wp2
            go_quiet (fail)
            have hR2 := Lib.hid (((hR.out.alloc (.cells #[.int .i64 (2 * (k : Int) + 1), .int .i64 (2 * (k : Int) + 2)] 3)).drewN n1).drewN nq)
            have hK2 := Lib.hid (((hKp.out.alloc (.cells #[.int .i64 (2 * (k : Int) + 1), .int .i64 (2 * (k : Int) + 2)] 3)).drewN n1).drewN nq)
            clear hR hKp zk hlt q6 hz5 g1 g2
            have hB5 : Blk (((wr.alloc (.cells #[.int .i64 (2 * (k : Int) + 1), .int .i64 (2 * (k : Int) + 2)] 3)).drewN n1).drewN nq) wr.heap.size 3 #[.int .i64 (2 * (k : Int) + 1), .int .i64 (2 * (k : Int) + 2)] := ((Blk.new wr 3 _).drewN n1).drewN nq
            generalize ((wr.alloc (.cells #[.int .i64 (2 * (k : Int) + 1), .int .i64 (2 * (k : Int) + 2)] 3)).drewN n1).drewN nq = W2 at *
            have hlt := hR2.out.lt
            have hz5 := hK2.out.size
            have zk := hR2.out.frozen k
            have q6 : w.heap.size + 1 < W2.heap.size := by omega
            have m2 : ¬ w.heap.size + 1 = W2.heap.size := by omega
            have t0 := (hK2.out.cell (p := ⟨w.heap.size + 1, 0, none⟩) q5 (by show ¬ w.heap.size + 1 = g; omega)).trans s0
            have t1 := (hK2.out.cell (p := ⟨w.heap.size + 1, 1, none⟩) q5 (by show ¬ w.heap.size + 1 = g; omega)).trans s1
            have z0 := (hK2.out.frozen (p := ⟨w.heap.size + 1, 0, none⟩) q5 (by show ¬ w.heap.size + 1 = g; omega)).trans yz0
            have z1 := (hK2.out.frozen (p := ⟨w.heap.size + 1, 1, none⟩) q5 (by show ¬ w.heap.size + 1 = g; omega)).trans yz1
            have xk := hR2.out.cell (i := 2 * k + 1) (by omega)
            have xc := hR2.out.cell (i := k) (by omega)
            rw [HY.out] at xk
            go_wp2
            rw [rounds_succ]
            go_wp2
            refine ⟨⟨2 * k + 1, R.set k y1, by omega, val_int (by omega), Lib.hid (by rw [List.length_set]; exact HRl.out), Lib.hid (hR2.out.set hb1 (by omega)), Lib.hid ?_, Lib.hid (hK2.out.set_ _ _)⟩, by simp [intOf]; omega⟩
            have h4 := hsS.out
            rw [HCC.out, HY.out] at h4
            exact h4.symm.trans hI.out
          · have hyv' : l ≤ y1 := by omega
            have hsE := Lib.hid (HEN.out (by rw [HCC.out, HY.out]; omega))
            go_wp2
            refine wp_loop_rounds 3 ?_
            rw [rounds_succ]
            go_wp2
            go_quiet (fail)
            go_wp2
            rename Nat => n1
            rw [rounds_succ]
            go_wp2
            go_quiet (fail)
            have hR2 := Lib.hid (((hR.out.alloc (.cells #[.int .i64 (2 * (k : Int) + 1), .int .i64 (2 * (k : Int) + 2)] 3)).drewN n1).drewN nq)
            have hK2 := Lib.hid (((hKp.out.alloc (.cells #[.int .i64 (2 * (k : Int) + 1), .int .i64 (2 * (k : Int) + 2)] 3)).drewN n1).drewN nq)
            clear hR hKp zk hlt q6 hz5 g1 g2
            have hB5 : Blk (((wr.alloc (.cells #[.int .i64 (2 * (k : Int) + 1), .int .i64 (2 * (k : Int) + 2)] 3)).drewN n1).drewN nq) wr.heap.size 3 #[.int .i64 (2 * (k : Int) + 1), .int .i64 (2 * (k : Int) + 2)] := ((Blk.new wr 3 _).drewN n1).drewN nq
            generalize ((wr.alloc (.cells #[.int .i64 (2 * (k : Int) + 1), .int .i64 (2 * (k : Int) + 2)] 3)).drewN n1).drewN nq = W2 at *
            have hlt := hR2.out.lt
            have hz5 := hK2.out.size
            have zk := hR2.out.frozen k
            have q6 : w.heap.size + 1 < W2.heap.size := by omega
            have m2 : ¬ w.heap.size + 1 = W2.heap.size := by omega
            have t0 := (hK2.out.cell (p := ⟨w.heap.size + 1, 0, none⟩) q5 (by show ¬ w.heap.size + 1 = g; omega)).trans s0
            have t1 := (hK2.out.cell (p := ⟨w.heap.size + 1, 1, none⟩) q5 (by show ¬ w.heap.size + 1 = g; omega)).trans s1
            have z0 := (hK2.out.frozen (p := ⟨w.heap.size + 1, 0, none⟩) q5 (by show ¬ w.heap.size + 1 = g; omega)).trans yz0
            have z1 := (hK2.out.frozen (p := ⟨w.heap.size + 1, 1, none⟩) q5 (by show ¬ w.heap.size + 1 = g; omega)).trans yz1
            have xk := hR2.out.cell (i := 2 * k + 1) (by omega)
            have xc := hR2.out.cell (i := k) (by omega)
            rw [HY.out] at xk
            go_wp2
            rw [rounds_succ]
            go_wp2_with (go_at_call 71; refine (said_any _ _ _).mono ?_; rintro e w5 ⟨rfl, rfl⟩)
            refine bodyPost_ret (by simp [results, Tryz.results47, go_sem, t0, t1, m2, q6]; try rfl; done) rfl ?_
            refine RetL.alloc (retL_slo ((hR2.out.set hlb (i := k) (by omega)).slo hg0 (by omega) hc163) (rowKeepsBelow hB2 (hK2.out.set_ k (.int .i64 l)) (by omega)) ?_ ?_ ?_ ?_ (by rw [← hI.out, hsE.out]) rfl rfl) _
            all_goals first | (show w.heap.size + 1 < w.heap.size + 2; omega) | (show w.heap.size ≤ w.heap.size + 1; omega)
      · have d2 : decide (2 * (k : Int) + 2 < m) = false := by simp; omega
        generalize hy1 : gI R (2 * k + 1) = y1 at *
        have HY := Lib.hid hy1
        clear hy1
        have hcc : child R k = 2 * k + 1 := by rcases hch with h | h <;> omega
        have HCC := Lib.hid hcc
        clear hch hcc
        by_cases hyv : y1 < l
        · have hsS := Lib.hid (HST.out (by rw [HCC.out, HY.out]; exact ⟨by omega, hyv⟩))
          go_wp2
          refine wp_loop_rounds 3 ?_
          rw [rounds_succ]
          go_wp2
          go_quiet (fail)
          go_wp2
          rename Nat => n1
          rw [rounds_succ]
          go_wp2
          go_quiet (fail)
          have hR2 := Lib.hid (((hR.out.alloc (.cells #[.int .i64 (2 * (k : Int) + 1), .int .i64 (2 * (k : Int) + 2)] 3)).drewN n1).drewN nq)
          have hK2 := Lib.hid (((hKp.out.alloc (.cells #[.int .i64 (2 * (k : Int) + 1), .int .i64 (2 * (k : Int) + 2)] 3)).drewN n1).drewN nq)
          clear hR hKp zk hlt q6 hz5 g1
          have hB5 : Blk (((wr.alloc (.cells #[.int .i64 (2 * (k : Int) + 1), .int .i64 (2 * (k : Int) + 2)] 3)).drewN n1).drewN nq) wr.heap.size 3 #[.int .i64 (2 * (k : Int) + 1), .int .i64 (2 * (k : Int) + 2)] := ((Blk.new wr 3 _).drewN n1).drewN nq
          generalize ((wr.alloc (.cells #[.int .i64 (2 * (k : Int) + 1), .int .i64 (2 * (k : Int) + 2)] 3)).drewN n1).drewN nq = W2 at *
          have hlt := hR2.out.lt
          have hz5 := hK2.out.size
          have zk := hR2.out.frozen k
          have q6 : w.heap.size + 1 < W2.heap.size := by omega
          have m2 : ¬ w.heap.size + 1 = W2.heap.size := by omega
          have t0 := (hK2.out.cell (p := ⟨w.heap.size + 1, 0, none⟩) q5 (by show ¬ w.heap.size + 1 = g; omega)).trans s0
          have t1 := (hK2.out.cell (p := ⟨w.heap.size + 1, 1, none⟩) q5 (by show ¬ w.heap.size + 1 = g; omega)).trans s1
          have z0 := (hK2.out.frozen (p := ⟨w.heap.size + 1, 0, none⟩) q5 (by show ¬ w.heap.size + 1 = g; omega)).trans yz0
          have z1 := (hK2.out.frozen (p := ⟨w.heap.size + 1, 1, none⟩) q5 (by show ¬ w.heap.size + 1 = g; omega)).trans yz1
          have xk := hR2.out.cell (i := 2 * k + 1) (by omega)
          have xc := hR2.out.cell (i := k) (by omega)
          rw [HY.out] at xk
          go_wp2
          rw [rounds_succ]
          go_wp2
          refine ⟨⟨2 * k + 1, R.set k y1, by omega, val_int (by omega), Lib.hid (by rw [List.length_set]; exact HRl.out), Lib.hid (hR2.out.set hb1 (by omega)), Lib.hid ?_, Lib.hid (hK2.out.set_ _ _)⟩, by simp [intOf]; omega⟩
          have h4 := hsS.out
          rw [HCC.out, HY.out] at h4
          exact h4.symm.trans hI.out
        · have hyv' : l ≤ y1 := by omega
          have hsE := Lib.hid (HEN.out (by rw [HCC.out, HY.out]; omega))
          go_wp2
          refine wp_loop_rounds 3 ?_
          rw [rounds_succ]
          go_wp2
          go_quiet (fail)
          go_wp2
          rename Nat => n1
          rw [rounds_succ]
          go_wp2
          go_quiet (fail)
          have hR2 := Lib.hid (((hR.out.alloc (.cells #[.int .i64 (2 * (k : Int) + 1), .int .i64 (2 * (k : Int) + 2)] 3)).drewN n1).drewN nq)
          have hK2 := Lib.hid (((hKp.out.alloc (.cells #[.int .i64 (2 * (k : Int) + 1), .int .i64 (2 * (k : Int) + 2)] 3)).drewN n1).drewN nq)
          clear hR hKp zk hlt q6 hz5 g1
          have hB5 : Blk (((wr.alloc (.cells #[.int .i64 (2 * (k : Int) + 1), .int .i64 (2 * (k : Int) + 2)] 3)).drewN n1).drewN nq) wr.heap.size 3 #[.int .i64 (2 * (k : Int) + 1), .int .i64 (2 * (k : Int) + 2)] := ((Blk.new wr 3 _).drewN n1).drewN nq
          generalize ((wr.alloc (.cells #[.int .i64 (2 * (k : Int) + 1), .int .i64 (2 * (k : Int) + 2)] 3)).drewN n1).drewN nq = W2 at *
          have hlt := hR2.out.lt
          have hz5 := hK2.out.size
          have zk := hR2.out.frozen k
          have q6 : w.heap.size + 1 < W2.heap.size := by omega
          have m2 : ¬ w.heap.size + 1 = W2.heap.size := by omega
          have t0 := (hK2.out.cell (p := ⟨w.heap.size + 1, 0, none⟩) q5 (by show ¬ w.heap.size + 1 = g; omega)).trans s0
          have t1 := (hK2.out.cell (p := ⟨w.heap.size + 1, 1, none⟩) q5 (by show ¬ w.heap.size + 1 = g; omega)).trans s1
          have z0 := (hK2.out.frozen (p := ⟨w.heap.size + 1, 0, none⟩) q5 (by show ¬ w.heap.size + 1 = g; omega)).trans yz0
          have z1 := (hK2.out.frozen (p := ⟨w.heap.size + 1, 1, none⟩) q5 (by show ¬ w.heap.size + 1 = g; omega)).trans yz1
          have xk := hR2.out.cell (i := 2 * k + 1) (by omega)
          have xc := hR2.out.cell (i := k) (by omega)
          rw [HY.out] at xk
          go_wp2
          rw [rounds_succ]
          go_wp2_with (go_at_call 71; refine (said_any _ _ _).mono ?_; rintro e w5 ⟨rfl, rfl⟩)
          refine bodyPost_ret (by simp [results, Tryz.results47, go_sem, t0, t1, m2, q6]; try rfl; done) rfl ?_
          refine RetL.alloc (retL_slo ((hR2.out.set hlb (i := k) (by omega)).slo hg0 (by omega) hc163) (rowKeepsBelow hB2 (hK2.out.set_ k (.int .i64 l)) (by omega)) ?_ ?_ ?_ ?_ (by rw [← hI.out, hsE.out]) rfl rfl) _
          all_goals first | (show w.heap.size + 1 < w.heap.size + 2; omega) | (show w.heap.size ≤ w.heap.size + 1; omega)
    · have d1 : decide (2 * (k : Int) + 1 < m) = false := by simp; omega
      have d2 : decide (2 * (k : Int) + 2 < m) = false := by simp; omega
      have hsE := Lib.hid (HEN.out (by rcases hch with h | h <;> omega))
      clear hch
      go_wp2
      refine wp_loop_rounds 3 ?_
      rw [rounds_succ]
      go_wp2
      go_quiet (fail)
      go_wp2
      rename Nat => n1
      rw [rounds_succ]
      go_wp2
      go_quiet (fail)
      have hR2 := Lib.hid (((hR.out.alloc (.cells #[.int .i64 (2 * (k : Int) + 1), .int .i64 (2 * (k : Int) + 2)] 3)).drewN n1).drewN nq)
      have hK2 := Lib.hid (((hKp.out.alloc (.cells #[.int .i64 (2 * (k : Int) + 1), .int .i64 (2 * (k : Int) + 2)] 3)).drewN n1).drewN nq)
      clear hR hKp zk hlt q6 hz5 
      have hB5 : Blk (((wr.alloc (.cells #[.int .i64 (2 * (k : Int) + 1), .int .i64 (2 * (k : Int) + 2)] 3)).drewN n1).drewN nq) wr.heap.size 3 #[.int .i64 (2 * (k : Int) + 1), .int .i64 (2 * (k : Int) + 2)] := ((Blk.new wr 3 _).drewN n1).drewN nq
      generalize ((wr.alloc (.cells #[.int .i64 (2 * (k : Int) + 1), .int .i64 (2 * (k : Int) + 2)] 3)).drewN n1).drewN nq = W2 at *
      have hlt := hR2.out.lt
      have hz5 := hK2.out.size
      have zk := hR2.out.frozen k
      have q6 : w.heap.size + 1 < W2.heap.size := by omega
      have m2 : ¬ w.heap.size + 1 = W2.heap.size := by omega
      have t0 := (hK2.out.cell (p := ⟨w.heap.size + 1, 0, none⟩) q5 (by show ¬ w.heap.size + 1 = g; omega)).trans s0
      have t1 := (hK2.out.cell (p := ⟨w.heap.size + 1, 1, none⟩) q5 (by show ¬ w.heap.size + 1 = g; omega)).trans s1
      have z0 := (hK2.out.frozen (p := ⟨w.heap.size + 1, 0, none⟩) q5 (by show ¬ w.heap.size + 1 = g; omega)).trans yz0
      have z1 := (hK2.out.frozen (p := ⟨w.heap.size + 1, 1, none⟩) q5 (by show ¬ w.heap.size + 1 = g; omega)).trans yz1
      have xc := hR2.out.cell (i := k) (by omega)
      go_wp2
      rw [rounds_succ]
      go_wp2_with (go_at_call 71; refine (said_any _ _ _).mono ?_; rintro e w5 ⟨rfl, rfl⟩)
      refine bodyPost_ret (by simp [results, Tryz.results47, go_sem, t0, t1, m2, q6]; try rfl; done) rfl ?_
      refine RetL.alloc (retL_slo ((hR2.out.set hlb (i := k) (by omega)).slo hg0 (by omega) hc163) (rowKeepsBelow hB2 (hK2.out.set_ k (.int .i64 l)) (by omega)) ?_ ?_ ?_ ?_ (by rw [← hI.out, hsE.out]) rfl rfl) _
      all_goals first | (show w.heap.size + 1 < w.heap.size + 2; omega) | (show w.heap.size ≤ w.heap.size + 1; omega)
end Go.Proofs.YtkoflhjnpilchaaGreatDoor
