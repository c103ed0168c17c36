/-
  What heap.up and heap.down do with a row of numbers of the call's own: the last one rises, the first one sinks. For rows of at most 100 numbers.
-/
import Derived.Test.YtfpfhiogfjlpaaaApp
import Derived.Test.YtfpfhiogfjlpaaaHeapP
import Derived.BigRegion
namespace Go.Proofs.Ytfpfhiogfjlpaaa
open Go.RowKit
attribute [local go_sem ↓] Go.wp_at_zero Go.wp_at_succ

/-- The first n cells of block g are the numbers xs. -/
structure RowI (w : World) (g n : Nat) (xs : List Int) : Prop where
  len : xs.length = n
  bd : IBd xs
  blk : ∃ cs, Blk w g 3 cs ∧ ∀ i, i < n → cs[i]? = some (.int .i64 (gI xs i))
section
variable {w w' : World} {g n : Nat} {xs : List Int}
theorem RowI.lt (h : RowI w g n xs) : g < w.heap.size := by obtain ⟨cs, hb, _⟩ := h.blk; exact hb.lt
theorem RowI.cell (h : RowI w g n xs) {i : Nat} (hi : i < n) : w.cell? ⟨g, i, none⟩ = some (.int .i64 (gI xs i)) := by
  obtain ⟨cs, hb, hc⟩ := h.blk; rw [hb.cell]; exact hc i hi
theorem RowI.frozen (h : RowI w g n xs) (i : Nat) : w.frozen? ⟨g, i, none⟩ = false := by obtain ⟨cs, hb, _⟩ := h.blk; exact hb.frozen i
theorem IBd.gI {xs : List Int} (h : IBd xs) (i : Nat) : -9223372036854775808 ≤ gI xs i ∧ gI xs i ≤ 9223372036854775807 := h i
theorem IBd.set {xs : List Int} (h : IBd xs) {i : Nat} {v : Int} (hv : -9223372036854775808 ≤ v ∧ v ≤ 9223372036854775807) : IBd (xs.set i v) := fun j => by
  rw [List.getElem?_set]
  split
  · split
    · exact hv
    · decide
  · exact h j
theorem IBd.take {xs : List Int} (h : IBd xs) (k : Nat) : IBd (xs.take k) := fun j => by
  rw [List.getElem?_take]
  split
  · exact h j
  · decide
theorem RowI.set (h : RowI w g n xs) {i : Nat} {v : Int} (hv : -9223372036854775808 ≤ v ∧ v ≤ 9223372036854775807) (hi : i < n) : RowI (w.setCell ⟨g, i, none⟩ (.int .i64 v)) g n (xs.set i v) := by
  obtain ⟨cs, hb, hc⟩ := h.blk
  have hl := h.len
  refine ⟨by rw [List.length_set]; exact hl, h.bd.set hv, _, hb.set_ i _, fun j hj => ?_⟩
  rw [Array.getElem?_setIfInBounds, gI_set (by omega)]
  have hsz : i < cs.size := by
    have := hc i hi
    rcases Nat.lt_or_ge i cs.size with h | h
    · exact h
    · rw [Array.getElem?_eq_none h] at this; cases this
  by_cases hij : i = j
  · subst hij; rw [if_pos rfl, if_pos hsz, if_pos rfl]
  · rw [if_neg hij, if_neg (fun e => hij e.symm)]; exact hc j hj
theorem RowI.keeps {S : Nat → Prop} (h : RowI w g n xs) (hk : Keeps S w w') (hS : ¬ S g) : RowI w' g n xs := by
  obtain ⟨cs, hb, hc⟩ := h.blk
  exact ⟨h.len, h.bd, cs, (hk.block g hb.lt hS).trans hb, hc⟩
theorem RowI.below {B : Nat} (h : RowI w g n xs) (hb : Below B w w') (hg : g < B) : RowI w' g n xs := by
  obtain ⟨cs, hk, hc⟩ := h.blk
  exact ⟨h.len, h.bd, cs, hk.below hb hg, hc⟩
theorem RowI.far (h : RowI w g n xs) {p : Addr} (hp : g ≠ p.block) (u : Value) : RowI (w.setCell p u) g n xs := by
  obtain ⟨cs, hk, hc⟩ := h.blk
  exact ⟨h.len, h.bd, cs, hk.far hp u, hc⟩
theorem RowI.alloc (h : RowI w g n xs) (o : Obj) : RowI (w.alloc o) g n xs := by
  obtain ⟨cs, hk, hc⟩ := h.blk
  exact ⟨h.len, h.bd, cs, hk.alloc o, hc⟩
theorem RowI.drew (h : RowI w g n xs) : RowI w.drew g n xs := ⟨h.len, h.bd, h.blk⟩
theorem RowI.drewN (h : RowI w g n xs) (k : Nat) : RowI (w.drewN k) g n xs := ⟨h.len, h.bd, h.blk⟩
theorem RowI.take (h : RowI w g n xs) {k : Nat} (hk : k ≤ n) : RowI w g k (xs.take k) := by
  obtain ⟨cs, hb, hc⟩ := h.blk
  exact ⟨by rw [List.length_take, h.len]; omega, h.bd.take k, cs, hb, fun i hi => by rw [gI_take hi]; exact hc i (by omega)⟩
theorem RowI.slo (h : RowI w g n xs) {B c : Nat} (hg : B ≤ g) (hc : n ≤ c) (h63 : c ≤ 9223372036854775807) : SlO w B (some ⟨g, 0, none⟩) n c xs :=
  ⟨⟨h.len, hc, h63, h.bd, fun _ => ⟨g, 0, rfl, h.lt, fun i hi => by rw [Nat.zero_add]; exact h.cell hi⟩⟩, fun _ b hb => by cases hb; exact hg⟩
end
theorem Own.row {w : World} {B : Nat} {A : Option Addr} {n c : Nat} {xs : List Int} (h : Own w B A n c xs) (bd : IBd xs) (hn : 0 < n) : ∃ g, A = some ⟨g, 0, none⟩ ∧ B ≤ g ∧ RowI w g n xs := by
  have hl := h.len
  rcases h.2 with ⟨hv, h0⟩ | ⟨g, cap, cur, hv, hb, hg, hc, hm, hs, ht⟩
  · omega
  · simp only [Value.slice.injEq, true_and] at hv
    obtain ⟨rfl, rfl⟩ := hv
    refine ⟨g, rfl, hb, hl, bd, cur, hg, fun i hi => ?_⟩
    have e : (cur.toList.take (n * 1))[i]? = (xs.map (Value.int .i64))[i]? := by rw [ht]
    rw [List.getElem?_take, if_pos (by omega), List.getElem?_map, List.getElem?_eq_getElem (l := xs) (by omega)] at e
    simpa [gI, List.getElem?_eq_getElem (show i < xs.length by omega)] using e

theorem Keeps.set_ {g : Nat} {w w' : World} (h : Keeps (fun b => b = g) w w') (i : Nat) (u : Value) : Keeps (fun b => b = g) w (w'.setCell ⟨g, i, none⟩ u) := h.setCell (.inl rfl) u

set_option maxRecDepth 100000 in
set_option maxHeartbeats 1000000 in
theorem up_any (g n c : Nat) (xs : List Int) (w : World) (h : RowI w g n xs) (hn : 0 < n) (h60 : n ≤ 100) :
    Calls Try.prog 63 #[.slice (some ⟨g, 0, none⟩) n c] w fun e w' => e = .returned (.slice (some ⟨g, 0, none⟩) n c) ∧ RowI w' g n (rise xs (n - 1)) ∧ Keeps (fun b => b = g) w w' := by
  have H := Lib.hid h
  clear h
  go_enter Try.func63, Try.ntmps63
  go_wp2
  go_loopw [3] (fun i wr => ∃ (k : Nat) (R : List Int), k < n ∧ i = .int .i64 k ∧ Hid (RowI wr g n R) ∧ Hid (rise R k = rise xs (n - 1)) ∧ Hid (Keeps (fun b => b = g) w wr)) (fun i _ => (intOf i).toNat)
  case atStart => exact ⟨n - 1, xs, by omega, val_int (by omega), H, Lib.hid rfl, Lib.hid (Keeps.refl _ _)⟩
  case round =>
    obtain ⟨k, R, hk, rfl, hR, hI, hKp⟩ := hrel
    have q1 : (k : Int) < n := by omega
    have hlt := hR.out.lt
    by_cases hk0 : 0 < k
    · have c1 := hR.out.cell hk
      have c2 := hR.out.cell (i := (k - 1) / 2) (by omega)
      have b2 : ((k : Int) - 1) / 2 < n := by omega
      have b3 : 0 ≤ ((k : Int) - 1) / 2 := by omega
      have b4 : 0 < (k : Int) := by omega
      have hne : k ≠ (k - 1) / 2 := by omega
      have hbx := hR.out.bd.gI k
      have hby := hR.out.bd.gI ((k - 1) / 2)
      have hS : Hid (gI R k < gI R ((k - 1) / 2) → rise R k = rise ((R.set k (gI R ((k - 1) / 2))).set ((k - 1) / 2) (gI R k)) ((k - 1) / 2)) := fun h => rise_step ⟨hk0, h⟩
      have hE : Hid (¬ gI R k < gI R ((k - 1) / 2) → rise R k = R) := fun h => rise_end (fun h' => h h'.2)
      generalize hx : gI R k = x at *
      generalize hy : gI R ((k - 1) / 2) = y at *
      have hx := Lib.hid hx
      have hy := Lib.hid hy
      go_wp2
      go_quiet (fail)
      go_wp2
      · have hlt1 : x < y := by assumption
        have hR2 := Lib.hid (hR.out.drewN nq)
        have hK2 := Lib.hid (hKp.out.drewN nq)
        have hlt2 : g < (wr.drewN nq).heap.size := hlt
        clear c1 c2 hlt hR hKp
        generalize wr.drewN nq = W at *
        have c1 := hR2.out.cell hk
        have c2 := hR2.out.cell (i := (k - 1) / 2) (by omega)
        rw [hx.out] at c1
        rw [hy.out] at c2
        have f1 := hR2.out.frozen k
        have f2 := hR2.out.frozen ((k - 1) / 2)
        have hSS := Lib.hid (hS.out hlt1)
        have e1 : IntKind.i64.wrap ((k : Int) - 1) = (k : Int) - 1 := IntWalk.i64_in _ (by omega)
        have e2 : IntKind.i64.wrap (((k : Int) - 1).tdiv 2) = ((k : Int) - 1) / 2 := by rw [Int.tdiv_eq_ediv_of_nonneg (by omega)]; exact IntWalk.i64_in _ (by omega)
        have e3 : (((k : Int) - 1) / 2).toNat = (k - 1) / 2 := by omega
        go_region
        go_wp2
        exact ⟨⟨(k - 1) / 2, _, by omega, val_int (by omega), Lib.hid ((hR2.out.set hby hk).set hbx (by omega)).drew, Lib.hid (hSS.out.symm.trans hI.out), Lib.hid ((hK2.out.set_ _ _).set_ _ _).drew⟩, by simp [intOf]; omega⟩
      · have hge : y ≤ x := by assumption
        have hEE := hE.out hge
        go_ret
        exact ⟨rfl, by rw [← hI.out, hEE]; exact hR.out.drewN _, hKp.out.drewN _⟩
    · obtain rfl : k = 0 := by omega
      have hEE : rise R 0 = R := rise_end (fun h => absurd h.1 (by omega))
      have HEE := Lib.hid hEE
      clear hEE
      go_wp2
      go_quiet (fail)
      go_wp2
      go_ret
      exact ⟨rfl, by rw [← hI.out, HEE.out]; exact hR.out.drewN _, hKp.out.drewN _⟩

set_option maxRecDepth 100000 in
set_option maxHeartbeats 1000000 in
theorem down_any (A : Option Addr) (g n c : Nat) (xs : List Int) (v : Int) (w : World) (hA : 0 < n → A = some ⟨g, 0, none⟩) (h : RowI w g n (xs.set 0 v)) (h60 : n ≤ 100) :
    Calls Try.prog 64 #[.slice A n c] w fun e w' => e = .returned (.slice A n c) ∧ RowI w' g n (sink xs 0 v) ∧ Keeps (fun b => b = g) w w' := by
  have H := Lib.hid h
  have hl : xs.length = n := by have := h.len; simpa using this
  have HL := Lib.hid hl
  have HA := Lib.hid hA
  clear h hl hA
  go_enter Try.func64, Try.ntmps64
  go_wp2
  go_loopw [3] (fun i wr => ∃ (k : Nat) (R : List Int), (k < n ∨ n = 0 ∧ k = 0) ∧ i = .int .i64 k ∧ R.length = n ∧ Hid (RowI wr g n (R.set k v)) ∧ Hid (sink R k v = sink xs 0 v) ∧ Hid (Keeps (fun b => b = g) w wr)) (fun i _ => n - (intOf i).toNat)
  case atStart => exact ⟨0, xs, by omega, rfl, HL.out, H, Lib.hid rfl, Lib.hid (Keeps.refl _ _)⟩
  case round =>
    obtain ⟨k, R, hk, rfl, hRl, hR, hI, hKp⟩ := hrel
    have HRl := Lib.hid hRl
    clear hRl
    have hk60 : k < 100 := by omega
    have e1 : IntKind.i64.wrap (2 * (k : Int)) = 2 * k := IntWalk.i64_in _ (by omega)
    have e2 : IntKind.i64.wrap (2 * (k : Int) + 1) = 2 * k + 1 := IntWalk.i64_in _ (by omega)
    have e3 : IntKind.i64.wrap (2 * (k : Int) + 1 + 1) = 2 * k + 2 := by rw [show 2 * (k : Int) + 1 + 1 = 2 * k + 2 by omega]; exact IntWalk.i64_in _ (by omega)
    have hlt := hR.out.lt
    rcases Nat.lt_or_ge (2 * k + 1) n with p1 | p1
    · obtain rfl := HA.out (by omega)
      have hkn : k < n := by omega
      have q0 : (k : Int) < n := by omega
      have q1 : 2 * (k : Int) + 1 < n := by omega
      have c0 := hR.out.cell hkn
      have c1 := hR.out.cell p1
      have g0 : gI (R.set k v) k = v := by rw [gI_set (by have := HRl.out; omega), if_pos rfl]
      have g1 : gI (R.set k v) (2 * k + 1) = gI R (2 * k + 1) := by rw [gI_set (by have := HRl.out; omega), if_neg (by omega)]
      have g2 : gI (R.set k v) (2 * k + 2) = gI R (2 * k + 2) := by rw [gI_set (by have := HRl.out; omega), if_neg (by omega)]
      have hch := child_or R k
      have hst : child R k < R.length ∧ gI R (child R k) < v → sink R k v = sink (R.set k (gI R (child R k))) (child R k) v := sink_step
      have hen : ¬ (child R k < R.length ∧ gI R (child R k) < v) → sink R k v = R.set k v := sink_end
      rw [HRl.out] at hch hst hen
      rw [g0] at c0
      rw [g1] at c1
      have hb1 := hR.out.bd.gI (2 * k + 1)
      rw [g1] at hb1
      have hb0 := hR.out.bd.gI k
      rw [g0] at hb0
      clear g0 g1
      by_cases p2 : 2 * k + 2 < n
      · have q2 : 2 * (k : Int) + 2 < n := by omega
        have c2 := hR.out.cell p2
        rw [g2] at c2
        have hb2 := hR.out.bd.gI (2 * k + 2)
        rw [g2] at hb2
        clear g2
        generalize hy1 : gI R (2 * k + 1) = y1 at *
        generalize hy2 : gI R (2 * k + 2) = y2 at *
        have HY1 := Lib.hid hy1
        have HY2 := Lib.hid hy2
        have HST := Lib.hid hst
        have HEN := Lib.hid hen
        clear hst hen hy1 hy2
        by_cases h21 : y2 < y1
        · have hcc : child R k = 2 * k + 2 := by rcases hch with h | h <;> omega
          have HY : Hid (gI R (2 * k + 2) = y2) := HY2
          have dm : decide ((n : Int) ≤ 2 * (k : Int) + 2) = false := by simp; omega
          have HCC := Lib.hid hcc
          clear hch hcc
          by_cases hyv : y2 < v
          · have hsS := Lib.hid (HST.out (by rw [HCC.out, HY.out]; exact ⟨by omega, hyv⟩))
            go_wp2
            go_quiet (fail)
            go_wp2
            rename Nat => nq1
            go_quiet (fail)
            go_wp2
            have hR2 := Lib.hid ((hR.out.drewN nq1).drewN nq)
            have hK2 := Lib.hid ((hKp.out.drewN nq1).drewN nq)
            have hlt2 : g < ((wr.drewN nq1).drewN nq).heap.size := hlt
            have c0' : ((wr.drewN nq1).drewN nq).cell? ⟨g, k, none⟩ = some (.int .i64 v) := c0
            have cm : ((wr.drewN nq1).drewN nq).cell? ⟨g, 2 * k + 2, none⟩ = some (.int .i64 y2) := c2
            have f1 := hR2.out.frozen k
            have f2 := hR2.out.frozen (2 * k + 2)
            have hkm : k ≠ 2 * k + 2 := by omega
            clear hlt hR hKp
            generalize (wr.drewN nq1).drewN nq = W at *
            go_region
            go_wp2
            refine ⟨⟨2 * k + 2, R.set k y2, .inl (by omega), val_int (by omega), by rw [List.length_set]; exact HRl.out, Lib.hid ?_, Lib.hid ?_, Lib.hid ((hK2.out.set_ _ _).set_ _ _).drew⟩, by simp [intOf]; omega⟩
            · have h3 := (hR2.out.set hb2 (show k < n by omega)).set hb0 (i := 2 * k + 2) (by omega)
              rw [List.set_set] at h3
              exact h3.drew
            · have h4 := hsS.out
              rw [HCC.out, HY.out] at h4
              exact h4.symm.trans hI.out
          · have hvy : v ≤ y2 := by omega
            have hsE := Lib.hid (HEN.out (by rw [HCC.out, HY.out]; omega))
            go_wp2
            go_quiet (fail)
            go_wp2
            rename Nat => nq1
            go_quiet (fail)
            go_wp2
            go_ret
            exact ⟨rfl, by rw [← hI.out, hsE.out]; exact (hR.out.drewN nq1).drewN _, (hKp.out.drewN nq1).drewN _⟩
        · have hcc : child R k = 2 * k + 1 := by rcases hch with h | h <;> omega
          have HY : Hid (gI R (2 * k + 1) = y1) := HY1
          have dm : decide ((n : Int) ≤ 2 * (k : Int) + 1) = false := by simp; omega
          have HCC := Lib.hid hcc
          have h12 : y1 ≤ y2 := by omega
          clear hch hcc
          by_cases hyv : y1 < v
          · have hsS := Lib.hid (HST.out (by rw [HCC.out, HY.out]; exact ⟨by omega, hyv⟩))
            go_wp2
            go_quiet (fail)
            go_wp2
            rename Nat => nq1
            go_quiet (fail)
            go_wp2
            have hR2 := Lib.hid ((hR.out.drewN nq1).drewN nq)
            have hK2 := Lib.hid ((hKp.out.drewN nq1).drewN nq)
            have hlt2 : g < ((wr.drewN nq1).drewN nq).heap.size := hlt
            have c0' : ((wr.drewN nq1).drewN nq).cell? ⟨g, k, none⟩ = some (.int .i64 v) := c0
            have cm : ((wr.drewN nq1).drewN nq).cell? ⟨g, 2 * k + 1, none⟩ = some (.int .i64 y1) := c1
            have f1 := hR2.out.frozen k
            have f2 := hR2.out.frozen (2 * k + 1)
            have hkm : k ≠ 2 * k + 1 := by omega
            clear hlt hR hKp
            generalize (wr.drewN nq1).drewN nq = W at *
            go_region
            go_wp2
            refine ⟨⟨2 * k + 1, R.set k y1, .inl (by omega), val_int (by omega), by rw [List.length_set]; exact HRl.out, Lib.hid ?_, Lib.hid ?_, Lib.hid ((hK2.out.set_ _ _).set_ _ _).drew⟩, by simp [intOf]; omega⟩
            · have h3 := (hR2.out.set hb1 (show k < n by omega)).set hb0 (i := 2 * k + 1) (by omega)
              rw [List.set_set] at h3
              exact h3.drew
            · have h4 := hsS.out
              rw [HCC.out, HY.out] at h4
              exact h4.symm.trans hI.out
          · have hvy : v ≤ y1 := by omega
            have hsE := Lib.hid (HEN.out (by rw [HCC.out, HY.out]; omega))
            go_wp2
            go_quiet (fail)
            go_wp2
            rename Nat => nq1
            go_quiet (fail)
            go_wp2
            go_ret
            exact ⟨rfl, by rw [← hI.out, hsE.out]; exact (hR.out.drewN nq1).drewN _, (hKp.out.drewN nq1).drewN _⟩
      · have d2 : decide (2 * (k : Int) + 2 < n) = false := by simp; omega
        have hcc : child R k = 2 * k + 1 := by rcases hch with h | h <;> omega
        generalize hy1 : gI R (2 * k + 1) = y1 at *
        have HY := Lib.hid hy1
        have dm : decide ((n : Int) ≤ 2 * (k : Int) + 1) = false := by simp; omega
        have HST := Lib.hid hst
        have HEN := Lib.hid hen
        have HCC := Lib.hid hcc
        clear hst hen hy1 hch hcc
        by_cases hyv : y1 < v
        · have hsS := Lib.hid (HST.out (by rw [HCC.out, HY.out]; exact ⟨by omega, hyv⟩))
          go_wp2
          go_quiet (fail)
          go_wp2
          rename Nat => nq1
          go_quiet (fail)
          go_wp2
          have hR2 := Lib.hid ((hR.out.drewN nq1).drewN nq)
          have hK2 := Lib.hid ((hKp.out.drewN nq1).drewN nq)
          have hlt2 : g < ((wr.drewN nq1).drewN nq).heap.size := hlt
          have c0' : ((wr.drewN nq1).drewN nq).cell? ⟨g, k, none⟩ = some (.int .i64 v) := c0
          have cm : ((wr.drewN nq1).drewN nq).cell? ⟨g, 2 * k + 1, none⟩ = some (.int .i64 y1) := c1
          have f1 := hR2.out.frozen k
          have f2 := hR2.out.frozen (2 * k + 1)
          have hkm : k ≠ 2 * k + 1 := by omega
          clear hlt hR hKp
          generalize (wr.drewN nq1).drewN nq = W at *
          go_region
          go_wp2
          refine ⟨⟨2 * k + 1, R.set k y1, .inl (by omega), val_int (by omega), by rw [List.length_set]; exact HRl.out, Lib.hid ?_, Lib.hid ?_, Lib.hid ((hK2.out.set_ _ _).set_ _ _).drew⟩, by simp [intOf]; omega⟩
          · have h3 := (hR2.out.set hb1 (show k < n by omega)).set hb0 (i := 2 * k + 1) (by omega)
            rw [List.set_set] at h3
            exact h3.drew
          · have h4 := hsS.out
            rw [HCC.out, HY.out] at h4
            exact h4.symm.trans hI.out
        · have hvy : v ≤ y1 := by omega
          have hsE := Lib.hid (HEN.out (by rw [HCC.out, HY.out]; omega))
          go_wp2
          go_quiet (fail)
          go_wp2
          rename Nat => nq1
          go_quiet (fail)
          go_wp2
          go_ret
          exact ⟨rfl, by rw [← hI.out, hsE.out]; exact (hR.out.drewN nq1).drewN _, (hKp.out.drewN nq1).drewN _⟩
    · have hen : sink R k v = R.set k v := sink_end (by rcases child_or R k with h | h <;> (rw [HRl.out] at h; rw [HRl.out]; omega))
      have HEN := Lib.hid hen
      clear hen
      have d1 : decide (2 * (k : Int) + 2 < n) = false := by simp; omega
      have d2 : decide ((n : Int) ≤ 2 * (k : Int) + 1) = true := by simp; omega
      go_wp2
      go_quiet (fail)
      go_wp2
      rename Nat => nq1
      go_quiet (fail)
      go_wp2
      go_ret
      exact ⟨rfl, by rw [← hI.out, HEN.out]; exact (hR.out.drewN nq1).drewN _, (hKp.out.drewN nq1).drewN _⟩
end Go.Proofs.Ytfpfhiogfjlpaaa
