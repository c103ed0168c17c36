/-
  The plain mathematics of the heap: how the last one rises and the first one sinks. No program in sight.
  What heap.up and heap.down do with a row of numbers of the call's own: the last one rises, the first one sinks. For rows of at most 100 numbers.
  What heap.Do returns: for lists of at most 60 numbers.
-/
import Derived.Test.YtkoflhjnpilchaaGreatDoorMBase
import Derived.Test.YtkoflhjnpilchaaGreatDoorMWord
import Derived.BigRegion
namespace Go.Proofs.YtkoflhjnpilchaaGreatDoor
set_option linter.unusedSimpArgs false
set_option linter.unusedVariables false
set_option linter.unusedSectionVars false

def gI (xs : List Int) (i : Nat) : Int := xs[i]?.getD 0
theorem gI_set {xs : List Int} {i j : Nat} {v : Int} (hi : i < xs.length) : gI (xs.set i v) j = if j = i then v else gI xs j := by
  unfold gI
  rw [List.getElem?_set]
  by_cases h : i = j
  · subst h; simp [hi]
  · rw [if_neg h, if_neg (fun e => h e.symm)]
theorem gI_take {xs : List Int} {n i : Nat} (h : i < n) : gI (xs.take n) i = gI xs i := by
  unfold gI; rw [List.getElem?_take, if_pos h]
theorem gI_app_lt {xs ys : List Int} {i : Nat} (h : i < xs.length) : gI (xs ++ ys) i = gI xs i := by
  unfold gI; rw [List.getElem?_append_left h]

/-- Where the lesser child stands. -/
def child (xs : List Int) (i : Nat) : Nat := if 2 * i + 2 < xs.length ∧ gI xs (2 * i + 2) < gI xs (2 * i + 1) then 2 * i + 2 else 2 * i + 1
theorem child_or (xs : List Int) (i : Nat) : (child xs i = 2 * i + 2 ∧ 2 * i + 2 < xs.length ∧ gI xs (2 * i + 2) < gI xs (2 * i + 1)) ∨ (child xs i = 2 * i + 1 ∧ ¬ (2 * i + 2 < xs.length ∧ gI xs (2 * i + 2) < gI xs (2 * i + 1))) := by
  unfold child
  by_cases h : 2 * i + 2 < xs.length ∧ gI xs (2 * i + 2) < gI xs (2 * i + 1)
  · rw [if_pos h]; exact .inl ⟨rfl, h.1, h.2⟩
  · rw [if_neg h]; exact .inr ⟨rfl, h⟩

def sink (xs : List Int) (i : Nat) (v : Int) : List Int :=
  if h : child xs i < xs.length ∧ gI xs (child xs i) < v then sink (xs.set i (gI xs (child xs i))) (child xs i) v else xs.set i v
termination_by xs.length - i
decreasing_by
  have := child_or xs i
  rw [List.length_set]
  omega
theorem sink_step {xs : List Int} {i : Nat} {v : Int} (h : child xs i < xs.length ∧ gI xs (child xs i) < v) : sink xs i v = sink (xs.set i (gI xs (child xs i))) (child xs i) v := by
  rw [sink, dif_pos h]
theorem sink_end {xs : List Int} {i : Nat} {v : Int} (h : ¬ (child xs i < xs.length ∧ gI xs (child xs i) < v)) : sink xs i v = xs.set i v := by
  rw [sink, dif_neg h]
theorem sink_nil (i : Nat) (v : Int) : sink [] i v = [] := by rw [sink_end (by simp)]; rfl

def rise (xs : List Int) (i : Nat) : List Int :=
  if h : 0 < i ∧ gI xs i < gI xs ((i - 1) / 2) then rise ((xs.set i (gI xs ((i - 1) / 2))).set ((i - 1) / 2) (gI xs i)) ((i - 1) / 2) else xs
termination_by i
decreasing_by omega
theorem rise_step {xs : List Int} {i : Nat} (h : 0 < i ∧ gI xs i < gI xs ((i - 1) / 2)) : rise xs i = rise ((xs.set i (gI xs ((i - 1) / 2))).set ((i - 1) / 2) (gI xs i)) ((i - 1) / 2) := by
  rw [rise, dif_pos h]
theorem rise_end {xs : List Int} {i : Nat} (h : ¬ (0 < i ∧ gI xs i < gI xs ((i - 1) / 2))) : rise xs i = xs := by
  rw [rise, dif_neg h]

/-- The program's list is the reference's with what sinks at place i: a swap is a step of both. -/
theorem swap_set (xs : List Int) (i k : Nat) (a v : Int) (hik : i ≠ k) : ((xs.set i v).set i a).set k v = (xs.set i a).set k v := by
  rw [List.set_set]

end Go.Proofs.YtkoflhjnpilchaaGreatDoor

namespace Go.Proofs.YtkoflhjnpilchaaGreatDoor
open Go.RowKit
attribute [local go_sem ↓] Go.wp_at_zero Go.wp_at_succ

/-- The first n cells of block g are the numbers xs. -/
structure RowI (w : World) (g n : Nat) (xs : List Int) : Prop where
  len : xs.length = n
  bd : IBd xs
  blk : ∃ cs, Blk w g 3 cs ∧ ∀ i, i < n → cs[i]? = some (.int .i64 (gI xs i))
section
variable {w w' : World} {g n : Nat} {xs : List Int}
theorem RowI.lt (h : RowI w g n xs) : g < w.heap.size := by obtain ⟨cs, hb, _⟩ := h.blk; exact hb.lt
theorem RowI.cell (h : RowI w g n xs) {i : Nat} (hi : i < n) : w.cell? ⟨g, i, none⟩ = some (.int .i64 (gI xs i)) := by
  obtain ⟨cs, hb, hc⟩ := h.blk; rw [hb.cell]; exact hc i hi
theorem RowI.frozen (h : RowI w g n xs) (i : Nat) : w.frozen? ⟨g, i, none⟩ = false := by obtain ⟨cs, hb, _⟩ := h.blk; exact hb.frozen i
theorem IBd.gI {xs : List Int} (h : IBd xs) (i : Nat) : -9223372036854775808 ≤ gI xs i ∧ gI xs i ≤ 9223372036854775807 := h i
theorem IBd.set {xs : List Int} (h : IBd xs) {i : Nat} {v : Int} (hv : -9223372036854775808 ≤ v ∧ v ≤ 9223372036854775807) : IBd (xs.set i v) := fun j => by
  rw [List.getElem?_set]
  split
  · split
    · exact hv
    · decide
  · exact h j
theorem IBd.take {xs : List Int} (h : IBd xs) (k : Nat) : IBd (xs.take k) := fun j => by
  rw [List.getElem?_take]
  split
  · exact h j
  · decide
theorem RowI.set (h : RowI w g n xs) {i : Nat} {v : Int} (hv : -9223372036854775808 ≤ v ∧ v ≤ 9223372036854775807) (hi : i < n) : RowI (w.setCell ⟨g, i, none⟩ (.int .i64 v)) g n (xs.set i v) := by
  obtain ⟨cs, hb, hc⟩ := h.blk
  have hl := h.len
  refine ⟨by rw [List.length_set]; exact hl, h.bd.set hv, _, hb.set_ i _, fun j hj => ?_⟩
  rw [Array.getElem?_setIfInBounds, gI_set (by omega)]
  have hsz : i < cs.size := by
    have := hc i hi
    rcases Nat.lt_or_ge i cs.size with h | h
    · exact h
    · rw [Array.getElem?_eq_none h] at this; cases this
  by_cases hij : i = j
  · subst hij; rw [if_pos rfl, if_pos hsz, if_pos rfl]
  · rw [if_neg hij, if_neg (fun e => hij e.symm)]; exact hc j hj
theorem RowI.keeps {S : Nat → Prop} (h : RowI w g n xs) (hk : Keeps S w w') (hS : ¬ S g) : RowI w' g n xs := by
  obtain ⟨cs, hb, hc⟩ := h.blk
  exact ⟨h.len, h.bd, cs, (hk.block g hb.lt hS).trans hb, hc⟩
theorem RowI.below {B : Nat} (h : RowI w g n xs) (hb : Below B w w') (hg : g < B) : RowI w' g n xs := by
  obtain ⟨cs, hk, hc⟩ := h.blk
  exact ⟨h.len, h.bd, cs, hk.below hb hg, hc⟩
theorem RowI.far (h : RowI w g n xs) {p : Addr} (hp : g ≠ p.block) (u : Value) : RowI (w.setCell p u) g n xs := by
  obtain ⟨cs, hk, hc⟩ := h.blk
  exact ⟨h.len, h.bd, cs, hk.far hp u, hc⟩
theorem RowI.alloc (h : RowI w g n xs) (o : Obj) : RowI (w.alloc o) g n xs := by
  obtain ⟨cs, hk, hc⟩ := h.blk
  exact ⟨h.len, h.bd, cs, hk.alloc o, hc⟩
theorem RowI.drew (h : RowI w g n xs) : RowI w.drew g n xs := ⟨h.len, h.bd, h.blk⟩
theorem RowI.drewN (h : RowI w g n xs) (k : Nat) : RowI (w.drewN k) g n xs := ⟨h.len, h.bd, h.blk⟩
theorem RowI.take (h : RowI w g n xs) {k : Nat} (hk : k ≤ n) : RowI w g k (xs.take k) := by
  obtain ⟨cs, hb, hc⟩ := h.blk
  exact ⟨by rw [List.length_take, h.len]; omega, h.bd.take k, cs, hb, fun i hi => by rw [gI_take hi]; exact hc i (by omega)⟩
theorem RowI.slo (h : RowI w g n xs) {B c : Nat} (hg : B ≤ g) (hc : n ≤ c) (h63 : c ≤ 9223372036854775807) : SlO w B (some ⟨g, 0, none⟩) n c xs :=
  ⟨⟨h.len, hc, h63, h.bd, fun _ => ⟨g, 0, rfl, h.lt, fun i hi => by rw [Nat.zero_add]; exact h.cell hi⟩⟩, fun _ b hb => by cases hb; exact hg⟩
end
theorem Own.row {w : World} {B : Nat} {A : Option Addr} {n c : Nat} {xs : List Int} (h : Own w B A n c xs) (bd : IBd xs) (hn : 0 < n) : ∃ g, A = some ⟨g, 0, none⟩ ∧ B ≤ g ∧ RowI w g n xs := by
  have hl := h.len
  rcases h.2 with ⟨hv, h0⟩ | ⟨g, cap, cur, hv, hb, hg, hc, hm, hs, ht⟩
  · omega
  · simp only [Value.slice.injEq, true_and] at hv
    obtain ⟨rfl, rfl⟩ := hv
    refine ⟨g, rfl, hb, hl, bd, cur, hg, fun i hi => ?_⟩
    have e : (cur.toList.take (n * 1))[i]? = (xs.map (Value.int .i64))[i]? := by rw [ht]
    rw [List.getElem?_take, if_pos (by omega), List.getElem?_map, List.getElem?_eq_getElem (l := xs) (by omega)] at e
    simpa [gI, List.getElem?_eq_getElem (show i < xs.length by omega)] using e

theorem Keeps.set_ {g : Nat} {w w' : World} (h : Keeps (fun b => b = g) w w') (i : Nat) (u : Value) : Keeps (fun b => b = g) w (w'.setCell ⟨g, i, none⟩ u) := h.setCell (.inl rfl) u

set_option maxRecDepth 100000 in
set_option maxHeartbeats 1000000 in
theorem up_any (g n c : Nat) (xs : List Int) (w : World) (h : RowI w g n xs) (hn : 0 < n) (h60 : n ≤ 100) :
    Calls Tryz.prog 86 #[.slice (some ⟨g, 0, none⟩) n c] w fun e w' => e = .returned (.slice (some ⟨g, 0, none⟩) n c) ∧ RowI w' g n (rise xs (n - 1)) ∧ Keeps (fun b => b = g) w w' := by
  have H := Lib.hid h
  clear h
  go_enter Tryz.func86, Tryz.ntmps86
  go_wp2
  go_loopw [3] (fun i wr => ∃ (k : Nat) (R : List Int), k < n ∧ i = .int .i64 k ∧ Hid (RowI wr g n R) ∧ Hid (rise R k = rise xs (n - 1)) ∧ Hid (Keeps (fun b => b = g) w wr)) (fun i _ => (intOf i).toNat)
  case atStart => exact ⟨n - 1, xs, by omega, val_int (by omega), H, Lib.hid rfl, Lib.hid (Keeps.refl _ _)⟩
  case round =>
    obtain ⟨k, R, hk, rfl, hR, hI, hKp⟩ := hrel
    have q1 : (k : Int) < n := by omega
    have hlt := hR.out.lt
    by_cases hk0 : 0 < k
    · have c1 := hR.out.cell hk
      have c2 := hR.out.cell (i := (k - 1) / 2) (by omega)
      have b2 : ((k : Int) - 1) / 2 < n := by omega
      have b3 : 0 ≤ ((k : Int) - 1) / 2 := by omega
      have b4 : 0 < (k : Int) := by omega
      have hne : k ≠ (k - 1) / 2 := by omega
      have hbx := hR.out.bd.gI k
      have hby := hR.out.bd.gI ((k - 1) / 2)
      have hS : Hid (gI R k < gI R ((k - 1) / 2) → rise R k = rise ((R.set k (gI R ((k - 1) / 2))).set ((k - 1) / 2) (gI R k)) ((k - 1) / 2)) := fun h => rise_step ⟨hk0, h⟩
      have hE : Hid (¬ gI R k < gI R ((k - 1) / 2) → rise R k = R) := fun h => rise_end (fun h' => h h'.2)
      generalize hx : gI R k = x at *
      generalize hy : gI R ((k - 1) / 2) = y at *
      have hx := Lib.hid hx
      have hy := Lib.hid hy
      go_wp2
      go_quiet (fail)
      go_wp2
      · have hlt1 : x < y := by assumption
        have hR2 := Lib.hid (hR.out.drewN nq)
        have hK2 := Lib.hid (hKp.out.drewN nq)
        have hlt2 : g < (wr.drewN nq).heap.size := hlt
        clear c1 c2 hlt hR hKp
        generalize wr.drewN nq = W at *
        have c1 := hR2.out.cell hk
        have c2 := hR2.out.cell (i := (k - 1) / 2) (by omega)
        rw [hx.out] at c1
        rw [hy.out] at c2
        have f1 := hR2.out.frozen k
        have f2 := hR2.out.frozen ((k - 1) / 2)
        have hSS := Lib.hid (hS.out hlt1)
        have e1 : IntKind.i64.wrap ((k : Int) - 1) = (k : Int) - 1 := IntWalk.i64_in _ (by omega)
        have e2 : IntKind.i64.wrap (((k : Int) - 1).tdiv 2) = ((k : Int) - 1) / 2 := by rw [Int.tdiv_eq_ediv_of_nonneg (by omega)]; exact IntWalk.i64_in _ (by omega)
        have e3 : (((k : Int) - 1) / 2).toNat = (k - 1) / 2 := by omega
        go_region
        go_wp2
        exact ⟨⟨(k - 1) / 2, _, by omega, val_int (by omega), Lib.hid ((hR2.out.set hby hk).set hbx (by omega)).drew, Lib.hid (hSS.out.symm.trans hI.out), Lib.hid ((hK2.out.set_ _ _).set_ _ _).drew⟩, by simp [intOf]; omega⟩
      · have hge : y ≤ x := by assumption
        have hEE := hE.out hge
        go_ret
        exact ⟨rfl, by rw [← hI.out, hEE]; exact hR.out.drewN _, hKp.out.drewN _⟩
    · obtain rfl : k = 0 := by omega
      have hEE : rise R 0 = R := rise_end (fun h => absurd h.1 (by omega))
      have HEE := Lib.hid hEE
      clear hEE
      go_wp2
      go_quiet (fail)
      go_wp2
      go_ret
      exact ⟨rfl, by rw [← hI.out, HEE.out]; exact hR.out.drewN _, hKp.out.drewN _⟩

set_option maxRecDepth 100000 in
set_option maxHeartbeats 1000000 in
theorem down_any (A : Option Addr) (g n c : Nat) (xs : List Int) (v : Int) (w : World) (hA : 0 < n → A = some ⟨g, 0, none⟩) (h : RowI w g n (xs.set 0 v)) (h60 : n ≤ 100) :
    Calls Tryz.prog 87 #[.slice A n c] w fun e w' => e = .returned (.slice A n c) ∧ RowI w' g n (sink xs 0 v) ∧ Keeps (fun b => b = g) w w' := by
  have H := Lib.hid h
  have hl : xs.length = n := by have := h.len; simpa using this
  have HL := Lib.hid hl
  have HA := Lib.hid hA
  clear h hl hA
  go_enter Tryz.func87, Tryz.ntmps87
  go_wp2
  go_loopw [3] (fun i wr => ∃ (k : Nat) (R : List Int), (k < n ∨ n = 0 ∧ k = 0) ∧ i = .int .i64 k ∧ R.length = n ∧ Hid (RowI wr g n (R.set k v)) ∧ Hid (sink R k v = sink xs 0 v) ∧ Hid (Keeps (fun b => b = g) w wr)) (fun i _ => n - (intOf i).toNat)
  case atStart => exact ⟨0, xs, by omega, rfl, HL.out, H, Lib.hid rfl, Lib.hid (Keeps.refl _ _)⟩
  case round =>
    obtain ⟨k, R, hk, rfl, hRl, hR, hI, hKp⟩ := hrel
    have HRl := Lib.hid hRl
    clear hRl
    have hk60 : k < 100 := by omega
    have e1 : IntKind.i64.wrap (2 * (k : Int)) = 2 * k := IntWalk.i64_in _ (by omega)
    have e2 : IntKind.i64.wrap (2 * (k : Int) + 1) = 2 * k + 1 := IntWalk.i64_in _ (by omega)
    have e3 : IntKind.i64.wrap (2 * (k : Int) + 1 + 1) = 2 * k + 2 := by rw [show 2 * (k : Int) + 1 + 1 = 2 * k + 2 by omega]; exact IntWalk.i64_in _ (by omega)
    have hlt := hR.out.lt
    rcases Nat.lt_or_ge (2 * k + 1) n with p1 | p1
    · obtain rfl := HA.out (by omega)
      have hkn : k < n := by omega
      have q0 : (k : Int) < n := by omega
      have q1 : 2 * (k : Int) + 1 < n := by omega
      have c0 := hR.out.cell hkn
      have c1 := hR.out.cell p1
      have g0 : gI (R.set k v) k = v := by rw [gI_set (by have := HRl.out; omega), if_pos rfl]
      have g1 : gI (R.set k v) (2 * k + 1) = gI R (2 * k + 1) := by rw [gI_set (by have := HRl.out; omega), if_neg (by omega)]
      have g2 : gI (R.set k v) (2 * k + 2) = gI R (2 * k + 2) := by rw [gI_set (by have := HRl.out; omega), if_neg (by omega)]
      have hch := child_or R k
      have hst : child R k < R.length ∧ gI R (child R k) < v → sink R k v = sink (R.set k (gI R (child R k))) (child R k) v := sink_step
      have hen : ¬ (child R k < R.length ∧ gI R (child R k) < v) → sink R k v = R.set k v := sink_end
      rw [HRl.out] at hch hst hen
      rw [g0] at c0
      rw [g1] at c1
      have hb1 := hR.out.bd.gI (2 * k + 1)
      rw [g1] at hb1
      have hb0 := hR.out.bd.gI k
      rw [g0] at hb0
      clear g0 g1
      by_cases p2 : 2 * k + 2 < n
      · have q2 : 2 * (k : Int) + 2 < n := by omega
        have c2 := hR.out.cell p2
        rw [g2] at c2
        have hb2 := hR.out.bd.gI (2 * k + 2)
        rw [g2] at hb2
        clear g2
        generalize hy1 : gI R (2 * k + 1) = y1 at *
        generalize hy2 : gI R (2 * k + 2) = y2 at *
        have HY1 := Lib.hid hy1
        have HY2 := Lib.hid hy2
        have HST := Lib.hid hst
        have HEN := Lib.hid hen
        clear hst hen hy1 hy2
        by_cases h21 : y2 < y1
        · have hcc : child R k = 2 * k + 2 := by rcases hch with h | h <;> omega
          have HY : Hid (gI R (2 * k + 2) = y2) := HY2
          have dm : decide ((n : Int) ≤ 2 * (k : Int) + 2) = false := by simp; omega
          have HCC := Lib.hid hcc
          clear hch hcc
          by_cases hyv : y2 < v
          · have hsS := Lib.hid (HST.out (by rw [HCC.out, HY.out]; exact ⟨by omega, hyv⟩))
            go_wp2
            go_quiet (fail)
            go_wp2
            rename Nat => nq1
            go_quiet (fail)
            go_wp2
            have hR2 := Lib.hid ((hR.out.drewN nq1).drewN nq)
            have hK2 := Lib.hid ((hKp.out.drewN nq1).drewN nq)
            have hlt2 : g < ((wr.drewN nq1).drewN nq).heap.size := hlt
            have c0' : ((wr.drewN nq1).drewN nq).cell? ⟨g, k, none⟩ = some (.int .i64 v) := c0
            have cm : ((wr.drewN nq1).drewN nq).cell? ⟨g, 2 * k + 2, none⟩ = some (.int .i64 y2) := c2
            have f1 := hR2.out.frozen k
            have f2 := hR2.out.frozen (2 * k + 2)
            have hkm : k ≠ 2 * k + 2 := by omega
            clear hlt hR hKp
            generalize (wr.drewN nq1).drewN nq = W at *
            go_region
            go_wp2
            refine ⟨⟨2 * k + 2, R.set k y2, .inl (by omega), val_int (by omega), by rw [List.length_set]; exact HRl.out, Lib.hid ?_, Lib.hid ?_, Lib.hid ((hK2.out.set_ _ _).set_ _ _).drew⟩, by simp [intOf]; omega⟩
            · have h3 := (hR2.out.set hb2 (show k < n by omega)).set hb0 (i := 2 * k + 2) (by omega)
              rw [List.set_set] at h3
              exact h3.drew
            · have h4 := hsS.out
              rw [HCC.out, HY.out] at h4
              exact h4.symm.trans hI.out
          · have hvy : v ≤ y2 := by omega
            have hsE := Lib.hid (HEN.out (by rw [HCC.out, HY.out]; omega))
            go_wp2
            go_quiet (fail)
            go_wp2
            rename Nat => nq1
            go_quiet (fail)
            go_wp2
            go_ret
            exact ⟨rfl, by rw [← hI.out, hsE.out]; exact (hR.out.drewN nq1).drewN _, (hKp.out.drewN nq1).drewN _⟩
        · have hcc : child R k = 2 * k + 1 := by rcases hch with h | h <;> omega
          have HY : Hid (gI R (2 * k + 1) = y1) := HY1
          have dm : decide ((n : Int) ≤ 2 * (k : Int) + 1) = false := by simp; omega
          have HCC := Lib.hid hcc
          have h12 : y1 ≤ y2 := by omega
          clear hch hcc
          by_cases hyv : y1 < v
          · have hsS := Lib.hid (HST.out (by rw [HCC.out, HY.out]; exact ⟨by omega, hyv⟩))
            go_wp2
            go_quiet (fail)
            go_wp2
            rename Nat => nq1
            go_quiet (fail)
            go_wp2
            have hR2 := Lib.hid ((hR.out.drewN nq1).drewN nq)
            have hK2 := Lib.hid ((hKp.out.drewN nq1).drewN nq)
            have hlt2 : g < ((wr.drewN nq1).drewN nq).heap.size := hlt
            have c0' : ((wr.drewN nq1).drewN nq).cell? ⟨g, k, none⟩ = some (.int .i64 v) := c0
            have cm : ((wr.drewN nq1).drewN nq).cell? ⟨g, 2 * k + 1, none⟩ = some (.int .i64 y1) := c1
            have f1 := hR2.out.frozen k
            have f2 := hR2.out.frozen (2 * k + 1)
            have hkm : k ≠ 2 * k + 1 := by omega
            clear hlt hR hKp
            generalize (wr.drewN nq1).drewN nq = W at *
            go_region
            go_wp2
            refine ⟨⟨2 * k + 1, R.set k y1, .inl (by omega), val_int (by omega), by rw [List.length_set]; exact HRl.out, Lib.hid ?_, Lib.hid ?_, Lib.hid ((hK2.out.set_ _ _).set_ _ _).drew⟩, by simp [intOf]; omega⟩
            · have h3 := (hR2.out.set hb1 (show k < n by omega)).set hb0 (i := 2 * k + 1) (by omega)
              rw [List.set_set] at h3
              exact h3.drew
            · have h4 := hsS.out
              rw [HCC.out, HY.out] at h4
              exact h4.symm.trans hI.out
          · have hvy : v ≤ y1 := by omega
            have hsE := Lib.hid (HEN.out (by rw [HCC.out, HY.out]; omega))
            go_wp2
            go_quiet (fail)
            go_wp2
            rename Nat => nq1
            go_quiet (fail)
            go_wp2
            go_ret
            exact ⟨rfl, by rw [← hI.out, hsE.out]; exact (hR.out.drewN nq1).drewN _, (hKp.out.drewN nq1).drewN _⟩
      · have d2 : decide (2 * (k : Int) + 2 < n) = false := by simp; omega
        have hcc : child R k = 2 * k + 1 := by rcases hch with h | h <;> omega
        generalize hy1 : gI R (2 * k + 1) = y1 at *
        have HY := Lib.hid hy1
        have dm : decide ((n : Int) ≤ 2 * (k : Int) + 1) = false := by simp; omega
        have HST := Lib.hid hst
        have HEN := Lib.hid hen
        have HCC := Lib.hid hcc
        clear hst hen hy1 hch hcc
        by_cases hyv : y1 < v
        · have hsS := Lib.hid (HST.out (by rw [HCC.out, HY.out]; exact ⟨by omega, hyv⟩))
          go_wp2
          go_quiet (fail)
          go_wp2
          rename Nat => nq1
          go_quiet (fail)
          go_wp2
          have hR2 := Lib.hid ((hR.out.drewN nq1).drewN nq)
          have hK2 := Lib.hid ((hKp.out.drewN nq1).drewN nq)
          have hlt2 : g < ((wr.drewN nq1).drewN nq).heap.size := hlt
          have c0' : ((wr.drewN nq1).drewN nq).cell? ⟨g, k, none⟩ = some (.int .i64 v) := c0
          have cm : ((wr.drewN nq1).drewN nq).cell? ⟨g, 2 * k + 1, none⟩ = some (.int .i64 y1) := c1
          have f1 := hR2.out.frozen k
          have f2 := hR2.out.frozen (2 * k + 1)
          have hkm : k ≠ 2 * k + 1 := by omega
          clear hlt hR hKp
          generalize (wr.drewN nq1).drewN nq = W at *
          go_region
          go_wp2
          refine ⟨⟨2 * k + 1, R.set k y1, .inl (by omega), val_int (by omega), by rw [List.length_set]; exact HRl.out, Lib.hid ?_, Lib.hid ?_, Lib.hid ((hK2.out.set_ _ _).set_ _ _).drew⟩, by simp [intOf]; omega⟩
          · have h3 := (hR2.out.set hb1 (show k < n by omega)).set hb0 (i := 2 * k + 1) (by omega)
            rw [List.set_set] at h3
            exact h3.drew
          · have h4 := hsS.out
            rw [HCC.out, HY.out] at h4
            exact h4.symm.trans hI.out
        · have hvy : v ≤ y1 := by omega
          have hsE := Lib.hid (HEN.out (by rw [HCC.out, HY.out]; omega))
          go_wp2
          go_quiet (fail)
          go_wp2
          rename Nat => nq1
          go_quiet (fail)
          go_wp2
          go_ret
          exact ⟨rfl, by rw [← hI.out, hsE.out]; exact (hR.out.drewN nq1).drewN _, (hKp.out.drewN nq1).drewN _⟩
    · have hen : sink R k v = R.set k v := sink_end (by rcases child_or R k with h | h <;> (rw [HRl.out] at h; rw [HRl.out]; omega))
      have HEN := Lib.hid hen
      clear hen
      have d1 : decide (2 * (k : Int) + 2 < n) = false := by simp; omega
      have d2 : decide ((n : Int) ≤ 2 * (k : Int) + 1) = true := by simp; omega
      go_wp2
      go_quiet (fail)
      go_wp2
      rename Nat => nq1
      go_quiet (fail)
      go_wp2
      go_ret
      exact ⟨rfl, by rw [← hI.out, HEN.out]; exact (hR.out.drewN nq1).drewN _, (hKp.out.drewN nq1).drewN _⟩
end Go.Proofs.YtkoflhjnpilchaaGreatDoor

namespace Go.Proofs.YtkoflhjnpilchaaGreatDoor
open Go.RowKit
attribute [local go_sem ↓] Go.wp_at_zero Go.wp_at_succ

def heapY (xs : List Int) (a v : Int) : List Int := if a = 1 then (if xs.length < 6 then rise (xs ++ [v]) xs.length else xs) else if a = 2 then sink (xs.take (xs.length - 1)) 0 (gI xs (xs.length - 1)) else xs
def heapC (xs : List Int) (a : Int) : Int := if a = 1 then (if xs.length < 6 then 1 else 3) else if a = 2 ∨ a = 5 then (if xs.length = 0 then 2 else 1) else if a = 6 then 1 else 5
def heapV (xs : List Int) (a : Int) : Int := if a = 2 ∨ a = 5 then gI xs 0 else if a = 6 then xs.length else 0

theorem frozen_setCell_all (w : World) (p q : Addr) (u : Value) : (w.setCell p u).frozen? q = w.frozen? q := by simp
theorem rowKeepsBelow {w w1 w2 : World} {g : Nat} (hb : Below w.heap.size w w1) (hk : Keeps (fun b => b = g) w1 w2) (hg : w.heap.size ≤ g) : Below w.heap.size w w2 :=
  hb.trans (hk.below hb.size (fun b hlt e => by omega))

set_option linter.unusedSimpArgs false in
set_option maxRecDepth 100000 in
set_option maxHeartbeats 2000000 in
theorem heap_put (A : Option Addr) (n c : Nat) (xs : List Int) (k v : Int) (w : World) (h : SlI w A n c xs) (hn : n < 6) (hv : -9223372036854775808 ≤ v ∧ v ≤ 9223372036854775807) :
    Calls Tryz.prog 67 #[.slice A n c, .agg #[.int .i64 1, .int .i64 k, .int .i64 v]] w (RetL (rise (xs ++ [v]) n) 1 0 w) := by
  have H := Lib.hid h
  clear h
  have hv' := Lib.hid hv
  clear hv
  have d0 : decide (6 ≤ (n : Int)) = false := by simp; omega
  go_enter Tryz.func67, Tryz.ntmps67
  go_wp2_with (first
    | (go_at_call 83; refine (clone_at A n c xs w _ H.out (by omega) ?_).mono ?_; (go_grown); rintro e w1 ⟨A1, c1, rfl, hown, hb1, hB⟩; obtain ⟨hc, hf⟩ := bcell hb1; have hz := hb1.size; simp only [World.size_alloc] at hz; replace hown := hown.mono (B' := w.heap.size + 2) (by simp); have q1 : w.heap.size + 1 < w1.heap.size := (by omega); have q0 : w.heap.size < w1.heap.size := (by omega); have hown' := Lib.hid hown; clear hown; have r0 := hc (w.heap.size + 1) 0 (by simp); have r1 := hc (w.heap.size + 1) 1 (by simp); have p0 := hf (w.heap.size + 1) 0 (by simp); have p1 := hf (w.heap.size + 1) 1 (by simp); simp [go_sem] at r0 r1 p0 p1; have m1 : ¬ w.heap.size + 1 = w1.heap.size := (by omega))
    | (at_builtin; refine wpList_append1 rfl (.tmp 19) (.tmp 22) rfl (B := w.heap.size + 2) rfl (hown'.out.alloc _) rfl ((Blk.new _ _ _).cell 0) (by omega) (by simp; omega) ?_; intro g2 c2 w2 hown2 hb2; obtain ⟨hc2, hf2⟩ := bcell hb2; have hz2 := hb2.size; simp only [World.size_alloc] at hz2; have hB2 : Below w.heap.size w w2 := Below.trans (by go_grown) (hb2.mono (by simp)); have s0 := (hc2 (w.heap.size + 1) 0 (by simp)).trans ((cell_alloc_lt (by omega)).trans r0); have s1 := (hc2 (w.heap.size + 1) 1 (by simp)).trans ((cell_alloc_lt (by omega)).trans r1); have y0 := (hf2 (w.heap.size + 1) 0 (by simp)).trans ((frozen_alloc_lt (by omega)).trans p0); have y1 := (hf2 (w.heap.size + 1) 1 (by simp)).trans ((frozen_alloc_lt (by omega)).trans p1); have hsl2 := Lib.hid (hown2.sli (IBd.app H.out.bd hv'.out)); obtain ⟨g3, hg3, hBg, hrow⟩ := hown2.row (IBd.app H.out.bd hv'.out) (by omega); cases hg3; have hrow' := Lib.hid hrow; clear hrow hown2; have q3 : w.heap.size + 1 < w2.heap.size := (by omega); have q4 : w.heap.size < w2.heap.size := (by omega); have m2 : ¬ w.heap.size + 1 = w2.heap.size := (by omega))
    | (go_at_call 86; refine (up_any g2 (n + 1) c2 _ _ hrow'.out (by omega) (by omega)).mono ?_; rintro e w3 ⟨rfl, hrow3, hk3⟩; have hr3 := Lib.hid hrow3; clear hrow3; have hsz3 := hk3.size; have hB3 := rowKeepsBelow hB2 hk3 (by omega); have t0 := (hk3.cell (p := ⟨w.heap.size + 1, 0, none⟩) q3 (by show ¬ w.heap.size + 1 = g2; omega)).trans s0; have t1 := (hk3.cell (p := ⟨w.heap.size + 1, 1, none⟩) q3 (by show ¬ w.heap.size + 1 = g2; omega)).trans s1; have z0 := (hk3.frozen (p := ⟨w.heap.size + 1, 0, none⟩) q3 (by show ¬ w.heap.size + 1 = g2; omega)).trans y0; have z1 := (hk3.frozen (p := ⟨w.heap.size + 1, 1, none⟩) q3 (by show ¬ w.heap.size + 1 = g2; omega)).trans y1; have q5 : w.heap.size + 1 < w3.heap.size := (by omega); have hk3' := Lib.hid hk3; clear hk3))
  all_goals (refine bodyPost_ret (by first | (simp [results, Tryz.results67, go_sem, t0, t1]; try rfl; done)) rfl ?_)
  refine retL_slo (hr3.out.slo hBg hsl2.out.cap hsl2.out.cap63) hB3 ?_ ?_ ?_ ?_ ?_ rfl rfl
  all_goals first | (show w.heap.size + 1 < w.heap.size + 2; omega) | (show w.heap.size ≤ w.heap.size + 1; omega) | skip
  simp


set_option linter.unusedSimpArgs false in
set_option maxRecDepth 100000 in
set_option maxHeartbeats 2000000 in
theorem heap_take (A : Option Addr) (n c : Nat) (xs : List Int) (k v : Int) (w : World) (h : SlI w A n c xs) (hn : n ≤ 60) (hn0 : 0 < n) :
    Calls Tryz.prog 67 #[.slice A n c, .agg #[.int .i64 2, .int .i64 k, .int .i64 v]] w (RetL (sink (xs.take (n - 1)) 0 (gI xs (n - 1))) 1 (gI xs 0) w) := by
  have hlen := Lib.hid h.len
  have H := Lib.hid h
  clear h
  have d0 : ((n : Int) == 0) = false := by simp; omega
  have b0 : (0 : Int) ≤ (n : Int) - 1 := by omega
  have b1 : (n : Int) - 1 < n := by omega
  have b1' : (n : Int) - 1 ≤ n := by omega
  have b1'' : (1 : Int) ≤ n := by omega
  have e1 : ((n : Int) - 1).toNat = n - 1 := by omega
  go_enter Tryz.func67, Tryz.ntmps67
  go_wp2_with (first
    | (go_at_call 83; refine (clone_at A n c xs w _ H.out (by omega) ?_).mono ?_; (go_grown); rintro e w1 ⟨A1, c1, rfl, hown, hb1, hB⟩; obtain ⟨hc, hf⟩ := bcell hb1; have hz := hb1.size; simp only [World.size_alloc] at hz; replace hown := hown.mono (B' := w.heap.size + 2) (by simp); have q1 : w.heap.size + 1 < w1.heap.size := (by omega); have q0 : w.heap.size < w1.heap.size := (by omega); obtain ⟨g, rfl, hg0, hrow⟩ := hown.row H.out.bd hn0; have hrow' := Lib.hid hrow; have x0 := hrow.cell (i := 0) hn0; have x1 := hrow.cell (i := n - 1) (by omega); have fz := hrow.frozen 0; have hc1n := (hown.sli H.out.bd).cap; have hc163 := (hown.sli H.out.bd).cap63; have b2 : (n : Int) - 1 ≤ c1 := (by omega); have hgl := hrow.lt; have mg : ¬ w.heap.size = g := (by omega); have mg2 : ¬ w.heap.size + 1 = g := (by omega); clear hrow hown; have r0 := hc (w.heap.size + 1) 0 (by simp); have r1 := hc (w.heap.size + 1) 1 (by simp); have r2 := hc w.heap.size 0 (by simp; omega); have p0 := hf (w.heap.size + 1) 0 (by simp); have p1 := hf (w.heap.size + 1) 1 (by simp); simp [go_sem] at r0 r1 r2 p0 p1; have m1 : ¬ w.heap.size + 1 = w1.heap.size := (by omega))
    | (go_at_call 87; refine (down_any _ g (n - 1) c1 (xs.take (n - 1)) (gI xs (n - 1)) _ (fun _ => rfl) ?_ (by omega)).mono ?_; (have h9 := (hrow'.out.set (H.out.bd (n - 1)) hn0 (v := gI xs (n - 1))).take (k := n - 1) (by omega); rw [List.take_set] at h9; exact h9); rintro e w3 ⟨rfl, hrow3, hk3⟩; have hr3 := Lib.hid hrow3; clear hrow3; have hsz3 := hk3.size; simp only [World.size_setCell] at hsz3; have hB3 := rowKeepsBelow (hB.setCell (show w.heap.size ≤ g by omega) _) hk3 (by omega); have t0 := (hk3.cell (p := ⟨w.heap.size + 1, 0, none⟩) (by simpa using q1) (by show ¬ w.heap.size + 1 = g; omega)).trans ((World.cell?_setCell_far _ _ _ _ (by show g ≠ w.heap.size + 1; omega)).trans r0); have t1 := (hk3.cell (p := ⟨w.heap.size + 1, 1, none⟩) (by simpa using q1) (by show ¬ w.heap.size + 1 = g; omega)).trans ((World.cell?_setCell_far _ _ _ _ (by show g ≠ w.heap.size + 1; omega)).trans r1); have z0 := (hk3.frozen (p := ⟨w.heap.size + 1, 0, none⟩) (by simpa using q1) (by show ¬ w.heap.size + 1 = g; omega)).trans ((frozen_setCell_all _ _ _ _).trans p0); have z1 := (hk3.frozen (p := ⟨w.heap.size + 1, 1, none⟩) (by simpa using q1) (by show ¬ w.heap.size + 1 = g; omega)).trans ((frozen_setCell_all _ _ _ _).trans p1); have q5 : w.heap.size + 1 < w3.heap.size := (by omega); have hk3' := Lib.hid hk3; clear hk3))
  all_goals (refine bodyPost_ret (by first | (simp [results, Tryz.results67, go_sem, t0, t1]; try rfl; done)) rfl ?_)
  refine retL_slo (hr3.out.slo hg0 (by omega) hc163) hB3 ?_ ?_ ?_ ?_ rfl rfl rfl
  all_goals first | (show w.heap.size + 1 < w.heap.size + 2; omega) | (show w.heap.size ≤ w.heap.size + 1; omega) | skip

set_option linter.unusedSimpArgs false in
set_option maxRecDepth 100000 in
set_option maxHeartbeats 2000000 in
theorem heap_rest (A : Option Addr) (n c : Nat) (xs : List Int) (a k v : Int) (w : World) (h : SlI w A n c xs) (hn : n ≤ 60) (h1 : a = 1 → 6 ≤ n) (h2 : a = 2 → n = 0) :
    Calls Tryz.prog 67 #[.slice A n c, .agg #[.int .i64 a, .int .i64 k, .int .i64 v]] w (RetL xs (heapC xs a) (heapV xs a) w) := by
  have hlen := Lib.hid h.len
  have H := Lib.hid h
  clear h
  rcases Nat.eq_zero_or_pos n with hn0 | hn0
  · subst hn0
    obtain rfl : xs = [] := List.eq_nil_of_length_eq_zero hlen.out
    have na1 : ¬ a = 1 := fun e => absurd (h1 e) (by omega)
    clear h1 h2
    go_enter Tryz.func67, Tryz.ntmps67
    go_wp2_with (go_at_call 83; refine (clone_at A 0 c [] w _ H.out (by omega) ?_).mono ?_; (go_grown); rintro e w1 ⟨A1, c1, rfl, hown, hb1, hB⟩; obtain ⟨hc, hf⟩ := bcell hb1; have hz := hb1.size; simp only [World.size_alloc] at hz; replace hown := hown.mono (B' := w.heap.size + 2) (by simp); have q1 : w.heap.size + 1 < w1.heap.size := (by omega); have q0 : w.heap.size < w1.heap.size := (by omega); have hown' := Lib.hid hown; clear hown; have r0 := hc (w.heap.size + 1) 0 (by simp); have r1 := hc (w.heap.size + 1) 1 (by simp); have r2 := hc w.heap.size 0 (by simp; omega); have p0 := hf (w.heap.size + 1) 0 (by simp); have p1 := hf (w.heap.size + 1) 1 (by simp); simp [go_sem] at r0 r1 r2 p0 p1; have m1 : ¬ w.heap.size + 1 = w1.heap.size := (by omega))
    all_goals (refine bodyPost_ret (by first | (simp [results, Tryz.results67, go_sem, r0, r1]; try rfl; done)) rfl ?_)
    all_goals try simp only [beq_iff_eq, beq_eq_false_iff_ne, bne_iff_ne, bne_eq_false_iff_eq, ne_eq] at *
    all_goals (refine retL_slo (hown'.out.slo H.out.bd) hB ?_ ?_ ?_ ?_ rfl ?_ ?_)
    all_goals first | (show w.heap.size + 1 < w.heap.size + 2; omega) | (show w.heap.size ≤ w.heap.size + 1; omega) | skip
    all_goals (simp only [heapC, heapV, gI]; (repeat' split) <;> first | rfl | (exfalso; omega) | (simp_all; done) | (simp_all; omega))
  · have d0 : ((n : Int) == 0) = false := by simp; omega
    have na2 : ¬ a = 2 := fun e => absurd (h2 e) (by omega)
    by_cases ha1 : a = 1
    · have h6 := h1 ha1
      subst ha1
      have d6 : decide (6 ≤ (n : Int)) = true := by simp; omega
      clear h1 h2
      go_enter Tryz.func67, Tryz.ntmps67
      go_wp2_with (go_at_call 83; refine (clone_at A n c xs w _ H.out (by omega) ?_).mono ?_; (go_grown); rintro e w1 ⟨A1, c1, rfl, hown, hb1, hB⟩; obtain ⟨hc, hf⟩ := bcell hb1; have hz := hb1.size; simp only [World.size_alloc] at hz; replace hown := hown.mono (B' := w.heap.size + 2) (by simp); have q1 : w.heap.size + 1 < w1.heap.size := (by omega); have q0 : w.heap.size < w1.heap.size := (by omega); obtain ⟨g, rfl, hg0, hrow⟩ := hown.row H.out.bd hn0; have x0 := hrow.cell (i := 0) hn0; have hgl := hrow.lt; have hown' := Lib.hid hown; clear hrow hown; have r0 := hc (w.heap.size + 1) 0 (by simp); have r1 := hc (w.heap.size + 1) 1 (by simp); have r2 := hc w.heap.size 0 (by simp; omega); have p0 := hf (w.heap.size + 1) 0 (by simp); have p1 := hf (w.heap.size + 1) 1 (by simp); simp [go_sem] at r0 r1 r2 p0 p1; have m1 : ¬ w.heap.size + 1 = w1.heap.size := (by omega))
      all_goals (refine bodyPost_ret (by first | (simp [results, Tryz.results67, go_sem, r0, r1]; try rfl; done)) rfl ?_)
      all_goals try simp only [beq_iff_eq, beq_eq_false_iff_ne, bne_iff_ne, bne_eq_false_iff_eq, ne_eq] at *
      all_goals (refine retL_slo (hown'.out.slo H.out.bd) hB ?_ ?_ ?_ ?_ rfl ?_ ?_)
      all_goals first | (show w.heap.size + 1 < w.heap.size + 2; omega) | (show w.heap.size ≤ w.heap.size + 1; omega) | skip
      all_goals (have hl := hlen.out; simp only [heapC, heapV]; (repeat' split) <;> first | rfl | (exfalso; omega) | (simp_all; done) | (simp_all; omega))
    · clear h1 h2
      go_enter Tryz.func67, Tryz.ntmps67
      go_wp2_with (go_at_call 83; refine (clone_at A n c xs w _ H.out (by omega) ?_).mono ?_; (go_grown); rintro e w1 ⟨A1, c1, rfl, hown, hb1, hB⟩; obtain ⟨hc, hf⟩ := bcell hb1; have hz := hb1.size; simp only [World.size_alloc] at hz; replace hown := hown.mono (B' := w.heap.size + 2) (by simp); have q1 : w.heap.size + 1 < w1.heap.size := (by omega); have q0 : w.heap.size < w1.heap.size := (by omega); obtain ⟨g, rfl, hg0, hrow⟩ := hown.row H.out.bd hn0; have x0 := hrow.cell (i := 0) hn0; have hgl := hrow.lt; have hown' := Lib.hid hown; clear hrow hown; have r0 := hc (w.heap.size + 1) 0 (by simp); have r1 := hc (w.heap.size + 1) 1 (by simp); have r2 := hc w.heap.size 0 (by simp; omega); have p0 := hf (w.heap.size + 1) 0 (by simp); have p1 := hf (w.heap.size + 1) 1 (by simp); simp [go_sem] at r0 r1 r2 p0 p1; have m1 : ¬ w.heap.size + 1 = w1.heap.size := (by omega))
      all_goals (refine bodyPost_ret (by first | (simp [results, Tryz.results67, go_sem, r0, r1]; try rfl; done)) rfl ?_)
      all_goals try simp only [beq_iff_eq, beq_eq_false_iff_ne, bne_iff_ne, bne_eq_false_iff_eq, ne_eq] at *
      all_goals (refine retL_slo (hown'.out.slo H.out.bd) hB ?_ ?_ ?_ ?_ rfl ?_ ?_)
      all_goals first | (show w.heap.size + 1 < w.heap.size + 2; omega) | (show w.heap.size ≤ w.heap.size + 1; omega) | skip
      all_goals (have hl := hlen.out; simp only [heapC, heapV]; (repeat' split) <;> first | rfl | (exfalso; omega) | (simp_all; done) | (simp_all; omega))

theorem heap_any (A : Option Addr) (n c : Nat) (xs : List Int) (a k v : Int) (w : World) (h : SlI w A n c xs) (hn : n ≤ 60) (hv : -9223372036854775808 ≤ v ∧ v ≤ 9223372036854775807) :
    Calls Tryz.prog 67 #[.slice A n c, .agg #[.int .i64 a, .int .i64 k, .int .i64 v]] w (RetL (heapY xs a v) (heapC xs a) (heapV xs a) w) := by
  have hl := h.len
  by_cases h1 : a = 1 ∧ n < 6
  · obtain ⟨rfl, h6⟩ := h1
    have e1 : heapY xs 1 v = rise (xs ++ [v]) n := by simp [heapY, hl, h6]
    have e2 : heapC xs 1 = 1 := by simp [heapC, hl, h6]
    have e3 : heapV xs 1 = 0 := by simp [heapV]
    rw [e1, e2, e3]
    exact heap_put A n c xs k v w h h6 hv
  · by_cases h2 : a = 2 ∧ 0 < n
    · obtain ⟨rfl, h0⟩ := h2
      have e1 : heapY xs 2 v = sink (xs.take (n - 1)) 0 (gI xs (n - 1)) := by simp [heapY, hl]
      have e2 : heapC xs 2 = 1 := by simp [heapC, hl]; omega
      have e3 : heapV xs 2 = gI xs 0 := by simp [heapV]
      rw [e1, e2, e3]
      exact heap_take A n c xs k v w h hn h0
    · have e1 : heapY xs a v = xs := by
        unfold heapY
        split
        · rw [if_neg (by omega)]
        · split
          · obtain rfl : xs = [] := List.eq_nil_of_length_eq_zero (by omega)
            exact sink_nil _ _
          · rfl
      rw [e1]
      exact heap_rest A n c xs a k v w h hn (by omega) (by omega)
end Go.Proofs.YtkoflhjnpilchaaGreatDoor
