/-
  What gristmillref.Batch returns: for every thirty-two words and up to a thousand asks.
-/
import Derived.Test.YtkoflhjnpilchaaGreatDoorBaP
import Derived.Test.YtkoflhjnpilchaaGreatDoorBatA
import Derived.Test.YtkoflhjnpilchaaGreatDoorRDone
import Derived.Test.YtkoflhjnpilchaaGreatDoorRecO
namespace Go.Proofs.YtkoflhjnpilchaaGreatDoor
set_option linter.unusedSimpArgs false
set_option linter.unusedVariables false
set_option linter.unusedSectionVars false
open Go.RowKit
set_option linter.unusedSimpArgs false
set_option linter.unusedVariables false
attribute [local go_sem ↓] Go.wp_at_zero Go.wp_at_succ

theorem results_ttr {P : Program} {fn : Func} {p q s : Tmp} {ty : TypeId} (h : fn.results = #[.tmp q, .tmp s, .cell p ty]) (tmps : Array Value) (w : World) (g : Nat) (t : TypeId) (cs : Array Value) (d : TypeDesc) (v u : Value)
    (hq : tmps.getD q undef = v) (hs : tmps.getD s undef = u) (hp : tmps.getD p undef = .pointer (some ⟨g, 0, none⟩)) (hg : Blk w g t cs)
    (hu : P.underlying ty = some d) (hd : (match d with | .struct _ | .array _ _ => true | _ => false) = true) (hi : (P.info? ty).map (·.size) = some cs.size) :
    (results fn tmps).run P w = .ok (.tuple #[v, u, .agg cs]) w := by
  have hp' : tmps[p]?.getD undef = .pointer (some ⟨g, 0, none⟩) := by simpa using hp
  have hq' : tmps[q]?.getD undef = v := by simpa using hq
  have hs' : tmps[s]?.getD undef = u := by simpa using hs
  simp [results, h, hp', hq', hs', asAddr, run_loadVar_row w g t ty cs (0, 0) d hg hu hd hi]
theorem refGoodB (w : World) : Calls Tryz.prog 16 #[] w fun e w' => e = .returned (.agg #[.int .i64 0, .int .i64 (-1)]) ∧ Below w.heap.size w w' := by
  go_enter Tryz.func16, Tryz.ntmps16
  go_wp2
  go_returns
  exact ⟨rfl, by go_grown⟩
theorem refBareB (e : Int) (w : World) : Calls Tryz.prog 11 #[.int .i64 e] w fun e' w' => e' = .returned (.agg #[.int .i64 e, .int .i64 (-1)]) ∧ Below w.heap.size w w' := by
  go_enter Tryz.func11, Tryz.ntmps11
  go_wp2
  go_returns
  exact ⟨rfl, by go_grown⟩
theorem infoDeedM : (Tryz.prog.info? 68).map (fun i => (i.zero, i.size, i.bytes)) = some (some (.agg #[.int .i64 0, .int .i64 0, .int .i64 0, .int .i64 0, .int .i64 0, .int .i64 0]), 6, 48) := by kernel_rfl
theorem info_deedM : ∃ i0, Tryz.prog.info? 68 = some i0 ∧ i0.zero = some (.agg #[.int .i64 0, .int .i64 0, .int .i64 0, .int .i64 0, .int .i64 0, .int .i64 0]) ∧ i0.size = 6 ∧ i0.bytes = 48 := by
  have h := infoDeedM
  cases hq : Tryz.prog.info? 68 with
  | none => simp [hq] at h
  | some i => simp [hq] at h; exact ⟨i, rfl, h.1, h.2.1, h.2.2⟩

theorem two_oneB (x y : Int) : (#[.int .i64 x, .int .i64 y] : Array Value).all (·.oneCell') = true := by kernel_rfl
theorem thOkP_congr {z z' : Nat → Int} {P : Nat → Prop} {kind : Int} {C : Array Value} {w : World} (h : ∀ i, i < 17 → z' i = z i) (hz : thingOk kind z) (x : ThOkP P kind z C w) : ThOkP P kind z' C w := by
  unfold ThOkP thingOk at *
  split
  · rename_i e
    rw [if_pos e] at x
    exact x.congrD fun i hi => h i (by omega)
  · rename_i e
    rw [if_neg e] at x hz
    split
    · rename_i e6
      rw [if_pos e6] at x
      rw [h 0 (by omega)]
      exact x
    · rename_i e6
      rw [if_neg e6] at x hz
      have hl : z 0 ≤ 6 := by
        split at hz
        · exact hz.1.1
        · exact hz.2.2.1
      obtain ⟨A, c, h1, h2, h3⟩ := x
      rw [h 0 (by omega)]
      refine ⟨A, c, h1, ?_, h3⟩
      unfold zL at *
      rw [h 0 (by omega), upL_congr h (by omega)]
      exact h2
def RecP (P : Nat → Prop) (z : Nat → Int) (R : Array Value) (w : World) : Prop := RcR R (R.extract 0 19) (acZ z) (avZ z) (whZ z) (tgZ z) (z 27) (z 28) ∧ ThOkP P (z 0) (oz z) (R.extract 0 19) w
theorem recP_done {z : Nat → Int} {P : Nat → Prop} (y : Nat → Int) (t : Nat) (co va : Int) (hr : recOk z) (hb : ∀ i, i < 32 → 0 ≤ z i) (ht : t < 4) (hy : thingOk (z 0) y) (ha : ansOk co va) {R : Array Value} {w : World}
    (hc : RcR R (R.extract 0 19) (upd (acZ z) t co) (upd (avZ z) t va) (upd (whZ z) t (z 28 + 1)) (upd (tgZ z) t (1 - tgZ z t)) (z 27) (z 28 + 1)) (hT : ThOkP P (z 0) y (R.extract 0 19) w) : RecP P (doneZ z y t co va) R w := by
  refine ⟨?_, ?_⟩
  · rw [doneZ_27 y t co va ht, doneZ_28 y t co va ht]
    exact hc.congr (doneZ_ac y t co va ht ha) (doneZ_av y t co va ht ha) (doneZ_wh y t co va ht) (doneZ_tg y t co va ht)
  · rw [doneZ_0]
    exact thOkP_congr (fun i hi => doneZ_oz y t co va i hi) hy hT
theorem refDone_z (P : Nat → Prop) (R : Array Value) (z : Nat → Int) (t : Nat) (a k v : Int) (w : World) (hr : recOk z) (hb : ∀ i, i < 32 → 0 ≤ z i ∧ z i < 18446744073709551616) (h : RecP P z R w) (h1 : R.all (·.oneCell') = true) (hP : ∀ b, w.heap.size ≤ b → P b) (ht : t < 4) (ho : opOk a k v) :
    Calls Tryz.prog 14 #[.agg R, .int .i64 t, .agg #[.int .i64 a, .int .i64 k, .int .i64 v]] w fun e w' => Below w.heap.size w w' ∧ ∃ R', R'.size = 37 ∧ R'.all (·.oneCell') = true ∧ e = .returned (.agg R') ∧ RecP P (dZ z t a k v) R' w' := by
  obtain ⟨hk, k1, k6⟩ := kindR_of hr
  obtain ⟨hy, hw, ha⟩ := dY_ok hr hb ho
  have hd := refDone_anyP P R (oz z) (z 0) a k v (mO z a k) _ _ _ _ _ _ t w h.1 h1 h.2 hP (fun i hi => hb (1 + i) (by omega)) (by rw [← hk]; exact hr.1.1) ho (by rw [← hk]; exact mO_ok hr a k) ht ⟨(hb 28 (by decide)).1, hr.1.2.2.1⟩ (by unfold tgZ; split <;> simp)
  refine hd.mono fun e w' ⟨hB, R', hs, hone, he, hc, hT⟩ => ⟨hB, R', hs, hone, he, ?_⟩
  unfold dZ dY dC dV
  unfold dY dC dV at *
  rw [hk] at *
  exact recP_done _ t _ _ hr (fun i hi => (hb i hi).1) ht hy ha hc hT

def RBOut (f : Nat → Nat → Int) (z : Nat → Int) (n : Nat) (w : World) (e : Ending) (w' : World) : Prop :=
  Below w.heap.size w w' ∧ ((∃ k, k < n ∧ (∀ j, j < k → askE (bz f z j) (f j) = 0) ∧ askE (bz f z k) (f k) ≠ 0 ∧ e = .returned (.tuple #[.slice none 0 0, .slice none 0 0, .agg #[.int .i64 (askE (bz f z k) (f k)), .int .i64 k]])) ∨
    ((∀ j, j < n → askE (bz f z j) (f j) = 0) ∧ ∃ g D A c, e = .returned (.tuple #[.slice (some ⟨g, 0, none⟩) 32 32, .slice A (bd f z n).length c, .agg #[.int .i64 0, .int .i64 (-1)]]) ∧ Blk w' g 22 D ∧ U64s D 32 (nextV (bz f z n)) ∧ w.heap.size ≤ g ∧ OwnR w' w.heap.size 68 6 A (bd f z n).length c (bd f z n)))
/-- Where the record's list may lie. -/
def FarB (gr : Nat) (A : Option Addr) (b : Nat) : Prop := b ≠ gr ∧ ¬ SlB A b
def SlNAt2 (B : Nat) (e : TypeId) (m n : Nat) (rows : List (List Value)) (A0 : Option Addr) (top : Nat) (v : Value) (w' : World) : Prop := ∃ A c, v = .slice A n c ∧ OwnR w' B e m A n c rows ∧ ∀ b, SlB A b → SlB A0 b ∨ top ≤ b
theorem ThOkP.and {P P' : Nat → Prop} {kind : Int} {z : Nat → Int} {C : Array Value} {w : World} (h : ThOkP P kind z C w) (hP : ∀ b, P b → b < w.heap.size → P' b) : ThOkP P' kind z C w := h.insideP.mono fun b hb => hP b hb.1 hb.2
theorem RcR.ver {R : Array Value} {a v h g : Nat → Int} {ver cnt : Int} (x : RcR R (R.extract 0 19) a v h g ver cnt) (n : Int) : RcR (R.setIfInBounds 35 (.int .u64 n)) ((R.setIfInBounds 35 (.int .u64 n)).extract 0 19) a v h g n cnt := by
  have e : ∀ i, i ≠ 35 → (R.setIfInBounds 35 (.int .u64 n))[i]? = R[i]? := fun i hi => by rw [Array.getElem?_setIfInBounds, if_neg (fun h => hi h.symm)]
  refine ⟨by simp [x.size], rfl, fun t ht => ?_, fun t ht => ?_, fun t ht => ?_, fun t ht => ?_, ?_, ?_⟩
  · rw [e _ (by omega)]; exact x.ac_ t ht
  · rw [e _ (by omega)]; exact x.av_ t ht
  · rw [e _ (by omega)]; exact x.wh_ t ht
  · rw [e _ (by omega)]; exact x.tg_ t ht
  · rw [Array.getElem?_setIfInBounds, if_pos rfl, if_pos (by rw [x.size]; decide)]
  · rw [e _ (by omega)]; exact x.cnt_
theorem farB_mk {gr : Nat} {A : Option Addr} {b : Nat} (h1 : b ≠ gr) (h2 : ¬ SlB A b) : FarB gr A b := ⟨h1, h2⟩
structure RbSt (w : World) (gr : Nat) (f : Nat → Nat → Int) (z : Nat → Int) (k : Nat) (A : Option Addr) (c : Nat) (R : Array Value) (wr : World) : Prop where
  hgr : w.heap.size < gr
  fault : Blk wr w.heap.size 30 #[.int .i64 0, .int .i64 0]
  rcd : Blk wr gr 56 R
  size : R.size = 37
  one : R.all (·.oneCell') = true
  rc : RecP (FarB gr A) (bz f z k) R wr
  own : OwnR wr (gr + 1) 68 6 A (bd f z k).length c (bd f z k)
  below : Below w.heap.size w wr
  right : recL (bz f z k)
  bds : ∀ i, i < 32 → 0 ≤ bz f z k i ∧ bz f z k i < 18446744073709551616
  good : ∀ j, j < k → askE (bz f z j) (f j) = 0
def RbOk (w : World) (gr : Nat) (f : Nat → Nat → Int) (z : Nat → Int) (k : Nat) (d : Value) (wr : World) : Prop := ∃ R A c, d = .slice A (bd f z k).length c ∧ RbSt w gr f z k A c R wr
theorem bd_len' (f : Nat → Nat → Int) (z : Nat → Int) : ∀ k, (bd f z k).length ≤ k
  | 0 => Nat.le_refl _
  | k + 1 => by
    have := bd_len' f z k
    unfold bd
    split
    · simp; omega
    · omega

set_option maxRecDepth 100000 in
set_option maxHeartbeats 4000000 in
theorem rbatch_bad (A0 : Option Addr) (c0 : Nat) (z : Nat → Int) (A : Option Addr) (n c : Nat) (w : World) (h : SlU w A0 32 c0 z) (hr : ¬ recOk z) :
    Calls Tryz.prog 4 #[.slice A0 32 c0, .slice A n c] w fun e w' => e = .returned (.tuple #[.slice none 0 0, .slice none 0 0, .agg #[.int .i64 1, .int .i64 (-1)]]) ∧ Below w.heap.size w w' := by
  have HRO := Lib.hid (fun W hW => recOf_any A0 c0 z false W hW ⟨fun h => Bool.noConfusion h, fun h => absurd h hr⟩)
  have HS := Lib.hid h
  clear h hr
  go_enter Tryz.func4, Tryz.ntmps4
  generalize hQ : bodyPost Tryz.prog Tryz.f4 (fun e w' => e = .returned (.tuple #[.slice none 0 0, .slice none 0 0, .agg #[.int .i64 1, .int .i64 (-1)]]) ∧ Below w.heap.size w w') = Q
  have HQ := Lib.hid hQ
  clear hQ
  go_wp2_with fail
  with_reducible refine (HRO.out _ (HS.out.below (by go_grown))).mono ?_
  rintro e w1 ⟨hb1, R, hs, hone, rfl, _⟩
  have HI : Hid ((Tryz.prog.info? 56).map (·.size) = some R.size) := by show _ = _; rw [infoRc, hs]
  have HRs : Hid (R.size = 37) := Lib.hid hs
  have HR1 := Lib.hid hone
  have HF1 := Lib.hid ((Blk.new w 30 #[.int .i64 0, .int .i64 0]).below hb1 (Blk.new _ _ _).lt)
  have HW1 : Hid (Below w.heap.size w w1) := Lib.hid (Below.trans (by go_grown) (hb1.mono (by simp)))
  have hl1 : w.heap.size < w1.heap.size := HF1.out.lt
  clear hb1 hs hone
  have HF2 := Lib.hid ((HF1.out.alloc (.cells #[.int .i64 0, .slice none 0 0, .int .i64 0, .int .i64 0, .int .i64 0, .int .i64 0, .int .i64 0, .int .i64 0, .int .i64 0, .int .i64 0, .int .i64 0, .int .i64 0, .int .i64 0, .int .i64 0, .int .i64 0, .int .i64 0, .int .i64 0, .int .i64 0, .int .i64 0, .int .i64 0, .int .i64 0, .int .i64 0, .int .i64 0, .int .i64 0, .int .i64 0, .int .i64 0, .int .i64 0, .int .u64 0, .int .u64 0, .int .u64 0, .int .u64 0, .int .i64 0, .int .i64 0, .int .i64 0, .int .i64 0, .int .u64 0, .int .u64 0] 56)).far_row (show w.heap.size ≠ w1.heap.size by omega) R)
  have HW2 := Lib.hid (below_setRow (HW1.out.alloc HW1.out.size (.cells #[.int .i64 0, .slice none 0 0, .int .i64 0, .int .i64 0, .int .i64 0, .int .i64 0, .int .i64 0, .int .i64 0, .int .i64 0, .int .i64 0, .int .i64 0, .int .i64 0, .int .i64 0, .int .i64 0, .int .i64 0, .int .i64 0, .int .i64 0, .int .i64 0, .int .i64 0, .int .i64 0, .int .i64 0, .int .i64 0, .int .i64 0, .int .i64 0, .int .i64 0, .int .i64 0, .int .i64 0, .int .u64 0, .int .u64 0, .int .u64 0, .int .u64 0, .int .i64 0, .int .i64 0, .int .i64 0, .int .i64 0, .int .u64 0, .int .u64 0] 56)) HW1.out.size R)
  go_wp2_with (with_reducible refine fStore 56 w1.heap.size R 56 #[.int .i64 0, .slice none 0 0, .int .i64 0, .int .i64 0, .int .i64 0, .int .i64 0, .int .i64 0, .int .i64 0, .int .i64 0, .int .i64 0, .int .i64 0, .int .i64 0, .int .i64 0, .int .i64 0, .int .i64 0, .int .i64 0, .int .i64 0, .int .i64 0, .int .i64 0, .int .i64 0, .int .i64 0, .int .i64 0, .int .i64 0, .int .i64 0, .int .i64 0, .int .i64 0, .int .i64 0, .int .u64 0, .int .u64 0, .int .u64 0, .int .u64 0, .int .i64 0, .int .i64 0, .int .i64 0, .int .i64 0, .int .u64 0, .int .u64 0] (by kernel_rfl) (by kernel_rfl) (Blk.new _ _ _) HI.out (by rw [HRs.out]; kernel_rfl) HR1.out ?_)
  with_reducible refine (refBareB 1 _).mono ?_
  rintro e w3 ⟨rfl, hb3⟩
  have HF3 := Lib.hid (HF2.out.below hb3 HF2.out.lt)
  have HW3 := Lib.hid (HW2.out.trans (hb3.mono HW2.out.size))
  clear hb3
  go_wp2_with (with_reducible refine fStore 30 w.heap.size #[.int .i64 1, .int .i64 (-1)] 30 #[.int .i64 0, .int .i64 0] (by kernel_rfl) (by kernel_rfl) HF3.out (by kernel_rfl) (by kernel_rfl) (by kernel_rfl) ?_)
  (try simp only [Exit.inBlock, Exit.then])
  rw [← HQ.out]
  with_reducible refine bodyPost_ret (results_ttr Tryz.results4 _ _ w.heap.size 30 #[.int .i64 1, .int .i64 (-1)] _ (.slice none 0 0) (.slice none 0 0) (by kernel_rfl) (by kernel_rfl) (by kernel_rfl) (Blk.setRow HF3.out _) Tryz.underlying30 (by kernel_rfl) (by kernel_rfl)) (by kernel_rfl) ?_
  exact ⟨rfl, below_setRow HW3.out (Nat.le_refl _) _⟩

theorem RecP.keeps {P S : Nat → Prop} {z : Nat → Int} {R : Array Value} {w w' : World} (h : RecP P z R w) (hk : Keeps S w w') (hS : ∀ b, P b → ¬ S b) : RecP P z R w' := ⟨h.1, h.2.keeps hk hS⟩
theorem RecP.below {P : Nat → Prop} {z : Nat → Int} {R : Array Value} {w w' : World} (h : RecP P z R w) (hb : Below w.heap.size w w') : RecP P z R w' := h.keeps (Keeps.of_same (S := nowhere) hb) (fun _ _ h => h)

set_option maxRecDepth 100000 in
set_option maxHeartbeats 4000000 in
theorem rbatch_ok (A0 : Option Addr) (c0 : Nat) (z : Nat → Int) (A : Option Addr) (n c : Nat) (f : Nat → Nat → Int) (w : World) (h : SlU w A0 32 c0 z) (hr : recOk z) (hs : SlF KA5 w A n c f) (hn : n ≤ 1000) :
    Calls Tryz.prog 4 #[.slice A0 32 c0, .slice A n c] w (RBOut f z n w) := by
  have HRO := Lib.hid (fun W hW => recOf_any A0 c0 z true W hW ⟨fun _ => hr, fun _ => rfl⟩)
  have HS0 := Lib.hid h
  have HZ := Lib.hid hr
  have HSL := Lib.hid hs
  have HZB := Lib.hid h.bd
  obtain ⟨i0, hi0, hz0, hz1, hz2⟩ := info_deedM
  have HDI := Lib.hid hi0
  have HDZ := Lib.hid hz0
  have HDS := Lib.hid hz1
  have HDY := Lib.hid hz2
  clear h hr hs hi0 hz0 hz1 hz2
  go_enter Tryz.func4, Tryz.ntmps4
  generalize hQ : bodyPost Tryz.prog Tryz.f4 (RBOut f z n w) = Q
  have HQ := Lib.hid hQ
  clear hQ
  go_wp2_with fail
  with_reducible refine (HRO.out _ (HS0.out.below (by go_grown))).mono ?_
  rintro e w1 ⟨hb1, R, hsz, hone, rfl, hT⟩
  have HI : Hid ((Tryz.prog.info? 56).map (·.size) = some R.size) := by show _ = _; rw [infoRc, hsz]
  have HRs : Hid (R.size = 37) := Lib.hid hsz
  have HR1 := Lib.hid hone
  have hF1 := (Blk.new w 30 #[.int .i64 0, .int .i64 0]).below hb1 (Blk.new _ _ _).lt
  have hW1 : Below w.heap.size w w1 := Below.trans (by go_grown) (hb1.mono (by simp))
  have hl1 : w.heap.size < w1.heap.size := hF1.lt
  have HIN : Hid (RbSt w w1.heap.size f z 0 none 0 R ((w1.alloc (.cells #[.int .i64 0, .slice none 0 0, .int .i64 0, .int .i64 0, .int .i64 0, .int .i64 0, .int .i64 0, .int .i64 0, .int .i64 0, .int .i64 0, .int .i64 0, .int .i64 0, .int .i64 0, .int .i64 0, .int .i64 0, .int .i64 0, .int .i64 0, .int .i64 0, .int .i64 0, .int .i64 0, .int .i64 0, .int .i64 0, .int .i64 0, .int .i64 0, .int .i64 0, .int .i64 0, .int .i64 0, .int .u64 0, .int .u64 0, .int .u64 0, .int .u64 0, .int .i64 0, .int .i64 0, .int .i64 0, .int .i64 0, .int .u64 0, .int .u64 0] 56)).setRow w1.heap.size R)) := Lib.hid (by
    have hT' := hT rfl
    have hRP : RecP (fun b => b < w1.heap.size) z R w1 := ⟨hT'.1, hT'.2.inside⟩
    have hK : Keeps (OneB w1.heap.size) w1 ((w1.alloc (.cells #[.int .i64 0, .slice none 0 0, .int .i64 0, .int .i64 0, .int .i64 0, .int .i64 0, .int .i64 0, .int .i64 0, .int .i64 0, .int .i64 0, .int .i64 0, .int .i64 0, .int .i64 0, .int .i64 0, .int .i64 0, .int .i64 0, .int .i64 0, .int .i64 0, .int .i64 0, .int .i64 0, .int .i64 0, .int .i64 0, .int .i64 0, .int .i64 0, .int .i64 0, .int .i64 0, .int .i64 0, .int .u64 0, .int .u64 0, .int .u64 0, .int .u64 0, .int .i64 0, .int .i64 0, .int .i64 0, .int .i64 0, .int .u64 0, .int .u64 0] 56)).setRow w1.heap.size R) := (Keeps.of_same (S := OneB w1.heap.size) ((Below.refl _ _).alloc (Nat.le_refl _) _)).trans (keepsRow _ _ _)
    have hRP2 := hRP.keeps hK (fun b hb he => by have he' : b = w1.heap.size := he; omega)
    exact ⟨hl1, (hF1.alloc _).far_row (by omega) R, Blk.setRow (Blk.new _ _ _) R, hsz, hone, ⟨hRP2.1, hRP2.2.mono fun b hb => ⟨by omega, fun ⟨a, ha, _⟩ => by cases ha⟩⟩, OwnR.nil _ _ _ _, below_setRow (hW1.alloc hW1.size _) (by omega) R, (recOk_iff.1 HZ.out).1, HZB.out, fun j hj => absurd hj (by omega)⟩)
  clear hb1 hsz hone hT hF1 hW1
  go_wp2_with (with_reducible refine fStore 56 w1.heap.size R 56 #[.int .i64 0, .slice none 0 0, .int .i64 0, .int .i64 0, .int .i64 0, .int .i64 0, .int .i64 0, .int .i64 0, .int .i64 0, .int .i64 0, .int .i64 0, .int .i64 0, .int .i64 0, .int .i64 0, .int .i64 0, .int .i64 0, .int .i64 0, .int .i64 0, .int .i64 0, .int .i64 0, .int .i64 0, .int .i64 0, .int .i64 0, .int .i64 0, .int .i64 0, .int .i64 0, .int .i64 0, .int .u64 0, .int .u64 0, .int .u64 0, .int .u64 0, .int .i64 0, .int .i64 0, .int .i64 0, .int .i64 0, .int .u64 0, .int .u64 0] (by kernel_rfl) (by kernel_rfl) (Blk.new _ _ _) HI.out (by rw [HRs.out]; kernel_rfl) HR1.out ?_)
  generalize hgr : w1.heap.size = gr at *
  clear hgr
  go_loopw [9, 22] (fun d i wr => ∃ k : Nat, k ≤ n ∧ i = .int .i64 k ∧ Hid (RbOk w gr f z k d wr)) (fun _ i _ => n - (intOf i).toNat)
  case atStart => exact ⟨0, by omega, rfl, Lib.hid ⟨R, none, 0, rfl, HIN.out⟩⟩
  case round =>
    clear HIN HI HRs HR1
    obtain ⟨k, hk, rfl, hst⟩ := hrel
    obtain ⟨R, A1, c1, rfl, hst1⟩ := hst.out
    have HS := Lib.hid hst1
    have HI : Hid ((Tryz.prog.info? 56).map (·.size) = some R.size) := by show _ = _; rw [infoRc, hst1.size]
    have HRs : Hid (R.size = 37) := Lib.hid hst1.size
    have HR1 := Lib.hid hst1.one
    have hW := hst1.below
    have hg0 := hst1.hgr
    have hlg := hst1.rcd.lt
    have hdl := bd_len' f z k
    clear hst hst1
    by_cases hkn : k < n
    · have q1 : (k : Int) < n := by omega
      obtain ⟨b, off, rfl, hblt, hcell⟩ := HSL.out.at_ (by omega)
      have hcap := HSL.out.cap
      have hc63 := HSL.out.cap63
      have d0 : wr.cell? ⟨b, off + k * 5, none⟩ = some (.int .i64 (f k 0)) := (hW.cell (p := ⟨b, off + k * 5, none⟩) hblt).trans (hcell k 0 hkn (by decide))
      have d1 : wr.cell? ⟨b, off + k * 5 + 1, none⟩ = some (.int .i64 (f k 1)) := (hW.cell (p := ⟨b, off + k * 5 + 1, none⟩) hblt).trans (hcell k 1 hkn (by decide))
      have d2 : wr.cell? ⟨b, off + k * 5 + 2, none⟩ = some (.int .i64 (f k 2)) := (hW.cell (p := ⟨b, off + k * 5 + 2, none⟩) hblt).trans (hcell k 2 hkn (by decide))
      have d3 : wr.cell? ⟨b, off + k * 5 + 3, none⟩ = some (.int .i64 (f k 3)) := (hW.cell (p := ⟨b, off + k * 5 + 3, none⟩) hblt).trans (hcell k 3 hkn (by decide))
      have d4 : wr.cell? ⟨b, off + k * 5 + 4, none⟩ = some (.int .i64 (f k 4)) := (hW.cell (p := ⟨b, off + k * 5 + 4, none⟩) hblt).trans (hcell k 4 hkn (by decide))
      clear hcell
      have HB0 := Lib.hid (HS.out.rcd.alloc (.cells #[.int .i64 (f k 0), .int .i64 (f k 1), .int .i64 (f k 2), .int .i64 (f k 3), .int .i64 (f k 4)] 63))
      have HF0 := Lib.hid (HS.out.fault.alloc (.cells #[.int .i64 (f k 0), .int .i64 (f k 1), .int .i64 (f k 2), .int .i64 (f k 3), .int .i64 (f k 4)] 63))
      have HK0 := Lib.hid (Blk.new wr 63 #[.int .i64 (f k 0), .int .i64 (f k 1), .int .i64 (f k 2), .int .i64 (f k 3), .int .i64 (f k 4)])
      have HO0 := Lib.hid (HS.out.own.below (w' := wr.alloc (.cells #[.int .i64 (f k 0), .int .i64 (f k 1), .int .i64 (f k 2), .int .i64 (f k 3), .int .i64 (f k 4)] 63)) (by go_grown))
      have HP0 := Lib.hid (HS.out.rc.below (w' := wr.alloc (.cells #[.int .i64 (f k 0), .int .i64 (f k 1), .int .i64 (f k 2), .int .i64 (f k 3), .int .i64 (f k 4)] 63)) (by go_grown))
      have HW0 := Lib.hid (hW.alloc hW.size (.cells #[.int .i64 (f k 0), .int .i64 (f k 1), .int .i64 (f k 2), .int .i64 (f k 3), .int .i64 (f k 4)] 63))
      by_cases hx0 : f k 0 < 0 ∨ 4 ≤ f k 0
      · -- no such thread
        have HE : Hid (askE (bz f z k) (f k) = 2) := Lib.hid (by unfold askE; rw [if_pos hx0])
        have hwi : withinB (f k 0) 0 3 = false := by unfold withinB; rw [decide_eq_false_iff_not]; omega
        clear hx0
        generalize f k 0 = x0 at *
        generalize f k 1 = x1 at *
        generalize f k 2 = x2 at *
        generalize f k 3 = x3 at *
        generalize f k 4 = x4 at *
        have HWI := Lib.hid hwi
        clear hwi
        go_wp2_with fail
        with_reducible refine (within_any _ _ _ _).mono ?_
        rintro e w' ⟨rfl, rfl⟩
        rw [HWI.out]
        go_wp2_with (with_reducible refine fStore 30 w.heap.size #[.int .i64 2, .int .i64 (k : Int)] 30 #[.int .i64 0, .int .i64 0] (by kernel_rfl) (by kernel_rfl) HF0.out (by kernel_rfl) (by kernel_rfl) (two_oneB _ _) ?_)
        (try simp only [Exit.inBlock, Exit.then])
        rw [← HQ.out]
        with_reducible refine bodyPost_ret (results_ttr Tryz.results4 _ _ w.heap.size 30 #[.int .i64 2, .int .i64 (k : Int)] _ (.slice none 0 0) (.slice none 0 0) (by kernel_rfl) (by kernel_rfl) (by kernel_rfl) (Blk.setRow HF0.out _) Tryz.underlying30 (by kernel_rfl) (by kernel_rfl)) (by kernel_rfl) ?_
        refine ⟨below_setRow HW0.out (Nat.le_refl _) _, .inl ⟨k, hkn, HS.out.good, ?_, ?_⟩⟩
        · rw [HE.out]; decide
        · rw [HE.out]
      · obtain ⟨tn, htn⟩ : ∃ tn : Nat, f k 0 = tn := ⟨(f k 0).toNat, by omega⟩
        have ht4 : tn < 4 := by omega
        have ht4i : (tn : Int) < 4 := by omega
        have ht4j : (0 : Int) ≤ tn := by omega
        have HWI : Hid (withinB (f k 0) 0 3 = true) := Lib.hid (by unfold withinB; rw [decide_eq_true_eq]; omega)
        by_cases hx1 : f k 1 ≠ 0 ∧ f k 1 ≠ 1
        · have HE : Hid (askE (bz f z k) (f k) = 1) := Lib.hid (by unfold askE; rw [if_neg hx0, if_pos hx1])
          have HWJ : Hid (withinB (f k 1) 0 1 = false) := Lib.hid (by unfold withinB; rw [decide_eq_false_iff_not]; omega)
          clear hx0 hx1 htn ht4 ht4i ht4j
          generalize f k 0 = x0 at *
          generalize f k 1 = x1 at *
          generalize f k 2 = x2 at *
          generalize f k 3 = x3 at *
          generalize f k 4 = x4 at *
          go_wp2_with fail
          with_reducible refine (within_any _ _ _ _).mono ?_
          rintro e w' ⟨rfl, rfl⟩
          rw [HWI.out]
          go_wp2_with fail
          with_reducible refine (within_any _ _ _ _).mono ?_
          rintro e w' ⟨rfl, rfl⟩
          rw [HWJ.out]
          go_wp2_with (with_reducible refine fStore 30 w.heap.size #[.int .i64 1, .int .i64 (k : Int)] 30 #[.int .i64 0, .int .i64 0] (by kernel_rfl) (by kernel_rfl) HF0.out (by kernel_rfl) (by kernel_rfl) (two_oneB _ _) ?_)
          (try simp only [Exit.inBlock, Exit.then])
          rw [← HQ.out]
          with_reducible refine bodyPost_ret (results_ttr Tryz.results4 _ _ w.heap.size 30 #[.int .i64 1, .int .i64 (k : Int)] _ (.slice none 0 0) (.slice none 0 0) (by kernel_rfl) (by kernel_rfl) (by kernel_rfl) (Blk.setRow HF0.out _) Tryz.underlying30 (by kernel_rfl) (by kernel_rfl)) (by kernel_rfl) ?_
          refine ⟨below_setRow HW0.out (Nat.le_refl _) _, .inl ⟨k, hkn, HS.out.good, ?_, ?_⟩⟩
          · rw [HE.out]; decide
          · rw [HE.out]
        · have HWJ : Hid (withinB (f k 1) 0 1 = true) := Lib.hid (by unfold withinB; rw [decide_eq_true_eq]; omega)
          have cT := (HB0.out.cell (31 + tn)).trans (HS.out.rc.1.tg_ tn ht4)
          have hgl : gr < (wr.alloc (.cells #[.int .i64 (f k 0), .int .i64 (f k 1), .int .i64 (f k 2), .int .i64 (f k 3), .int .i64 (f k 4)] 63)).heap.size := HB0.out.lt
          have HAO : Hid (askO (bz f z k) (f k) = decide (tgZ (bz f z k) tn ≠ f k 1)) := Lib.hid (by unfold askO; rw [htn]; simp)
          have hao := HAO.out
          by_cases htg : tgZ (bz f z k) tn = f k 1
          · -- it is done already
            have hop : askO (bz f z k) (f k) = false := by rw [hao]; simp [htg]
            have HN : Hid (RbSt w gr f z (k + 1) A1 c1 R wr) := Lib.hid ⟨HS.out.hgr, HS.out.fault, HS.out.rcd, HS.out.size, HS.out.one, by unfold bz askZ; rw [hop]; exact HS.out.rc, by unfold bd; rw [hop]; exact HS.out.own, HS.out.below, by unfold bz askZ; rw [hop]; exact HS.out.right, by unfold bz askZ; rw [hop]; exact HS.out.bds, fun j hj => by
              rcases Nat.lt_or_ge j k with h | h
              · exact HS.out.good j h
              · obtain rfl : j = k := by omega
                unfold askE
                rw [if_neg hx0, if_neg hx1, if_pos (by rw [htn, Int.toNat_natCast]; exact htg)]⟩
            have HL : Hid ((bd f z (k + 1)).length = (bd f z k).length) := Lib.hid (by rw [bd, if_neg (by rw [hop]; exact Bool.false_ne_true)])
            have eT : (tgZ (bz f z k) tn == f k 1) = true := by simpa using htg
            clear hop hx0 hx1 htg hao HAO
            generalize f k 0 = x0 at *
            subst htn
            generalize tgZ (bz f z k) tn = tg at *
            generalize f k 1 = x1 at *
            generalize f k 2 = x2 at *
            generalize f k 3 = x3 at *
            generalize f k 4 = x4 at *
            generalize (bd f z k).length = dn at *
            go_wp2_with fail
            with_reducible refine (within_any _ _ _ _).mono ?_
            rintro e w' ⟨rfl, rfl⟩
            rw [HWI.out]
            go_wp2_with fail
            with_reducible refine (within_any _ _ _ _).mono ?_
            rintro e w' ⟨rfl, rfl⟩
            rw [HWJ.out]
            go_wp2
            refine wp_region_rely 8 nowhere [] (by kernel_rfl) (by kernel_rfl) ?_
            iterate 8
              refine wpRely_step (fun K hK => ?_)
              first
              | (refine .inl ?_
                 apply Exists.intro
                 refine ⟨Any, ?_, hK _ _ _ _ ?_⟩
                 · simp only [RelyOp, fillE]
                   refine ⟨?_, fun w9 hw9 _ => ?_⟩
                   · first | rfl | (go_simp; done)
                   obtain ⟨hc9, hf9⟩ := hw9.all
                   go_simp
                   first
                   | exact ⟨⟨rfl, trivial⟩, Keeps.refl _ _⟩
                 clear hK K
                 try simp only [Act.put, List.setIfInBounds_toArray, List.set_cons_zero, List.set_cons_succ])
              | (refine .inr (.inl ⟨?_, hK _ _ _ _ ?_⟩)
                 · simp only [fillE]
                   first | rfl | (go_simp; done)
                 clear hK K
                 try simp only [Act.put, List.setIfInBounds_toArray, List.set_cons_zero, List.set_cons_succ])
            refine wpRely_nil ?_
            simp only [fillE]
            intro w9 hw9 _
            obtain ⟨hc9, hf9⟩ := hw9.all
            simp only [List.drop_succ_cons, List.drop_zero, List.drop]
            have HN1 : Hid (RbSt w gr f z (k + 1) A1 c1 R w9) := Lib.hid (by
              have hb : Below wr.heap.size wr w9 := Below.trans (by go_grown) (hw9.same.mono (by simp))
              exact ⟨HN.out.hgr, HN.out.fault.below hb HN.out.fault.lt, HN.out.rcd.below hb HN.out.rcd.lt, HN.out.size, HN.out.one, HN.out.rc.below hb, HN.out.own.below hb, HN.out.below.trans (hb.mono HN.out.below.size), HN.out.right, HN.out.bds, HN.out.good⟩)
            clear hc9 hf9 hw9
            go_wp2
            go_roundw
            case rel => exact ⟨k + 1, by omega, by go_num, Lib.hid ⟨R, A1, c1, by rw [HL.out], HN1.out⟩⟩
            case measure => simp [intOf]; omega
          · have hop : askO (bz f z k) (f k) = true := by rw [hao]; simp [htg]
            have eT : (tgZ (bz f z k) tn == f k 1) = false := by simpa using htg
            have c36 := (HB0.out.cell 36).trans HS.out.rc.1.cnt_
            have htg' : ¬ tgZ (bz f z k) (f k 0).toNat = f k 1 := by rw [htn, Int.toNat_natCast]; exact htg
            cases hor : opRightB (f k 2) (f k 3) (f k 4)
            · have HE : Hid (askE (bz f z k) (f k) = 1) := Lib.hid (by unfold askE; rw [if_neg hx0, if_neg hx1, if_neg htg', if_pos (.inl hor)])
              have HOR := Lib.hid hor
              clear hop hx0 hx1 htg htg' hao HAO hor c36
              generalize f k 0 = x0 at *
              subst htn
              generalize tgZ (bz f z k) tn = tg at *
              generalize f k 1 = x1 at *
              generalize f k 2 = x2 at *
              generalize f k 3 = x3 at *
              generalize f k 4 = x4 at *
              go_wp2_with fail
              with_reducible refine (within_any _ _ _ _).mono ?_
              rintro e w' ⟨rfl, rfl⟩
              rw [HWI.out]
              go_wp2_with fail
              with_reducible refine (within_any _ _ _ _).mono ?_
              rintro e w' ⟨rfl, rfl⟩
              rw [HWJ.out]
              go_wp2
              refine wp_region_rely 8 nowhere [] (by kernel_rfl) (by kernel_rfl) ?_
              iterate 8
                refine wpRely_step (fun K hK => ?_)
                first
                | (refine .inl ?_
                   apply Exists.intro
                   refine ⟨Any, ?_, hK _ _ _ _ ?_⟩
                   · simp only [RelyOp, fillE]
                     refine ⟨?_, fun w9 hw9 _ => ?_⟩
                     · first | rfl | (go_simp; done)
                     obtain ⟨hc9, hf9⟩ := hw9.all
                     go_simp
                     first
                     | exact ⟨⟨rfl, trivial⟩, Keeps.refl _ _⟩
                   clear hK K
                   try simp only [Act.put, List.setIfInBounds_toArray, List.set_cons_zero, List.set_cons_succ])
                | (refine .inr (.inl ⟨?_, hK _ _ _ _ ?_⟩)
                   · simp only [fillE]
                     first | rfl | (go_simp; done)
                   clear hK K
                   try simp only [Act.put, List.setIfInBounds_toArray, List.set_cons_zero, List.set_cons_succ])
              refine wpRely_nil ?_
              simp only [fillE]
              intro w9 hw9 _
              obtain ⟨hc9, hf9⟩ := hw9.all
              simp only [List.drop_succ_cons, List.drop_zero, List.drop]
              have HF1 := Lib.hid (HF0.out.below hw9.same HF0.out.lt)
              have HB1 := Lib.hid (HB0.out.below hw9.same HB0.out.lt)
              have HK1 := HK0.out.below hw9.same HK0.out.lt
              have HW1 := Lib.hid (HW0.out.trans (hw9.same.mono HW0.out.size))
              have k0 := HK1.cell 0
              have k2 := HK1.cell 2
              have k3 := HK1.cell 3
              have k4 := HK1.cell 4
              simp only [List.getElem?_toArray, List.getElem?_cons_zero, List.getElem?_cons_succ] at k0 k2 k3 k4
              have hlk : wr.heap.size < w9.heap.size := HK1.lt
              clear hc9 hf9 hw9 HK1 cT
              go_wp2_with fail
              with_reducible refine (refOpRight_any x2 x3 x4 _).mono ?_
              rintro e w2 ⟨rfl, hb2⟩
              rw [HOR.out]
              have HF2 := Lib.hid (HF1.out.below hb2 HF1.out.lt)
              have HW2 := Lib.hid (HW1.out.trans (hb2.mono HW1.out.size))
              clear hb2
              go_wp2_with (with_reducible refine fStore 30 w.heap.size #[.int .i64 1, .int .i64 (k : Int)] 30 #[.int .i64 0, .int .i64 0] (by kernel_rfl) (by kernel_rfl) HF2.out (by kernel_rfl) (by kernel_rfl) (two_oneB _ _) ?_)
              (try simp only [Exit.inBlock, Exit.then])
              rw [← HQ.out]
              with_reducible refine bodyPost_ret (results_ttr Tryz.results4 _ _ w.heap.size 30 #[.int .i64 1, .int .i64 (k : Int)] _ (.slice none 0 0) (.slice none 0 0) (by kernel_rfl) (by kernel_rfl) (by kernel_rfl) (Blk.setRow HF2.out _) Tryz.underlying30 (by kernel_rfl) (by kernel_rfl)) (by kernel_rfl) ?_
              refine ⟨below_setRow HW2.out (Nat.le_refl _) _, .inl ⟨k, hkn, HS.out.good, ?_, ?_⟩⟩
              · rw [HE.out]; decide
              · rw [HE.out]
            · by_cases hcn : 1099511627776 < bz f z k 28
              · have HE : Hid (askE (bz f z k) (f k) = 1) := Lib.hid (by unfold askE; rw [if_neg hx0, if_neg hx1, if_neg htg', if_pos (.inr hcn)])
                have HOR := Lib.hid hor
                clear hop hx0 hx1 htg htg' hao HAO hor
                generalize f k 0 = x0 at *
                subst htn
                generalize tgZ (bz f z k) tn = tg at *
                generalize hz28 : bz f z k 28 = z28 at c36 hcn
                clear hz28
                generalize f k 1 = x1 at *
                generalize f k 2 = x2 at *
                generalize f k 3 = x3 at *
                generalize f k 4 = x4 at *
                go_wp2_with fail
                with_reducible refine (within_any _ _ _ _).mono ?_
                rintro e w' ⟨rfl, rfl⟩
                rw [HWI.out]
                go_wp2_with fail
                with_reducible refine (within_any _ _ _ _).mono ?_
                rintro e w' ⟨rfl, rfl⟩
                rw [HWJ.out]
                go_wp2
                refine wp_region_rely 8 nowhere [] (by kernel_rfl) (by kernel_rfl) ?_
                iterate 8
                  refine wpRely_step (fun K hK => ?_)
                  first
                  | (refine .inl ?_
                     apply Exists.intro
                     refine ⟨Any, ?_, hK _ _ _ _ ?_⟩
                     · simp only [RelyOp, fillE]
                       refine ⟨?_, fun w9 hw9 _ => ?_⟩
                       · first | rfl | (go_simp; done)
                       obtain ⟨hc9, hf9⟩ := hw9.all
                       go_simp
                       first
                       | exact ⟨⟨rfl, trivial⟩, Keeps.refl _ _⟩
                     clear hK K
                     try simp only [Act.put, List.setIfInBounds_toArray, List.set_cons_zero, List.set_cons_succ])
                  | (refine .inr (.inl ⟨?_, hK _ _ _ _ ?_⟩)
                     · simp only [fillE]
                       first | rfl | (go_simp; done)
                     clear hK K
                     try simp only [Act.put, List.setIfInBounds_toArray, List.set_cons_zero, List.set_cons_succ])
                refine wpRely_nil ?_
                simp only [fillE]
                intro w9 hw9 _
                obtain ⟨hc9, hf9⟩ := hw9.all
                simp only [List.drop_succ_cons, List.drop_zero, List.drop]
                have HF1 := Lib.hid (HF0.out.below hw9.same HF0.out.lt)
                have HB1 := Lib.hid (HB0.out.below hw9.same HB0.out.lt)
                have HK1 := HK0.out.below hw9.same HK0.out.lt
                have HW1 := Lib.hid (HW0.out.trans (hw9.same.mono HW0.out.size))
                have c36' := (hw9.same.cell (p := ⟨gr, 36, none⟩) HB0.out.lt).trans c36
                clear c36
                have k0 := HK1.cell 0
                have k2 := HK1.cell 2
                have k3 := HK1.cell 3
                have k4 := HK1.cell 4
                simp only [List.getElem?_toArray, List.getElem?_cons_zero, List.getElem?_cons_succ] at k0 k2 k3 k4
                have hlk : wr.heap.size < w9.heap.size := HK1.lt
                clear hc9 hf9 hw9 HK1 cT
                go_wp2_with fail
                with_reducible refine (refOpRight_any x2 x3 x4 _).mono ?_
                rintro e w2 ⟨rfl, hb2⟩
                rw [HOR.out]
                have HF2 := Lib.hid (HF1.out.below hb2 HF1.out.lt)
                have HW2 := Lib.hid (HW1.out.trans (hb2.mono HW1.out.size))
                have c36'' := (hb2.cell (p := ⟨gr, 36, none⟩) HB1.out.lt).trans c36'
                have hgl2 : gr < w2.heap.size := Nat.lt_of_lt_of_le HB1.out.lt hb2.size
                clear hb2 c36'
                go_wp2_with (with_reducible refine fStore 30 w.heap.size #[.int .i64 1, .int .i64 (k : Int)] 30 #[.int .i64 0, .int .i64 0] (by kernel_rfl) (by kernel_rfl) HF2.out (by kernel_rfl) (by kernel_rfl) (two_oneB _ _) ?_)
                (try simp only [Exit.inBlock, Exit.then])
                rw [← HQ.out]
                with_reducible refine bodyPost_ret (results_ttr Tryz.results4 _ _ w.heap.size 30 #[.int .i64 1, .int .i64 (k : Int)] _ (.slice none 0 0) (.slice none 0 0) (by kernel_rfl) (by kernel_rfl) (by kernel_rfl) (Blk.setRow HF2.out _) Tryz.underlying30 (by kernel_rfl) (by kernel_rfl)) (by kernel_rfl) ?_
                refine ⟨below_setRow HW2.out (Nat.le_refl _) _, .inl ⟨k, hkn, HS.out.good, ?_, ?_⟩⟩
                · rw [HE.out]; decide
                · rw [HE.out]
              · have ho := opRightB_iff.1 hor
                have hro : recOk (bz f z k) := recOk_iff.2 ⟨HS.out.right, by omega⟩
                have hcd : decide (1099511627776 < bz f z k 28) = false := by simpa using hcn
                have HDN := Lib.hid (fun W hP hT => refDone_z (FarB gr A1) R (bz f z k) tn (f k 2) (f k 3) (f k 4) W hro HS.out.bds hT HS.out.one hP ht4 ho)
                have HZ1 : Hid (bz f z (k + 1) = dZ (bz f z k) tn (f k 2) (f k 3) (f k 4)) := Lib.hid (by rw [bz, askZ, if_pos hop, htn, Int.toNat_natCast])
                have HD1 : Hid (bd f z (k + 1) = bd f z k ++ [deedV (bz f z k) (f k)]) := Lib.hid (by rw [bd, if_pos hop])
                have HV1 : Hid (deedV (bz f z k) (f k) = [.int .i64 (f k 0), .int .i64 (f k 2), .int .i64 (f k 3), .int .i64 (f k 4), .int .i64 (dC (bz f z k) (f k 2) (f k 3) (f k 4)), .int .i64 (dV (bz f z k) (f k 2) (f k 3) (f k 4))]) := Lib.hid rfl
                obtain ⟨_, _, hans⟩ := dY_ok hro HS.out.bds ho
                have HAC : Hid (acZ (dZ (bz f z k) tn (f k 2) (f k 3) (f k 4)) tn = dC (bz f z k) (f k 2) (f k 3) (f k 4)) := Lib.hid (by unfold dZ; rw [doneZ_ac _ _ _ _ ht4 hans _ ht4]; simp [upd])
                have HAV : Hid (avZ (dZ (bz f z k) tn (f k 2) (f k 3) (f k 4)) tn = dV (bz f z k) (f k 2) (f k 3) (f k 4)) := Lib.hid (by unfold dZ; rw [doneZ_av _ _ _ _ ht4 hans _ ht4]; simp [upd])
                have HE1 : Hid (recL (bz f z (k + 1)) ∧ (∀ i, i < 32 → 0 ≤ bz f z (k + 1) i ∧ bz f z (k + 1) i < 18446744073709551616) ∧ ∀ j, j < k + 1 → askE (bz f z j) (f j) = 0) := Lib.hid (by
                  have he : askE (bz f z k) (f k) = 0 := by
                    unfold askE
                    rw [if_neg hx0, if_neg hx1, if_neg htg', if_neg (fun h => h.elim (fun h => by rw [hor] at h; cases h) hcn)]
                  refine ⟨by rw [bz]; exact recL_ask HS.out.right HS.out.bds he, fun i hi => ?_, fun j hj => ?_⟩
                  · rw [HZ1.out]; exact dZ_bd hro HS.out.bds ho i hi
                  · rcases Nat.lt_or_ge j k with h | h
                    · exact HS.out.good j h
                    · obtain rfl : j = k := by omega
                      exact he)
                have HOR := Lib.hid hor
                have HCN := Lib.hid hcn
                clear hop hx0 hx1 htg htg' hao HAO hor ho hro hans
                generalize dC (bz f z k) (f k 2) (f k 3) (f k 4) = co at *
                generalize dV (bz f z k) (f k 2) (f k 3) (f k 4) = va at *
                generalize dZ (bz f z k) tn (f k 2) (f k 3) (f k 4) = z' at *
                generalize f k 0 = x0 at *
                subst htn
                generalize tgZ (bz f z k) tn = tg at *
                generalize hz28 : bz f z k 28 = z28 at c36 hcd
                clear hz28 hcn
                generalize f k 1 = x1 at *
                generalize f k 2 = x2 at *
                generalize f k 3 = x3 at *
                generalize f k 4 = x4 at *
                have HLn : Hid ((bd f z (k + 1)).length = (bd f z k).length + 1) := Lib.hid (by rw [HD1.out]; simp)
                generalize hdn : (bd f z k).length = dn at *
                clear hdn
                go_wp2_with fail
                with_reducible refine (within_any _ _ _ _).mono ?_
                rintro e w' ⟨rfl, rfl⟩
                rw [HWI.out]
                go_wp2_with fail
                with_reducible refine (within_any _ _ _ _).mono ?_
                rintro e w' ⟨rfl, rfl⟩
                rw [HWJ.out]
                go_wp2
                refine wp_region_rely 8 nowhere [] (by kernel_rfl) (by kernel_rfl) ?_
                iterate 8
                  refine wpRely_step (fun K hK => ?_)
                  first
                  | (refine .inl ?_
                     apply Exists.intro
                     refine ⟨Any, ?_, hK _ _ _ _ ?_⟩
                     · simp only [RelyOp, fillE]
                       refine ⟨?_, fun w9 hw9 _ => ?_⟩
                       · first | rfl | (go_simp; done)
                       obtain ⟨hc9, hf9⟩ := hw9.all
                       go_simp
                       first
                       | exact ⟨⟨rfl, trivial⟩, Keeps.refl _ _⟩
                     clear hK K
                     try simp only [Act.put, List.setIfInBounds_toArray, List.set_cons_zero, List.set_cons_succ])
                  | (refine .inr (.inl ⟨?_, hK _ _ _ _ ?_⟩)
                     · simp only [fillE]
                       first | rfl | (go_simp; done)
                     clear hK K
                     try simp only [Act.put, List.setIfInBounds_toArray, List.set_cons_zero, List.set_cons_succ])
                refine wpRely_nil ?_
                simp only [fillE]
                intro w9 hw9 _
                obtain ⟨hc9, hf9⟩ := hw9.all
                simp only [List.drop_succ_cons, List.drop_zero, List.drop]
                have HF1 := Lib.hid (HF0.out.below hw9.same HF0.out.lt)
                have HB1 := Lib.hid (HB0.out.below hw9.same HB0.out.lt)
                have HK1 := HK0.out.below hw9.same HK0.out.lt
                have HW1 := Lib.hid (HW0.out.trans (hw9.same.mono HW0.out.size))
                have c36' := (hw9.same.cell (p := ⟨gr, 36, none⟩) HB0.out.lt).trans c36
                clear c36
                have HP1 := Lib.hid (HP0.out.below hw9.same)
                have HO1 := Lib.hid (HO0.out.below hw9.same)
                have HKB := Lib.hid HK1
                have k0 := HK1.cell 0
                have k2 := HK1.cell 2
                have k3 := HK1.cell 3
                have k4 := HK1.cell 4
                simp only [List.getElem?_toArray, List.getElem?_cons_zero, List.getElem?_cons_succ] at k0 k2 k3 k4
                have hlk : wr.heap.size < w9.heap.size := HK1.lt
                clear hc9 hf9 hw9 HK1 cT
                go_wp2_with fail
                with_reducible refine (refOpRight_any x2 x3 x4 _).mono ?_
                rintro e w2 ⟨rfl, hb2⟩
                rw [HOR.out]
                have HF2 := Lib.hid (HF1.out.below hb2 HF1.out.lt)
                have HB2 := Lib.hid (HB1.out.below hb2 HB1.out.lt)
                have HK2 := Lib.hid (HKB.out.below hb2 HKB.out.lt)
                have HP2 := Lib.hid (HP1.out.below hb2)
                have HO2 := Lib.hid (HO1.out.below hb2)
                have HW2 := Lib.hid (HW1.out.trans (hb2.mono HW1.out.size))
                have c36'' := (hb2.cell (p := ⟨gr, 36, none⟩) HB1.out.lt).trans c36'
                have hgl2 : gr < w2.heap.size := Nat.lt_of_lt_of_le HB1.out.lt hb2.size
                have hlk2 : wr.heap.size < w2.heap.size := HK2.out.lt
                have k0 := HK2.out.cell 0
                have k2 := HK2.out.cell 2
                have k3 := HK2.out.cell 3
                have k4 := HK2.out.cell 4
                simp only [List.getElem?_toArray, List.getElem?_cons_zero, List.getElem?_cons_succ] at k0 k2 k3 k4
                clear hb2 c36' HKB HF1 HB1 HW1 HP1 HO1 HK0 HF0 HB0 HW0 HP0 HO0
                go_wp2_with (with_reducible refine fLoad 56 gr 56 R (by kernel_rfl) HB2.out Tryz.underlying56 (by kernel_rfl) HI.out ?_)
                have hPP : ∀ b, w2.heap.size ≤ b → FarB gr A1 b := fun b hb => farB_mk (by omega) (fun hsl => by
                  obtain ⟨a, ha, hq⟩ := hsl
                  have := (HO2.out.lt a ha).2
                  omega)
                with_reducible refine (HDN.out _ hPP HP2.out).mono ?_
                rintro e w3 ⟨hb3, R', hsz', hone', rfl, hrp⟩
                have HI' : Hid ((Tryz.prog.info? 56).map (·.size) = some R'.size) := by show _ = _; rw [infoRc, hsz']
                have HRs' : Hid (R'.size = 37) := Lib.hid hsz'
                have HR1' := Lib.hid hone'
                have hne : w.heap.size ≠ gr := by omega
                have hna : wr.heap.size ≠ gr := by omega
                have HB3 := Lib.hid (HB2.out.below hb3 HB2.out.lt)
                have HF4 := Lib.hid ((HF2.out.below hb3 HF2.out.lt).far_row hne R')
                have HK4 := (HK2.out.below hb3 HK2.out.lt).far_row hna R'
                have HP4 : Hid (RecP (FarB gr A1) z' R' (w3.setRow gr R')) := Lib.hid (hrp.keeps (keepsRow w3 gr R') (fun b hb he => hb.1 he))
                have HO4 : Hid (OwnR (w3.setRow gr R') (gr + 1) 68 6 A1 dn c1 (bd f z k)) := Lib.hid ((HO2.out.below hb3).kept (keepsRow w3 gr R') (fun a ha he => by have := (HO2.out.lt a ha).1; have he' : a.block = gr := he; omega))
                have HB4 := Lib.hid (Blk.setRow HB3.out R')
                have HW4 := Lib.hid (below_setRow (HW2.out.trans (hb3.mono HW2.out.size)) (show w.heap.size ≤ gr by omega) R')
                clear hb3 hsz' hone' hrp k0 k2 k3 k4 c36''
                have k0 := HK4.cell 0
                have k2 := HK4.cell 2
                have k3 := HK4.cell 3
                have k4 := HK4.cell 4
                simp only [List.getElem?_toArray, List.getElem?_cons_zero, List.getElem?_cons_succ] at k0 k2 k3 k4
                have ea1 : 19 + tn * 2 = 19 + 2 * tn := by omega
                have ea2 : 19 + tn * 2 + 1 = 20 + 2 * tn := by omega
                have a1 : (w3.setRow gr R').cell? ⟨gr, 19 + tn * 2, none⟩ = some (.int .i64 co) := by rw [HB4.out.cell, ea1, HP4.out.1.ac_ tn ht4, HAC.out]
                have a2 : (w3.setRow gr R').cell? ⟨gr, 19 + tn * 2 + 1, none⟩ = some (.int .i64 va) := by rw [HB4.out.cell, ea2, HP4.out.1.av_ tn ht4, HAV.out]
                clear ea1 ea2
                have hlk4 : wr.heap.size < (w3.setRow gr R').heap.size := HK4.lt
                have hlg4 : gr < (w3.setRow gr R').heap.size := HB4.out.lt
                clear HK4
                have HNA : Hid (¬ SlB A1 wr.heap.size) := Lib.hid (fun hsl => by obtain ⟨a, ha, hq⟩ := hsl; have := (HS.out.own.lt a ha).2; omega)
                have HNG : Hid (¬ SlB A1 gr) := Lib.hid (fun hsl => by obtain ⟨a, ha, hq⟩ := hsl; have := (HS.out.own.lt a ha).1; omega)
                have HNF : Hid (¬ SlB A1 w.heap.size) := Lib.hid (fun hsl => by obtain ⟨a, ha, hq⟩ := hsl; have := (HS.out.own.lt a ha).1; omega)
                go_wp2_with (with_reducible refine fStore 56 gr R' 56 R (by kernel_rfl) (by kernel_rfl) HB3.out HI'.out (by rw [HRs.out, HRs'.out]) HR1'.out ?_)
                generalize hw4 : w3.setRow gr R' = w4 at *
                clear hw4
                generalize hga : wr.heap.size = ga at *
                refine wp_region_rely 13 (SlB A1) [12] (by kernel_rfl) (by kernel_rfl) ?_
                first | (with_reducible refine wpRely_step (fun K hK => ?_)) | (refine wpRely_step (fun K hK => ?_))
                refine .inl ?_
                apply Exists.intro
                refine ⟨Any, ?_, hK _ _ _ _ ?_⟩
                · simp only [RelyOp, fillE]
                  refine ⟨?_, fun w9 hw9 _ => ?_⟩
                  · first | rfl | (go_simp; done)
                  have k09 := (hw9.cell (p := ⟨ga, 0, none⟩) hlk4 HNA.out).trans k0
                  have k29 := (hw9.cell (p := ⟨ga, 2, none⟩) hlk4 HNA.out).trans k2
                  have k39 := (hw9.cell (p := ⟨ga, 3, none⟩) hlk4 HNA.out).trans k3
                  have k49 := (hw9.cell (p := ⟨ga, 4, none⟩) hlk4 HNA.out).trans k4
                  have a19 := (hw9.cell (p := ⟨gr, 19 + tn * 2, none⟩) hlg4 HNG.out).trans a1
                  have a29 := (hw9.cell (p := ⟨gr, 19 + tn * 2 + 1, none⟩) hlg4 HNG.out).trans a2
                  go_simp
                  first
                  | exact ⟨⟨rfl, trivial⟩, Keeps.refl _ _⟩
                clear hK K
                try simp only [Act.put, List.setIfInBounds_toArray, List.set_cons_zero, List.set_cons_succ]
                first | (with_reducible refine wpRely_step (fun K hK => ?_)) | (refine wpRely_step (fun K hK => ?_))
                refine .inl ?_
                apply Exists.intro
                refine ⟨Any, ?_, hK _ _ _ _ ?_⟩
                · simp only [RelyOp, fillE]
                  refine ⟨?_, fun w9 hw9 _ => ?_⟩
                  · first | rfl | (go_simp; done)
                  have k09 := (hw9.cell (p := ⟨ga, 0, none⟩) hlk4 HNA.out).trans k0
                  have k29 := (hw9.cell (p := ⟨ga, 2, none⟩) hlk4 HNA.out).trans k2
                  have k39 := (hw9.cell (p := ⟨ga, 3, none⟩) hlk4 HNA.out).trans k3
                  have k49 := (hw9.cell (p := ⟨ga, 4, none⟩) hlk4 HNA.out).trans k4
                  have a19 := (hw9.cell (p := ⟨gr, 19 + tn * 2, none⟩) hlg4 HNG.out).trans a1
                  have a29 := (hw9.cell (p := ⟨gr, 19 + tn * 2 + 1, none⟩) hlg4 HNG.out).trans a2
                  go_simp
                  first
                  | exact ⟨⟨rfl, trivial⟩, Keeps.refl _ _⟩
                clear hK K
                try simp only [Act.put, List.setIfInBounds_toArray, List.set_cons_zero, List.set_cons_succ]
                first | (with_reducible refine wpRely_step (fun K hK => ?_)) | (refine wpRely_step (fun K hK => ?_))
                refine .inl ?_
                apply Exists.intro
                refine ⟨Any, ?_, hK _ _ _ _ ?_⟩
                · simp only [RelyOp, fillE]
                  refine ⟨?_, fun w9 hw9 _ => ?_⟩
                  · first | rfl | (go_simp; done)
                  have k09 := (hw9.cell (p := ⟨ga, 0, none⟩) hlk4 HNA.out).trans k0
                  have k29 := (hw9.cell (p := ⟨ga, 2, none⟩) hlk4 HNA.out).trans k2
                  have k39 := (hw9.cell (p := ⟨ga, 3, none⟩) hlk4 HNA.out).trans k3
                  have k49 := (hw9.cell (p := ⟨ga, 4, none⟩) hlk4 HNA.out).trans k4
                  have a19 := (hw9.cell (p := ⟨gr, 19 + tn * 2, none⟩) hlg4 HNG.out).trans a1
                  have a29 := (hw9.cell (p := ⟨gr, 19 + tn * 2 + 1, none⟩) hlg4 HNG.out).trans a2
                  go_simp
                  first
                  | exact ⟨⟨rfl, trivial⟩, Keeps.refl _ _⟩
                clear hK K
                try simp only [Act.put, List.setIfInBounds_toArray, List.set_cons_zero, List.set_cons_succ]
                first | (with_reducible refine wpRely_step (fun K hK => ?_)) | (refine wpRely_step (fun K hK => ?_))
                refine .inl ?_
                apply Exists.intro
                refine ⟨Any, ?_, hK _ _ _ _ ?_⟩
                · simp only [RelyOp, fillE]
                  refine ⟨?_, fun w9 hw9 _ => ?_⟩
                  · first | rfl | (go_simp; done)
                  have k09 := (hw9.cell (p := ⟨ga, 0, none⟩) hlk4 HNA.out).trans k0
                  have k29 := (hw9.cell (p := ⟨ga, 2, none⟩) hlk4 HNA.out).trans k2
                  have k39 := (hw9.cell (p := ⟨ga, 3, none⟩) hlk4 HNA.out).trans k3
                  have k49 := (hw9.cell (p := ⟨ga, 4, none⟩) hlk4 HNA.out).trans k4
                  have a19 := (hw9.cell (p := ⟨gr, 19 + tn * 2, none⟩) hlg4 HNG.out).trans a1
                  have a29 := (hw9.cell (p := ⟨gr, 19 + tn * 2 + 1, none⟩) hlg4 HNG.out).trans a2
                  go_simp
                  first
                  | exact ⟨⟨rfl, trivial⟩, Keeps.refl _ _⟩
                clear hK K
                try simp only [Act.put, List.setIfInBounds_toArray, List.set_cons_zero, List.set_cons_succ]
                first | (with_reducible refine wpRely_step (fun K hK => ?_)) | (refine wpRely_step (fun K hK => ?_))
                refine .inl ?_
                apply Exists.intro
                refine ⟨Any, ?_, hK _ _ _ _ ?_⟩
                · simp only [RelyOp, fillE]
                  refine ⟨?_, fun w9 hw9 _ => ?_⟩
                  · first | rfl | (go_simp; done)
                  have k09 := (hw9.cell (p := ⟨ga, 0, none⟩) hlk4 HNA.out).trans k0
                  have k29 := (hw9.cell (p := ⟨ga, 2, none⟩) hlk4 HNA.out).trans k2
                  have k39 := (hw9.cell (p := ⟨ga, 3, none⟩) hlk4 HNA.out).trans k3
                  have k49 := (hw9.cell (p := ⟨ga, 4, none⟩) hlk4 HNA.out).trans k4
                  have a19 := (hw9.cell (p := ⟨gr, 19 + tn * 2, none⟩) hlg4 HNG.out).trans a1
                  have a29 := (hw9.cell (p := ⟨gr, 19 + tn * 2 + 1, none⟩) hlg4 HNG.out).trans a2
                  go_simp
                  first
                  | exact ⟨⟨rfl, trivial⟩, Keeps.refl _ _⟩
                clear hK K
                try simp only [Act.put, List.setIfInBounds_toArray, List.set_cons_zero, List.set_cons_succ]
                first | (with_reducible refine wpRely_step (fun K hK => ?_)) | (refine wpRely_step (fun K hK => ?_))
                refine .inl ?_
                apply Exists.intro
                refine ⟨Any, ?_, hK _ _ _ _ ?_⟩
                · simp only [RelyOp, fillE]
                  refine ⟨?_, fun w9 hw9 _ => ?_⟩
                  · first | rfl | (go_simp; done)
                  have k09 := (hw9.cell (p := ⟨ga, 0, none⟩) hlk4 HNA.out).trans k0
                  have k29 := (hw9.cell (p := ⟨ga, 2, none⟩) hlk4 HNA.out).trans k2
                  have k39 := (hw9.cell (p := ⟨ga, 3, none⟩) hlk4 HNA.out).trans k3
                  have k49 := (hw9.cell (p := ⟨ga, 4, none⟩) hlk4 HNA.out).trans k4
                  have a19 := (hw9.cell (p := ⟨gr, 19 + tn * 2, none⟩) hlg4 HNG.out).trans a1
                  have a29 := (hw9.cell (p := ⟨gr, 19 + tn * 2 + 1, none⟩) hlg4 HNG.out).trans a2
                  go_simp
                  first
                  | exact ⟨⟨rfl, trivial⟩, Keeps.refl _ _⟩
                clear hK K
                try simp only [Act.put, List.setIfInBounds_toArray, List.set_cons_zero, List.set_cons_succ]
                first | (with_reducible refine wpRely_step (fun K hK => ?_)) | (refine wpRely_step (fun K hK => ?_))
                refine .inl ?_
                apply Exists.intro
                refine ⟨Any, ?_, hK _ _ _ _ ?_⟩
                · simp only [RelyOp, fillE]
                  refine ⟨?_, fun w9 hw9 _ => ?_⟩
                  · first | rfl | (go_simp; done)
                  have k09 := (hw9.cell (p := ⟨ga, 0, none⟩) hlk4 HNA.out).trans k0
                  have k29 := (hw9.cell (p := ⟨ga, 2, none⟩) hlk4 HNA.out).trans k2
                  have k39 := (hw9.cell (p := ⟨ga, 3, none⟩) hlk4 HNA.out).trans k3
                  have k49 := (hw9.cell (p := ⟨ga, 4, none⟩) hlk4 HNA.out).trans k4
                  have a19 := (hw9.cell (p := ⟨gr, 19 + tn * 2, none⟩) hlg4 HNG.out).trans a1
                  have a29 := (hw9.cell (p := ⟨gr, 19 + tn * 2 + 1, none⟩) hlg4 HNG.out).trans a2
                  go_simp
                  first
                  | exact ⟨⟨rfl, trivial⟩, Keeps.refl _ _⟩
                clear hK K
                try simp only [Act.put, List.setIfInBounds_toArray, List.set_cons_zero, List.set_cons_succ]
                first | (with_reducible refine wpRely_step (fun K hK => ?_)) | (refine wpRely_step (fun K hK => ?_))
                refine .inl ?_
                apply Exists.intro
                refine ⟨Any, ?_, hK _ _ _ _ ?_⟩
                · simp only [RelyOp, fillE]
                  refine ⟨?_, fun w9 hw9 _ => ?_⟩
                  · first | rfl | (go_simp; done)
                  have k09 := (hw9.cell (p := ⟨ga, 0, none⟩) hlk4 HNA.out).trans k0
                  have k29 := (hw9.cell (p := ⟨ga, 2, none⟩) hlk4 HNA.out).trans k2
                  have k39 := (hw9.cell (p := ⟨ga, 3, none⟩) hlk4 HNA.out).trans k3
                  have k49 := (hw9.cell (p := ⟨ga, 4, none⟩) hlk4 HNA.out).trans k4
                  have a19 := (hw9.cell (p := ⟨gr, 19 + tn * 2, none⟩) hlg4 HNG.out).trans a1
                  have a29 := (hw9.cell (p := ⟨gr, 19 + tn * 2 + 1, none⟩) hlg4 HNG.out).trans a2
                  go_simp
                  first
                  | exact ⟨⟨rfl, trivial⟩, Keeps.refl _ _⟩
                clear hK K
                try simp only [Act.put, List.setIfInBounds_toArray, List.set_cons_zero, List.set_cons_succ]
                first | (with_reducible refine wpRely_step (fun K hK => ?_)) | (refine wpRely_step (fun K hK => ?_))
                refine .inl ?_
                apply Exists.intro
                refine ⟨Any, ?_, hK _ _ _ _ ?_⟩
                · simp only [RelyOp, fillE]
                  refine ⟨?_, fun w9 hw9 _ => ?_⟩
                  · first | rfl | (go_simp; done)
                  have k09 := (hw9.cell (p := ⟨ga, 0, none⟩) hlk4 HNA.out).trans k0
                  have k29 := (hw9.cell (p := ⟨ga, 2, none⟩) hlk4 HNA.out).trans k2
                  have k39 := (hw9.cell (p := ⟨ga, 3, none⟩) hlk4 HNA.out).trans k3
                  have k49 := (hw9.cell (p := ⟨ga, 4, none⟩) hlk4 HNA.out).trans k4
                  have a19 := (hw9.cell (p := ⟨gr, 19 + tn * 2, none⟩) hlg4 HNG.out).trans a1
                  have a29 := (hw9.cell (p := ⟨gr, 19 + tn * 2 + 1, none⟩) hlg4 HNG.out).trans a2
                  go_simp
                  first
                  | exact ⟨⟨rfl, trivial⟩, Keeps.refl _ _⟩
                clear hK K
                try simp only [Act.put, List.setIfInBounds_toArray, List.set_cons_zero, List.set_cons_succ]
                first | (with_reducible refine wpRely_step (fun K hK => ?_)) | (refine wpRely_step (fun K hK => ?_))
                refine .inl ?_
                apply Exists.intro
                refine ⟨Any, ?_, hK _ _ _ _ ?_⟩
                · simp only [RelyOp, fillE]
                  refine ⟨?_, fun w9 hw9 _ => ?_⟩
                  · first | rfl | (go_simp; done)
                  have k09 := (hw9.cell (p := ⟨ga, 0, none⟩) hlk4 HNA.out).trans k0
                  have k29 := (hw9.cell (p := ⟨ga, 2, none⟩) hlk4 HNA.out).trans k2
                  have k39 := (hw9.cell (p := ⟨ga, 3, none⟩) hlk4 HNA.out).trans k3
                  have k49 := (hw9.cell (p := ⟨ga, 4, none⟩) hlk4 HNA.out).trans k4
                  have a19 := (hw9.cell (p := ⟨gr, 19 + tn * 2, none⟩) hlg4 HNG.out).trans a1
                  have a29 := (hw9.cell (p := ⟨gr, 19 + tn * 2 + 1, none⟩) hlg4 HNG.out).trans a2
                  go_simp
                  first
                  | exact ⟨⟨rfl, trivial⟩, Keeps.refl _ _⟩
                clear hK K
                try simp only [Act.put, List.setIfInBounds_toArray, List.set_cons_zero, List.set_cons_succ]
                first | (with_reducible refine wpRely_step (fun K hK => ?_)) | (refine wpRely_step (fun K hK => ?_))
                refine .inl ?_
                apply Exists.intro
                refine ⟨Any, ?_, hK _ _ _ _ ?_⟩
                · simp only [RelyOp, fillE]
                  refine ⟨?_, fun w9 hw9 _ => ?_⟩
                  · first | rfl | (go_simp; done)
                  have k09 := (hw9.cell (p := ⟨ga, 0, none⟩) hlk4 HNA.out).trans k0
                  have k29 := (hw9.cell (p := ⟨ga, 2, none⟩) hlk4 HNA.out).trans k2
                  have k39 := (hw9.cell (p := ⟨ga, 3, none⟩) hlk4 HNA.out).trans k3
                  have k49 := (hw9.cell (p := ⟨ga, 4, none⟩) hlk4 HNA.out).trans k4
                  have a19 := (hw9.cell (p := ⟨gr, 19 + tn * 2, none⟩) hlg4 HNG.out).trans a1
                  have a29 := (hw9.cell (p := ⟨gr, 19 + tn * 2 + 1, none⟩) hlg4 HNG.out).trans a2
                  go_simp
                  first
                  | exact ⟨⟨rfl, trivial⟩, Keeps.refl _ _⟩
                clear hK K
                try simp only [Act.put, List.setIfInBounds_toArray, List.set_cons_zero, List.set_cons_succ]
                first | (with_reducible refine wpRely_step (fun K hK => ?_)) | (refine wpRely_step (fun K hK => ?_))
                refine .inr (.inr ⟨IsSg1, (Sg1At 68 (deedV (bz f z k) (f k))), ⟨_, 0, rfl⟩, ?_, hK _ _ _ _ ?_⟩)
                · simp only [RelyOp, fillE]
                  refine ⟨?_, fun w9 hw9 hmet0 => ?_⟩
                  · first | rfl | (go_simp; done)
                  rw [HV1.out]
                  go_simp
                  exact ⟨⟨⟨_, rfl⟩, ⟨_, rfl, Blk.new _ _ _⟩⟩, Keeps.of_same ((Below.refl _ _).alloc (Nat.le_refl _) _)⟩
                clear hK K
                try simp only [Act.put, List.setIfInBounds_toArray, List.set_cons_zero, List.set_cons_succ]
                first | (with_reducible refine wpRely_step (fun K hK => ?_)) | (refine wpRely_step (fun K hK => ?_))
                refine .inr (.inr ⟨(IsSlN (dn + 1)), (SlNAt2 (gr + 1) 68 6 (dn + 1) (bd f z (k + 1)) A1 w4.heap.size), ⟨_, none, 0, rfl⟩, ?_, hK _ _ _ _ ?_⟩)
                · simp only [RelyOp, fillE]
                  rintro _ ⟨g9, rfl⟩
                  refine ⟨?_, fun w9 hw9 hmet0 => ?_⟩
                  · first | rfl | (go_simp; done)
                  have hmet0' := hmet0
                  have hmet := hmet0.2
                  clear hmet0
                  obtain ⟨w0, k0', k1', g', hv, hblk⟩ := hmet.1 (by kernel_rfl)
                  cases hv
                  have hz9 := hw9.size
                  have hblk9 := hblk.below (quietB k1' (by kernel_rfl)) hblk.lt
                  have hw9' : Keeps nowhere w4 w9 := startB hmet0'.1 (by kernel_rfl)
                  refine relyAt_appendR (.tmp 64) (.tmp 75) rfl Tryz.underlying27 HDI.out HDZ.out HDS.out HDY.out rfl (by decide) (by decide) (A := A1) (n := dn) (c := c1) (rows := bd f z k) rfl (HO4.out.kept hw9' (fun _ _ h => h)) (g := g9) (c' := 1) rfl (ys := deedV (bz f z k) (f k)) (by rw [HV1.out]; rfl) ?_ ?_ (by omega) (by omega) ?_
                  · intro j hj
                    rw [hblk9.cell j]
                    simp
                  · intro u hu
                    rw [HV1.out] at hu
                    simp only [List.mem_cons, List.not_mem_nil, or_false] at hu
                    rcases hu with rfl | rfl | rfl | rfl | rfl | rfl <;> rfl
                  · intro g' cap w' ho hk' hat
                    refine ⟨⟨⟨_, _, rfl⟩, ⟨_, _, rfl, by rw [HD1.out]; exact ho, ?_⟩⟩, hk'.mono fun b hb => ⟨by decide, hb⟩⟩
                    rintro b ⟨a, ha, rfl⟩
                    cases ha
                    rcases hat with ⟨a, ha, hq⟩ | hq
                    · exact .inl ⟨a, ha, hq⟩
                    · exact .inr (by show w4.heap.size ≤ g'; omega)
                clear hK K
                try simp only [Act.put, List.setIfInBounds_toArray, List.set_cons_zero, List.set_cons_succ]
                refine wpRely_nil ?_
                simp only [fillE]
                rintro _ ⟨A9, c9, rfl⟩ _ ⟨g9, rfl⟩ w9 hw9 hmet
                simp only [List.drop_succ_cons, List.drop_zero, List.drop, Act.put, List.setIfInBounds_toArray, List.set_cons_zero, List.set_cons_succ]
                obtain ⟨w0, k0', k1', A8, c8, hv8, hown, hat⟩ := hmet.2.1 rfl
                cases hv8
                have hRP9 := HP4.out.keeps hw9 (fun b hb he => hb.2 he)
                have HN1 : Hid (RbSt w gr f z (k + 1) A9 c9 R' w9) := Lib.hid (by
                  refine ⟨hg0, (hw9.block _ HF4.out.lt HNF.out).trans HF4.out, (hw9.block _ HB4.out.lt HNG.out).trans HB4.out, HRs'.out, HR1'.out, ?_, by rw [HLn.out]; exact hown.below (quietB k1' (by kernel_rfl)), ?_, HE1.out.1, HE1.out.2.1, HE1.out.2.2⟩
                  · rw [HZ1.out]
                    have hin := HP4.out.2.insideP
                    exact ⟨hRP9.1, (ThOkP.keeps hin hw9 (fun b hb he => hb.1.2 he)).mono fun b hb => ⟨hb.1.1, fun hsl => by
                      rcases hat b hsl with h | h
                      · exact hb.1.2 h
                      · have := hb.2; omega⟩⟩
                  · exact HW4.out.trans (hw9.below HW4.out.size (fun b hb hsl => by obtain ⟨a, ha, hq⟩ := hsl; have := (HO4.out.lt a ha).1; omega)))
                clear hmet hown k0' k1' hRP9 hat hw9
                go_wp2
                go_roundw
                case rel => exact ⟨k + 1, by omega, by go_num, Lib.hid ⟨R', A9, c9, by rw [HLn.out], HN1.out⟩⟩
                case measure => simp [intOf]; omega
    · obtain rfl : k = n := by omega
      have q1 : ¬ (k : Int) < k := by omega
      have hL := HS.out.right
      obtain ⟨hkr, k1, k6⟩ := recL_kind hL
      have b27 := HS.out.bds 27 (by omega)
      have b28 := HS.out.bds 28 (by omega)
      have h27 := hL.2.2.2.1
      have HU : Hid (∀ i, i < 32 → wordsZ (bz f z k 0) (oz (bz f z k)) (acZ (bz f z k)) (avZ (bz f z k)) (whZ (bz f z k)) (tgZ (bz f z k)) (bz f z k 27 + 1) (bz f z k 28) i = nextV (bz f z k) i) := Lib.hid (fun i hi => words_next hL (fun i hi => (HS.out.bds i hi).1) i hi)
      have c35 := (HS.out.rcd.cell 35).trans HS.out.rc.1.ver_
      have f35 := HS.out.rcd.frozen 35
      obtain ⟨R2, hR2⟩ : ∃ R2, R2 = R.setIfInBounds 35 (.int .u64 (bz f z k 27 + 1)) := ⟨_, rfl⟩
      have hs2 : R2.size = 37 := by rw [hR2]; simp [HRs.out]
      have HI2 : Hid ((Tryz.prog.info? 56).map (·.size) = some R2.size) := by show _ = _; rw [infoRc, hs2]
      have HB2 : Hid (Blk (wr.setCell ⟨gr, 35, none⟩ (.int .u64 (bz f z k 27 + 1))) gr 56 R2) := Lib.hid (by rw [hR2]; exact HS.out.rcd.set_ 35 _)
      have HK2 : Hid (Keeps (OneB gr) wr (wr.setCell ⟨gr, 35, none⟩ (.int .u64 (bz f z k 27 + 1)))) := Lib.hid (keepsCell _ _ _ _)
      have HT2 : Hid (ThOk (bz f z k 0) (oz (bz f z k)) (R2.extract 0 19) (wr.setCell ⟨gr, 35, none⟩ (.int .u64 (bz f z k 27 + 1)))) := Lib.hid (by
        rw [hR2, extract_set (by omega)]
        exact (HS.out.rc.2.keeps (keepsCell _ _ _ _) (fun b hb he => hb.1 he)).weak)
      have HC2 : Hid (RcR R2 (R2.extract 0 19) (acZ (bz f z k)) (avZ (bz f z k)) (whZ (bz f z k)) (tgZ (bz f z k)) (bz f z k 27 + 1) (bz f z k 28)) := Lib.hid (by
        have hx := RcR.ver HS.out.rc.1 (bz f z k 27 + 1)
        rw [← hR2] at hx
        exact hx)
      have HWD := Lib.hid (fun W hT => words_any R2 _ _ _ _ _ _ _ (bz f z k 0) (oz (bz f z k)) W HC2.out (by omega) (fun i hi => (HS.out.bds (1 + i) (by omega)).1) (by rw [← hkr]; exact hL.1) hT (fun u hu => HS.out.bds (22 + u) (by omega)) (by omega) b28)
      have HF2 := Lib.hid (Blk.far HS.out.fault (p := ⟨gr, 35, none⟩) (show w.heap.size ≠ gr by omega) (.int .u64 (bz f z k 27 + 1)))
      have HO2 := Lib.hid ((HS.out.own).kept (keepsCell wr gr 35 (.int .u64 (bz f z k 27 + 1))) (fun a ha he => by have := (HS.out.own.lt a ha).1; have he' : a.block = gr := he; omega))
      have HW2 : Hid (Below w.heap.size w (wr.setCell ⟨gr, 35, none⟩ (.int .u64 (bz f z k 27 + 1)))) := Lib.hid (hW.setCell (p := ⟨gr, 35, none⟩) (show w.heap.size ≤ gr by omega) _)
      have u1 : (bz f z k 27 + 1) % 18446744073709551616 = bz f z k 27 + 1 := by omega
      have u2 : IntKind.u64.wrap (bz f z k 27 + 1) = bz f z k 27 + 1 := IntWalk.u64_in _ (by omega)
      clear hL hkr k1 k6 hR2 hs2 b28
      generalize wordsZ (bz f z k 0) (oz (bz f z k)) (acZ (bz f z k)) (avZ (bz f z k)) (whZ (bz f z k)) (tgZ (bz f z k)) (bz f z k 27 + 1) (bz f z k 28) = zw at *
      generalize hv27 : bz f z k 27 = v27 at *
      clear hv27
      generalize hdn : (bd f z k).length = dn at *
      go_wp2_with (with_reducible refine fLoad 56 gr 56 R2 (by kernel_rfl) HB2.out Tryz.underlying56 (by kernel_rfl) HI2.out ?_)
      with_reducible refine (HWD.out _ HT2.out).mono ?_
      rintro e w3 ⟨g3, D3, rfl, hD3, hU3, hg3, hb3⟩
      have HF3 := Lib.hid (HF2.out.below hb3 HF2.out.lt)
      have HO3 := Lib.hid (HO2.out.below hb3)
      have HW3 := Lib.hid (HW2.out.trans (hb3.mono HW2.out.size))
      have HG3 : Hid (w.heap.size + 1 ≤ g3) := Lib.hid (by have := HF2.out.lt; omega)
      have HD3 := Lib.hid hD3
      have HU3 := Lib.hid hU3
      clear hb3 hD3 hU3 hg3
      go_wp2_with fail
      with_reducible refine (refGoodB _).mono ?_
      rintro e w5 ⟨rfl, hb5⟩
      have HF5 := Lib.hid (HF3.out.below hb5 HF3.out.lt)
      have HO5 := Lib.hid (HO3.out.below hb5)
      have HW5 := Lib.hid (HW3.out.trans (hb5.mono HW3.out.size))
      have HD5 := Lib.hid (HD3.out.below hb5 HD3.out.lt)
      clear hb5
      go_wp2_with (with_reducible refine fStore 30 w.heap.size #[.int .i64 0, .int .i64 (-1)] 30 #[.int .i64 0, .int .i64 0] (by kernel_rfl) (by kernel_rfl) HF5.out (by kernel_rfl) (by kernel_rfl) (by kernel_rfl) ?_)
      (try simp only [Exit.inBlock, Exit.then])
      rw [← HQ.out]
      with_reducible refine bodyPost_ret (results_ttr Tryz.results4 _ _ w.heap.size 30 #[.int .i64 0, .int .i64 (-1)] _ (.slice (some ⟨g3, 0, none⟩) 32 32) (.slice A1 dn c1) (by kernel_rfl) (by kernel_rfl) (by kernel_rfl) (Blk.setRow HF5.out _) Tryz.underlying30 (by kernel_rfl) (by kernel_rfl)) (by kernel_rfl) ?_
      refine ⟨below_setRow HW5.out (Nat.le_refl _) _, .inr ⟨HS.out.good, g3, D3, A1, c1, by rw [hdn], HD5.out.far_row (by have := HG3.out; omega) _, HU3.out.congr (fun i hi => (HU.out i hi).symm), by have := HG3.out; omega, ?_⟩⟩
      rw [hdn]
      exact (HO5.out.kept (keepsRow _ _ _) (fun a ha he => by have := (HO5.out.lt a ha).1; have he' : a.block = w.heap.size := he; omega)).mono (by omega)
end Go.Proofs.YtkoflhjnpilchaaGreatDoor
