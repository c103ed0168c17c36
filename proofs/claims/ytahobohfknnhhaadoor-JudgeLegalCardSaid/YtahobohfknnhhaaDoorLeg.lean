/-
  What judge.Legal returns: for a kind that there is, and any deeds.
-/
import Derived.Test.YtahobohfknnhhaaDoorLegP
import Derived.Test.YtahobohfknnhhaaDoorLawK
import Derived.Test.YtahobohfknnhhaaDoorMAt
namespace Go.Proofs.YtahobohfknnhhaaDoor
set_option linter.unusedSimpArgs false
set_option linter.unusedVariables false
set_option linter.unusedSectionVars false
open Go.RowKit
set_option linter.unusedSimpArgs false
set_option linter.unusedVariables false
attribute [local go_sem ↓] Go.wp_at_zero Go.wp_at_succ

def K6 : List IntKind := [.i64, .i64, .i64, .i64, .i64, .i64]
theorem objIs_any (k : Int) (w : World) : Calls Tryd.prog 85 #[.int .i64 k] w fun e w' => e = .returned (.bool (decide (1 ≤ k ∧ k ≤ 6))) ∧ w = w' := by
  go_enter Tryd.func85, Tryd.ntmps85
  go_wp2
  all_goals (go_ret; refine ⟨ret_bool ?_, rfl⟩; simp; try omega)
def LegOut (D : Array Value) (e0 p0 : Int) (w : World) (e : Ending) (w' : World) : Prop := Below w.heap.size w w' ∧ ∃ err, e = .returned (.tuple #[.agg D, err]) ∧ PErr err e0 p0 w'

set_option maxRecDepth 100000 in
set_option maxHeartbeats 4000000 in
theorem legal_any (kind : Int) (f g : Nat → Nat → Int) (A : Option Addr) (n c K : Nat) (w : World) (hs : SlF K6 w A n c f) (hn : n ≤ 60) (hk : 1 ≤ kind ∧ kind ≤ 6) (hg : Runs kind f g) (hK : LUpto kind f g n K) (D : Array Value) (hD : U64s D 17 (if K = n then g n else fun _ => 0)) :
    Calls Tryd.prog 38 #[.int .i64 kind, .slice A n c] w (LegOut D (if K = n then 0 else 13) (if K = n then -1 else K) w) := by
  have HS := Lib.hid hs
  have HK := Lib.hid hK
  have HG := Lib.hid hg
  have HKI := Lib.hid hk
  have HD := Lib.hid hD
  have HID : Hid ((Tryd.prog.info? 76).map (·.size) = some D.size) := by show _ = _; rw [infoOC, hD.size]
  have HDS := Lib.hid hD.size
  have HD1 := Lib.hid hD.one
  have HIS : Hid (decide (1 ≤ kind ∧ kind ≤ 6) = true) := Lib.hid (by simp; exact hk)
  have HG0 := Lib.hid hg.1
  have hn0 : 0 ≤ (n : Int) := by omega
  clear hs hK hg hk hD
  go_enter Tryd.func38, Tryd.ntmps38
  generalize hQ : bodyPost Tryd.prog Tryd.f38 (LegOut D (if K = n then 0 else 13) (if K = n then -1 else K) w) = Q
  have HQ := Lib.hid hQ
  clear hQ
  go_wp2_with (go_at_call 85; refine (objIs_any _ _).mono ?_; rintro e w1 ⟨rfl, rfl⟩; rw [HIS.out])
  go_loopw [19] (fun v wr => ∃ i : Nat, i ≤ K ∧ v = .int .i64 i ∧ Hid (∃ E, Blk wr (w.heap.size + 1) 76 E ∧ U64s E 17 (g i)) ∧ Hid (Blk wr w.heap.size 76 #[.int .u64 0, .int .u64 0, .int .u64 0, .int .u64 0, .int .u64 0, .int .u64 0, .int .u64 0, .int .u64 0, .int .u64 0, .int .u64 0, .int .u64 0, .int .u64 0, .int .u64 0, .int .u64 0, .int .u64 0, .int .u64 0, .int .u64 0]) ∧ Below w.heap.size w wr) (fun v _ => n - (intOf v).toNat)
  case atStart => exact ⟨0, by omega, rfl, Lib.hid ⟨#[.int .u64 0, .int .u64 0, .int .u64 0, .int .u64 0, .int .u64 0, .int .u64 0, .int .u64 0, .int .u64 0, .int .u64 0, .int .u64 0, .int .u64 0, .int .u64 0, .int .u64 0, .int .u64 0, .int .u64 0, .int .u64 0, .int .u64 0], Blk.newAt _ _ _ (by simp), by rw [HG0.out]; exact U64s.zero 17⟩, Lib.hid ((Blk.new _ _ _).alloc _), by go_grown⟩
  case round =>
    obtain ⟨i, hi, rfl, hE, HR, hW⟩ := hrel
    obtain ⟨E, hEB, hEU⟩ := hE.out
    have HE := Lib.hid hEB
    have HEU := Lib.hid hEU
    have HIE : Hid ((Tryd.prog.info? 76).map (·.size) = some E.size) := by show _ = _; rw [infoOC, hEU.size]
    have HES := Lib.hid hEU.size
    clear hE hEB hEU
    have hle : i ≤ n := by have := HK.out.1; omega
    by_cases hin : i < n
    · have q1 : (i : Int) < n := by omega
      obtain ⟨hz, hw⟩ := runs_ok HKI.out HG.out i (fun j hj => HK.out.2.1 j (by omega))
      obtain ⟨m, hm, he⟩ := runs_m HG.out hz
      obtain ⟨b, off, rfl, hblt, hcell⟩ := HS.out.at_ (by omega)
      have hcap := HS.out.cap
      have hc63 := HS.out.cap63
      have c0 : wr.cell? ⟨b, off + i * 6, none⟩ = some (.int .i64 (f i 0)) := (hW.cell (p := ⟨b, off + i * 6, none⟩) hblt).trans (hcell i 0 hin (by decide))
      have c1 : wr.cell? ⟨b, off + i * 6 + 1, none⟩ = some (.int .i64 (f i 1)) := (hW.cell (p := ⟨b, off + i * 6 + 1, none⟩) hblt).trans (hcell i 1 hin (by decide))
      have c2 : wr.cell? ⟨b, off + i * 6 + 2, none⟩ = some (.int .i64 (f i 2)) := (hW.cell (p := ⟨b, off + i * 6 + 2, none⟩) hblt).trans (hcell i 2 hin (by decide))
      have c3 : wr.cell? ⟨b, off + i * 6 + 3, none⟩ = some (.int .i64 (f i 3)) := (hW.cell (p := ⟨b, off + i * 6 + 3, none⟩) hblt).trans (hcell i 3 hin (by decide))
      have c4 : wr.cell? ⟨b, off + i * 6 + 4, none⟩ = some (.int .i64 (f i 4)) := (hW.cell (p := ⟨b, off + i * 6 + 4, none⟩) hblt).trans (hcell i 4 hin (by decide))
      have c5 : wr.cell? ⟨b, off + i * 6 + 5, none⟩ = some (.int .i64 (f i 5)) := (hW.cell (p := ⟨b, off + i * 6 + 5, none⟩) hblt).trans (hcell i 5 hin (by decide))
      clear hcell
      have HI : Hid (okD kind f g i ↔ opOk (f i 1) (f i 2) (f i 3) ∧ doC kind (g i) (f i 1) (f i 2) (f i 3) = f i 4 ∧ doV kind (g i) (f i 1) (f i 2) (f i 3) = f i 5) := Lib.hid Iff.rfl
      have HZ := Lib.hid hz
      have HW := Lib.hid hw
      have HM := Lib.hid hm
      have HEQ := Lib.hid he
      clear hz hw hm he
      generalize f i 0 = x0 at *
      generalize f i 1 = x1 at *
      generalize f i 2 = x2 at *
      generalize f i 3 = x3 at *
      generalize f i 4 = x4 at *
      generalize f i 5 = x5 at *
      by_cases hok : okD kind f g i
      · have hiK : i < K := by
          rcases Nat.lt_or_ge i K with h | h
          · exact h
          · exfalso
            obtain rfl : i = K := by omega
            rcases HK.out.2.2 with h | h
            · omega
            · exact h hok
        obtain ⟨ho, h4, h5⟩ := HI.out.1 hok
        obtain ⟨hz', hw'⟩ := runs_ok HKI.out HG.out (i + 1) (fun j hj => HK.out.2.1 j (by omega))
        obtain ⟨N, hN⟩ := U64s.ex (g (i + 1)) 17 hw'
        have HDO : Hid (∀ W : World, Calls Tryd.prog 31 #[.int .i64 kind, .agg E, .agg #[.int .i64 x1, .int .i64 x2, .int .i64 x3]] W fun e w' => e = .returned (.tuple #[.agg N, .agg #[.int .i64 x4, .int .i64 x5], .nilIface]) ∧ Below W.heap.size W w') := Lib.hid fun W => by
          rw [← h4, ← h5]
          exact objDo_any E N (g i) kind x1 x2 x3 m W HEU.out ho HZ.out HM.out (by rw [← HEQ.out]; exact hN)
        have HNU := Lib.hid hN
        have HIN : Hid ((Tryd.prog.info? 76).map (·.size) = some N.size) := by show _ = _; rw [infoOC, hN.size]
        have HNS := Lib.hid hN.size
        have HN1 := Lib.hid hN.one
        clear ho h4 h5 hz' hw' hN hok
        go_wp2_with (with_reducible refine fLoad 76 (w.heap.size + 1) 76 E (by kernel_rfl) (HE.out.alloc _) Tryd.underlying76 (by kernel_rfl) HIE.out ?_)
        with_reducible refine (HDO.out _).mono ?_
        rintro e w1 ⟨rfl, hb1⟩
        have hl0 : w.heap.size + 1 < wr.heap.size := HE.out.lt
        have hdl : wr.heap.size < w1.heap.size := Nat.lt_of_lt_of_le (by simp) hb1.size
        have hB2 : Below w1.heap.size w1 ((((w1.alloc (.cells #[.int .u64 0, .int .u64 0, .int .u64 0, .int .u64 0, .int .u64 0, .int .u64 0, .int .u64 0, .int .u64 0, .int .u64 0, .int .u64 0, .int .u64 0, .int .u64 0, .int .u64 0, .int .u64 0, .int .u64 0, .int .u64 0, .int .u64 0] 76)).alloc (.cells #[.int .i64 0, .int .i64 0] 88)).setRow w1.heap.size N).setRow (w1.heap.size + 1) #[.int .i64 x4, .int .i64 x5]) :=
          below_setRow (below_setRow (((Below.refl _ _).alloc (Nat.le_refl _) _).alloc (by simp) _) (Nat.le_refl _) N) (by omega) _
        have hB02 : Below (wr.alloc (.cells #[.int .i64 x0, .int .i64 x1, .int .i64 x2, .int .i64 x3, .int .i64 x4, .int .i64 x5] 139)).heap.size (wr.alloc (.cells #[.int .i64 x0, .int .i64 x1, .int .i64 x2, .int .i64 x3, .int .i64 x4, .int .i64 x5] 139)) ((((w1.alloc (.cells #[.int .u64 0, .int .u64 0, .int .u64 0, .int .u64 0, .int .u64 0, .int .u64 0, .int .u64 0, .int .u64 0, .int .u64 0, .int .u64 0, .int .u64 0, .int .u64 0, .int .u64 0, .int .u64 0, .int .u64 0, .int .u64 0, .int .u64 0] 76)).alloc (.cells #[.int .i64 0, .int .i64 0] 88)).setRow w1.heap.size N).setRow (w1.heap.size + 1) #[.int .i64 x4, .int .i64 x5]) := hb1.trans (hB2.mono hb1.size)
        have HE2 := Lib.hid ((HE.out.alloc (.cells #[.int .i64 x0, .int .i64 x1, .int .i64 x2, .int .i64 x3, .int .i64 x4, .int .i64 x5] 139)).below hB02 (HE.out.alloc _).lt)
        have HR2 := Lib.hid ((HR.out.alloc (.cells #[.int .i64 x0, .int .i64 x1, .int .i64 x2, .int .i64 x3, .int .i64 x4, .int .i64 x5] 139)).below hB02 (HR.out.alloc _).lt)
        have hDD := (Blk.new wr 139 #[.int .i64 x0, .int .i64 x1, .int .i64 x2, .int .i64 x3, .int .i64 x4, .int .i64 x5]).below hB02 (Blk.new _ _ _).lt
        have d4 := hDD.cell 4
        have d5 := hDD.cell 5
        simp only [List.getElem?_toArray, List.getElem?_cons_zero, List.getElem?_cons_succ] at d4 d5
        have HN2 := Lib.hid (Blk.far_row (Blk.setRow ((Blk.new w1 76 #[.int .u64 0, .int .u64 0, .int .u64 0, .int .u64 0, .int .u64 0, .int .u64 0, .int .u64 0, .int .u64 0, .int .u64 0, .int .u64 0, .int .u64 0, .int .u64 0, .int .u64 0, .int .u64 0, .int .u64 0, .int .u64 0, .int .u64 0]).alloc (.cells #[.int .i64 0, .int .i64 0] 88)) N) (show w1.heap.size ≠ w1.heap.size + 1 by omega) #[.int .i64 x4, .int .i64 x5])
        have HA2 : Hid (Blk ((((w1.alloc (.cells #[.int .u64 0, .int .u64 0, .int .u64 0, .int .u64 0, .int .u64 0, .int .u64 0, .int .u64 0, .int .u64 0, .int .u64 0, .int .u64 0, .int .u64 0, .int .u64 0, .int .u64 0, .int .u64 0, .int .u64 0, .int .u64 0, .int .u64 0] 76)).alloc (.cells #[.int .i64 0, .int .i64 0] 88)).setRow w1.heap.size N).setRow (w1.heap.size + 1) #[.int .i64 x4, .int .i64 x5]) (w1.heap.size + 1) 88 #[.int .i64 x4, .int .i64 x5]) := Lib.hid (Blk.setRow (Blk.far_row (Blk.newAt _ _ _ (by simp)) (by omega) _) _)
        have HW2 := Lib.hid (hW.trans (((Below.refl _ _).alloc (Nat.le_refl _) (.cells #[.int .i64 x0, .int .i64 x1, .int .i64 x2, .int .i64 x3, .int .i64 x4, .int .i64 x5] 139)).trans (hB02.mono (by simp)) |>.mono hW.size))
        clear hB2 hB02 hDD hb1
        go_wp2_with (first
            | (with_reducible refine fStore 76 w1.heap.size N 76 #[.int .u64 0, .int .u64 0, .int .u64 0, .int .u64 0, .int .u64 0, .int .u64 0, .int .u64 0, .int .u64 0, .int .u64 0, .int .u64 0, .int .u64 0, .int .u64 0, .int .u64 0, .int .u64 0, .int .u64 0, .int .u64 0, .int .u64 0] (by kernel_rfl) (by kernel_rfl) ((Blk.new _ _ _).alloc _) HIN.out (by rw [HNS.out]; kernel_rfl) HN1.out ?_)
            | (with_reducible refine fStore 88 (w1.heap.size + 1) #[.int .i64 x4, .int .i64 x5] 88 #[.int .i64 0, .int .i64 0] (by kernel_rfl) (by kernel_rfl) (Blk.far_row (Blk.newAt _ _ _ (by simp)) (by omega) _) (by kernel_rfl) (by kernel_rfl) (two_one _ _) ?_)
            | ((with_reducible refine fLoadG 88 (w1.heap.size + 1) 88 #[.int .i64 x4, .int .i64 x5] ?_ HA2.out Tryd.underlying88 (by kernel_rfl) (by kernel_rfl) ?_ ?_); (rfl); (first | (go_simp; done) | rfl))
            | (with_reducible refine fLoad 76 w1.heap.size 76 N (by kernel_rfl) HN2.out Tryd.underlying76 (by kernel_rfl) HIN.out ?_)
            | (with_reducible refine fStore 76 (w.heap.size + 1) N 76 E (by kernel_rfl) (by kernel_rfl) HE2.out HIN.out (by rw [HES.out, HNS.out]) HN1.out ?_))
        go_roundw
        case rel => exact ⟨i + 1, by omega, by go_num, Lib.hid ⟨N, Blk.setRow HE2.out N, HNU.out⟩, Lib.hid (Blk.far_row HR2.out (by omega) _), below_setRow HW2.out (by omega) _⟩
        case measure => simp [intOf]; omega
      · have hiK : i = K := by
          rcases Nat.lt_or_ge i K with h | h
          · exact absurd (HK.out.2.1 i h) hok
          · omega
        have HKN : Hid (¬ K = n) := Lib.hid (by omega)
        subst hiK
        cases hop : opRightB x1 x2 x3
        · have HDO : Hid (∀ W : World, Calls Tryd.prog 31 #[.int .i64 kind, .agg E, .agg #[.int .i64 x1, .int .i64 x2, .int .i64 x3]] W fun e w' => e = .returned (.tuple #[.agg #[.int .u64 0, .int .u64 0, .int .u64 0, .int .u64 0, .int .u64 0, .int .u64 0, .int .u64 0, .int .u64 0, .int .u64 0, .int .u64 0, .int .u64 0, .int .u64 0, .int .u64 0, .int .u64 0, .int .u64 0, .int .u64 0, .int .u64 0], .agg #[.int .i64 0, .int .i64 0], .iface 38 (.int .i64 1)]) ∧ Below W.heap.size W w') := Lib.hid fun W =>
            objDo_op E (g i) kind x1 x2 x3 W HEU.out hop
          obtain ⟨N, hN⟩ : ∃ N : Array Value, N = #[.int .u64 0, .int .u64 0, .int .u64 0, .int .u64 0, .int .u64 0, .int .u64 0, .int .u64 0, .int .u64 0, .int .u64 0, .int .u64 0, .int .u64 0, .int .u64 0, .int .u64 0, .int .u64 0, .int .u64 0, .int .u64 0, .int .u64 0] := ⟨_, rfl⟩
          rw [← hN] at HDO
          have HIN : Hid ((Tryd.prog.info? 76).map (·.size) = some N.size) := by show _ = _; rw [hN]; exact infoOC
          have HNS : Hid (N.size = 17) := by show _ = _; rw [hN]; rfl
          have HN1 : Hid (N.all (·.oneCell') = true) := by show _ = _; rw [hN]; kernel_rfl
          clear hN hop hok
          go_wp2_with (with_reducible refine fLoad 76 (w.heap.size + 1) 76 E (by kernel_rfl) (HE.out.alloc _) Tryd.underlying76 (by kernel_rfl) HIE.out ?_)
          with_reducible refine (HDO.out _).mono ?_
          rintro e w1 ⟨rfl, hb1⟩
          have hl0 : w.heap.size + 1 < wr.heap.size := HE.out.lt
          have hdl : wr.heap.size < w1.heap.size := Nat.lt_of_lt_of_le (by simp) hb1.size
          have hB2 : Below w1.heap.size w1 ((((w1.alloc (.cells #[.int .u64 0, .int .u64 0, .int .u64 0, .int .u64 0, .int .u64 0, .int .u64 0, .int .u64 0, .int .u64 0, .int .u64 0, .int .u64 0, .int .u64 0, .int .u64 0, .int .u64 0, .int .u64 0, .int .u64 0, .int .u64 0, .int .u64 0] 76)).alloc (.cells #[.int .i64 0, .int .i64 0] 88)).setRow w1.heap.size N).setRow (w1.heap.size + 1) #[.int .i64 0, .int .i64 0]) :=
            below_setRow (below_setRow (((Below.refl _ _).alloc (Nat.le_refl _) _).alloc (by simp) _) (Nat.le_refl _) N) (by omega) _
          have hB02 : Below (wr.alloc (.cells #[.int .i64 x0, .int .i64 x1, .int .i64 x2, .int .i64 x3, .int .i64 x4, .int .i64 x5] 139)).heap.size (wr.alloc (.cells #[.int .i64 x0, .int .i64 x1, .int .i64 x2, .int .i64 x3, .int .i64 x4, .int .i64 x5] 139)) ((((w1.alloc (.cells #[.int .u64 0, .int .u64 0, .int .u64 0, .int .u64 0, .int .u64 0, .int .u64 0, .int .u64 0, .int .u64 0, .int .u64 0, .int .u64 0, .int .u64 0, .int .u64 0, .int .u64 0, .int .u64 0, .int .u64 0, .int .u64 0, .int .u64 0] 76)).alloc (.cells #[.int .i64 0, .int .i64 0] 88)).setRow w1.heap.size N).setRow (w1.heap.size + 1) #[.int .i64 0, .int .i64 0]) := hb1.trans (hB2.mono hb1.size)
          have HE2 := Lib.hid ((HE.out.alloc (.cells #[.int .i64 x0, .int .i64 x1, .int .i64 x2, .int .i64 x3, .int .i64 x4, .int .i64 x5] 139)).below hB02 (HE.out.alloc _).lt)
          have HR2 := Lib.hid ((HR.out.alloc (.cells #[.int .i64 x0, .int .i64 x1, .int .i64 x2, .int .i64 x3, .int .i64 x4, .int .i64 x5] 139)).below hB02 (HR.out.alloc _).lt)
          have hDD := (Blk.new wr 139 #[.int .i64 x0, .int .i64 x1, .int .i64 x2, .int .i64 x3, .int .i64 x4, .int .i64 x5]).below hB02 (Blk.new _ _ _).lt
          have d4 := hDD.cell 4
          have d5 := hDD.cell 5
          simp only [List.getElem?_toArray, List.getElem?_cons_zero, List.getElem?_cons_succ] at d4 d5
          have HN2 := Lib.hid (Blk.far_row (Blk.setRow ((Blk.new w1 76 #[.int .u64 0, .int .u64 0, .int .u64 0, .int .u64 0, .int .u64 0, .int .u64 0, .int .u64 0, .int .u64 0, .int .u64 0, .int .u64 0, .int .u64 0, .int .u64 0, .int .u64 0, .int .u64 0, .int .u64 0, .int .u64 0, .int .u64 0]).alloc (.cells #[.int .i64 0, .int .i64 0] 88)) N) (show w1.heap.size ≠ w1.heap.size + 1 by omega) #[.int .i64 0, .int .i64 0])
          have HA2 : Hid (Blk ((((w1.alloc (.cells #[.int .u64 0, .int .u64 0, .int .u64 0, .int .u64 0, .int .u64 0, .int .u64 0, .int .u64 0, .int .u64 0, .int .u64 0, .int .u64 0, .int .u64 0, .int .u64 0, .int .u64 0, .int .u64 0, .int .u64 0, .int .u64 0, .int .u64 0] 76)).alloc (.cells #[.int .i64 0, .int .i64 0] 88)).setRow w1.heap.size N).setRow (w1.heap.size + 1) #[.int .i64 0, .int .i64 0]) (w1.heap.size + 1) 88 #[.int .i64 0, .int .i64 0]) := Lib.hid (Blk.setRow (Blk.far_row (Blk.newAt _ _ _ (by simp)) (by omega) _) _)
          have HW2 := Lib.hid (hW.trans (((Below.refl _ _).alloc (Nat.le_refl _) (.cells #[.int .i64 x0, .int .i64 x1, .int .i64 x2, .int .i64 x3, .int .i64 x4, .int .i64 x5] 139)).trans (hB02.mono (by simp)) |>.mono hW.size))
          clear hB2 hB02 hDD hb1
          go_wp2_with (first
            | (with_reducible refine fStore 76 w1.heap.size N 76 #[.int .u64 0, .int .u64 0, .int .u64 0, .int .u64 0, .int .u64 0, .int .u64 0, .int .u64 0, .int .u64 0, .int .u64 0, .int .u64 0, .int .u64 0, .int .u64 0, .int .u64 0, .int .u64 0, .int .u64 0, .int .u64 0, .int .u64 0] (by kernel_rfl) (by kernel_rfl) ((Blk.new _ _ _).alloc _) HIN.out (by rw [HNS.out]; kernel_rfl) HN1.out ?_)
            | (with_reducible refine fStore 88 (w1.heap.size + 1) #[.int .i64 0, .int .i64 0] 88 #[.int .i64 0, .int .i64 0] (by kernel_rfl) (by kernel_rfl) (Blk.far_row (Blk.newAt _ _ _ (by simp)) (by omega) _) (by kernel_rfl) (by kernel_rfl) (two_one _ _) ?_)
            | (with_reducible refine fStore 76 w.heap.size #[.int .u64 0, .int .u64 0, .int .u64 0, .int .u64 0, .int .u64 0, .int .u64 0, .int .u64 0, .int .u64 0, .int .u64 0, .int .u64 0, .int .u64 0, .int .u64 0, .int .u64 0, .int .u64 0, .int .u64 0, .int .u64 0, .int .u64 0] 76 #[.int .u64 0, .int .u64 0, .int .u64 0, .int .u64 0, .int .u64 0, .int .u64 0, .int .u64 0, .int .u64 0, .int .u64 0, .int .u64 0, .int .u64 0, .int .u64 0, .int .u64 0, .int .u64 0, .int .u64 0, .int .u64 0, .int .u64 0] (by kernel_rfl) (by kernel_rfl) (HR2.out.alloc _) (by kernel_rfl) (by kernel_rfl) (by kernel_rfl) ?_))
          have hDE : D = #[.int .u64 0, .int .u64 0, .int .u64 0, .int .u64 0, .int .u64 0, .int .u64 0, .int .u64 0, .int .u64 0, .int .u64 0, .int .u64 0, .int .u64 0, .int .u64 0, .int .u64 0, .int .u64 0, .int .u64 0, .int .u64 0, .int .u64 0] := HD.out.ext ((show U64s #[.int .u64 0, .int .u64 0, .int .u64 0, .int .u64 0, .int .u64 0, .int .u64 0, .int .u64 0, .int .u64 0, .int .u64 0, .int .u64 0, .int .u64 0, .int .u64 0, .int .u64 0, .int .u64 0, .int .u64 0, .int .u64 0, .int .u64 0] 17 (fun _ => 0) from U64s.zero 17).congr (fun j hj => by rw [if_neg HKN.out]))
          (try simp only [Exit.inBlock, Exit.then])
          rw [← HQ.out, hDE, if_neg HKN.out, if_neg HKN.out]
          have hRR := Blk.setRow (HR2.out.alloc (.cells #[.int .i64 13, .int .i64 (i : Int)] 174)) #[.int .u64 0, .int .u64 0, .int .u64 0, .int .u64 0, .int .u64 0, .int .u64 0, .int .u64 0, .int .u64 0, .int .u64 0, .int .u64 0, .int .u64 0, .int .u64 0, .int .u64 0, .int .u64 0, .int .u64 0, .int .u64 0, .int .u64 0]
          have hlt2 := HR2.out.lt
          with_reducible refine bodyPost_ret (results_row_tmp Tryd.results38 _ _ w.heap.size 76 #[.int .u64 0, .int .u64 0, .int .u64 0, .int .u64 0, .int .u64 0, .int .u64 0, .int .u64 0, .int .u64 0, .int .u64 0, .int .u64 0, .int .u64 0, .int .u64 0, .int .u64 0, .int .u64 0, .int .u64 0, .int .u64 0, .int .u64 0] _ (.iface 172 (.pointer (some ⟨w1.heap.size + 1 + 1, 0, none⟩))) (by kernel_rfl) (by kernel_rfl) hRR Tryd.underlying76 (by kernel_rfl) (by kernel_rfl)) (by kernel_rfl) ?_
          exact ⟨below_setRow (HW2.out.alloc HW2.out.size _) (Nat.le_refl _) _, _, rfl, .inr ⟨_, rfl, (Blk.far_row (Blk.newAt _ _ _ (by simp [World.setRow])) (by omega) _)⟩⟩
        · have ho := opRightB_iff.1 hop
          obtain ⟨hz', hw', _⟩ := thing_do (m := m) HW.out HZ.out ho HM.out
          obtain ⟨N, hN⟩ := U64s.ex (doZ kind (g i) x1 x2 x3 m) 17 hw'
          have HDO : Hid (∀ W : World, Calls Tryd.prog 31 #[.int .i64 kind, .agg E, .agg #[.int .i64 x1, .int .i64 x2, .int .i64 x3]] W fun e w' => e = .returned (.tuple #[.agg N, .agg #[.int .i64 (doC kind (g i) x1 x2 x3), .int .i64 (doV kind (g i) x1 x2 x3)], .nilIface]) ∧ Below W.heap.size W w') := Lib.hid fun W =>
            objDo_any E N (g i) kind x1 x2 x3 m W HEU.out ho HZ.out HM.out hN
          have HIN : Hid ((Tryd.prog.info? 76).map (·.size) = some N.size) := by show _ = _; rw [infoOC, hN.size]
          have HNS := Lib.hid hN.size
          have HN1 := Lib.hid hN.one
          have hne : ¬ (doC kind (g i) x1 x2 x3 = x4 ∧ doV kind (g i) x1 x2 x3 = x5) := fun h => hok (HI.out.2 ⟨ho, h.1, h.2⟩)
          clear hop hok ho hz' hw' hN HI
          generalize doC kind (g i) x1 x2 x3 = co at *
          generalize doV kind (g i) x1 x2 x3 = va at *
          by_cases h4 : co = x4
          · subst h4
            have h5 : ¬ va = x5 := fun h => hne ⟨rfl, h⟩
            clear hne
            go_wp2_with (with_reducible refine fLoad 76 (w.heap.size + 1) 76 E (by kernel_rfl) (HE.out.alloc _) Tryd.underlying76 (by kernel_rfl) HIE.out ?_)
            with_reducible refine (HDO.out _).mono ?_
            rintro e w1 ⟨rfl, hb1⟩
            have hl0 : w.heap.size + 1 < wr.heap.size := HE.out.lt
            have hdl : wr.heap.size < w1.heap.size := Nat.lt_of_lt_of_le (by simp) hb1.size
            have hB2 : Below w1.heap.size w1 ((((w1.alloc (.cells #[.int .u64 0, .int .u64 0, .int .u64 0, .int .u64 0, .int .u64 0, .int .u64 0, .int .u64 0, .int .u64 0, .int .u64 0, .int .u64 0, .int .u64 0, .int .u64 0, .int .u64 0, .int .u64 0, .int .u64 0, .int .u64 0, .int .u64 0] 76)).alloc (.cells #[.int .i64 0, .int .i64 0] 88)).setRow w1.heap.size N).setRow (w1.heap.size + 1) #[.int .i64 co, .int .i64 va]) :=
              below_setRow (below_setRow (((Below.refl _ _).alloc (Nat.le_refl _) _).alloc (by simp) _) (Nat.le_refl _) N) (by omega) _
            have hB02 : Below (wr.alloc (.cells #[.int .i64 x0, .int .i64 x1, .int .i64 x2, .int .i64 x3, .int .i64 co, .int .i64 x5] 139)).heap.size (wr.alloc (.cells #[.int .i64 x0, .int .i64 x1, .int .i64 x2, .int .i64 x3, .int .i64 co, .int .i64 x5] 139)) ((((w1.alloc (.cells #[.int .u64 0, .int .u64 0, .int .u64 0, .int .u64 0, .int .u64 0, .int .u64 0, .int .u64 0, .int .u64 0, .int .u64 0, .int .u64 0, .int .u64 0, .int .u64 0, .int .u64 0, .int .u64 0, .int .u64 0, .int .u64 0, .int .u64 0] 76)).alloc (.cells #[.int .i64 0, .int .i64 0] 88)).setRow w1.heap.size N).setRow (w1.heap.size + 1) #[.int .i64 co, .int .i64 va]) := hb1.trans (hB2.mono hb1.size)
            have HE2 := Lib.hid ((HE.out.alloc (.cells #[.int .i64 x0, .int .i64 x1, .int .i64 x2, .int .i64 x3, .int .i64 co, .int .i64 x5] 139)).below hB02 (HE.out.alloc _).lt)
            have HR2 := Lib.hid ((HR.out.alloc (.cells #[.int .i64 x0, .int .i64 x1, .int .i64 x2, .int .i64 x3, .int .i64 co, .int .i64 x5] 139)).below hB02 (HR.out.alloc _).lt)
            have hDD := (Blk.new wr 139 #[.int .i64 x0, .int .i64 x1, .int .i64 x2, .int .i64 x3, .int .i64 co, .int .i64 x5]).below hB02 (Blk.new _ _ _).lt
            have d4 := hDD.cell 4
            have d5 := hDD.cell 5
            simp only [List.getElem?_toArray, List.getElem?_cons_zero, List.getElem?_cons_succ] at d4 d5
            have HN2 := Lib.hid (Blk.far_row (Blk.setRow ((Blk.new w1 76 #[.int .u64 0, .int .u64 0, .int .u64 0, .int .u64 0, .int .u64 0, .int .u64 0, .int .u64 0, .int .u64 0, .int .u64 0, .int .u64 0, .int .u64 0, .int .u64 0, .int .u64 0, .int .u64 0, .int .u64 0, .int .u64 0, .int .u64 0]).alloc (.cells #[.int .i64 0, .int .i64 0] 88)) N) (show w1.heap.size ≠ w1.heap.size + 1 by omega) #[.int .i64 co, .int .i64 va])
            have HA2 : Hid (Blk ((((w1.alloc (.cells #[.int .u64 0, .int .u64 0, .int .u64 0, .int .u64 0, .int .u64 0, .int .u64 0, .int .u64 0, .int .u64 0, .int .u64 0, .int .u64 0, .int .u64 0, .int .u64 0, .int .u64 0, .int .u64 0, .int .u64 0, .int .u64 0, .int .u64 0] 76)).alloc (.cells #[.int .i64 0, .int .i64 0] 88)).setRow w1.heap.size N).setRow (w1.heap.size + 1) #[.int .i64 co, .int .i64 va]) (w1.heap.size + 1) 88 #[.int .i64 co, .int .i64 va]) := Lib.hid (Blk.setRow (Blk.far_row (Blk.newAt _ _ _ (by simp)) (by omega) _) _)
            have HW2 := Lib.hid (hW.trans (((Below.refl _ _).alloc (Nat.le_refl _) (.cells #[.int .i64 x0, .int .i64 x1, .int .i64 x2, .int .i64 x3, .int .i64 co, .int .i64 x5] 139)).trans (hB02.mono (by simp)) |>.mono hW.size))
            clear hB2 hB02 hDD hb1
            go_wp2_with (first
            | (with_reducible refine fStore 76 w1.heap.size N 76 #[.int .u64 0, .int .u64 0, .int .u64 0, .int .u64 0, .int .u64 0, .int .u64 0, .int .u64 0, .int .u64 0, .int .u64 0, .int .u64 0, .int .u64 0, .int .u64 0, .int .u64 0, .int .u64 0, .int .u64 0, .int .u64 0, .int .u64 0] (by kernel_rfl) (by kernel_rfl) ((Blk.new _ _ _).alloc _) HIN.out (by rw [HNS.out]; kernel_rfl) HN1.out ?_)
            | (with_reducible refine fStore 88 (w1.heap.size + 1) #[.int .i64 co, .int .i64 va] 88 #[.int .i64 0, .int .i64 0] (by kernel_rfl) (by kernel_rfl) (Blk.far_row (Blk.newAt _ _ _ (by simp)) (by omega) _) (by kernel_rfl) (by kernel_rfl) (two_one _ _) ?_)
            | ((with_reducible refine fLoadG 88 (w1.heap.size + 1) 88 #[.int .i64 co, .int .i64 va] ?_ HA2.out Tryd.underlying88 (by kernel_rfl) (by kernel_rfl) ?_ ?_); (rfl); (first | (go_simp; done) | rfl))
            | (with_reducible refine fStore 76 w.heap.size #[.int .u64 0, .int .u64 0, .int .u64 0, .int .u64 0, .int .u64 0, .int .u64 0, .int .u64 0, .int .u64 0, .int .u64 0, .int .u64 0, .int .u64 0, .int .u64 0, .int .u64 0, .int .u64 0, .int .u64 0, .int .u64 0, .int .u64 0] 76 #[.int .u64 0, .int .u64 0, .int .u64 0, .int .u64 0, .int .u64 0, .int .u64 0, .int .u64 0, .int .u64 0, .int .u64 0, .int .u64 0, .int .u64 0, .int .u64 0, .int .u64 0, .int .u64 0, .int .u64 0, .int .u64 0, .int .u64 0] (by kernel_rfl) (by kernel_rfl) (HR2.out.alloc _) (by kernel_rfl) (by kernel_rfl) (by kernel_rfl) ?_))
            have hDE : D = #[.int .u64 0, .int .u64 0, .int .u64 0, .int .u64 0, .int .u64 0, .int .u64 0, .int .u64 0, .int .u64 0, .int .u64 0, .int .u64 0, .int .u64 0, .int .u64 0, .int .u64 0, .int .u64 0, .int .u64 0, .int .u64 0, .int .u64 0] := HD.out.ext ((show U64s #[.int .u64 0, .int .u64 0, .int .u64 0, .int .u64 0, .int .u64 0, .int .u64 0, .int .u64 0, .int .u64 0, .int .u64 0, .int .u64 0, .int .u64 0, .int .u64 0, .int .u64 0, .int .u64 0, .int .u64 0, .int .u64 0, .int .u64 0] 17 (fun _ => 0) from U64s.zero 17).congr (fun j hj => by rw [if_neg HKN.out]))
            (try simp only [Exit.inBlock, Exit.then])
            rw [← HQ.out, hDE, if_neg HKN.out, if_neg HKN.out]
            have hRR := Blk.setRow (HR2.out.alloc (.cells #[.int .i64 13, .int .i64 (i : Int)] 174)) #[.int .u64 0, .int .u64 0, .int .u64 0, .int .u64 0, .int .u64 0, .int .u64 0, .int .u64 0, .int .u64 0, .int .u64 0, .int .u64 0, .int .u64 0, .int .u64 0, .int .u64 0, .int .u64 0, .int .u64 0, .int .u64 0, .int .u64 0]
            have hlt2 := HR2.out.lt
            with_reducible refine bodyPost_ret (results_row_tmp Tryd.results38 _ _ w.heap.size 76 #[.int .u64 0, .int .u64 0, .int .u64 0, .int .u64 0, .int .u64 0, .int .u64 0, .int .u64 0, .int .u64 0, .int .u64 0, .int .u64 0, .int .u64 0, .int .u64 0, .int .u64 0, .int .u64 0, .int .u64 0, .int .u64 0, .int .u64 0] _ (.iface 172 (.pointer (some ⟨w1.heap.size + 1 + 1, 0, none⟩))) (by kernel_rfl) (by kernel_rfl) hRR Tryd.underlying76 (by kernel_rfl) (by kernel_rfl)) (by kernel_rfl) ?_
            exact ⟨below_setRow (HW2.out.alloc HW2.out.size _) (Nat.le_refl _) _, _, rfl, .inr ⟨_, rfl, (Blk.far_row (Blk.newAt _ _ _ (by simp [World.setRow])) (by omega) _)⟩⟩
          · have h5 := h4
            clear hne
            go_wp2_with (with_reducible refine fLoad 76 (w.heap.size + 1) 76 E (by kernel_rfl) (HE.out.alloc _) Tryd.underlying76 (by kernel_rfl) HIE.out ?_)
            with_reducible refine (HDO.out _).mono ?_
            rintro e w1 ⟨rfl, hb1⟩
            have hl0 : w.heap.size + 1 < wr.heap.size := HE.out.lt
            have hdl : wr.heap.size < w1.heap.size := Nat.lt_of_lt_of_le (by simp) hb1.size
            have hB2 : Below w1.heap.size w1 ((((w1.alloc (.cells #[.int .u64 0, .int .u64 0, .int .u64 0, .int .u64 0, .int .u64 0, .int .u64 0, .int .u64 0, .int .u64 0, .int .u64 0, .int .u64 0, .int .u64 0, .int .u64 0, .int .u64 0, .int .u64 0, .int .u64 0, .int .u64 0, .int .u64 0] 76)).alloc (.cells #[.int .i64 0, .int .i64 0] 88)).setRow w1.heap.size N).setRow (w1.heap.size + 1) #[.int .i64 co, .int .i64 va]) :=
              below_setRow (below_setRow (((Below.refl _ _).alloc (Nat.le_refl _) _).alloc (by simp) _) (Nat.le_refl _) N) (by omega) _
            have hB02 : Below (wr.alloc (.cells #[.int .i64 x0, .int .i64 x1, .int .i64 x2, .int .i64 x3, .int .i64 x4, .int .i64 x5] 139)).heap.size (wr.alloc (.cells #[.int .i64 x0, .int .i64 x1, .int .i64 x2, .int .i64 x3, .int .i64 x4, .int .i64 x5] 139)) ((((w1.alloc (.cells #[.int .u64 0, .int .u64 0, .int .u64 0, .int .u64 0, .int .u64 0, .int .u64 0, .int .u64 0, .int .u64 0, .int .u64 0, .int .u64 0, .int .u64 0, .int .u64 0, .int .u64 0, .int .u64 0, .int .u64 0, .int .u64 0, .int .u64 0] 76)).alloc (.cells #[.int .i64 0, .int .i64 0] 88)).setRow w1.heap.size N).setRow (w1.heap.size + 1) #[.int .i64 co, .int .i64 va]) := hb1.trans (hB2.mono hb1.size)
            have HE2 := Lib.hid ((HE.out.alloc (.cells #[.int .i64 x0, .int .i64 x1, .int .i64 x2, .int .i64 x3, .int .i64 x4, .int .i64 x5] 139)).below hB02 (HE.out.alloc _).lt)
            have HR2 := Lib.hid ((HR.out.alloc (.cells #[.int .i64 x0, .int .i64 x1, .int .i64 x2, .int .i64 x3, .int .i64 x4, .int .i64 x5] 139)).below hB02 (HR.out.alloc _).lt)
            have hDD := (Blk.new wr 139 #[.int .i64 x0, .int .i64 x1, .int .i64 x2, .int .i64 x3, .int .i64 x4, .int .i64 x5]).below hB02 (Blk.new _ _ _).lt
            have d4 := hDD.cell 4
            have d5 := hDD.cell 5
            simp only [List.getElem?_toArray, List.getElem?_cons_zero, List.getElem?_cons_succ] at d4 d5
            have HN2 := Lib.hid (Blk.far_row (Blk.setRow ((Blk.new w1 76 #[.int .u64 0, .int .u64 0, .int .u64 0, .int .u64 0, .int .u64 0, .int .u64 0, .int .u64 0, .int .u64 0, .int .u64 0, .int .u64 0, .int .u64 0, .int .u64 0, .int .u64 0, .int .u64 0, .int .u64 0, .int .u64 0, .int .u64 0]).alloc (.cells #[.int .i64 0, .int .i64 0] 88)) N) (show w1.heap.size ≠ w1.heap.size + 1 by omega) #[.int .i64 co, .int .i64 va])
            have HA2 : Hid (Blk ((((w1.alloc (.cells #[.int .u64 0, .int .u64 0, .int .u64 0, .int .u64 0, .int .u64 0, .int .u64 0, .int .u64 0, .int .u64 0, .int .u64 0, .int .u64 0, .int .u64 0, .int .u64 0, .int .u64 0, .int .u64 0, .int .u64 0, .int .u64 0, .int .u64 0] 76)).alloc (.cells #[.int .i64 0, .int .i64 0] 88)).setRow w1.heap.size N).setRow (w1.heap.size + 1) #[.int .i64 co, .int .i64 va]) (w1.heap.size + 1) 88 #[.int .i64 co, .int .i64 va]) := Lib.hid (Blk.setRow (Blk.far_row (Blk.newAt _ _ _ (by simp)) (by omega) _) _)
            have HW2 := Lib.hid (hW.trans (((Below.refl _ _).alloc (Nat.le_refl _) (.cells #[.int .i64 x0, .int .i64 x1, .int .i64 x2, .int .i64 x3, .int .i64 x4, .int .i64 x5] 139)).trans (hB02.mono (by simp)) |>.mono hW.size))
            clear hB2 hB02 hDD hb1
            go_wp2_with (first
            | (with_reducible refine fStore 76 w1.heap.size N 76 #[.int .u64 0, .int .u64 0, .int .u64 0, .int .u64 0, .int .u64 0, .int .u64 0, .int .u64 0, .int .u64 0, .int .u64 0, .int .u64 0, .int .u64 0, .int .u64 0, .int .u64 0, .int .u64 0, .int .u64 0, .int .u64 0, .int .u64 0] (by kernel_rfl) (by kernel_rfl) ((Blk.new _ _ _).alloc _) HIN.out (by rw [HNS.out]; kernel_rfl) HN1.out ?_)
            | (with_reducible refine fStore 88 (w1.heap.size + 1) #[.int .i64 co, .int .i64 va] 88 #[.int .i64 0, .int .i64 0] (by kernel_rfl) (by kernel_rfl) (Blk.far_row (Blk.newAt _ _ _ (by simp)) (by omega) _) (by kernel_rfl) (by kernel_rfl) (two_one _ _) ?_)
            | ((with_reducible refine fLoadG 88 (w1.heap.size + 1) 88 #[.int .i64 co, .int .i64 va] ?_ HA2.out Tryd.underlying88 (by kernel_rfl) (by kernel_rfl) ?_ ?_); (rfl); (first | (go_simp; done) | rfl))
            | (with_reducible refine fStore 76 w.heap.size #[.int .u64 0, .int .u64 0, .int .u64 0, .int .u64 0, .int .u64 0, .int .u64 0, .int .u64 0, .int .u64 0, .int .u64 0, .int .u64 0, .int .u64 0, .int .u64 0, .int .u64 0, .int .u64 0, .int .u64 0, .int .u64 0, .int .u64 0] 76 #[.int .u64 0, .int .u64 0, .int .u64 0, .int .u64 0, .int .u64 0, .int .u64 0, .int .u64 0, .int .u64 0, .int .u64 0, .int .u64 0, .int .u64 0, .int .u64 0, .int .u64 0, .int .u64 0, .int .u64 0, .int .u64 0, .int .u64 0] (by kernel_rfl) (by kernel_rfl) (HR2.out.alloc _) (by kernel_rfl) (by kernel_rfl) (by kernel_rfl) ?_))
            have hDE : D = #[.int .u64 0, .int .u64 0, .int .u64 0, .int .u64 0, .int .u64 0, .int .u64 0, .int .u64 0, .int .u64 0, .int .u64 0, .int .u64 0, .int .u64 0, .int .u64 0, .int .u64 0, .int .u64 0, .int .u64 0, .int .u64 0, .int .u64 0] := HD.out.ext ((show U64s #[.int .u64 0, .int .u64 0, .int .u64 0, .int .u64 0, .int .u64 0, .int .u64 0, .int .u64 0, .int .u64 0, .int .u64 0, .int .u64 0, .int .u64 0, .int .u64 0, .int .u64 0, .int .u64 0, .int .u64 0, .int .u64 0, .int .u64 0] 17 (fun _ => 0) from U64s.zero 17).congr (fun j hj => by rw [if_neg HKN.out]))
            (try simp only [Exit.inBlock, Exit.then])
            rw [← HQ.out, hDE, if_neg HKN.out, if_neg HKN.out]
            have hRR := Blk.setRow (HR2.out.alloc (.cells #[.int .i64 13, .int .i64 (i : Int)] 174)) #[.int .u64 0, .int .u64 0, .int .u64 0, .int .u64 0, .int .u64 0, .int .u64 0, .int .u64 0, .int .u64 0, .int .u64 0, .int .u64 0, .int .u64 0, .int .u64 0, .int .u64 0, .int .u64 0, .int .u64 0, .int .u64 0, .int .u64 0]
            have hlt2 := HR2.out.lt
            with_reducible refine bodyPost_ret (results_row_tmp Tryd.results38 _ _ w.heap.size 76 #[.int .u64 0, .int .u64 0, .int .u64 0, .int .u64 0, .int .u64 0, .int .u64 0, .int .u64 0, .int .u64 0, .int .u64 0, .int .u64 0, .int .u64 0, .int .u64 0, .int .u64 0, .int .u64 0, .int .u64 0, .int .u64 0, .int .u64 0] _ (.iface 172 (.pointer (some ⟨w1.heap.size + 1 + 1, 0, none⟩))) (by kernel_rfl) (by kernel_rfl) hRR Tryd.underlying76 (by kernel_rfl) (by kernel_rfl)) (by kernel_rfl) ?_
            exact ⟨below_setRow (HW2.out.alloc HW2.out.size _) (Nat.le_refl _) _, _, rfl, .inr ⟨_, rfl, (Blk.far_row (Blk.newAt _ _ _ (by simp [World.setRow])) (by omega) _)⟩⟩
    · have hiK : i = n := by omega
      have hKn : K = n := by have := HK.out.1; omega
      have hDE : D = E := HD.out.ext (by rw [if_pos hKn, ← hiK]; exact HEU.out)
      go_wp2_with (first
        | (with_reducible refine fLoad 76 (w.heap.size + 1) 76 E (by kernel_rfl) HE.out Tryd.underlying76 (by kernel_rfl) HIE.out ?_)
        | (with_reducible refine fStore 76 w.heap.size E 76 #[.int .u64 0, .int .u64 0, .int .u64 0, .int .u64 0, .int .u64 0, .int .u64 0, .int .u64 0, .int .u64 0, .int .u64 0, .int .u64 0, .int .u64 0, .int .u64 0, .int .u64 0, .int .u64 0, .int .u64 0, .int .u64 0, .int .u64 0] (by kernel_rfl) (by kernel_rfl) HR.out HIE.out (by rw [HES.out]; kernel_rfl) HEU.out.one ?_))
      (try simp only [Exit.inBlock, Exit.then])
      rw [← HQ.out, hDE, if_pos hKn, if_pos hKn]
      with_reducible refine bodyPost_ret (results_row_tmp Tryd.results38 _ _ w.heap.size 76 E _ .nilIface (by kernel_rfl) (by kernel_rfl) (Blk.setRow HR.out E) Tryd.underlying76 (by kernel_rfl) HIE.out) (by kernel_rfl) ?_
      exact ⟨below_setRow hW (Nat.le_refl _) _, _, rfl, .inl ⟨rfl, rfl⟩⟩
end Go.Proofs.YtahobohfknnhhaaDoor
