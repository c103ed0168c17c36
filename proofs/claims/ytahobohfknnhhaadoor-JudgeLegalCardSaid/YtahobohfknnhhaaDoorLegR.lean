/-
  What gristmillref.Legal returns: for a kind that there is, and any deeds.
-/
import Derived.Test.YtahobohfknnhhaaDoorLeg
import Derived.Test.YtahobohfknnhhaaDoorThingU
namespace Go.Proofs.YtahobohfknnhhaaDoor
set_option linter.unusedSimpArgs false
set_option linter.unusedVariables false
set_option linter.unusedSectionVars false
open Go.RowKit
set_option linter.unusedSimpArgs false
set_option linter.unusedVariables false
attribute [local go_sem ↓] Go.wp_at_zero Go.wp_at_succ

theorem results_tmp_row {P : Program} {fn : Func} {p q : Tmp} {ty : TypeId} (h : fn.results = #[.tmp q, .cell p ty]) (tmps : Array Value) (w : World) (g : Nat) (t : TypeId) (cs : Array Value) (d : TypeDesc) (v : Value)
    (hq : tmps.getD q undef = v) (hp : tmps.getD p undef = .pointer (some ⟨g, 0, none⟩)) (hg : Blk w g t cs)
    (hu : P.underlying ty = some d) (hd : (match d with | .struct _ | .array _ _ => true | _ => false) = true) (hi : (P.info? ty).map (·.size) = some cs.size) :
    (results fn tmps).run P w = .ok (.tuple #[v, .agg cs]) w := by
  have hp' : tmps[p]?.getD undef = .pointer (some ⟨g, 0, none⟩) := by simpa using hp
  have hq' : tmps[q]?.getD undef = v := by simpa using hq
  simp [results, h, hp', hq', asAddr, run_loadVar_row w g t ty cs (0, 0) d hg hu hd hi]
theorem refGood_any (w : World) : Calls Tryd.prog 64 #[] w fun e w' => e = .returned (.agg #[.int .i64 0, .int .i64 (-1)]) ∧ Below w.heap.size w w' := by
  go_enter Tryd.func64, Tryd.ntmps64
  go_wp2
  go_returns
  exact ⟨rfl, by go_grown⟩
theorem refBare_any (e : Int) (w : World) : Calls Tryd.prog 63 #[.int .i64 e] w fun e' w' => e' = .returned (.agg #[.int .i64 e, .int .i64 (-1)]) ∧ Below w.heap.size w w' := by
  go_enter Tryd.func63, Tryd.ntmps63
  go_wp2
  go_returns
  exact ⟨rfl, by go_grown⟩
theorem thing0_ok {kind : Int} (hk : 1 ≤ kind ∧ kind ≤ 6) (G : Nat) (w : World) : ThOkO G kind (fun _ => 0) #[.int .i64 kind, .slice none 0 0, .int .i64 0, .int .i64 0, .int .i64 0, .int .i64 0, .int .i64 0, .int .i64 0, .int .i64 0, .int .i64 0, .int .i64 0, .int .i64 0, .int .i64 0, .int .i64 0, .int .i64 0, .int .i64 0, .int .i64 0, .int .i64 0, .int .i64 0] w := by
  have h : ∀ A c, A = (none : Option Addr) → c = 0 → ∀ N, N = (0 : Int) → ThR #[.int .i64 kind, .slice none 0 0, .int .i64 0, .int .i64 0, .int .i64 0, .int .i64 0, .int .i64 0, .int .i64 0, .int .i64 0, .int .i64 0, .int .i64 0, .int .i64 0, .int .i64 0, .int .i64 0, .int .i64 0, .int .i64 0, .int .i64 0, .int .i64 0, .int .i64 0] kind A 0 c (fun _ => 0) N := by
    rintro A c rfl rfl N rfl
    refine ⟨rfl, rfl, rfl, fun i hi => ?_, rfl⟩
    have e : ∀ j, j < 16 → (#[.int .i64 kind, .slice none 0 0, .int .i64 0, .int .i64 0, .int .i64 0, .int .i64 0, .int .i64 0, .int .i64 0, .int .i64 0, .int .i64 0, .int .i64 0, .int .i64 0, .int .i64 0, .int .i64 0, .int .i64 0, .int .i64 0, .int .i64 0, .int .i64 0, .int .i64 0] : Array Value)[2 + j]? = some (.int .i64 0) := by
      intro j hj
      have : j = 0 ∨ j = 1 ∨ j = 2 ∨ j = 3 ∨ j = 4 ∨ j = 5 ∨ j = 6 ∨ j = 7 ∨ j = 8 ∨ j = 9 ∨ j = 10 ∨ j = 11 ∨ j = 12 ∨ j = 13 ∨ j = 14 ∨ j = 15 := by omega
      rcases this with rfl | rfl | rfl | rfl | rfl | rfl | rfl | rfl | rfl | rfl | rfl | rfl | rfl | rfl | rfl | rfl <;> rfl
    exact e i hi
  unfold ThOkO
  by_cases h5 : kind = 5
  · rw [if_pos h5, ← h5]; exact h none 0 rfl rfl 0 rfl
  rw [if_neg h5]
  by_cases h6 : kind = 6
  · rw [if_pos h6, ← h6]; exact h none 0 rfl rfl 0 rfl
  rw [if_neg h6]
  exact ⟨none, 0, h none 0 rfl rfl 0 rfl, ⟨⟨rfl, Nat.le_refl _, by decide, fun i => by show _ ≤ (([] : List Int)[i]?).getD 0 ∧ (([] : List Int)[i]?).getD 0 ≤ _; simp, fun h => absurd h (by decide)⟩, fun h => absurd h (by decide)⟩⟩
def LegROut (P : Prop) (z : Nat → Int) (e0 p0 : Int) (w : World) (e : Ending) (w' : World) : Prop :=
  Below w.heap.size w w' ∧ ∃ sl, e = .returned (.tuple #[sl, .agg #[.int .i64 e0, .int .i64 p0]]) ∧ (P → ∃ gb D, sl = .slice (some ⟨gb, 0, none⟩) 17 17 ∧ Blk w' gb 22 D ∧ U64s D 17 z) ∧ (¬ P → sl = .slice none 0 0)

set_option maxRecDepth 100000 in
set_option maxHeartbeats 4000000 in
theorem refLegal_any (kind : Int) (f g : Nat → Nat → Int) (A : Option Addr) (n c K : Nat) (w : World) (hs : SlF K6 w A n c f) (hn : n ≤ 60) (hk : 1 ≤ kind ∧ kind ≤ 6) (hg : Runs kind f g) (hK : LUpto kind f g n K) :
    Calls Tryd.prog 37 #[.int .i64 kind, .slice A n c] w (LegROut (K = n) (g n) (if K = n then 0 else 13) (if K = n then -1 else K) w) := by
  have HS := Lib.hid hs
  have HK := Lib.hid hK
  have HG := Lib.hid hg
  have HKI := Lib.hid hk
  have HIS : Hid (withinB kind 1 6 = true) := Lib.hid (by unfold withinB; simp; exact hk)
  have HG0 := Lib.hid hg.1
  have HT0 := Lib.hid (fun G w => thing0_ok hk G w)
  have hn0 : 0 ≤ (n : Int) := by omega
  clear hs hK hg hk
  go_enter Tryd.func37, Tryd.ntmps37
  generalize hQ : bodyPost Tryd.prog Tryd.f37 (LegROut (K = n) (g n) (if K = n then 0 else 13) (if K = n then -1 else K) w) = Q
  have HQ := Lib.hid hQ
  clear hQ
  go_wp2_with (first
    | (go_at_call 46; refine (within_any _ _ _ _).mono ?_; rintro e w1 ⟨rfl, rfl⟩; rw [HIS.out])
    | (with_reducible refine fStore 83 (w.heap.size + 1) #[.int .i64 kind, .slice none 0 0, .int .i64 0, .int .i64 0, .int .i64 0, .int .i64 0, .int .i64 0, .int .i64 0, .int .i64 0, .int .i64 0, .int .i64 0, .int .i64 0, .int .i64 0, .int .i64 0, .int .i64 0, .int .i64 0, .int .i64 0, .int .i64 0, .int .i64 0] 83 #[.int .i64 0, .slice none 0 0, .int .i64 0, .int .i64 0, .int .i64 0, .int .i64 0, .int .i64 0, .int .i64 0, .int .i64 0, .int .i64 0, .int .i64 0, .int .i64 0, .int .i64 0, .int .i64 0, .int .i64 0, .int .i64 0, .int .i64 0, .int .i64 0, .int .i64 0] (by kernel_rfl) (by kernel_rfl) (Blk.newAt _ _ _ (by simp)) (by kernel_rfl) (by kernel_rfl) (by kernel_rfl) ?_))
  go_loopw [19] (fun v wr => ∃ i : Nat, i ≤ K ∧ v = .int .i64 i ∧ Hid (∃ T, Blk wr (w.heap.size + 1) 83 T ∧ ThOkO (w.heap.size + 2) kind (g i) T wr) ∧ Hid (Blk wr w.heap.size 72 #[.int .i64 0, .int .i64 0]) ∧ Below w.heap.size w wr) (fun v _ => n - (intOf v).toNat)
  case atStart => exact ⟨0, by omega, rfl, Lib.hid ⟨_, Blk.setRow (Blk.newAt _ _ _ (by simp)) _, by rw [HG0.out]; exact HT0.out _ _⟩, Lib.hid (Blk.far_row ((Blk.new _ _ _).alloc _) (by omega) _), below_setRow (by go_grown) (by omega) _⟩
  case round =>
    obtain ⟨i, hi, rfl, hE, HR, hW⟩ := hrel
    obtain ⟨T, hEB, hTO⟩ := hE.out
    have HE := Lib.hid hEB
    have HTO := Lib.hid hTO
    have HIT : Hid ((Tryd.prog.info? 83).map (·.size) = some T.size) := by show _ = _; rw [infoTh, hTO.weak.size]
    have HTS := Lib.hid hTO.weak.size
    clear hE hEB hTO
    have hle : i ≤ n := by have := HK.out.1; omega
    by_cases hin : i < n
    · have q1 : (i : Int) < n := by omega
      obtain ⟨hz, hw⟩ := runs_ok HKI.out HG.out i (fun j hj => HK.out.2.1 j (by omega))
      obtain ⟨m, hm, he⟩ := runs_m HG.out hz
      obtain ⟨b, off, rfl, hblt, hcell⟩ := HS.out.at_ (by omega)
      have hcap := HS.out.cap
      have hc63 := HS.out.cap63
      have c0 : wr.cell? ⟨b, off + i * 6, none⟩ = some (.int .i64 (f i 0)) := (hW.cell (p := ⟨b, off + i * 6, none⟩) hblt).trans (hcell i 0 hin (by decide))
      have c1 : wr.cell? ⟨b, off + i * 6 + 1, none⟩ = some (.int .i64 (f i 1)) := (hW.cell (p := ⟨b, off + i * 6 + 1, none⟩) hblt).trans (hcell i 1 hin (by decide))
      have c2 : wr.cell? ⟨b, off + i * 6 + 2, none⟩ = some (.int .i64 (f i 2)) := (hW.cell (p := ⟨b, off + i * 6 + 2, none⟩) hblt).trans (hcell i 2 hin (by decide))
      have c3 : wr.cell? ⟨b, off + i * 6 + 3, none⟩ = some (.int .i64 (f i 3)) := (hW.cell (p := ⟨b, off + i * 6 + 3, none⟩) hblt).trans (hcell i 3 hin (by decide))
      have c4 : wr.cell? ⟨b, off + i * 6 + 4, none⟩ = some (.int .i64 (f i 4)) := (hW.cell (p := ⟨b, off + i * 6 + 4, none⟩) hblt).trans (hcell i 4 hin (by decide))
      have c5 : wr.cell? ⟨b, off + i * 6 + 5, none⟩ = some (.int .i64 (f i 5)) := (hW.cell (p := ⟨b, off + i * 6 + 5, none⟩) hblt).trans (hcell i 5 hin (by decide))
      clear hcell
      have HI : Hid (okD kind f g i ↔ opOk (f i 1) (f i 2) (f i 3) ∧ doC kind (g i) (f i 1) (f i 2) (f i 3) = f i 4 ∧ doV kind (g i) (f i 1) (f i 2) (f i 3) = f i 5) := Lib.hid Iff.rfl
      have HZ := Lib.hid hz
      have HW := Lib.hid hw
      have HM := Lib.hid hm
      have HEQ := Lib.hid he
      clear hz hw hm he
      generalize f i 0 = x0 at *
      generalize f i 1 = x1 at *
      generalize f i 2 = x2 at *
      generalize f i 3 = x3 at *
      generalize f i 4 = x4 at *
      generalize f i 5 = x5 at *
      obtain ⟨r, hr⟩ : ∃ r, opRightB x1 x2 x3 = r := ⟨_, rfl⟩
      have HRB := Lib.hid hr
      have hl0 : w.heap.size + 1 < wr.heap.size := HE.out.lt
      go_wp2_with fail
      with_reducible refine (refOpRight_any x1 x2 x3 _).mono ?_
      rintro e w1 ⟨rfl, hb1⟩
      rw [HRB.out]
      have hb01 : Below wr.heap.size wr w1 := ((Below.refl _ _).alloc (Nat.le_refl _) (.cells #[.int .i64 x0, .int .i64 x1, .int .i64 x2, .int .i64 x3, .int .i64 x4, .int .i64 x5] 139)).trans (hb1.mono (by simp))
      have HDD := Lib.hid ((Blk.new wr 139 #[.int .i64 x0, .int .i64 x1, .int .i64 x2, .int .i64 x3, .int .i64 x4, .int .i64 x5]).below hb1 (Blk.new _ _ _).lt)
      have d1 := HDD.out.cell 1
      have d2 := HDD.out.cell 2
      have d3 := HDD.out.cell 3
      simp only [List.getElem?_toArray, List.getElem?_cons_zero, List.getElem?_cons_succ] at d1 d2 d3
      have HE1 := Lib.hid (HE.out.below hb01 HE.out.lt)
      have HR1 := Lib.hid (HR.out.below hb01 HR.out.lt)
      have HTO1 := Lib.hid (HTO.out.keeps (Keeps.of_same (S := nowhere) hb01) (fun _ _ h => h))
      have hG1 : w.heap.size + 2 ≤ w1.heap.size := by have := HE1.out.lt; omega
      have HG1 := Lib.hid hG1
      clear hG1
      have HW1 := Lib.hid (hW.trans (hb01.mono hW.size))
      have hl1 := HE1.out.lt
      clear hb1 hb01 hr c0 c1 c2 c3 c4 c5
      cases r
      · have hiK : i = K := by
          rcases Nat.lt_or_ge i K with h | h
          · have h9 := opRightB_iff.2 (HI.out.1 (HK.out.2.1 i h)).1
            rw [HRB.out] at h9
            cases h9
          · omega
        have HKN : Hid (¬ K = n) := Lib.hid (by omega)
        subst hiK
        go_wp2_with (with_reducible refine fStore 72 w.heap.size #[.int .i64 13, .int .i64 (i : Int)] 72 #[.int .i64 0, .int .i64 0] (by kernel_rfl) (by kernel_rfl) HR1.out (by kernel_rfl) (by kernel_rfl) (two_one _ _) ?_)
        (try simp only [Exit.inBlock, Exit.then])
        rw [← HQ.out, if_neg HKN.out, if_neg HKN.out]
        with_reducible refine bodyPost_ret (results_tmp_row Tryd.results37 _ _ w.heap.size 72 #[.int .i64 13, .int .i64 (i : Int)] _ (.slice none 0 0) (by kernel_rfl) (by kernel_rfl) (Blk.setRow HR1.out _) Tryd.underlying72 (by kernel_rfl) (by kernel_rfl)) (by kernel_rfl) ?_
        exact ⟨below_setRow HW1.out (Nat.le_refl _) _, _, rfl, fun h => absurd h HKN.out, fun _ => rfl⟩
      · have ho := opRightB_iff.1 HRB.out
        obtain ⟨hz', hw', _⟩ := thing_do (m := m) HW.out HZ.out ho HM.out
        have HTD : Hid (∀ (D : Array Value) (W : World), w.heap.size + 2 ≤ W.heap.size → ThOkO (w.heap.size + 2) kind (g i) D W → Calls Tryd.prog 33 #[.agg D, .agg #[.int .i64 x1, .int .i64 x2, .int .i64 x3]] W (DoOut (ThOkO (w.heap.size + 2) kind (doZ kind (g i) x1 x2 x3 m)) (doC kind (g i) x1 x2 x3) (doV kind (g i) x1 x2 x3) W)) := Lib.hid fun D W hG hT =>
          thingDo_anyO _ D (g i) kind x1 x2 x3 m W hG HW.out HZ.out ho HM.out hT
        have HOK : Hid (okD kind f g i ↔ doC kind (g i) x1 x2 x3 = x4 ∧ doV kind (g i) x1 x2 x3 = x5) := Lib.hid (HI.out.trans ⟨fun h => h.2, fun h => ⟨ho, h⟩⟩)
        rw [← HEQ.out] at HTD
        clear ho hz' hw' HI
        generalize doC kind (g i) x1 x2 x3 = co at *
        generalize doV kind (g i) x1 x2 x3 = va at *
        by_cases h4 : co = x4
        · subst h4
          by_cases h5 : va = x5
          · subst h5
            have hok := HOK.out.2 ⟨rfl, rfl⟩
            have hiK : i < K := by
              rcases Nat.lt_or_ge i K with h | h
              · exact h
              · exfalso
                obtain rfl : i = K := by omega
                rcases HK.out.2.2 with h | h
                · omega
                · exact h hok
            clear hok
            go_wp2_with (with_reducible refine fLoad 83 (w.heap.size + 1) 83 T (by kernel_rfl) HE1.out Tryd.underlying83 (by kernel_rfl) HIT.out ?_)
            with_reducible refine (HTD.out T _ HG1.out HTO1.out).mono ?_
            rintro e w2 ⟨hb2, F, hFs, hF1, rfl, hTF⟩
            have HIF : Hid ((Tryd.prog.info? 83).map (·.size) = some F.size) := by show _ = _; rw [infoTh, hFs]
            have HFS := Lib.hid hFs
            have HF1 := Lib.hid hF1
            have hB3 : Below w2.heap.size w2 ((((w2.alloc (.cells #[.int .i64 0, .slice none 0 0, .int .i64 0, .int .i64 0, .int .i64 0, .int .i64 0, .int .i64 0, .int .i64 0, .int .i64 0, .int .i64 0, .int .i64 0, .int .i64 0, .int .i64 0, .int .i64 0, .int .i64 0, .int .i64 0, .int .i64 0, .int .i64 0, .int .i64 0] 83)).alloc (.cells #[.int .i64 0, .int .i64 0] 88)).setRow w2.heap.size F).setRow (w2.heap.size + 1) #[.int .i64 co, .int .i64 va]) :=
              below_setRow (below_setRow (((Below.refl _ _).alloc (Nat.le_refl _) _).alloc (by simp) _) (Nat.le_refl _) F) (by omega) _
            have hB13 : Below w1.heap.size w1 ((((w2.alloc (.cells #[.int .i64 0, .slice none 0 0, .int .i64 0, .int .i64 0, .int .i64 0, .int .i64 0, .int .i64 0, .int .i64 0, .int .i64 0, .int .i64 0, .int .i64 0, .int .i64 0, .int .i64 0, .int .i64 0, .int .i64 0, .int .i64 0, .int .i64 0, .int .i64 0, .int .i64 0] 83)).alloc (.cells #[.int .i64 0, .int .i64 0] 88)).setRow w2.heap.size F).setRow (w2.heap.size + 1) #[.int .i64 co, .int .i64 va]) := hb2.trans (hB3.mono hb2.size)
            have HE3 := Lib.hid (HE1.out.below hB13 HE1.out.lt)
            have HR3 := Lib.hid (HR1.out.below hB13 HR1.out.lt)
            have hDD3 := HDD.out.below hB13 HDD.out.lt
            have d4 := hDD3.cell 4
            have d5 := hDD3.cell 5
            simp only [List.getElem?_toArray, List.getElem?_cons_zero, List.getElem?_cons_succ] at d4 d5
            have HT3 := Lib.hid (hTF.keeps (Keeps.of_same (S := nowhere) hB3) (fun _ _ h => h))
            have HN3 := Lib.hid (Blk.far_row (Blk.setRow ((Blk.new w2 83 #[.int .i64 0, .slice none 0 0, .int .i64 0, .int .i64 0, .int .i64 0, .int .i64 0, .int .i64 0, .int .i64 0, .int .i64 0, .int .i64 0, .int .i64 0, .int .i64 0, .int .i64 0, .int .i64 0, .int .i64 0, .int .i64 0, .int .i64 0, .int .i64 0, .int .i64 0]).alloc (.cells #[.int .i64 0, .int .i64 0] 88)) F) (show w2.heap.size ≠ w2.heap.size + 1 by omega) #[.int .i64 co, .int .i64 va])
            have HA3 : Hid (Blk ((((w2.alloc (.cells #[.int .i64 0, .slice none 0 0, .int .i64 0, .int .i64 0, .int .i64 0, .int .i64 0, .int .i64 0, .int .i64 0, .int .i64 0, .int .i64 0, .int .i64 0, .int .i64 0, .int .i64 0, .int .i64 0, .int .i64 0, .int .i64 0, .int .i64 0, .int .i64 0, .int .i64 0] 83)).alloc (.cells #[.int .i64 0, .int .i64 0] 88)).setRow w2.heap.size F).setRow (w2.heap.size + 1) #[.int .i64 co, .int .i64 va]) (w2.heap.size + 1) 88 #[.int .i64 co, .int .i64 va]) := Lib.hid (Blk.setRow (Blk.far_row (Blk.newAt _ _ _ (by simp)) (by omega) _) _)
            have HW3 := Lib.hid (HW1.out.trans (hB13.mono HW1.out.size))
            clear hB3 hB13 hDD3 hb2 hFs hF1 hTF
            go_wp2_with (first
              | (with_reducible refine fStore 83 w2.heap.size F 83 #[.int .i64 0, .slice none 0 0, .int .i64 0, .int .i64 0, .int .i64 0, .int .i64 0, .int .i64 0, .int .i64 0, .int .i64 0, .int .i64 0, .int .i64 0, .int .i64 0, .int .i64 0, .int .i64 0, .int .i64 0, .int .i64 0, .int .i64 0, .int .i64 0, .int .i64 0] (by kernel_rfl) (by kernel_rfl) ((Blk.new _ _ _).alloc _) HIF.out (by rw [HFS.out]; kernel_rfl) HF1.out ?_)
              | (with_reducible refine fStore 88 (w2.heap.size + 1) #[.int .i64 co, .int .i64 va] 88 #[.int .i64 0, .int .i64 0] (by kernel_rfl) (by kernel_rfl) (Blk.far_row (Blk.newAt _ _ _ (by simp)) (by omega) _) (by kernel_rfl) (by kernel_rfl) (two_one _ _) ?_)
              | ((with_reducible refine fLoad 88 (w2.heap.size + 1) 88 #[.int .i64 co, .int .i64 va] ?_ HA3.out Tryd.underlying88 (by kernel_rfl) (by kernel_rfl) ?_); (rfl))
              | (with_reducible refine fLoad 83 w2.heap.size 83 F (by kernel_rfl) HN3.out Tryd.underlying83 (by kernel_rfl) HIF.out ?_)
              | (with_reducible refine fStore 83 (w.heap.size + 1) F 83 T (by kernel_rfl) (by kernel_rfl) HE3.out HIF.out (by rw [HTS.out, HFS.out]) HF1.out ?_))
            go_roundw
            case rel => exact ⟨i + 1, by omega, by go_num, Lib.hid ⟨F, Blk.setRow HE3.out F, HT3.out.keeps (keeps_setRow (S := fun b => b = w.heap.size + 1) (.inl rfl) F) (fun b hb e => by omega)⟩, Lib.hid (Blk.far_row HR3.out (by omega) _), below_setRow HW3.out (by omega) _⟩
            case measure => simp [intOf]; omega
          · have hiK : i = K := by
              rcases Nat.lt_or_ge i K with h | h
              · exact absurd (HOK.out.1 (HK.out.2.1 i h)).2 h5
              · omega
            have HKN : Hid (¬ K = n) := Lib.hid (by omega)
            subst hiK
            go_wp2_with (with_reducible refine fLoad 83 (w.heap.size + 1) 83 T (by kernel_rfl) HE1.out Tryd.underlying83 (by kernel_rfl) HIT.out ?_)
            with_reducible refine (HTD.out T _ HG1.out HTO1.out).mono ?_
            rintro e w2 ⟨hb2, F, hFs, hF1, rfl, hTF⟩
            have HIF : Hid ((Tryd.prog.info? 83).map (·.size) = some F.size) := by show _ = _; rw [infoTh, hFs]
            have HFS := Lib.hid hFs
            have HF1 := Lib.hid hF1
            have hB3 : Below w2.heap.size w2 ((((w2.alloc (.cells #[.int .i64 0, .slice none 0 0, .int .i64 0, .int .i64 0, .int .i64 0, .int .i64 0, .int .i64 0, .int .i64 0, .int .i64 0, .int .i64 0, .int .i64 0, .int .i64 0, .int .i64 0, .int .i64 0, .int .i64 0, .int .i64 0, .int .i64 0, .int .i64 0, .int .i64 0] 83)).alloc (.cells #[.int .i64 0, .int .i64 0] 88)).setRow w2.heap.size F).setRow (w2.heap.size + 1) #[.int .i64 co, .int .i64 va]) :=
              below_setRow (below_setRow (((Below.refl _ _).alloc (Nat.le_refl _) _).alloc (by simp) _) (Nat.le_refl _) F) (by omega) _
            have hB13 : Below w1.heap.size w1 ((((w2.alloc (.cells #[.int .i64 0, .slice none 0 0, .int .i64 0, .int .i64 0, .int .i64 0, .int .i64 0, .int .i64 0, .int .i64 0, .int .i64 0, .int .i64 0, .int .i64 0, .int .i64 0, .int .i64 0, .int .i64 0, .int .i64 0, .int .i64 0, .int .i64 0, .int .i64 0, .int .i64 0] 83)).alloc (.cells #[.int .i64 0, .int .i64 0] 88)).setRow w2.heap.size F).setRow (w2.heap.size + 1) #[.int .i64 co, .int .i64 va]) := hb2.trans (hB3.mono hb2.size)
            have HE3 := Lib.hid (HE1.out.below hB13 HE1.out.lt)
            have HR3 := Lib.hid (HR1.out.below hB13 HR1.out.lt)
            have hDD3 := HDD.out.below hB13 HDD.out.lt
            have d4 := hDD3.cell 4
            have d5 := hDD3.cell 5
            simp only [List.getElem?_toArray, List.getElem?_cons_zero, List.getElem?_cons_succ] at d4 d5
            have HT3 := Lib.hid (hTF.keeps (Keeps.of_same (S := nowhere) hB3) (fun _ _ h => h))
            have HN3 := Lib.hid (Blk.far_row (Blk.setRow ((Blk.new w2 83 #[.int .i64 0, .slice none 0 0, .int .i64 0, .int .i64 0, .int .i64 0, .int .i64 0, .int .i64 0, .int .i64 0, .int .i64 0, .int .i64 0, .int .i64 0, .int .i64 0, .int .i64 0, .int .i64 0, .int .i64 0, .int .i64 0, .int .i64 0, .int .i64 0, .int .i64 0]).alloc (.cells #[.int .i64 0, .int .i64 0] 88)) F) (show w2.heap.size ≠ w2.heap.size + 1 by omega) #[.int .i64 co, .int .i64 va])
            have HA3 : Hid (Blk ((((w2.alloc (.cells #[.int .i64 0, .slice none 0 0, .int .i64 0, .int .i64 0, .int .i64 0, .int .i64 0, .int .i64 0, .int .i64 0, .int .i64 0, .int .i64 0, .int .i64 0, .int .i64 0, .int .i64 0, .int .i64 0, .int .i64 0, .int .i64 0, .int .i64 0, .int .i64 0, .int .i64 0] 83)).alloc (.cells #[.int .i64 0, .int .i64 0] 88)).setRow w2.heap.size F).setRow (w2.heap.size + 1) #[.int .i64 co, .int .i64 va]) (w2.heap.size + 1) 88 #[.int .i64 co, .int .i64 va]) := Lib.hid (Blk.setRow (Blk.far_row (Blk.newAt _ _ _ (by simp)) (by omega) _) _)
            have HW3 := Lib.hid (HW1.out.trans (hB13.mono HW1.out.size))
            clear hB3 hB13 hDD3 hb2 hFs hF1 hTF
            go_wp2_with (first
              | (with_reducible refine fStore 83 w2.heap.size F 83 #[.int .i64 0, .slice none 0 0, .int .i64 0, .int .i64 0, .int .i64 0, .int .i64 0, .int .i64 0, .int .i64 0, .int .i64 0, .int .i64 0, .int .i64 0, .int .i64 0, .int .i64 0, .int .i64 0, .int .i64 0, .int .i64 0, .int .i64 0, .int .i64 0, .int .i64 0] (by kernel_rfl) (by kernel_rfl) ((Blk.new _ _ _).alloc _) HIF.out (by rw [HFS.out]; kernel_rfl) HF1.out ?_)
              | (with_reducible refine fStore 88 (w2.heap.size + 1) #[.int .i64 co, .int .i64 va] 88 #[.int .i64 0, .int .i64 0] (by kernel_rfl) (by kernel_rfl) (Blk.far_row (Blk.newAt _ _ _ (by simp)) (by omega) _) (by kernel_rfl) (by kernel_rfl) (two_one _ _) ?_)
              | ((with_reducible refine fLoad 88 (w2.heap.size + 1) 88 #[.int .i64 co, .int .i64 va] ?_ HA3.out Tryd.underlying88 (by kernel_rfl) (by kernel_rfl) ?_); (rfl))
              | (with_reducible refine fStore 72 w.heap.size #[.int .i64 13, .int .i64 (i : Int)] 72 #[.int .i64 0, .int .i64 0] (by kernel_rfl) (by kernel_rfl) HR3.out (by kernel_rfl) (by kernel_rfl) (two_one _ _) ?_))
            (try simp only [Exit.inBlock, Exit.then])
            rw [← HQ.out, if_neg HKN.out, if_neg HKN.out]
            with_reducible refine bodyPost_ret (results_tmp_row Tryd.results37 _ _ w.heap.size 72 #[.int .i64 13, .int .i64 (i : Int)] _ (.slice none 0 0) (by kernel_rfl) (by kernel_rfl) (Blk.setRow HR3.out _) Tryd.underlying72 (by kernel_rfl) (by kernel_rfl)) (by kernel_rfl) ?_
            exact ⟨below_setRow HW3.out (Nat.le_refl _) _, _, rfl, fun h => absurd h HKN.out, fun _ => rfl⟩

        · have hiK : i = K := by
            rcases Nat.lt_or_ge i K with h | h
            · exact absurd (HOK.out.1 (HK.out.2.1 i h)).1 h4
            · omega
          have HKN : Hid (¬ K = n) := Lib.hid (by omega)
          subst hiK
          go_wp2_with (with_reducible refine fLoad 83 (w.heap.size + 1) 83 T (by kernel_rfl) HE1.out Tryd.underlying83 (by kernel_rfl) HIT.out ?_)
          with_reducible refine (HTD.out T _ HG1.out HTO1.out).mono ?_
          rintro e w2 ⟨hb2, F, hFs, hF1, rfl, hTF⟩
          have HIF : Hid ((Tryd.prog.info? 83).map (·.size) = some F.size) := by show _ = _; rw [infoTh, hFs]
          have HFS := Lib.hid hFs
          have HF1 := Lib.hid hF1
          have hB3 : Below w2.heap.size w2 ((((w2.alloc (.cells #[.int .i64 0, .slice none 0 0, .int .i64 0, .int .i64 0, .int .i64 0, .int .i64 0, .int .i64 0, .int .i64 0, .int .i64 0, .int .i64 0, .int .i64 0, .int .i64 0, .int .i64 0, .int .i64 0, .int .i64 0, .int .i64 0, .int .i64 0, .int .i64 0, .int .i64 0] 83)).alloc (.cells #[.int .i64 0, .int .i64 0] 88)).setRow w2.heap.size F).setRow (w2.heap.size + 1) #[.int .i64 co, .int .i64 va]) :=
            below_setRow (below_setRow (((Below.refl _ _).alloc (Nat.le_refl _) _).alloc (by simp) _) (Nat.le_refl _) F) (by omega) _
          have hB13 : Below w1.heap.size w1 ((((w2.alloc (.cells #[.int .i64 0, .slice none 0 0, .int .i64 0, .int .i64 0, .int .i64 0, .int .i64 0, .int .i64 0, .int .i64 0, .int .i64 0, .int .i64 0, .int .i64 0, .int .i64 0, .int .i64 0, .int .i64 0, .int .i64 0, .int .i64 0, .int .i64 0, .int .i64 0, .int .i64 0] 83)).alloc (.cells #[.int .i64 0, .int .i64 0] 88)).setRow w2.heap.size F).setRow (w2.heap.size + 1) #[.int .i64 co, .int .i64 va]) := hb2.trans (hB3.mono hb2.size)
          have HE3 := Lib.hid (HE1.out.below hB13 HE1.out.lt)
          have HR3 := Lib.hid (HR1.out.below hB13 HR1.out.lt)
          have hDD3 := HDD.out.below hB13 HDD.out.lt
          have d4 := hDD3.cell 4
          have d5 := hDD3.cell 5
          simp only [List.getElem?_toArray, List.getElem?_cons_zero, List.getElem?_cons_succ] at d4 d5
          have HT3 := Lib.hid (hTF.keeps (Keeps.of_same (S := nowhere) hB3) (fun _ _ h => h))
          have HN3 := Lib.hid (Blk.far_row (Blk.setRow ((Blk.new w2 83 #[.int .i64 0, .slice none 0 0, .int .i64 0, .int .i64 0, .int .i64 0, .int .i64 0, .int .i64 0, .int .i64 0, .int .i64 0, .int .i64 0, .int .i64 0, .int .i64 0, .int .i64 0, .int .i64 0, .int .i64 0, .int .i64 0, .int .i64 0, .int .i64 0, .int .i64 0]).alloc (.cells #[.int .i64 0, .int .i64 0] 88)) F) (show w2.heap.size ≠ w2.heap.size + 1 by omega) #[.int .i64 co, .int .i64 va])
          have HA3 : Hid (Blk ((((w2.alloc (.cells #[.int .i64 0, .slice none 0 0, .int .i64 0, .int .i64 0, .int .i64 0, .int .i64 0, .int .i64 0, .int .i64 0, .int .i64 0, .int .i64 0, .int .i64 0, .int .i64 0, .int .i64 0, .int .i64 0, .int .i64 0, .int .i64 0, .int .i64 0, .int .i64 0, .int .i64 0] 83)).alloc (.cells #[.int .i64 0, .int .i64 0] 88)).setRow w2.heap.size F).setRow (w2.heap.size + 1) #[.int .i64 co, .int .i64 va]) (w2.heap.size + 1) 88 #[.int .i64 co, .int .i64 va]) := Lib.hid (Blk.setRow (Blk.far_row (Blk.newAt _ _ _ (by simp)) (by omega) _) _)
          have HW3 := Lib.hid (HW1.out.trans (hB13.mono HW1.out.size))
          clear hB3 hB13 hDD3 hb2 hFs hF1 hTF
          go_wp2_with (first
            | (with_reducible refine fStore 83 w2.heap.size F 83 #[.int .i64 0, .slice none 0 0, .int .i64 0, .int .i64 0, .int .i64 0, .int .i64 0, .int .i64 0, .int .i64 0, .int .i64 0, .int .i64 0, .int .i64 0, .int .i64 0, .int .i64 0, .int .i64 0, .int .i64 0, .int .i64 0, .int .i64 0, .int .i64 0, .int .i64 0] (by kernel_rfl) (by kernel_rfl) ((Blk.new _ _ _).alloc _) HIF.out (by rw [HFS.out]; kernel_rfl) HF1.out ?_)
            | (with_reducible refine fStore 88 (w2.heap.size + 1) #[.int .i64 co, .int .i64 va] 88 #[.int .i64 0, .int .i64 0] (by kernel_rfl) (by kernel_rfl) (Blk.far_row (Blk.newAt _ _ _ (by simp)) (by omega) _) (by kernel_rfl) (by kernel_rfl) (two_one _ _) ?_)
            | ((with_reducible refine fLoad 88 (w2.heap.size + 1) 88 #[.int .i64 co, .int .i64 va] ?_ HA3.out Tryd.underlying88 (by kernel_rfl) (by kernel_rfl) ?_); (rfl))
            | (with_reducible refine fStore 72 w.heap.size #[.int .i64 13, .int .i64 (i : Int)] 72 #[.int .i64 0, .int .i64 0] (by kernel_rfl) (by kernel_rfl) HR3.out (by kernel_rfl) (by kernel_rfl) (two_one _ _) ?_))
          (try simp only [Exit.inBlock, Exit.then])
          rw [← HQ.out, if_neg HKN.out, if_neg HKN.out]
          with_reducible refine bodyPost_ret (results_tmp_row Tryd.results37 _ _ w.heap.size 72 #[.int .i64 13, .int .i64 (i : Int)] _ (.slice none 0 0) (by kernel_rfl) (by kernel_rfl) (Blk.setRow HR3.out _) Tryd.underlying72 (by kernel_rfl) (by kernel_rfl)) (by kernel_rfl) ?_
          exact ⟨below_setRow HW3.out (Nat.le_refl _) _, _, rfl, fun h => absurd h HKN.out, fun _ => rfl⟩

    · have hiK : i = n := by omega
      have hKn : K = n := by have := HK.out.1; omega
      obtain ⟨hz, hw⟩ := runs_ok HKI.out HG.out i (fun j hj => HK.out.2.1 j (by omega))
      have hw9 : ∀ j, j < 17 → 0 ≤ g i j ∧ g i j < 18446744073709551616 := hw
      go_wp2_with (with_reducible refine fLoad 83 (w.heap.size + 1) 83 T (by kernel_rfl) HE.out Tryd.underlying83 (by kernel_rfl) HIT.out ?_)
      with_reducible refine (cells_any T (g i) kind _ (fun j hj => (hw9 j hj).1) hz HTO.out.weak).mono ?_
      rintro e w1 ⟨gb, D, rfl, hB1, hU1, hg1, hb1⟩
      have hR1 := HR.out.below hb1 HR.out.lt
      have HB1 := Lib.hid hB1
      have HU1 := Lib.hid hU1
      have HW1 := Lib.hid (hW.trans (hb1.mono hW.size))
      have hgw : w.heap.size < gb := Nat.lt_of_lt_of_le HR.out.lt hg1
      have HR1 := Lib.hid hR1
      clear hB1 hU1 hb1 hR1
      go_wp2_with fail
      with_reducible refine (refGood_any _).mono ?_
      rintro e w2 ⟨rfl, hb2⟩
      have HR2 := Lib.hid (HR1.out.below hb2 HR1.out.lt)
      have HB2 := Lib.hid (HB1.out.below hb2 HB1.out.lt)
      have HW2 := Lib.hid (HW1.out.trans (hb2.mono HW1.out.size))
      clear hb2
      go_wp2_with (with_reducible refine fStore 72 w.heap.size #[.int .i64 0, .int .i64 (-1)] 72 #[.int .i64 0, .int .i64 0] (by kernel_rfl) (by kernel_rfl) HR2.out (by kernel_rfl) (by kernel_rfl) (two_one _ _) ?_)
      (try simp only [Exit.inBlock, Exit.then])
      rw [← HQ.out, if_pos hKn, if_pos hKn]
      with_reducible refine bodyPost_ret (results_tmp_row Tryd.results37 _ _ w.heap.size 72 #[.int .i64 0, .int .i64 (-1)] _ (.slice (some ⟨gb, 0, none⟩) 17 17) (by kernel_rfl) (by kernel_rfl) (Blk.setRow HR2.out _) Tryd.underlying72 (by kernel_rfl) (by kernel_rfl)) (by kernel_rfl) ?_
      exact ⟨below_setRow HW2.out (Nat.le_refl _) _, _, rfl, fun _ => ⟨gb, D, rfl, HB2.out.far_row (by omega) _, by rw [← hiK]; exact HU1.out⟩, fun h => absurd hKn h⟩
end Go.Proofs.YtahobohfknnhhaaDoor
