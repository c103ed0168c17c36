/-
  What the reference's Store does with its wishes: Flush, Fence, Crash, NewStore. For every store.
-/
import Derived.Test.YtmfjmmplcbpokaaDoorStS
namespace Go.Proofs.YtmfjmmplcbpokaaDoor
set_option linter.unusedSimpArgs false
set_option linter.unusedVariables false
set_option linter.unusedSectionVars false
open Go.RowKit Go.Maps
attribute [local go_sem ↓] Go.wp_at_zero Go.wp_at_succ

def Both (h m : Nat) : Nat → Prop := fun b => b = h ∨ b = m
theorem withinB_yes {a lo hi : Int} (h : lo ≤ a ∧ a ≤ hi) : withinB a lo hi = true := by simp [withinB, h.1, h.2]
theorem withinB_no {a lo hi : Int} (h : ¬ (lo ≤ a ∧ a ≤ hi)) : withinB a lo hi = false := by unfold withinB; rw [Bool.eq_false_iff]; simp; omega
set_option maxRecDepth 100000 in
theorem rsFlush_out (h : Nat) (t l : Int) (w : World) (ho : ¬ (0 ≤ t ∧ t < 4 ∧ 0 ≤ l ∧ l < 9)) :
    Calls Tryd.prog 23 #[.pointer (some ⟨h, 0, none⟩), .int .i64 t, .int .i64 l] w fun e w' => e = .returned (.int .i64 2) ∧ w = w' := by
  by_cases h1 : 0 ≤ t ∧ t ≤ 3
  · have a1 : withinB t 0 3 = true := withinB_yes h1
    have a2 : withinB l 0 8 = false := withinB_no (by omega)
    have HW := Lib.hid (fun w => within_any t 0 3 w)
    have HV := Lib.hid (fun w => within_any l 0 8 w)
    rw [a1] at HW
    rw [a2] at HV
    go_enter Tryd.func23, Tryd.ntmps23
    go_wp2_with (go_at_call 30; first | (with_reducible refine (HW.out _).mono ?_; rintro e w1 ⟨rfl, rfl⟩) | (with_reducible refine (HV.out _).mono ?_; rintro e w1 ⟨rfl, rfl⟩))
    go_ret
    exact ⟨rfl, rfl⟩
  · have a1 : withinB t 0 3 = false := withinB_no h1
    have HW := Lib.hid (fun w => within_any t 0 3 w)
    rw [a1] at HW
    go_enter Tryd.func23, Tryd.ntmps23
    go_wp2_with (go_at_call 30; with_reducible refine (HW.out _).mono ?_; rintro e w1 ⟨rfl, rfl⟩)
    go_ret
    exact ⟨rfl, rfl⟩
theorem want_put {f : Nat → Nat → Bool} {gm n t l : Nat} {w' : World} {D : DataW Unit} (h : w'.ownsMap Tryd.prog 109 (plainElem Tryd.prog 4) gm n (D.put (klA t l) (.lit (.bool true)))) (hm : IsMap D) (ht : t < 4) (hl : l < 9)
    (hD : ∀ t l, t < 4 → l < 9 → D.atKey (klA t l) (.lit (.bool false)) = .lit (.bool (f t l))) : WantM (fun t' l' => if t' = t ∧ l' = l then true else f t' l') gm n w' :=
  ⟨_, h, fun t' l' ht' hl' => by
    by_cases e : t' = t ∧ l' = l
    · obtain ⟨rfl, rfl⟩ := e
      rw [atKey_put_same hm (isKeyA _ _)]
      simp
    · rw [atKey_put_other (fun e2 => e (klA_inj ht' hl' ht hl e2)), hD t' l' ht' hl']
      simp only [e, if_false]⟩
theorem want_del {f : Nat → Nat → Bool} {gm n t l : Nat} {w' : World} {D : DataW Unit} (h : w'.ownsMap Tryd.prog 109 (plainElem Tryd.prog 4) gm n (D.del (klA t l))) (ht : t < 4) (hl : l < 9)
    (hD : ∀ t l, t < 4 → l < 9 → D.atKey (klA t l) (.lit (.bool false)) = .lit (.bool (f t l))) : WantM (fun t' l' => if t' = t ∧ l' = l then false else f t' l') gm n w' :=
  ⟨_, h, fun t' l' ht' hl' => by
    by_cases e : t' = t ∧ l' = l
    · obtain ⟨rfl, rfl⟩ := e
      rw [atKey_del_same]
      simp
    · rw [atKey_del_other (fun e2 => e (klA_inj ht' hl' ht hl e2)), hD t' l' ht' hl']
      simp only [e, if_false]⟩
theorem grown_keeps {w w' : World} {b : Nat} (hg : w.grownBy w' (some b)) : Keeps (Only b) w w' :=
  ⟨hg.os, hg.tape, hg.output, hg.size, fun k hk hn => hg.block k hk (fun e => hn (Option.some.inj e))⟩
set_option maxRecDepth 100000 in
set_option maxHeartbeats 1000000 in
theorem rsFlush_in (h m n t l : Nat) (s : Sst) (w : World) (hb : Blk w h 43 (rsA s m)) (hm : WantM s.want m n w) (hne : h ≠ m) (ht : t < 4) (hl : l < 9) (hfl : s.fl ≤ 1000) (hn : n ≤ 1000) :
    Calls Tryd.prog 23 #[.pointer (some ⟨h, 0, none⟩), .int .i64 t, .int .i64 l] w fun e w' => e = .returned (.int .i64 0) ∧ Blk w' h 43 (rsA (s.flush t l) m) ∧ WantM (s.flush t l).want m (n + 1) w' ∧ Keeps (Both h m) w w' := by
  have HW := Lib.hid (fun w => within_any (t : Int) 0 3 w)
  have HV := Lib.hid (fun w => within_any (l : Int) 0 8 w)
  rw [withinB_yes (by omega)] at HW
  rw [withinB_yes (by omega)] at HV
  have c1 : w.cell? ⟨h, 145, none⟩ = some (.int .i64 (s.fl : Int)) := by rw [hb.cell, rsA_fl]
  have f1 : w.frozen? ⟨h, 145, none⟩ = false := hb.frozen _
  have c2 : w.cell? ⟨h, 144, none⟩ = some (.map (some m)) := by rw [hb.cell, rsA_map]
  have HB := Lib.hid hb
  obtain ⟨D, ho, hD⟩ := hm
  have ho1 : (w.setCell ⟨h, 145, none⟩ (.int .i64 ((s.fl : Int) + 1))).ownsMap Tryd.prog 109 (plainElem Tryd.prog 4) m n D := ho.setCell (fun e => hne e.symm) _
  have HO := Lib.hid ho1
  have HMP := Lib.hid ho.isMap
  have HD := Lib.hid hD
  have HMX : Hid (n < maxLen) := Lib.hid (by unfold maxLen; omega)
  have HKY := Lib.hid (keyOfA ht hl)
  clear hb ho ho1 hD
  go_enter Tryd.func23, Tryd.ntmps23
  go_wp2_with (first
    | (go_at_call 30; first | (with_reducible refine (HW.out _).mono ?_; rintro e w1 ⟨rfl, rfl⟩) | (with_reducible refine (HV.out _).mono ?_; rintro e w1 ⟨rfl, rfl⟩))
    | (at_mapUpdate; with_reducible refine fMapUp 41 109 4 keyA Tryd.underlying41 (plainElem Tryd.prog 4) m n D (.agg #[.int .i64 t, .int .i64 l]) (.bool true) (klA t l) (by kernel_rfl) (by kernel_rfl) (by kernel_rfl) HO.out HMX.out HKY.out (.lit (.bool true)) [] (plainElem_bool Tryd.underlying4 true) ?_; intro w4 hown4 hgrow4))
  go_ret
  have hk4 := grown_keeps hgrow4
  refine ⟨rfl, ?_, want_put hown4 HMP.out ht hl HD.out, ?_⟩
  · have h1 := HB.out.set_ 145 (.int .i64 ((s.fl : Int) + 1))
    have e1 := rsA_fl1 s m (s.fl + 1)
    rw [show (((s.fl + 1 : Nat)) : Int) = (s.fl : Int) + 1 by omega] at e1
    rw [e1] at h1
    exact h1.kept hk4 hne
  · exact ((Keeps.refl _ _).setCell (p := ⟨h, 145, none⟩) (.inl (.inl rfl)) _).trans (hk4.mono fun b hb => .inr hb)

section
variable {P : Program} {ops : Array Oper} {rest : List Oper} {a : Act} {w : World} {Q : Exit → Act → World → Prop} {ty' : TypeId} {pos : String} {af : Array Edge}
theorem fDelete {H : Type} {mm x : Operand} {d : Option Tmp} (t : TypeId) (k e : TypeId) (K : Keyed P k) (ht : P.underlying t = some (.map k e)) (R : Value → Option (DataW H × List MemPlace)) (b n : Nat) (D : DataW H)
    (key : Value) (kl : Lit) (hm : a.eval mm = .map (some b)) (hx : a.eval x = key) (hown : w.ownsMap P k R b n D) (hkey : keyOf P k key = some kl)
    (hK : ∀ w', w'.ownsMap P k R b n (D.del kl) → w.mapTurned w' b → wpList P ops Q rest (a.put d (.tuple #[])) w') :
    wpList P ops Q ({ dst := d, op := .call { callee := .builtin .delete, args := #[mm, x], argTypes := #[t, k] }, type := ty', pos := pos, after := af, guard := none } :: rest) a w :=
  wpList_delete_own w rfl mm x t k rfl e K ht R b n D hm hown key kl hx hkey hK
end
theorem rsFence_out (h : Nat) (t : Int) (w : World) (ho : ¬ (0 ≤ t ∧ t < 4)) :
    Calls Tryd.prog 25 #[.pointer (some ⟨h, 0, none⟩), .int .i64 t] w fun e w' => e = .returned (.int .i64 2) ∧ w = w' := by
  have a1 : withinB t 0 3 = false := withinB_no (by omega)
  have HW := Lib.hid (fun w => within_any t 0 3 w)
  rw [a1] at HW
  go_enter Tryd.func25, Tryd.ntmps25
  go_wp2_with (go_at_call 30; with_reducible refine (HW.out _).mono ?_; rintro e w1 ⟨rfl, rfl⟩)
  go_ret
  exact ⟨rfl, rfl⟩
def quietK (f : Nat → Nat → Bool) (t k : Nat) (t' l' : Nat) : Bool := if t' = t ∧ l' < k then false else f t' l'
theorem quietK_yes (f : Nat → Nat → Bool) (t k : Nat) : (fun t' l' => if t' = t ∧ l' = k then false else quietK f t k t' l') = quietK f t (k + 1) := by
  funext t' l'
  unfold quietK
  by_cases e : t' = t
  · by_cases e2 : l' = k
    · simp [e, e2]
    · by_cases e3 : l' < k
      · have : l' < k + 1 := by omega
        simp [e, e2, e3, this]
      · have : ¬ l' < k + 1 := by omega
        simp [e, e2, e3, this]
  · simp [e]
theorem quietK_no (f : Nat → Nat → Bool) (t k : Nat) (h : f t k = false) : quietK f t k = quietK f t (k + 1) := by
  funext t' l'
  unfold quietK
  by_cases e : t' = t
  · by_cases e2 : l' = k
    · subst e2; subst e; simp [h]
    · by_cases e3 : l' < k
      · have : l' < k + 1 := by omega
        simp [e, e3, this]
      · have : ¬ l' < k + 1 := by omega
        simp [e, e3, this]
  · simp [e]
set_option maxRecDepth 100000 in
set_option maxHeartbeats 1000000 in
theorem rsFence_in (h m n t : Nat) (s : Sst) (w : World) (hb : Blk w h 43 (rsA s m)) (hm : WantM s.want m n w) (hne : h ≠ m) (ht : t < 4) (hfe : s.fe ≤ 1000) :
    Calls Tryd.prog 25 #[.pointer (some ⟨h, 0, none⟩), .int .i64 t] w fun e w' => e = .returned (.int .i64 0) ∧ Blk w' h 43 (rsA (s.fence t) m) ∧ WantM (s.fence t).want m n w' ∧ Keeps (Both h m) w w' := by
  have HW := Lib.hid (fun w => within_any (t : Int) 0 3 w)
  rw [withinB_yes (by omega)] at HW
  have c1 : w.cell? ⟨h, 146, none⟩ = some (.int .i64 (s.fe : Int)) := by rw [hb.cell, rsA_fe]
  have f1 : w.frozen? ⟨h, 146, none⟩ = false := hb.frozen _
  have HB1 : Hid (Blk (w.setCell ⟨h, 146, none⟩ (.int .i64 ((s.fe : Int) + 1))) h 43 (rsA { s with fe := s.fe + 1 } m)) := Lib.hid (by
    have h1 := hb.set_ 146 (.int .i64 ((s.fe : Int) + 1))
    have e1 := rsA_fe1 s m (s.fe + 1)
    rw [show (((s.fe + 1 : Nat)) : Int) = (s.fe : Int) + 1 by omega] at e1
    rwa [e1] at h1)
  have HK1 : Hid (Keeps (Both h m) w (w.setCell ⟨h, 146, none⟩ (.int .i64 ((s.fe : Int) + 1)))) := Lib.hid ((Keeps.refl _ _).setCell (p := ⟨h, 146, none⟩) (.inl (.inl rfl)) _)
  have HM1 : Hid (WantM s.want m n (w.setCell ⟨h, 146, none⟩ (.int .i64 ((s.fe : Int) + 1)))) := Lib.hid (hm.kept (only_set (Keeps.refl (Only h) w) _) (fun e => hne e.symm))
  clear hb hm
  go_enter Tryd.func25, Tryd.ntmps25
  go_wp2_with (go_at_call 30; with_reducible refine (HW.out _).mono ?_; rintro e w1 ⟨rfl, rfl⟩)
  generalize w.setCell ⟨h, 146, none⟩ (.int .i64 ((s.fe : Int) + 1)) = W1 at *
  have HFE : Hid ((({ s with fe := s.fe + 1 } : Sst).lands t 9).quiet t = s.fence t) := Lib.hid rfl
  have HWN : Hid (s.want = ({ s with fe := s.fe + 1 } : Sst).want) := Lib.hid rfl
  rw [HWN.out] at HM1
  clear c1 f1 HWN
  generalize ({ s with fe := s.fe + 1 } : Sst) = S at *
  go_loopw [16] (fun i wr => ∃ k : Nat, k ≤ 9 ∧ i = .int .i64 k ∧ Hid (Blk wr h 43 (rsA (S.lands t k) m)) ∧ Hid (WantM (quietK S.want t k) m n wr) ∧ Hid (Keeps (Both h m) w wr)) (fun i _ => 9 - (intOf i).toNat)
  case atStart => exact ⟨0, by omega, rfl, Lib.hid (by rw [Sst.lands0]; exact HB1.out), Lib.hid (HM1.out.congr (fun t' l' _ _ => by simp [quietK])), HK1⟩
  case round =>
    obtain ⟨k, hk, rfl, HR, HM, HK⟩ := hrel
    by_cases hk9 : k < 9
    · have b1 : (k : Int) < 9 := by omega
      have hlk := HM.out.look ht hk9
      have hq : quietK S.want t k t k = S.want t k := by simp [quietK]
      rw [hq] at hlk
      have cm : wr.cell? ⟨h, 144, none⟩ = some (.map (some m)) := by rw [HR.out.cell, rsA_map]
      by_cases hw : S.want t k = true
      · have HY := Lib.hid (S.lands_yes hw)
        have HQ := Lib.hid (quietK_yes S.want t k)
        rw [hw] at hlk
        clear hw hq
        generalize hS : S.lands t k = S1 at *
        clear hS
        go_wp2_with fail
        with_reducible refine (rsLands h m k S1 _ HR.out hk9).mono ?_
        rintro e w2 ⟨rfl, hb2, hk2⟩
        have cm2 : w2.cell? ⟨h, 144, none⟩ = some (.map (some m)) := (hb2.cell 144).trans (rsA_map _ _)
        obtain ⟨D, ho, hD⟩ := HM.out.kept hk2 (fun e => hne e.symm)
        have HO := Lib.hid ho
        have HD := Lib.hid hD
        have HB2 := Lib.hid hb2
        have HK2 : Hid (Keeps (Both h m) w w2) := Lib.hid (HK.out.trans (hk2.mono fun b hb => .inl hb))
        have HKY := Lib.hid (keyOfA ht hk9)
        clear ho hD hb2 hk2 cm hlk HR HM HK
        go_wp2_with (at_delete; with_reducible refine fDelete 41 109 4 keyA Tryd.underlying41 (plainElem Tryd.prog 4) m n D (.agg #[.int .i64 t, .int .i64 k]) (klA t k) (by kernel_rfl) (by kernel_rfl) HO.out HKY.out ?_; intro w4 hown4 hturn4)
        have hk4 := mapTurned_keeps hturn4
        have HB4 := Lib.hid (HB2.out.kept hk4 hne)
        have HW4 := Lib.hid (want_del hown4 ht hk9 HD.out)
        have HK4 : Hid (Keeps (Both h m) w w4) := Lib.hid (HK2.out.trans (hk4.mono fun b hb => .inr hb))
        clear hown4 hturn4 hk4
        go_roundw
        case rel => exact ⟨k + 1, by omega, by go_num, Lib.hid (by rw [← HY.out]; exact HB4.out), Lib.hid (by rw [← HQ.out]; exact HW4.out), HK4⟩
        case measure => simp [intOf]; omega
      · have hw0 : S.want t k = false := by simpa using hw
        have HY := Lib.hid (S.lands_no hw0)
        have HQ := Lib.hid (quietK_no S.want t k hw0)
        rw [hw0] at hlk
        clear hw hw0 hq
        go_wp2
        go_roundw
        case rel => exact ⟨k + 1, by omega, by go_num, Lib.hid (by rw [← HY.out]; exact HR.out), Lib.hid (by rw [← HQ.out]; exact HM.out), HK⟩
        case measure => simp [intOf]; omega
    · obtain rfl : k = 9 := by omega
      go_wp2
      go_ret
      refine ⟨rfl, ?_, ?_, HK.out⟩
      · rw [← HFE.out]; exact HR.out
      · rw [← HFE.out]
        exact HM.out.congr (fun t' l' _ hl' => by
          show (if t' = t then false else S.want t' l') = quietK S.want t 9 t' l'
          simp [quietK, hl'])

theorem infoWords (f : Nat → Int) : (Tryd.prog.info? 40).map (·.size) = some (wordsA f).size := by rw [wordsA, rowF_size]; kernel_rfl
theorem range_for {w : World} {h m : Nat} {s : Sst} (hb : Blk w h 43 (rsA s m)) : w.rangeAt h 72 (wordsA s.good).toList := by
  rw [← rsA_for s m]
  exact World.rangeAt_of_block (t := 43) (fr := (0, 0)) hb 72 72
theorem zeroRs (m : Nat) : (Tryd.zeroCells43).setIfInBounds 144 (.map (some m)) = rsA Sst.new m := by kernel_rfl
set_option maxRecDepth 100000 in
theorem rsNew (w : World) : Calls Tryd.prog 21 #[] w fun e w' => ∃ h m, e = .returned (.pointer (some ⟨h, 0, none⟩)) ∧ w.heap.size ≤ h ∧ w.heap.size ≤ m ∧ h ≠ m ∧ Blk w' h 43 (rsA Sst.new m) ∧ WantM Sst.new.want m 0 w' ∧ Below w.heap.size w w' := by
  have hmm := @run_makeMap Tryd.prog
  have HZ := Lib.hid zeroRs
  go_enter Tryd.func21, Tryd.ntmps21
  go_wp2
  go_ret
  refine ⟨w.heap.size + 1, w.heap.size, rfl, by omega, by omega, by omega, ?_, ?_, by go_grown⟩
  · rw [HZ.out]
    exact Blk.newAt _ _ _ (by simp)
  · exact (WantM.start w).kept (S := Only (w.heap.size + 1)) ((Keeps.refl _ _).alloc _) (fun e => by unfold Only at e; omega)
set_option maxRecDepth 100000 in
set_option maxHeartbeats 1000000 in
theorem rsCrash (h m x : Nat) (s : Sst) (w : World) (hb : Blk w h 43 (rsA s m)) (hx : x < 18446744073709551616) :
    Calls Tryd.prog 28 #[.pointer (some ⟨h, 0, none⟩), .int .u64 x] w fun e w' => e = .returned (.tuple #[]) ∧ ∃ m', w.heap.size ≤ m' ∧ Blk w' h 43 (rsA (s.crash x) m') ∧ WantM (s.crash x).want m' 0 w' ∧ Keeps (Only h) w w' := by
  have HB := Lib.hid hb
  clear hb
  go_enter Tryd.func28, Tryd.ntmps28
  go_wp2
  go_loopw [5] (fun i wr => ∃ k : Nat, k ≤ 9 ∧ i = .int .i64 k ∧ Hid (Blk wr h 43 (rsA (s.fallR x k) m)) ∧ Hid (Keeps (Only h) w wr)) (fun i _ => 9 - (intOf i).toNat)
  case atStart => exact ⟨0, by omega, rfl, Lib.hid (by rw [Sst.fallR0]; exact HB.out), Lib.hid (Keeps.refl _ _)⟩
  case round =>
    obtain ⟨k, hk, rfl, HR, HK⟩ := hrel
    by_cases hk9 : k < 9
    · have b1 : (k : Int) < 9 := by omega
      have hbb := bitB_in x k (by omega)
      by_cases hw : x / 2 ^ k % 2 = 1
      · have HY := Lib.hid (s.fallR_yes hw)
        rw [decide_eq_true hw] at hbb
        clear hw
        generalize hS : s.fallR x k = S1 at *
        clear hS
        go_wp2_with fail
        with_reducible refine (refBit_any x k _ hx).mono ?_
        rintro e w2 ⟨rfl, hb2⟩
        have HR2 := Lib.hid (HR.out.below hb2 HR.out.lt)
        have HK2 : Hid (Keeps (Only h) w w2) := Lib.hid (HK.out.trans (Keeps.of_same hb2))
        clear hb2
        go_wp2_with fail
        with_reducible refine (rsLands h m k S1 _ HR2.out hk9).mono ?_
        rintro e w3 ⟨rfl, hb3, hk3⟩
        go_wp2
        go_roundw
        case rel => exact ⟨k + 1, by omega, by go_num, Lib.hid (by rw [← HY.out]; exact hb3), Lib.hid (HK2.out.trans hk3)⟩
        case measure => simp [intOf]; omega
      · have HY := Lib.hid (s.fallR_no hw)
        rw [decide_eq_false hw] at hbb
        clear hw
        go_wp2_with fail
        with_reducible refine (refBit_any x k _ hx).mono ?_
        rintro e w2 ⟨rfl, hb2⟩
        have HR2 := Lib.hid (HR.out.below hb2 HR.out.lt)
        have HK2 : Hid (Keeps (Only h) w w2) := Lib.hid (HK.out.trans (Keeps.of_same hb2))
        clear hb2
        go_wp2
        go_roundw
        case rel => exact ⟨k + 1, by omega, by go_num, Lib.hid (by rw [← HY.out]; exact HR2.out), HK2⟩
        case measure => simp [intOf]; omega
    · obtain rfl : k = 9 := by omega
      have hmm := @run_makeMap Tryd.prog
      have HE := Lib.hid (fun m' => rsA_fallen s x m')
      have HC : Hid (Blk (wr.setCells h 0 (wordsA (s.fallR x 9).good).toList) h 43 (rsA (s.crash x) m)) := Lib.hid (by
        rw [← HE.out, ← rsA_nowAll]
        exact HR.out.setCells)
      have HKC := Lib.hid (only_sets HK.out 0 (wordsA (s.fallR x 9).good).toList)
      generalize s.fallR x 9 = S1 at *
      have c1 : ((wr.setCells h 0 (wordsA S1.good).toList).alloc (.map #[] 0)).cell? ⟨h, 144, none⟩ = some (.map (some m)) := by rw [(HC.out.alloc _).cell, rsA_map]
      have f1 : ((wr.setCells h 0 (wordsA S1.good).toList).alloc (.map #[] 0)).frozen? ⟨h, 144, none⟩ = false := (HC.out.alloc _).frozen _
      go_wp2_with (first
        | (with_reducible refine fLoadMid 40 h 72 (wordsA S1.good) (by kernel_rfl) (range_for HR.out) Tryd.underlying40 (by kernel_rfl) (infoWords _) ?_)
        | (with_reducible refine fStoreMid 40 h 0 (wordsA S1.good) (by kernel_rfl) (by kernel_rfl) (HR.out.there (by rw [rsA_size, wordsA, rowF_size]; omega)) (infoWords _) (wordsA_one _) ?_; generalize wr.setCells h 0 (wordsA S1.good).toList = w5 at *))
      have hz : w.heap.size ≤ w5.heap.size := HKC.out.size
      have hhl : h < w5.heap.size := HC.out.lt
      have h1 := (HC.out.alloc (.map #[] 0)).set_ 144 (.map (some w5.heap.size))
      rw [rsA_mapTo] at h1
      refine bodyPost_end (v := .tuple #[]) (by simp [results, Tryd.results28, go_sem]) rfl ⟨rfl, w5.heap.size, hz, h1, ?_, only_set (HKC.out.alloc _) _⟩
      exact (WantM.start w5).kept (only_set (Keeps.refl (Only h) _) _) (fun e => by unfold Only at e; omega)
end Go.Proofs.YtmfjmmplcbpokaaDoor
