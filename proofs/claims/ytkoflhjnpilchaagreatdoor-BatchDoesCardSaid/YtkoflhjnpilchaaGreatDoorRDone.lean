/-
  What gristmillref.Rec's Done returns: for a record that is one, a thread that there is, an operation that is right.
-/
import Derived.Test.YtkoflhjnpilchaaGreatDoorRecM
import Derived.Test.YtkoflhjnpilchaaGreatDoorLawK
import Derived.Test.YtkoflhjnpilchaaGreatDoorThingU
namespace Go.Proofs.YtkoflhjnpilchaaGreatDoor
set_option linter.unusedSimpArgs false
set_option linter.unusedVariables false
set_option linter.unusedSectionVars false
open Go.RowKit
set_option linter.unusedSimpArgs false
set_option linter.unusedVariables false
attribute [local go_sem ↓] Go.wp_at_zero Go.wp_at_succ

/-- f with t turned to x. -/
def upd (f : Nat → Int) (t : Nat) (x : Int) (i : Nat) : Int := if i = t then x else f i
/-- A record's cells behind Done's stores. -/
theorem rcr_done {R F : Array Value} {ac av wh tg : Nat → Int} {ver cnt : Int} {t : Nat} (h : RcR R (R.extract 0 19) ac av wh tg ver cnt) (hF : F.size = 19) (ht : t < 4) (co va n g : Int) (R' : Array Value)
    (hsz : R'.size = 37) (h0 : ∀ i, i < 19 → R'[i]? = F[i]?) (h1 : R'[19 + 2 * t]? = some (.int .i64 co)) (h2 : R'[20 + 2 * t]? = some (.int .i64 va)) (h3 : R'[27 + t]? = some (.int .u64 n)) (h4 : R'[31 + t]? = some (.int .i64 g)) (h5 : R'[36]? = some (.int .u64 n))
    (hr : ∀ i, 19 ≤ i → i ≠ 19 + 2 * t → i ≠ 20 + 2 * t → i ≠ 27 + t → i ≠ 31 + t → i ≠ 36 → R'[i]? = R[i]?) :
    R'.extract 0 19 = F ∧ RcR R' (R'.extract 0 19) (upd ac t co) (upd av t va) (upd wh t n) (upd tg t g) ver n := by
  have hx : R'.extract 0 19 = F := by
    apply Array.ext_getElem?
    intro i
    by_cases hi : i < 19
    · rw [Array.getElem?_extract, if_pos (by omega), Nat.zero_add]
      exact h0 i hi
    · rw [Array.getElem?_eq_none (by simp; omega), Array.getElem?_eq_none (by omega)]
  refine ⟨hx, hsz, rfl, fun i hi => ?_, fun i hi => ?_, fun i hi => ?_, fun i hi => ?_, ?_, h5⟩
  · unfold upd
    by_cases e : i = t
    · subst e; rw [if_pos rfl]; exact h1
    · rw [if_neg e, hr _ (by omega) (by omega) (by omega) (by omega) (by omega) (by omega)]; exact h.ac_ i hi
  · unfold upd
    by_cases e : i = t
    · subst e; rw [if_pos rfl]; exact h2
    · rw [if_neg e, hr _ (by omega) (by omega) (by omega) (by omega) (by omega) (by omega)]; exact h.av_ i hi
  · unfold upd
    by_cases e : i = t
    · subst e; rw [if_pos rfl]; exact h3
    · rw [if_neg e, hr _ (by omega) (by omega) (by omega) (by omega) (by omega) (by omega)]; exact h.wh_ i hi
  · unfold upd
    by_cases e : i = t
    · subst e; rw [if_pos rfl]; exact h4
    · rw [if_neg e, hr _ (by omega) (by omega) (by omega) (by omega) (by omega) (by omega)]; exact h.tg_ i hi
  · rw [hr _ (by omega) (by omega) (by omega) (by omega) (by omega) (by omega)]; exact h.ver_
def RDoneOut (y : Nat → Int) (kind : Int) (ac av wh tg : Nat → Int) (ver cnt : Int) (t : Nat) (co va : Int) (w : World) (e : Ending) (w' : World) : Prop :=
  Below w.heap.size w w' ∧ ∃ R', R'.size = 37 ∧ R'.all (·.oneCell') = true ∧ e = .returned (.agg R') ∧ RcR R' (R'.extract 0 19) (upd ac t co) (upd av t va) (upd wh t (cnt + 1)) (upd tg t (1 - tg t)) ver (cnt + 1) ∧ ThOk kind y (R'.extract 0 19) w'

def RDoneOutP (P : Nat → Prop) (y : Nat → Int) (kind : Int) (ac av wh tg : Nat → Int) (ver cnt : Int) (t : Nat) (co va : Int) (w : World) (e : Ending) (w' : World) : Prop :=
  Below w.heap.size w w' ∧ ∃ R', R'.size = 37 ∧ R'.all (·.oneCell') = true ∧ e = .returned (.agg R') ∧ RcR R' (R'.extract 0 19) (upd ac t co) (upd av t va) (upd wh t (cnt + 1)) (upd tg t (1 - tg t)) ver (cnt + 1) ∧ ThOkP P kind y (R'.extract 0 19) w'
theorem ThOkP.insideP {P : Nat → Prop} {kind : Int} {z : Nat → Int} {C : Array Value} {w : World} (h : ThOkP P kind z C w) : ThOkP (fun b => P b ∧ b < w.heap.size) kind z C w := by
  unfold ThOkP at h ⊢
  split
  · rename_i e; rwa [if_pos e] at h
  · rename_i e
    rw [if_neg e] at h
    split
    · rename_i e6; rwa [if_pos e6] at h
    · rename_i e6
      rw [if_neg e6] at h
      obtain ⟨A, c, h1, h2, h3⟩ := h
      refine ⟨A, c, h1, h2, fun hn b hb => ⟨h3 hn b hb, ?_⟩⟩
      obtain ⟨b', off, hA, hlt, _⟩ := h2.at_ hn
      rw [hb] at hA
      cases hA
      exact hlt

/-- The record's cells behind Done. -/
def rdA (R F : Array Value) (t : Nat) (p q n g : Value) : Array Value := (((setsA (setsA R 0 F.toList) (19 + t * 2) [p, q]).setIfInBounds 36 n).setIfInBounds (27 + t) n).setIfInBounds (31 + t) g
theorem rdA_size (R F : Array Value) (t : Nat) (p q n g : Value) : (rdA R F t p q n g).size = R.size := by
  unfold rdA
  simp only [Array.size_setIfInBounds, setsA_size]
theorem rdA_get {R F : Array Value} (hR : R.size = 37) (hF : F.size = 19) (t : Nat) (ht : t < 4) (p q n g : Value) (i : Nat) (hi : i < 37) :
    (rdA R F t p q n g)[i]? = if i = 31 + t then some g else if i = 27 + t then some n else if i = 36 then some n else if i = 19 + t * 2 then some p else if i = 20 + t * 2 then some q else if i < 19 then F[i]? else R[i]? := by
  unfold rdA
  rw [Array.getElem?_setIfInBounds, Array.getElem?_setIfInBounds, Array.getElem?_setIfInBounds]
  simp only [Array.size_setIfInBounds, setsA_size, hR]
  by_cases e1 : i = 31 + t
  · subst e1; rw [if_pos rfl, if_pos (by omega), if_pos rfl]
  rw [if_neg (fun e => e1 e.symm), if_neg e1]
  by_cases e2 : i = 27 + t
  · subst e2; rw [if_pos rfl, if_pos (by omega), if_pos rfl]
  rw [if_neg (fun e => e2 e.symm), if_neg e2]
  by_cases e3 : i = 36
  · subst e3; rw [if_pos rfl, if_pos (by omega), if_pos rfl]
  rw [if_neg (fun e => e3 e.symm), if_neg e3]
  rw [setsA_get _ _ _ _ (by rw [setsA_size, hR]; exact hi), setsA_get _ _ _ _ (by rw [hR]; exact hi)]
  simp only [List.length_cons, List.length_nil, Array.length_toList, hF]
  by_cases e4 : i = 19 + t * 2
  · subst e4; rw [if_pos (by omega), if_pos rfl]; simp
  rw [if_neg e4]
  by_cases e5 : i = 20 + t * 2
  · subst e5; rw [if_pos (by omega), if_pos rfl, show 20 + t * 2 - (19 + t * 2) = 1 by omega]; rfl
  rw [if_neg e5, if_neg (by omega)]
  by_cases e6 : i < 19
  · rw [if_pos (by omega), if_pos e6]; simp
  · rw [if_neg (by omega), if_neg e6]
theorem rdA_one {R F : Array Value} {t : Nat} {p q n g : Value} (hR : R.all (·.oneCell') = true) (hF : F.all (·.oneCell') = true) (hp : p.oneCell' = true) (hq : q.oneCell' = true) (hn : n.oneCell' = true) (hg : g.oneCell' = true) : (rdA R F t p q n g).all (·.oneCell') = true := by
  have one : ∀ (C : Array Value) (i : Nat) (v : Value), C.all (·.oneCell') = true → v.oneCell' = true → (C.setIfInBounds i v).all (·.oneCell') = true := fun C i v hC hv => by
    rw [Array.all_eq_true] at hC ⊢
    intro j hj
    rw [Array.getElem_setIfInBounds]
    split
    · exact hv
    · exact hC j (by simpa using hj)
  unfold rdA
  refine one _ _ _ (one _ _ _ (one _ _ _ (setsA_one (setsA_one hR ?_) ?_) hn) hn) hg
  · intro v hv
    obtain ⟨i, hi, rfl⟩ := List.mem_iff_getElem.1 hv
    rw [Array.all_eq_true] at hF
    simpa using hF i (by simpa using hi)
  · intro v hv
    simp at hv
    rcases hv with rfl | rfl
    · exact hp
    · exact hq

theorem stop_at {p : Prop} (h : Hid p) : p := h.out
theorem wpList_gen {P : Program} {ops : Array Oper} {Q : Exit → Act → World → Prop} {rest : List Oper} {a : Act} {w : World} (Φ : World → Prop) (hΦ : Φ w) (h : ∀ w', Φ w' → wpList P ops Q rest a w') : wpList P ops Q rest a w := h w hΦ

set_option maxRecDepth 100000 in
set_option maxHeartbeats 4000000 in
theorem refDone_anyP (P : Nat → Prop) (R : Array Value) (zo : Nat → Int) (kind a k v : Int) (m : Nat) (ac av wh tg : Nat → Int) (ver cnt : Int) (t : Nat) (w : World) (hR : RcR R (R.extract 0 19) ac av wh tg ver cnt) (h1 : R.all (·.oneCell') = true) (hT : ThOkP P kind zo (R.extract 0 19) w) (hP : ∀ b, w.heap.size ≤ b → P b)
    (hw : Wds zo) (hz : thingOk kind zo) (ho : opOk a k v) (hm : kind = 5 → tabM zo a k m) (ht : t < 4) (hc : 0 ≤ cnt ∧ cnt ≤ 1099511627776) (hg : tg t = 0 ∨ tg t = 1) :
    Calls Tryz.prog 14 #[.agg R, .int .i64 t, .agg #[.int .i64 a, .int .i64 k, .int .i64 v]] w (RDoneOutP P (doZ kind zo a k v m) kind ac av wh tg ver cnt t (doC kind zo a k v) (doV kind zo a k v) w) := by
  have HTD : Hid (∀ (D : Array Value) (W : World), W.heap.size = w.heap.size + 3 → ThOkP (fun b => P b ∧ (b < w.heap.size ∨ w.heap.size + 3 ≤ b)) kind zo D W → Calls Tryz.prog 27 #[.agg D, .agg #[.int .i64 a, .int .i64 k, .int .i64 v]] W (DoOut (ThOkP (fun b => P b ∧ (b < w.heap.size ∨ w.heap.size + 3 ≤ b)) kind (doZ kind zo a k v m)) (doC kind zo a k v) (doV kind zo a k v) W)) := Lib.hid fun D W hs hT =>
    thingDo_anyP _ D zo kind a k v m W (fun b hb => And.intro (hP b (by omega)) (.inr (by omega))) hw hz ho hm hT
  obtain ⟨E, hE⟩ : ∃ E, E = R.extract 0 19 := ⟨_, rfl⟩
  rw [← hE] at hR hT
  have HES : Hid (E.size = 19) := Lib.hid hT.weak.size
  have HE := Lib.hid hE
  have HR := Lib.hid hR
  have HR1 := Lib.hid h1
  have HT := Lib.hid ((hT.insideP.mono (P' := fun b => P b ∧ (b < w.heap.size ∨ w.heap.size + 3 ≤ b)) (fun b hb => And.intro hb.1 (.inl hb.2))))
  have hq : (t : Int) < 4 := by omega
  generalize doZ kind zo a k v m = y at *
  generalize doC kind zo a k v = co at *
  generalize doV kind zo a k v = va at *
  clear hR h1 hT hw hz ho hm hE hP
  go_enter Tryz.func14, Tryz.ntmps14
  generalize hQ : bodyPost Tryz.prog Tryz.f14 (RDoneOutP P y kind ac av wh tg ver cnt t co va w) = Q
  have HQ := Lib.hid hQ
  clear hQ
  have HB0 : Hid (Blk (((w.alloc (.cells R 56)).alloc (.cells #[.int .i64 a, .int .i64 k, .int .i64 v] 61)).alloc (.cells #[.int .i64 0, .slice none 0 0, .int .i64 0, .int .i64 0, .int .i64 0, .int .i64 0, .int .i64 0, .int .i64 0, .int .i64 0, .int .i64 0, .int .i64 0, .int .i64 0, .int .i64 0, .int .i64 0, .int .i64 0, .int .i64 0, .int .i64 0, .int .i64 0, .int .i64 0, .int .i64 0, .int .i64 0, .int .i64 0, .int .i64 0, .int .i64 0, .int .i64 0, .int .i64 0, .int .i64 0, .int .u64 0, .int .u64 0, .int .u64 0, .int .u64 0, .int .i64 0, .int .i64 0, .int .i64 0, .int .i64 0, .int .u64 0, .int .u64 0] 56)) w.heap.size 56 R) := Lib.hid (((Blk.new _ _ _).alloc _).alloc _)
  go_wp2_with (refine wpList_load_mid rfl 49 _ rfl w.heap.size 0 rfl E.toList _ ?hc Tryz.underlying49 rfl ?hi ?_)
  case hc =>
    rw [HE.out]
    exact World.rangeAt_of_block (t := 56) (fr := (0, 0)) HB0.out 0 19
  case hi => simpa using (show (Tryz.prog.info? 49).map (·.size) = some E.size by rw [infoTh, HES.out])
  go_wp2_with fail
  with_reducible refine (HTD.out E _ (by simp) (HT.out.keeps (Keeps.of_same (S := nowhere) (by go_grown)) (fun _ _ h => h))).mono ?_
  rintro e w1 ⟨hb1, F, hFs, hF1, rfl, hTF⟩
  have HB1 := Lib.hid (HB0.out.below hb1 HB0.out.lt)
  have HFS := Lib.hid hFs
  have HF1 := Lib.hid hF1
  have HTF := Lib.hid hTF
  have HW1 : Hid (Below w.heap.size w w1) := Lib.hid (Below.trans (by go_grown) (hb1.mono (by simp; omega)))
  have HRS1 : Hid (Blk w1 (w.heap.size + 1 + 1) 56 #[.int .i64 0, .slice none 0 0, .int .i64 0, .int .i64 0, .int .i64 0, .int .i64 0, .int .i64 0, .int .i64 0, .int .i64 0, .int .i64 0, .int .i64 0, .int .i64 0, .int .i64 0, .int .i64 0, .int .i64 0, .int .i64 0, .int .i64 0, .int .i64 0, .int .i64 0, .int .i64 0, .int .i64 0, .int .i64 0, .int .i64 0, .int .i64 0, .int .i64 0, .int .i64 0, .int .i64 0, .int .u64 0, .int .u64 0, .int .u64 0, .int .u64 0, .int .i64 0, .int .i64 0, .int .i64 0, .int .i64 0, .int .u64 0, .int .u64 0]) := Lib.hid ((Blk.newAt _ _ _ (by simp)).below hb1 (by simp))
  clear hb1 hFs hF1 hTF
  have HC36 : Hid ((setsA (setsA R 0 F.toList) (19 + t * 2) [.int .i64 co, .int .i64 va])[36]? = some (.int .u64 cnt)) := Lib.hid (by
    rw [setsA_out (by right; simp only [List.length_cons, List.length_nil]; omega), setsA_out (by right; rw [Array.length_toList, HFS.out]; omega)]; exact HR.out.cnt_)
  have HCTg : Hid ((setsA (setsA R 0 F.toList) (19 + t * 2) [.int .i64 co, .int .i64 va])[31 + t]? = some (.int .i64 (tg t))) := Lib.hid (by
    rw [setsA_out (by right; simp only [List.length_cons, List.length_nil]; omega), setsA_out (by right; rw [Array.length_toList, HFS.out]; omega)]; exact HR.out.tg_ t ht)
  have HCWh : Hid ((setsA (setsA R 0 F.toList) (19 + t * 2) [.int .i64 co, .int .i64 va])[27 + t]? = some (.int .u64 (wh t))) := Lib.hid (by
    rw [setsA_out (by right; simp only [List.length_cons, List.length_nil]; omega), setsA_out (by right; rw [Array.length_toList, HFS.out]; omega)]; exact HR.out.wh_ t ht)
  have n1 : ¬ (27 + t = 36) := by omega
  have n2 : ¬ (36 = 27 + t) := by omega
  have n3 : ¬ (31 + t = 36) := by omega
  have n4 : ¬ (36 = 31 + t) := by omega
  have n5 : ¬ (27 + t = 31 + t) := by omega
  have n6 : ¬ (31 + t = 27 + t) := by omega
  have u1 : (cnt + 1) % 18446744073709551616 = cnt + 1 := by omega
  have u2 : IntKind.u64.wrap (cnt + 1) = cnt + 1 := IntWalk.u64_in _ (by omega)
  have HR2 : Hid (R.size = 37) := Lib.hid HR.out.size
  go_wp2_with (first
    | ((with_reducible refine fStoreMid 49 w.heap.size 0 F (by kernel_rfl) (by kernel_rfl) ?_ ?_ HF1.out ?_); (exact HB1.out.there (by rw [HFS.out, HR2.out]; decide)); (rw [infoTh, HFS.out]))
    | ((with_reducible refine fStoreMid 51 w.heap.size (19 + t * 2) #[.int .i64 co, .int .i64 va] (by kernel_rfl) (by kernel_rfl) ?_ ?_ (two_one _ _) ?_); (exact (Blk.setCells HB1.out).there (by rw [setsA_size, HR2.out]; show 19 + t * 2 + 2 ≤ 37; omega)); (exact infoAn); (with_reducible refine stop_at ?_)))
  refine Lib.hid ?_
  with_reducible refine wpList_gen (fun W' => Blk W' w.heap.size 56 (setsA (setsA R 0 F.toList) (19 + t * 2) [.int .i64 co, .int .i64 va]) ∧ Keeps (fun b => b = w.heap.size) w1 W') ?_ ?_
  · exact ⟨Blk.setCells (Blk.setCells HB1.out), (keeps_setCells (S := fun b => b = w.heap.size) (.inl rfl) _ _).trans (keeps_setCells (S := fun b => b = w.heap.size) (.inl rfl) _ _)⟩
  rintro w2 ⟨hB2, hK2⟩
  have HB2 := Lib.hid hB2
  have HK2 := Lib.hid hK2
  clear hB2 hK2
  have c36 : w2.cell? ⟨w.heap.size, 36, none⟩ = some (.int .u64 cnt) := by rw [HB2.out.cell, HC36.out]
  have cTg : w2.cell? ⟨w.heap.size, 31 + t, none⟩ = some (.int .i64 (tg t)) := by rw [HB2.out.cell, HCTg.out]
  have cWh : w2.cell? ⟨w.heap.size, 27 + t, none⟩ = some (.int .u64 (wh t)) := by rw [HB2.out.cell, HCWh.out]
  have f36 := HB2.out.frozen 36
  have fTg := HB2.out.frozen (31 + t)
  have fWh := HB2.out.frozen (27 + t)
  obtain ⟨R3, hR3⟩ : ∃ R3, R3 = rdA R F t (.int .i64 co) (.int .i64 va) (.int .u64 (cnt + 1)) (.int .i64 (1 - tg t)) := ⟨_, rfl⟩
  have h3s : R3.size = 37 := by rw [hR3, rdA_size, HR2.out]
  have HI3 : Hid ((Tryz.prog.info? 56).map (·.size) = some R3.size) := by show _ = _; rw [infoRc, h3s]
  have HO3 : Hid (R3.all (·.oneCell') = true) := Lib.hid (by rw [hR3]; exact rdA_one HR1.out HF1.out rfl rfl rfl rfl)
  have H3S := Lib.hid h3s
  have hB3 : Blk (((w2.setCell ⟨w.heap.size, 36, none⟩ (.int .u64 (cnt + 1))).setCell ⟨w.heap.size, 27 + t, none⟩ (.int .u64 (cnt + 1))).setCell ⟨w.heap.size, 31 + t, none⟩ (.int .i64 (1 - tg t))) w.heap.size 56 R3 := by rw [hR3]; exact ((HB2.out.set_ 36 _).set_ (27 + t) _).set_ (31 + t) _
  have HB3 := Lib.hid hB3
  have hrs2 : Blk w2 (w.heap.size + 1 + 1) 56 #[.int .i64 0, .slice none 0 0, .int .i64 0, .int .i64 0, .int .i64 0, .int .i64 0, .int .i64 0, .int .i64 0, .int .i64 0, .int .i64 0, .int .i64 0, .int .i64 0, .int .i64 0, .int .i64 0, .int .i64 0, .int .i64 0, .int .i64 0, .int .i64 0, .int .i64 0, .int .i64 0, .int .i64 0, .int .i64 0, .int .i64 0, .int .i64 0, .int .i64 0, .int .i64 0, .int .i64 0, .int .u64 0, .int .u64 0, .int .u64 0, .int .u64 0, .int .i64 0, .int .i64 0, .int .i64 0, .int .i64 0, .int .u64 0, .int .u64 0] := (HK2.out.block _ HRS1.out.lt (by omega)).trans HRS1.out
  have HRS : Hid (Blk (((w2.setCell ⟨w.heap.size, 36, none⟩ (.int .u64 (cnt + 1))).setCell ⟨w.heap.size, 27 + t, none⟩ (.int .u64 (cnt + 1))).setCell ⟨w.heap.size, 31 + t, none⟩ (.int .i64 (1 - tg t))) (w.heap.size + 1 + 1) 56 #[.int .i64 0, .slice none 0 0, .int .i64 0, .int .i64 0, .int .i64 0, .int .i64 0, .int .i64 0, .int .i64 0, .int .i64 0, .int .i64 0, .int .i64 0, .int .i64 0, .int .i64 0, .int .i64 0, .int .i64 0, .int .i64 0, .int .i64 0, .int .i64 0, .int .i64 0, .int .i64 0, .int .i64 0, .int .i64 0, .int .i64 0, .int .i64 0, .int .i64 0, .int .i64 0, .int .i64 0, .int .u64 0, .int .u64 0, .int .u64 0, .int .u64 0, .int .i64 0, .int .i64 0, .int .i64 0, .int .i64 0, .int .u64 0, .int .u64 0]) := Lib.hid (((hrs2.far (by show w.heap.size + 1 + 1 ≠ w.heap.size; omega) _).far (by show w.heap.size + 1 + 1 ≠ w.heap.size; omega) _).far (by show w.heap.size + 1 + 1 ≠ w.heap.size; omega) _)
  have HK3 : Hid (Keeps (fun b => b = w.heap.size) w1 (((w2.setCell ⟨w.heap.size, 36, none⟩ (.int .u64 (cnt + 1))).setCell ⟨w.heap.size, 27 + t, none⟩ (.int .u64 (cnt + 1))).setCell ⟨w.heap.size, 31 + t, none⟩ (.int .i64 (1 - tg t)))) := Lib.hid (((HK2.out.setCell (p := ⟨w.heap.size, 36, none⟩) (.inl rfl) _).setCell (p := ⟨w.heap.size, 27 + t, none⟩) (.inl rfl) _).setCell (p := ⟨w.heap.size, 31 + t, none⟩) (.inl rfl) _)
  have HR3 := Lib.hid hR3
  clear hB3 h3s hR3 hrs2
  go_wp2_with (first
    | (with_reducible refine fLoad 56 w.heap.size 56 R3 (by kernel_rfl) HB3.out Tryz.underlying56 (by kernel_rfl) HI3.out ?_)
    | (with_reducible refine fStore 56 (w.heap.size + 1 + 1) R3 56 #[.int .i64 0, .slice none 0 0, .int .i64 0, .int .i64 0, .int .i64 0, .int .i64 0, .int .i64 0, .int .i64 0, .int .i64 0, .int .i64 0, .int .i64 0, .int .i64 0, .int .i64 0, .int .i64 0, .int .i64 0, .int .i64 0, .int .i64 0, .int .i64 0, .int .i64 0, .int .i64 0, .int .i64 0, .int .i64 0, .int .i64 0, .int .i64 0, .int .i64 0, .int .i64 0, .int .i64 0, .int .u64 0, .int .u64 0, .int .u64 0, .int .u64 0, .int .i64 0, .int .i64 0, .int .i64 0, .int .i64 0, .int .u64 0, .int .u64 0] (by kernel_rfl) (by kernel_rfl) HRS.out HI3.out (by rw [H3S.out]; kernel_rfl) HO3.out ?_))
  rw [← HQ.out]
  refine bodyPost_ret (results_cell_row Tryz.results14 _ _ (w.heap.size + 1 + 1) 56 R3 (0, 0) _ (by kernel_rfl) (Blk.setRow HRS.out _) Tryz.underlying56 (by kernel_rfl) HI3.out) (by kernel_rfl) ?_
  have hB3 : Below w.heap.size w1 (((w2.setCell ⟨w.heap.size, 36, none⟩ (.int .u64 (cnt + 1))).setCell ⟨w.heap.size, 27 + t, none⟩ (.int .u64 (cnt + 1))).setCell ⟨w.heap.size, 31 + t, none⟩ (.int .i64 (1 - tg t))) := HK3.out.below (by have := HRS1.out.lt; omega) (fun b hb e => by omega)
  have g := fun i (hi : i < 37) => (congrArg (fun A : Array Value => A[i]?) HR3.out).trans (rdA_get HR2.out HFS.out t ht (.int .i64 co) (.int .i64 va) (.int .u64 (cnt + 1)) (.int .i64 (1 - tg t)) i hi)
  have hx := rcr_done (R := R) (F := F) (by rw [← HE.out]; exact HR.out) HFS.out ht co va (cnt + 1) (1 - tg t) R3 H3S.out (fun i hi => by rw [g i (by omega), if_neg (by omega), if_neg (by omega), if_neg (by omega), if_neg (by omega), if_neg (by omega), if_pos hi])
    (by rw [g _ (by omega), if_neg (by omega), if_neg (by omega), if_neg (by omega), if_pos (by omega)]) (by rw [g _ (by omega), if_neg (by omega), if_neg (by omega), if_neg (by omega), if_neg (by omega), if_pos (by omega)])
    (by rw [g _ (by omega), if_neg (by omega), if_pos rfl]) (by rw [g _ (by omega), if_pos rfl]) (by rw [g _ (by omega), if_neg (by omega), if_neg (by omega), if_pos rfl])
    (fun i h1 h2 h3 h4 h5 h6 => by
      by_cases hi : i < 37
      · rw [g i hi, if_neg (by omega), if_neg (by omega), if_neg (by omega), if_neg (by omega), if_neg (by omega), if_neg (by omega)]
      · rw [Array.getElem?_eq_none (by rw [H3S.out]; omega), Array.getElem?_eq_none (by rw [HR2.out]; omega)])
  refine ⟨below_setRow (HW1.out.trans hB3) (by omega) _, R3, H3S.out, HO3.out, rfl, hx.2, ?_⟩
  rw [hx.1]
  refine (HTF.out.keeps (S := fun b => b = w.heap.size ∨ b = w.heap.size + 1 + 1) ((HK3.out.mono (fun b hb => .inl hb)).trans ?_) (fun b hb => by have := hb.2; omega)).mono (fun b hb => hb.1)
  exact ⟨rfl, rfl, rfl, by simp [World.setRow], fun k _ hn => setRow_other _ _ _ _ (fun e => hn (.inr e))⟩
theorem refDone_any (R : Array Value) (zo : Nat → Int) (kind a k v : Int) (m : Nat) (ac av wh tg : Nat → Int) (ver cnt : Int) (t : Nat) (w : World) (hR : RcR R (R.extract 0 19) ac av wh tg ver cnt) (h1 : R.all (·.oneCell') = true) (hT : ThOk kind zo (R.extract 0 19) w)
    (hw : Wds zo) (hz : thingOk kind zo) (ho : opOk a k v) (hm : kind = 5 → tabM zo a k m) (ht : t < 4) (hc : 0 ≤ cnt ∧ cnt ≤ 1099511627776) (hg : tg t = 0 ∨ tg t = 1) :
    Calls Tryz.prog 14 #[.agg R, .int .i64 t, .agg #[.int .i64 a, .int .i64 k, .int .i64 v]] w (RDoneOut (doZ kind zo a k v m) kind ac av wh tg ver cnt t (doC kind zo a k v) (doV kind zo a k v) w) :=
  (refDone_anyP (fun _ => True) R zo kind a k v m ac av wh tg ver cnt t w hR h1 (hT.inside.mono fun _ _ => trivial) (fun _ _ => trivial) hw hz ho hm ht hc hg).mono fun e w' ⟨hB, R', hs, ho', he, hr, hth⟩ => ⟨hB, R', hs, ho', he, hr, hth.weak⟩
end Go.Proofs.YtkoflhjnpilchaaGreatDoor
