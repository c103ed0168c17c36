/-
  RecordDoes: all is right.
-/
import Derived.Test.YtmfjmmplcbpokaaDoorRdP
import Derived.Test.YtmfjmmplcbpokaaDoorRecO
import Derived.Test.YtmfjmmplcbpokaaDoorLawK
namespace Go.Proofs.YtmfjmmplcbpokaaDoor.lawRecordDoes
set_option linter.unusedSimpArgs false
set_option linter.unusedVariables false
set_option linter.unusedSectionVars false
open Go.RowKit Go.ChangeShapes Go.WideShapes Go.ChangeAt Go.Joins
attribute [local go_sem ↓] Go.wp_at_zero Go.wp_at_succ
def IsRv (v : Value) : Prop := ∃ R, v = .agg R
def RvAt (z y : Nat → Int) (t : Nat) (co va : Int) (v : Value) (w' : World) : Prop := ∃ R, v = .agg R ∧ RcR R (R.extract 0 19) (upd (acZ z) t co) (upd (avZ z) t va) (upd (whZ z) t (z 28 + 1)) (upd (tgZ z) t (1 - tgZ z t)) (z 27) (z 28 + 1) ∧ ThOk (z 0) y (R.extract 0 19) w'
def IsW (v : Value) : Prop := ∃ g, v = .slice (some ⟨g, 0, none⟩) 32 32
def WAt (z : Nat → Int) (v : Value) (w' : World) : Prop := ∃ g D, v = .slice (some ⟨g, 0, none⟩) 32 32 ∧ Blk w' g 31 D ∧ U64s D 32 z
theorem outCongr {z z' : Nat → Int} {w w' : World} {e : Ending} (h : WordsOut z w e w') (hz : ∀ i, i < 32 → z' i = z i) : WordsOut z' w e w' := by
  obtain ⟨g, D, he, hb, hU, hg, hB⟩ := h
  exact ⟨g, D, he, hb, hU.congr hz, hg, hB⟩
theorem recT_below {z : Nat → Int} {D : Array Value} {w w' : World} (h : RecT z D w) (hb : Below w.heap.size w w') : RecT z D w' := And.intro h.1 (h.2.below hb)
theorem infoOpR : (Tryd.prog.info? 48).map (·.size) = some 3 := by kernel_rfl
theorem words_done {z : Nat → Int} (y : Nat → Int) (t : Nat) (co va : Int) (ht : t < 4) (hr : recOk z) (hb : ∀ i, i < 32 → 0 ≤ z i ∧ z i < 18446744073709551616) (hy : thingOk (z 0) y) (hw : Wds y) (R : Array Value) (W : World)
    (hc : RcR R (R.extract 0 19) (upd (acZ z) t co) (upd (avZ z) t va) (upd (whZ z) t (z 28 + 1)) (upd (tgZ z) t (1 - tgZ z t)) (z 27) (z 28 + 1)) (hT : ThOk (z 0) y (R.extract 0 19) W) :
    Calls Tryd.prog 19 #[.agg R] W (WordsOut (doneZ z y t co va) W) := by
  obtain ⟨hk, h1, h6⟩ := kindR_of hr
  have h28 := hr.1.2.2.1
  have h27 := hr.1.2.2.2
  have b28 := hb 28 (by decide)
  have b27 := hb 27 (by decide)
  have hz := doneZ_words y t co va ht hr (fun i hi => (hb i hi).1)
  have h := words_any R _ _ _ _ _ _ _ (z 0) y W hc (by omega) (fun i hi => (hw i hi).1) hy hT (fun u hu => by
    unfold upd
    split
    · omega
    · exact hb (22 + u) (by omega)) b27 (by omega)
  generalize wordsZ (z 0) y (upd (acZ z) t co) (upd (avZ z) t va) (upd (whZ z) t (z 28 + 1)) (upd (tgZ z) t (1 - tgZ z t)) (z 27) (z 28 + 1) = x at h hz
  with_reducible refine h.mono ?_
  intro e w' ho
  exact outCongr ho (fun i hi => (hz i hi).symm)
theorem done_ref {z : Nat → Int} (D : Array Value) (t : Nat) (a k v : Int) (m : Nat) (ht : t < 4) (hr : recOk z) (hb : ∀ i, i < 32 → 0 ≤ z i ∧ z i < 18446744073709551616) (ho : opOk a k v) (hm : z 0 = 5 → tabM (oz z) a k m) (h1 : D.all (·.oneCell') = true) (W : World) (hT : RecT z D W) :
    Calls Tryd.prog 18 #[.agg D, .int .i64 t, .agg #[.int .i64 a, .int .i64 k, .int .i64 v]] W (RDoneOut (doZ (z 0) (oz z) a k v m) (z 0) (acZ z) (avZ z) (whZ z) (tgZ z) (z 27) (z 28) t (doC (z 0) (oz z) a k v) (doV (z 0) (oz z) a k v) W) := by
  obtain ⟨hk, k1, k6⟩ := kindR_of hr
  exact refDone_any D (oz z) (z 0) a k v m _ _ _ _ _ _ t W hT.1 h1 hT.2 (fun i hi => hb (1 + i) (by omega)) (by rw [← hk]; exact hr.1.1) ho hm ht ⟨(hb 28 (by decide)).1, hr.1.2.2.1⟩ (by unfold tgZ; split <;> simp)
set_option maxRecDepth 100000 in
set_option maxHeartbeats 4000000 in
theorem rdw_ok (C : Array Value) (z : Nat → Int) (t : Nat) (a k v : Int) (m : Nat) (w : World) (h : U64s C 32 z) (hb : recOk z) (ho : opOk a k v) (hm : kindR z = 5 → tabM (oz z) a k m) (ht : t < 4) (hg : ErrT w) :
    Calls Tryd.prog 4 #[.agg C, .int .i64 (t : Int), .agg #[.int .i64 a, .int .i64 k, .int .i64 v]] w fun e w' => e = .returned (.bool true) ∧ Below w.heap.size w w' := by
  have HYZ : Hid (recOk z) := Lib.hid hb
  obtain ⟨hk, k1, k6⟩ := kindR_of hb
  have hDN := fun W : World => rdone_ok C z t a k v m W h ht hb ho hm
  rw [hk] at hm hDN
  have hTD := thing_do (fun i hi => h.bd (1 + i) (by omega)) (by have := hb.1.1; rw [hk] at this; exact this) ho hm
  have HRD0 := Lib.hid (fun (D : Array Value) (h1 : D.all (·.oneCell') = true) => done_ref (z := z) D t a k v m ht hb h.bd ho hm h1)
  have HWD := Lib.hid (words_done (z := z) (doZ (z 0) (oz z) a k v m) t (doC (z 0) (oz z) a k v) (doV (z 0) (oz z) a k v) ht hb h.bd hTD.1 hTD.2.1)
  have HOP := Lib.hid (opRightB_iff.2 ho)
  generalize doZ (z 0) (oz z) a k v m = y at *
  generalize doC (z 0) (oz z) a k v = co at *
  generalize doV (z 0) (oz z) a k v = va at *
  obtain ⟨zf, hzf⟩ : ∃ zf, zf = doneZ z y t co va := ⟨_, rfl⟩
  rw [← hzf] at HWD
  have HDN : Hid (∀ W : World, Calls Tryd.prog 15 #[.agg C, .int .i64 (t : Int), .agg #[.int .i64 a, .int .i64 k, .int .i64 v]] W fun e w' => ∃ F, e = .returned (.tuple #[.agg F, .nilIface]) ∧ U64s F 32 (zf) ∧ Below W.heap.size W w') := Lib.hid fun W => (hDN W).mono fun e w' ⟨F, he, hU, hB⟩ => ⟨F, he, by rw [hzf]; exact hU, hB⟩
  have HIE : Hid ((Tryd.prog.info? 46).map (·.size) = some C.size) := by show _ = _; rw [infoRx, h.size]
  have HG := Lib.hid hg
  have hB0 : Blk ((w.alloc (.cells C 46)).alloc (.cells #[.int .i64 a, .int .i64 k, .int .i64 v] 48)) w.heap.size 46 C := (Blk.new _ _ _).alloc _
  have hO0 : Blk ((w.alloc (.cells C 46)).alloc (.cells #[.int .i64 a, .int .i64 k, .int .i64 v] 48)) (w.heap.size + 1) 48 #[.int .i64 a, .int .i64 k, .int .i64 v] := Blk.newAt _ _ _ (by simp)
  have HS := Lib.hid (SlU.of_blk (n := 32) (c := 32) (o := 0) hB0 h (by omega) (by omega) (by omega))
  have HB0 := Lib.hid hB0
  have HO0 := Lib.hid hO0
  have d0 : ¬ (t : Int) < 0 := by omega
  have d4 : ¬ 4 ≤ (t : Int) := by omega
  have HIO : Hid ((Tryd.prog.info? 48).map (·.size) = some (#[.int .i64 a, .int .i64 k, .int .i64 v] : Array Value).size) := infoOpR
  clear h hg hB0 hO0 hb ho hm hDN hTD hzf hk k1 k6 ht
  go_enter Tryd.func4, Tryd.ntmps4
  go_wp2_with fail
  with_reducible refine (recOf_any _ 32 z true _ (by simpa using HS.out) (⟨fun _ => HYZ.out, fun _ => rfl⟩)).mono ?_
  rintro e w1 ⟨hb1, D, hs, h1, rfl, hT⟩
  have hz1 := hb1.size
  simp only [World.size_alloc] at hz1
  have HD1 : Hid ((Tryd.prog.info? 62).map (·.size) = some D.size) := by show _ = _; rw [infoRc, hs]
  have HONE := Lib.hid h1
  have HSZ := Lib.hid hs
  have HT1 : Hid (RecT z D w1) := Lib.hid (hT rfl)
  have HB1 := Lib.hid ((HB0.out.below hb1 (by simp; omega)).alloc (.cells #[.int .i64 0, .slice none 0 0, .int .i64 0, .int .i64 0, .int .i64 0, .int .i64 0, .int .i64 0, .int .i64 0, .int .i64 0, .int .i64 0, .int .i64 0, .int .i64 0, .int .i64 0, .int .i64 0, .int .i64 0, .int .i64 0, .int .i64 0, .int .i64 0, .int .i64 0, .int .i64 0, .int .i64 0, .int .i64 0, .int .i64 0, .int .i64 0, .int .i64 0, .int .i64 0, .int .i64 0, .int .u64 0, .int .u64 0, .int .u64 0, .int .u64 0, .int .i64 0, .int .i64 0, .int .i64 0, .int .i64 0, .int .u64 0, .int .u64 0] 62))
  have HO1 := Lib.hid ((HO0.out.below hb1 (by simp)).alloc (.cells #[.int .i64 0, .slice none 0 0, .int .i64 0, .int .i64 0, .int .i64 0, .int .i64 0, .int .i64 0, .int .i64 0, .int .i64 0, .int .i64 0, .int .i64 0, .int .i64 0, .int .i64 0, .int .i64 0, .int .i64 0, .int .i64 0, .int .i64 0, .int .i64 0, .int .i64 0, .int .i64 0, .int .i64 0, .int .i64 0, .int .i64 0, .int .i64 0, .int .i64 0, .int .i64 0, .int .i64 0, .int .u64 0, .int .u64 0, .int .u64 0, .int .u64 0, .int .i64 0, .int .i64 0, .int .i64 0, .int .i64 0, .int .u64 0, .int .u64 0] 62))
  have HW1 : Hid (Below w.heap.size w w1) := Lib.hid (Below.trans (by go_grown) (hb1.mono (by simp; omega)))
  clear hs h1 hb1 hT
  have hne : w.heap.size ≠ w1.heap.size := by omega
  have hne1 : w.heap.size + 1 ≠ w1.heap.size := by omega
  go_wp2_with (first
    | (with_reducible refine fStore 62 w1.heap.size D 62 #[.int .i64 0, .slice none 0 0, .int .i64 0, .int .i64 0, .int .i64 0, .int .i64 0, .int .i64 0, .int .i64 0, .int .i64 0, .int .i64 0, .int .i64 0, .int .i64 0, .int .i64 0, .int .i64 0, .int .i64 0, .int .i64 0, .int .i64 0, .int .i64 0, .int .i64 0, .int .i64 0, .int .i64 0, .int .i64 0, .int .i64 0, .int .i64 0, .int .i64 0, .int .i64 0, .int .i64 0, .int .u64 0, .int .u64 0, .int .u64 0, .int .u64 0, .int .i64 0, .int .i64 0, .int .i64 0, .int .i64 0, .int .u64 0, .int .u64 0] (by kernel_rfl) (by kernel_rfl) (Blk.new _ _ _) HD1.out (by rw [HSZ.out]; kernel_rfl) HONE.out ?_)
    | (with_reducible refine fLoad 46 w.heap.size 46 C (by kernel_rfl) (HB1.out.far_row hne D) Tryd.underlying46 (by kernel_rfl) HIE.out ?_)
    | (with_reducible refine fLoad 48 (w.heap.size + 1) 48 #[.int .i64 a, .int .i64 k, .int .i64 v] (by kernel_rfl) (HO1.out.far_row hne1 D) Tryd.underlying48 (by kernel_rfl) (by kernel_rfl) ?_))
  with_reducible refine (HDN.out _).mono ?_
  rintro e w2 ⟨F, rfl, hF, hb2⟩
  have hB1w : Below w1.heap.size w1 ((w1.alloc (.cells #[.int .i64 0, .slice none 0 0, .int .i64 0, .int .i64 0, .int .i64 0, .int .i64 0, .int .i64 0, .int .i64 0, .int .i64 0, .int .i64 0, .int .i64 0, .int .i64 0, .int .i64 0, .int .i64 0, .int .i64 0, .int .i64 0, .int .i64 0, .int .i64 0, .int .i64 0, .int .i64 0, .int .i64 0, .int .i64 0, .int .i64 0, .int .i64 0, .int .i64 0, .int .i64 0, .int .i64 0, .int .u64 0, .int .u64 0, .int .u64 0, .int .u64 0, .int .i64 0, .int .i64 0, .int .i64 0, .int .i64 0, .int .u64 0, .int .u64 0] 62)).setRow w1.heap.size D) := below_setRow ((Below.refl _ _).alloc (Nat.le_refl _) _) (Nat.le_refl _) D
  have hB2w : Below w1.heap.size w1 w2 := hB1w.trans (hb2.mono hB1w.size)
  have hO2 := (HO1.out.far_row hne1 D).below hb2 (HO1.out.far_row hne1 D).lt
  have hX2 := (Blk.setRow (Blk.new w1 62 #[.int .i64 0, .slice none 0 0, .int .i64 0, .int .i64 0, .int .i64 0, .int .i64 0, .int .i64 0, .int .i64 0, .int .i64 0, .int .i64 0, .int .i64 0, .int .i64 0, .int .i64 0, .int .i64 0, .int .i64 0, .int .i64 0, .int .i64 0, .int .i64 0, .int .i64 0, .int .i64 0, .int .i64 0, .int .i64 0, .int .i64 0, .int .i64 0, .int .i64 0, .int .i64 0, .int .i64 0, .int .u64 0, .int .u64 0, .int .u64 0, .int .u64 0, .int .i64 0, .int .i64 0, .int .i64 0, .int .i64 0, .int .u64 0, .int .u64 0]) D).below hb2 (Blk.setRow (Blk.new w1 62 #[.int .i64 0, .slice none 0 0, .int .i64 0, .int .i64 0, .int .i64 0, .int .i64 0, .int .i64 0, .int .i64 0, .int .i64 0, .int .i64 0, .int .i64 0, .int .i64 0, .int .i64 0, .int .i64 0, .int .i64 0, .int .i64 0, .int .i64 0, .int .i64 0, .int .i64 0, .int .i64 0, .int .i64 0, .int .i64 0, .int .i64 0, .int .i64 0, .int .i64 0, .int .i64 0, .int .i64 0, .int .u64 0, .int .u64 0, .int .u64 0, .int .u64 0, .int .i64 0, .int .i64 0, .int .i64 0, .int .i64 0, .int .u64 0, .int .u64 0]) D).lt
  have hT2 : RecT z D w2 := ⟨HT1.out.1, HT1.out.2.below hB2w⟩
  have hW2 : Below w.heap.size w w2 := HW1.out.trans (hB2w.mono HW1.out.size)
  have HF := Lib.hid hF
  have HIF : Hid ((Tryd.prog.info? 46).map (·.size) = some F.size) := by show _ = _; rw [infoRx, hF.size]
  have hB3 : Below w2.heap.size w2 ((w2.alloc (.cells #[.int .u64 0, .int .u64 0, .int .u64 0, .int .u64 0, .int .u64 0, .int .u64 0, .int .u64 0, .int .u64 0, .int .u64 0, .int .u64 0, .int .u64 0, .int .u64 0, .int .u64 0, .int .u64 0, .int .u64 0, .int .u64 0, .int .u64 0, .int .u64 0, .int .u64 0, .int .u64 0, .int .u64 0, .int .u64 0, .int .u64 0, .int .u64 0, .int .u64 0, .int .u64 0, .int .u64 0, .int .u64 0, .int .u64 0, .int .u64 0, .int .u64 0, .int .u64 0] 46)).setRow w2.heap.size F) := below_setRow ((Below.refl _ _).alloc (Nat.le_refl _) _) (Nat.le_refl _) F
  have HQ3 := Lib.hid (Blk.setRow (Blk.new w2 46 #[.int .u64 0, .int .u64 0, .int .u64 0, .int .u64 0, .int .u64 0, .int .u64 0, .int .u64 0, .int .u64 0, .int .u64 0, .int .u64 0, .int .u64 0, .int .u64 0, .int .u64 0, .int .u64 0, .int .u64 0, .int .u64 0, .int .u64 0, .int .u64 0, .int .u64 0, .int .u64 0, .int .u64 0, .int .u64 0, .int .u64 0, .int .u64 0, .int .u64 0, .int .u64 0, .int .u64 0, .int .u64 0, .int .u64 0, .int .u64 0, .int .u64 0, .int .u64 0]) F)
  have HO3 := Lib.hid (hO2.below hB3 hO2.lt)
  have HX3 := Lib.hid (hX2.below hB3 hX2.lt)
  have HT3 : Hid (RecT z D ((w2.alloc (.cells #[.int .u64 0, .int .u64 0, .int .u64 0, .int .u64 0, .int .u64 0, .int .u64 0, .int .u64 0, .int .u64 0, .int .u64 0, .int .u64 0, .int .u64 0, .int .u64 0, .int .u64 0, .int .u64 0, .int .u64 0, .int .u64 0, .int .u64 0, .int .u64 0, .int .u64 0, .int .u64 0, .int .u64 0, .int .u64 0, .int .u64 0, .int .u64 0, .int .u64 0, .int .u64 0, .int .u64 0, .int .u64 0, .int .u64 0, .int .u64 0, .int .u64 0, .int .u64 0] 46)).setRow w2.heap.size F)) := Lib.hid ⟨hT2.1, hT2.2.below hB3⟩
  clear hT2 HT1
  have HW3 := Lib.hid (hW2.trans (hB3.mono hW2.size))
  clear hb2 hB1w hB2w hO2 hX2 hW2 hF hB3 HB0 HO0 HS HB1 HO1 HW1 HDN
  have HRD := Lib.hid (HRD0.out D HONE.out)
  clear HRD0
  go_wp2_with (first
    | (with_reducible refine fStore 46 w2.heap.size F 46 #[.int .u64 0, .int .u64 0, .int .u64 0, .int .u64 0, .int .u64 0, .int .u64 0, .int .u64 0, .int .u64 0, .int .u64 0, .int .u64 0, .int .u64 0, .int .u64 0, .int .u64 0, .int .u64 0, .int .u64 0, .int .u64 0, .int .u64 0, .int .u64 0, .int .u64 0, .int .u64 0, .int .u64 0, .int .u64 0, .int .u64 0, .int .u64 0, .int .u64 0, .int .u64 0, .int .u64 0, .int .u64 0, .int .u64 0, .int .u64 0, .int .u64 0, .int .u64 0] (by kernel_rfl) (by kernel_rfl) (Blk.new _ _ _) HIF.out (by rw [HF.out.size]; kernel_rfl) HF.out.one ?_)
    | ((with_reducible refine fLoadG 48 (w.heap.size + 1) 48 #[.int .i64 a, .int .i64 k, .int .i64 v] (by kernel_rfl) HO3.out Tryd.underlying48 (by kernel_rfl) (by kernel_rfl) ?_ ?_); (first | (go_simp; done) | rfl)))
  with_reducible refine (refOpRight_any a k v _).mono ?_
  rintro e w4 ⟨rfl, hb4⟩
  rw [HOP.out]
  have HQ4 := Lib.hid (HQ3.out.below hb4 HQ3.out.lt)
  have HX4 := Lib.hid (HX3.out.below hb4 HX3.out.lt)
  have HO4 := Lib.hid (HO3.out.below hb4 HO3.out.lt)
  have HT4 : Hid (RecT z D w4) := Lib.hid ⟨HT3.out.1, HT3.out.2.below hb4⟩
  have HW4 := Lib.hid (HW3.out.trans (hb4.mono HW3.out.size))
  clear hb4 HQ3 HX3 HO3 HT3 HW3
  generalize w1.heap.size = gx at *
  generalize w2.heap.size = gq at *
  have heq : ∀ w, (Op.equalIn 10000 46 (.agg F) (.agg F)).run Tryd.prog w = .ok true w := eqRecD HF.out HF.out
  go_wp2_with fail
  refine wp_region_rely 12 nowhere [] (by kernel_rfl) (by kernel_rfl) ?_
  first | (with_reducible refine wpRely_step (fun K hK => ?_)) | (refine wpRely_step (fun K hK => ?_))
  refine .inl ?_
  apply Exists.intro
  refine ⟨Any, ?_, hK _ _ _ _ ?_⟩
  · simp only [RelyOp, fillE]
    refine ⟨?_, fun w9 hw9 _ => ?_⟩
    · first | rfl | (go_simp; done)
    go_simp
    exact ⟨⟨rfl, trivial⟩, Keeps.refl _ _⟩
  clear hK K
  try simp only [Act.put, List.setIfInBounds_toArray, List.set_cons_zero, List.set_cons_succ]
  first | (with_reducible refine wpRely_step (fun K hK => ?_)) | (refine wpRely_step (fun K hK => ?_))
  refine .inl ?_
  apply Exists.intro
  refine ⟨Any, ?_, hK _ _ _ _ ?_⟩
  · simp only [RelyOp, fillE]
    refine ⟨?_, fun w9 hw9 _ => ?_⟩
    · first | rfl | (go_simp; done)
    go_simp
    exact ⟨⟨rfl, trivial⟩, Keeps.refl _ _⟩
  clear hK K
  try simp only [Act.put, List.setIfInBounds_toArray, List.set_cons_zero, List.set_cons_succ]
  first | (with_reducible refine wpRely_step (fun K hK => ?_)) | (refine wpRely_step (fun K hK => ?_))
  refine .inl ?_
  apply Exists.intro
  refine ⟨Any, ?_, hK _ _ _ _ ?_⟩
  · simp only [RelyOp, fillE]
    refine ⟨?_, fun w9 hw9 _ => ?_⟩
    · first | rfl | (go_simp; done)
    go_simp
    exact ⟨⟨rfl, trivial⟩, Keeps.refl _ _⟩
  clear hK K
  try simp only [Act.put, List.setIfInBounds_toArray, List.set_cons_zero, List.set_cons_succ]
  first | (with_reducible refine wpRely_step (fun K hK => ?_)) | (refine wpRely_step (fun K hK => ?_))
  refine .inl ⟨.agg F, Any, ?_, hK _ _ _ _ ?_⟩
  · simp only [RelyOp, fillE]
    refine ⟨?_, fun w9 hw9 _ => ?_⟩
    · first | rfl | (go_simp; done)
    exact relyAt_load_rowB 46 _ rfl gq rfl 46 F _ (HQ4.out.below hw9.same HQ4.out.lt) Tryd.underlying46 rfl HIF.out ⟨⟨rfl, trivial⟩, Keeps.refl _ _⟩
  clear hK K
  try simp only [Act.put, List.setIfInBounds_toArray, List.set_cons_zero, List.set_cons_succ]
  first | (with_reducible refine wpRely_step (fun K hK => ?_)) | (refine wpRely_step (fun K hK => ?_))
  refine .inl ⟨.agg D, Any, ?_, hK _ _ _ _ ?_⟩
  · simp only [RelyOp, fillE]
    refine ⟨?_, fun w9 hw9 _ => ?_⟩
    · first | rfl | (go_simp; done)
    exact relyAt_load_rowB 62 _ rfl gx rfl 62 D _ (HX4.out.below hw9.same HX4.out.lt) Tryd.underlying62 rfl HD1.out ⟨⟨rfl, trivial⟩, Keeps.refl _ _⟩
  clear hK K
  try simp only [Act.put, List.setIfInBounds_toArray, List.set_cons_zero, List.set_cons_succ]
  first | (with_reducible refine wpRely_step (fun K hK => ?_)) | (refine wpRely_step (fun K hK => ?_))
  refine .inl ?_
  apply Exists.intro
  refine ⟨Any, ?_, hK _ _ _ _ ?_⟩
  · simp only [RelyOp, fillE]
    refine ⟨?_, fun w9 hw9 _ => ?_⟩
    · first | rfl | (go_simp; done)
    go_simp
    exact ⟨⟨rfl, trivial⟩, Keeps.refl _ _⟩
  clear hK K
  try simp only [Act.put, List.setIfInBounds_toArray, List.set_cons_zero, List.set_cons_succ]
  first | (with_reducible refine wpRely_step (fun K hK => ?_)) | (refine wpRely_step (fun K hK => ?_))
  refine .inl ⟨.agg #[.int .i64 a, .int .i64 k, .int .i64 v], Any, ?_, hK _ _ _ _ ?_⟩
  · simp only [RelyOp, fillE]
    refine ⟨?_, fun w9 hw9 _ => ?_⟩
    · first | rfl | (go_simp; done)
    exact relyAt_load_rowB 48 _ rfl (w.heap.size + 1) rfl 48 #[.int .i64 a, .int .i64 k, .int .i64 v] _ (HO4.out.below hw9.same HO4.out.lt) Tryd.underlying48 rfl HIO.out ⟨⟨rfl, trivial⟩, Keeps.refl _ _⟩
  clear hK K
  try simp only [Act.put, List.setIfInBounds_toArray, List.set_cons_zero, List.set_cons_succ]
  first | (with_reducible refine wpRely_step (fun K hK => ?_)) | (refine wpRely_step (fun K hK => ?_))
  refine .inr (.inr ⟨IsRv, RvAt z y t co va, ⟨_, #[], rfl⟩, ?_, hK _ _ _ _ ?_⟩)
  · simp only [RelyOp, fillE]
    refine ⟨?_, fun w9 hw9 _ => ?_⟩
    · first | rfl | (go_simp; done)
    go_simp
    go_at_call 18
    with_reducible refine (HRD.out w9 (recT_below HT4.out hw9.same)).mono ?_
    rintro e w' ⟨hB, R', hs, h1, rfl, hc, hth⟩
    exact ⟨_, rfl, ⟨⟨_, rfl⟩, ⟨_, rfl, hc, hth⟩⟩, Keeps.of_same hB⟩
  clear hK K
  try simp only [Act.put, List.setIfInBounds_toArray, List.set_cons_zero, List.set_cons_succ]
  first | (with_reducible refine wpRely_step (fun K hK => ?_)) | (refine wpRely_step (fun K hK => ?_))
  refine .inr (.inr ⟨IsW, WAt zf, ⟨_, 0, rfl⟩, ?_, hK _ _ _ _ ?_⟩)
  · simp only [RelyOp, fillE]
    rintro _ ⟨R1, rfl⟩
    refine ⟨?_, fun w9 hw9 hmet0 => ?_⟩
    · first | rfl | (go_simp; done)
    obtain ⟨w0, k0, k1, R', hv9, hc, hth⟩ := (hmet0.2.1 (by kernel_rfl)).out
    cases hv9
    have hth9 := hth.below k1
    clear hmet0 hth
    go_simp
    go_at_call 19
    with_reducible refine (HWD.out R1 w9 hc hth9).mono ?_
    rintro e w' ⟨g, E, rfl, hb, hU, hg, hB⟩
    exact ⟨_, rfl, ⟨⟨_, rfl⟩, ⟨_, _, rfl, hb, hU⟩⟩, Keeps.of_same hB⟩
  clear hK K
  try simp only [Act.put, List.setIfInBounds_toArray, List.set_cons_zero, List.set_cons_succ]
  first | (with_reducible refine wpRely_step (fun K hK => ?_)) | (refine wpRely_step (fun K hK => ?_))
  refine .inl ⟨.agg F, Any, ?_, hK _ _ _ _ ?_⟩
  · simp only [RelyOp, fillE]
    rintro _ ⟨g2, rfl⟩ _ ⟨R1, rfl⟩
    refine ⟨?_, fun w9 hw9 hmet0 => ?_⟩
    · first | rfl | (go_simp; done)
    obtain ⟨w0, k0, k1, g', E, hv9, hl, hU⟩ := (hmet0.2.2.1 (by kernel_rfl)).out
    cases hv9
    have hl9 := SlU.of_blk (n := 32) (c := 32) (o := 0) (hl.below k1 hl.lt) hU (by omega) (by omega) (by omega)
    clear hmet0 hl
    go_simp
    go_at_call 17
    exact rely_det (recordOf_any _ 32 32 zf _ (by simpa using hl9) (by omega) F (HF.out.congr (fun i hi => by rw [if_pos hi])))
  clear hK K
  try simp only [Act.put, List.setIfInBounds_toArray, List.set_cons_zero, List.set_cons_succ]
  first | (with_reducible refine wpRely_step (fun K hK => ?_)) | (refine wpRely_step (fun K hK => ?_))
  refine .inl ?_
  apply Exists.intro
  refine ⟨Any, ?_, hK _ _ _ _ ?_⟩
  · simp only [RelyOp, fillE]
    rintro _ ⟨g2, rfl⟩ _ ⟨R1, rfl⟩
    refine ⟨?_, fun w9 hw9 _ => ?_⟩
    · first | rfl | (go_simp; done)
    go_simp
    exact ⟨⟨rfl, trivial⟩, Keeps.refl _ _⟩
  clear hK K
  try simp only [Act.put, List.setIfInBounds_toArray, List.set_cons_zero, List.set_cons_succ]
  first | (with_reducible refine wpRely_step (fun K hK => ?_)) | (refine wpRely_step (fun K hK => ?_))
  refine .inl ?_
  apply Exists.intro
  refine ⟨Any, ?_, hK _ _ _ _ ?_⟩
  · simp only [RelyOp, fillE]
    rintro _ ⟨g2, rfl⟩ _ ⟨R1, rfl⟩
    refine ⟨?_, fun w9 hw9 _ => ?_⟩
    · first | rfl | (go_simp; done)
    go_simp
    exact ⟨⟨rfl, trivial⟩, Keeps.refl _ _⟩
  clear hK K
  try simp only [Act.put, List.setIfInBounds_toArray, List.set_cons_zero, List.set_cons_succ]
  refine wpRely_nil ?_
  simp only [fillE]
  rintro _ ⟨g9, rfl⟩ _ ⟨R9, rfl⟩ w9 hw9 _
  simp only [List.drop_succ_cons, List.drop_zero, List.drop, Act.put, List.setIfInBounds_toArray, List.set_cons_zero, List.set_cons_succ]
  go_wp2
  go_ret
  exact ⟨rfl, HW4.out.trans (hw9.same.mono HW4.out.size)⟩

end Go.Proofs.YtmfjmmplcbpokaaDoor.lawRecordDoes
