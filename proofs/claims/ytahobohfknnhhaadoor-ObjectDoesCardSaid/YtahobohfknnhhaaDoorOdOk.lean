/-
  ObjectDoes: all is right.
-/
import Derived.Test.YtahobohfknnhhaaDoorLawK
import Derived.Test.YtahobohfknnhhaaDoorMWord
import Derived.Test.YtahobohfknnhhaaDoorMBase
namespace Go.Proofs.YtahobohfknnhhaaDoor.lawObjectDoes
set_option linter.unusedSimpArgs false
set_option linter.unusedVariables false
set_option linter.unusedSectionVars false
open Go.RowKit Go.ChangeShapes Go.WideShapes Go.ChangeAt Go.Joins
attribute [local go_sem ↓] Go.wp_at_zero Go.wp_at_succ
set_option maxRecDepth 100000 in
set_option maxHeartbeats 4000000 in
theorem walk_ok (C : Array Value) (z : Nat → Int) (kind a k v : Int) (m : Nat) (w : World) (h : U64s C 17 z) (hz : thingOk kind z) (ho : opOk a k v) (hm : kind = 5 → tabM z a k m) :
    Calls Tryd.prog 9 #[.int .i64 kind, .agg C, .agg #[.int .i64 a, .int .i64 k, .int .i64 v]] w fun e w' => e = .returned (.bool true) ∧ Below w.heap.size w w' := by
  have hw : Wds z := fun i hi => h.bd i hi
  obtain ⟨hz', hw', _⟩ := thing_do hw hz ho hm
  obtain ⟨E, hE⟩ := U64s.ex (doZ kind z a k v m) 17 hw'
  have HIE : Hid ((Tryd.prog.info? 76).map (·.size) = some C.size) := by show _ = _; rw [infoOC, h.size]
  have HIE2 : Hid ((Tryd.prog.info? 76).map (·.size) = some E.size) := by show _ = _; rw [infoOC, hE.size]
  have HES := Lib.hid hE.size
  have HE1 := Lib.hid hE.one
  have HE := Lib.hid hE
  have HR0 := Lib.hid (opRightB_iff.2 ho)
  have HDO : Hid (∀ W : World, Calls Tryd.prog 31 #[.int .i64 kind, .agg C, .agg #[.int .i64 a, .int .i64 k, .int .i64 v]] W fun e w' => e = .returned (.tuple #[.agg E, .agg #[.int .i64 (doC kind z a k v), .int .i64 (doV kind z a k v)], .nilIface]) ∧ Below W.heap.size W w') := Lib.hid fun W =>
    objDo_any C E z kind a k v m W h ho hz hm hE
  have HTD : Hid (∀ (D : Array Value) (W : World), ThOk kind z D W → Calls Tryd.prog 33 #[.agg D, .agg #[.int .i64 a, .int .i64 k, .int .i64 v]] W (DoOut (ThOk kind (doZ kind z a k v m)) (doC kind z a k v) (doV kind z a k v) W)) := Lib.hid fun D W hT =>
    thingDo_any D z kind a k v m W hw hz ho hm hT
  have HCE : Hid (∀ (D : Array Value) (W : World), ThOk kind (doZ kind z a k v m) D W → Calls Tryd.prog 35 #[.agg D] W (CellsOut (doZ kind z a k v m) W)) := Lib.hid fun D W hT =>
    cells_any D _ kind W (fun i hi => (hw' i hi).1) hz' hT
  have heq := eq_cells hE
  have HZ := Lib.hid hz
  have hB0 : Blk ((w.alloc (.cells C 76)).alloc (.cells #[.int .i64 a, .int .i64 k, .int .i64 v] 26)) w.heap.size 76 C := (Blk.new _ _ _).alloc _
  have hO0 : Blk ((w.alloc (.cells C 76)).alloc (.cells #[.int .i64 a, .int .i64 k, .int .i64 v] 26)) (w.heap.size + 1) 26 #[.int .i64 a, .int .i64 k, .int .i64 v] := Blk.newAt _ _ _ (by simp)
  have HS := Lib.hid (SlU.of_blk (n := 17) (c := 17) (o := 0) hB0 h (by omega) (by omega) (by omega))
  have HB0 := Lib.hid hB0
  have HO0 := Lib.hid hO0
  clear h hB0 hO0 hw hz' hw' ho hm hz hE
  generalize doZ kind z a k v m = y at *
  generalize doC kind z a k v = co at *
  generalize doV kind z a k v = va at *
  go_enter Tryd.func9, Tryd.ntmps9
  go_wp2_with fail
  with_reducible refine (thing_any _ 17 z kind true _ (by simpa using HS.out) ⟨fun _ => HZ.out, fun _ => rfl⟩).mono ?_
  rintro e w1 ⟨hb1, D, hs, h1, rfl, hT⟩
  have hz1 := hb1.size
  simp only [World.size_alloc] at hz1
  have HD1 : Hid ((Tryd.prog.info? 83).map (·.size) = some D.size) := by show _ = _; rw [infoTh, hs]
  have HONE := Lib.hid h1
  have HSZ := Lib.hid hs
  have HT1 := Lib.hid (hT rfl).weak
  have HB1 := Lib.hid ((HB0.out.below hb1 (by simp; omega)).alloc (.cells #[.int .i64 0, .slice none 0 0, .int .i64 0, .int .i64 0, .int .i64 0, .int .i64 0, .int .i64 0, .int .i64 0, .int .i64 0, .int .i64 0, .int .i64 0, .int .i64 0, .int .i64 0, .int .i64 0, .int .i64 0, .int .i64 0, .int .i64 0, .int .i64 0, .int .i64 0] 83))
  have HO1 := Lib.hid ((HO0.out.below hb1 (by simp)).alloc (.cells #[.int .i64 0, .slice none 0 0, .int .i64 0, .int .i64 0, .int .i64 0, .int .i64 0, .int .i64 0, .int .i64 0, .int .i64 0, .int .i64 0, .int .i64 0, .int .i64 0, .int .i64 0, .int .i64 0, .int .i64 0, .int .i64 0, .int .i64 0, .int .i64 0, .int .i64 0] 83))
  have HW1 : Hid (Below w.heap.size w w1) := Lib.hid (Below.trans (by go_grown) (hb1.mono (by simp; omega)))
  clear hs h1 hb1 hT
  have hne : w.heap.size ≠ w1.heap.size := by omega
  have hne1 : w.heap.size + 1 ≠ w1.heap.size := by omega
  go_wp2_with (first
    | (with_reducible refine fStore 83 w1.heap.size D 83 #[.int .i64 0, .slice none 0 0, .int .i64 0, .int .i64 0, .int .i64 0, .int .i64 0, .int .i64 0, .int .i64 0, .int .i64 0, .int .i64 0, .int .i64 0, .int .i64 0, .int .i64 0, .int .i64 0, .int .i64 0, .int .i64 0, .int .i64 0, .int .i64 0, .int .i64 0] (by kernel_rfl) (by kernel_rfl) (Blk.new _ _ _) HD1.out (by rw [HSZ.out]; kernel_rfl) HONE.out ?_)
    | (with_reducible refine fLoad 76 w.heap.size 76 C (by kernel_rfl) (HB1.out.far_row hne D) Tryd.underlying76 (by kernel_rfl) HIE.out ?_)
    | (with_reducible refine fLoad 26 (w.heap.size + 1) 26 #[.int .i64 a, .int .i64 k, .int .i64 v] (by kernel_rfl) (HO1.out.far_row hne1 D) Tryd.underlying26 (by kernel_rfl) (by kernel_rfl) ?_))
  with_reducible refine (HDO.out _).mono ?_
  rintro e w2 ⟨rfl, hb2⟩
  have hB1w : Below w1.heap.size w1 ((w1.alloc (.cells #[.int .i64 0, .slice none 0 0, .int .i64 0, .int .i64 0, .int .i64 0, .int .i64 0, .int .i64 0, .int .i64 0, .int .i64 0, .int .i64 0, .int .i64 0, .int .i64 0, .int .i64 0, .int .i64 0, .int .i64 0, .int .i64 0, .int .i64 0, .int .i64 0, .int .i64 0] 83)).setRow w1.heap.size D) := below_setRow ((Below.refl _ _).alloc (Nat.le_refl _) _) (Nat.le_refl _) D
  have hB2w : Below w1.heap.size w1 w2 := hB1w.trans (hb2.mono hB1w.size)
  have hW2 : Below w.heap.size w w2 := HW1.out.trans (hB2w.mono HW1.out.size)
  have HO2 := Lib.hid ((HO1.out.far_row hne1 D).below hb2 (HO1.out.far_row hne1 D).lt)
  have HTB2 := Lib.hid ((Blk.setRow (Blk.new w1 83 #[.int .i64 0, .slice none 0 0, .int .i64 0, .int .i64 0, .int .i64 0, .int .i64 0, .int .i64 0, .int .i64 0, .int .i64 0, .int .i64 0, .int .i64 0, .int .i64 0, .int .i64 0, .int .i64 0, .int .i64 0, .int .i64 0, .int .i64 0, .int .i64 0, .int .i64 0]) D).below hb2 (Blk.setRow (Blk.new w1 83 #[.int .i64 0, .slice none 0 0, .int .i64 0, .int .i64 0, .int .i64 0, .int .i64 0, .int .i64 0, .int .i64 0, .int .i64 0, .int .i64 0, .int .i64 0, .int .i64 0, .int .i64 0, .int .i64 0, .int .i64 0, .int .i64 0, .int .i64 0, .int .i64 0, .int .i64 0]) D).lt)
  have HT2 := Lib.hid (HT1.out.below hB2w)
  have hlt2 := HO2.out.lt
  have hltT := HTB2.out.lt
  have HW2 := Lib.hid hW2
  clear hb2 hW2 HO1 HB1 HW1 HO0 HB0 HS HDO hB1w hB2w HT1
  have hs2 : w.heap.size ≤ w2.heap.size := HW2.out.size
  have hB3 : Below w2.heap.size w2 ((((w2.alloc (.cells #[.int .u64 0, .int .u64 0, .int .u64 0, .int .u64 0, .int .u64 0, .int .u64 0, .int .u64 0, .int .u64 0, .int .u64 0, .int .u64 0, .int .u64 0, .int .u64 0, .int .u64 0, .int .u64 0, .int .u64 0, .int .u64 0, .int .u64 0] 76)).alloc (.cells #[.int .i64 0, .int .i64 0] 88)).setRow w2.heap.size E).setRow (w2.heap.size + 1) #[.int .i64 co, .int .i64 va]) :=
    below_setRow (below_setRow (((Below.refl _ _).alloc (Nat.le_refl _) _).alloc (by simp) _) (Nat.le_refl _) E) (by omega) _
  have HE3 := Lib.hid (Blk.far_row (Blk.setRow ((Blk.new w2 76 #[.int .u64 0, .int .u64 0, .int .u64 0, .int .u64 0, .int .u64 0, .int .u64 0, .int .u64 0, .int .u64 0, .int .u64 0, .int .u64 0, .int .u64 0, .int .u64 0, .int .u64 0, .int .u64 0, .int .u64 0, .int .u64 0, .int .u64 0]).alloc (.cells #[.int .i64 0, .int .i64 0] 88)) E) (show w2.heap.size ≠ w2.heap.size + 1 by omega) #[.int .i64 co, .int .i64 va])
  have HA3 : Hid (Blk ((((w2.alloc (.cells #[.int .u64 0, .int .u64 0, .int .u64 0, .int .u64 0, .int .u64 0, .int .u64 0, .int .u64 0, .int .u64 0, .int .u64 0, .int .u64 0, .int .u64 0, .int .u64 0, .int .u64 0, .int .u64 0, .int .u64 0, .int .u64 0, .int .u64 0] 76)).alloc (.cells #[.int .i64 0, .int .i64 0] 88)).setRow w2.heap.size E).setRow (w2.heap.size + 1) #[.int .i64 co, .int .i64 va]) (w2.heap.size + 1) 88 #[.int .i64 co, .int .i64 va]) := Lib.hid (Blk.setRow (Blk.far_row (Blk.newAt _ _ _ (by simp)) (by omega) _) _)
  have HO3 := Lib.hid (HO2.out.below hB3 HO2.out.lt)
  have HTB3 := Lib.hid (HTB2.out.below hB3 HTB2.out.lt)
  have HT3 := Lib.hid (HT2.out.below hB3)
  have HW3 := Lib.hid (HW2.out.trans (hB3.mono hs2))
  clear hB3 HO2 HTB2 HT2 HW2
  go_wp2_with (first
    | (with_reducible refine fStore 76 w2.heap.size E 76 #[.int .u64 0, .int .u64 0, .int .u64 0, .int .u64 0, .int .u64 0, .int .u64 0, .int .u64 0, .int .u64 0, .int .u64 0, .int .u64 0, .int .u64 0, .int .u64 0, .int .u64 0, .int .u64 0, .int .u64 0, .int .u64 0, .int .u64 0] (by kernel_rfl) (by kernel_rfl) ((Blk.new _ _ _).alloc _) HIE2.out (by rw [HES.out]; kernel_rfl) HE1.out ?_)
    | (with_reducible refine fStore 88 (w2.heap.size + 1) #[.int .i64 co, .int .i64 va] 88 #[.int .i64 0, .int .i64 0] (by kernel_rfl) (by kernel_rfl) (Blk.far_row (Blk.newAt _ _ _ (by simp)) (by omega) _) (by kernel_rfl) (by kernel_rfl) (two_one _ _) ?_)
    | ((with_reducible refine fLoadG 26 (w.heap.size + 1) 26 #[.int .i64 a, .int .i64 k, .int .i64 v] (by kernel_rfl) HO3.out Tryd.underlying26 (by kernel_rfl) (by kernel_rfl) ?_ ?_); (first | (go_simp; done) | rfl)))
  with_reducible refine (refOpRight_any a k v _).mono ?_
  rintro e w4 ⟨rfl, hb4⟩
  rw [HR0.out]
  have HE4 := Lib.hid (HE3.out.below hb4 HE3.out.lt)
  have HA4 := Lib.hid (HA3.out.below hb4 HA3.out.lt)
  have HO4 := Lib.hid (HO3.out.below hb4 HO3.out.lt)
  have HTB4 := Lib.hid (HTB3.out.below hb4 HTB3.out.lt)
  have HT4 := Lib.hid (HT3.out.below hb4)
  have HW4 := Lib.hid (HW3.out.trans (hb4.mono HW3.out.size))
  clear hb4 HE3 HA3 HO3 HTB3 HT3 HW3
  go_wp2_with (first
    | (with_reducible refine fLoad 83 w1.heap.size 83 D (by kernel_rfl) HTB4.out Tryd.underlying83 (by kernel_rfl) HD1.out ?_)
    | (with_reducible refine fLoad 26 (w.heap.size + 1) 26 #[.int .i64 a, .int .i64 k, .int .i64 v] (by kernel_rfl) HO4.out Tryd.underlying26 (by kernel_rfl) (by kernel_rfl) ?_))
  with_reducible refine (HTD.out D _ HT4.out).mono ?_
  rintro e w5 ⟨hb5, F, hFs, hF1, rfl, hTF⟩
  have HIF : Hid ((Tryd.prog.info? 83).map (·.size) = some F.size) := by show _ = _; rw [infoTh, hFs]
  have HFS := Lib.hid hFs
  have HF1 := Lib.hid hF1
  have hB6 : Below w5.heap.size w5 ((((w5.alloc (.cells #[.int .i64 0, .slice none 0 0, .int .i64 0, .int .i64 0, .int .i64 0, .int .i64 0, .int .i64 0, .int .i64 0, .int .i64 0, .int .i64 0, .int .i64 0, .int .i64 0, .int .i64 0, .int .i64 0, .int .i64 0, .int .i64 0, .int .i64 0, .int .i64 0, .int .i64 0] 83)).alloc (.cells #[.int .i64 0, .int .i64 0] 88)).setRow w5.heap.size F).setRow (w5.heap.size + 1) #[.int .i64 co, .int .i64 va]) :=
    below_setRow (below_setRow (((Below.refl _ _).alloc (Nat.le_refl _) _).alloc (by simp) _) (Nat.le_refl _) F) (by omega) _
  have hB56 : Below w4.heap.size w4 _ := hb5.trans (hB6.mono hb5.size)
  have HE6 := Lib.hid (HE4.out.below hB56 HE4.out.lt)
  have HA6 := Lib.hid (HA4.out.below hB56 HA4.out.lt)
  have HF6 := Lib.hid (Blk.far_row (Blk.setRow ((Blk.new w5 83 #[.int .i64 0, .slice none 0 0, .int .i64 0, .int .i64 0, .int .i64 0, .int .i64 0, .int .i64 0, .int .i64 0, .int .i64 0, .int .i64 0, .int .i64 0, .int .i64 0, .int .i64 0, .int .i64 0, .int .i64 0, .int .i64 0, .int .i64 0, .int .i64 0, .int .i64 0]).alloc (.cells #[.int .i64 0, .int .i64 0] 88)) F) (show w5.heap.size ≠ w5.heap.size + 1 by omega) #[.int .i64 co, .int .i64 va])
  have HX6 : Hid (Blk ((((w5.alloc (.cells #[.int .i64 0, .slice none 0 0, .int .i64 0, .int .i64 0, .int .i64 0, .int .i64 0, .int .i64 0, .int .i64 0, .int .i64 0, .int .i64 0, .int .i64 0, .int .i64 0, .int .i64 0, .int .i64 0, .int .i64 0, .int .i64 0, .int .i64 0, .int .i64 0, .int .i64 0] 83)).alloc (.cells #[.int .i64 0, .int .i64 0] 88)).setRow w5.heap.size F).setRow (w5.heap.size + 1) #[.int .i64 co, .int .i64 va]) (w5.heap.size + 1) 88 #[.int .i64 co, .int .i64 va]) := Lib.hid (Blk.setRow (Blk.far_row (Blk.newAt _ _ _ (by simp)) (by omega) _) _)
  have HT6 := Lib.hid (hTF.below hB6)
  have HW6 := Lib.hid (HW4.out.trans (hB56.mono HW4.out.size))
  clear hb5 hFs hF1 hTF hB6 hB56 HE4 HA4 HO4 HTB4 HT4 HW4
  go_wp2_with (first
    | (with_reducible refine fStore 83 w5.heap.size F 83 #[.int .i64 0, .slice none 0 0, .int .i64 0, .int .i64 0, .int .i64 0, .int .i64 0, .int .i64 0, .int .i64 0, .int .i64 0, .int .i64 0, .int .i64 0, .int .i64 0, .int .i64 0, .int .i64 0, .int .i64 0, .int .i64 0, .int .i64 0, .int .i64 0, .int .i64 0] (by kernel_rfl) (by kernel_rfl) ((Blk.new _ _ _).alloc _) HIF.out (by rw [HFS.out]; kernel_rfl) HF1.out ?_)
    | (with_reducible refine fStore 88 (w5.heap.size + 1) #[.int .i64 co, .int .i64 va] 88 #[.int .i64 0, .int .i64 0] (by kernel_rfl) (by kernel_rfl) (Blk.far_row (Blk.newAt _ _ _ (by simp)) (by omega) _) (by kernel_rfl) (by kernel_rfl) (two_one _ _) ?_))
  show Code.wp _ _ _ _ ((((w5.alloc (.cells #[.int .i64 0, .slice none 0 0, .int .i64 0, .int .i64 0, .int .i64 0, .int .i64 0, .int .i64 0, .int .i64 0, .int .i64 0, .int .i64 0, .int .i64 0, .int .i64 0, .int .i64 0, .int .i64 0, .int .i64 0, .int .i64 0, .int .i64 0, .int .i64 0, .int .i64 0] 83)).alloc (.cells #[.int .i64 0, .int .i64 0] 88)).setRow w5.heap.size F).setRow (w5.heap.size + 1) #[.int .i64 co, .int .i64 va])
  generalize (((w5.alloc (.cells #[.int .i64 0, .slice none 0 0, .int .i64 0, .int .i64 0, .int .i64 0, .int .i64 0, .int .i64 0, .int .i64 0, .int .i64 0, .int .i64 0, .int .i64 0, .int .i64 0, .int .i64 0, .int .i64 0, .int .i64 0, .int .i64 0, .int .i64 0, .int .i64 0, .int .i64 0] 83)).alloc (.cells #[.int .i64 0, .int .i64 0] 88)).setRow w5.heap.size F).setRow (w5.heap.size + 1) #[.int .i64 co, .int .i64 va] = W6 at *
  generalize w2.heap.size = g2 at *
  generalize w5.heap.size = g5 at *
  refine wp_region_relyA 14 nowhere [] (by kernel_rfl) (by kernel_rfl) ?_
  intro anc HA
  iterate 5
    first | (with_reducible refine wpRely_step (fun K hK => ?_)) | (refine wpRely_step (fun K hK => ?_))
    refine .inl ?_
    apply Exists.intro
    refine ⟨Any, ?_, hK _ _ _ _ ?_⟩
    · simp only [RelyOp, fillE]
      refine ⟨?_, fun w9 hw9 _ => ?_⟩
      · first | rfl | (go_simp; done)
      first
      | (refine relyAt_load_row 76 _ rfl g2 rfl 76 E _ (HE6.out.below hw9.same HE6.out.lt) Tryd.underlying76 rfl HIE2.out ⟨⟨rfl, trivial⟩, Keeps.refl _ _⟩)
      | (refine relyAt_load_row 83 _ rfl g5 rfl 83 F _ (HF6.out.below hw9.same HF6.out.lt) Tryd.underlying83 rfl HIF.out ⟨⟨rfl, trivial⟩, Keeps.refl _ _⟩)
      | (go_simp
         exact ⟨⟨rfl, trivial⟩, Keeps.refl _ _⟩)
    clear hK K
    try simp only [Act.put, List.setIfInBounds_toArray, List.set_cons_zero, List.set_cons_succ]
  first | (with_reducible refine wpRely_step (fun K hK => ?_)) | (refine wpRely_step (fun K hK => ?_))
  refine .inr (.inr ⟨IsC17, Ic17 y, ⟨_, 0, rfl⟩, ?_, hK _ _ _ _ ?_⟩)
  · simp only [RelyOp, fillE]
    refine ⟨by first | rfl | (go_simp; done), fun w9 hw9 _ => ?_⟩
    go_simp
    go_at_call 35
    with_reducible refine (HCE.out F _ (HT6.out.below hw9.same)).mono ?_
    rintro e w10 ⟨g, D9, rfl, hb9, hu9, hg9, hbl⟩
    exact ⟨_, rfl, ⟨⟨g, rfl⟩, ⟨g, D9, rfl, hb9, hu9⟩⟩, Keeps.of_same hbl⟩
  clear hK K
  try simp only [Act.put, List.setIfInBounds_toArray, List.set_cons_zero, List.set_cons_succ]
  first | (with_reducible refine wpRely_step (fun K hK => ?_)) | (refine wpRely_step (fun K hK => ?_))
  refine .inl ⟨.agg E, Any, ?_, hK _ _ _ _ ?_⟩
  · simp only [RelyOp, fillE]
    rintro _ ⟨g, rfl⟩
    refine ⟨by first | rfl | (go_simp; done), fun w9 hw9 hmet => ?_⟩
    have hfin : Calls Tryd.prog 34 #[.slice (some ⟨g, 0, none⟩) 17 17] w9 fun e w' => e = .returned (.agg E) ∧ Below w9.heap.size w9 w' := by
      have h1 := hmet.2.1 (by rw [HA.out]; kernel_rfl)
      obtain ⟨w0, k0, k1, g', D9, hv9, hblk, hu9⟩ := h1
      cases hv9
      have hk1 := (k1.mono (S' := nowhere) fun b hb => calm_out hb (by rw [HA.out]; kernel_rfl)).same
      exact cellsOf_any _ 17 17 y _ (by simpa using SlU.of_blk (n := 17) (c := 17) (o := 0) (hblk.below hk1 hblk.lt) hu9 (by omega) (by omega) (by omega)) (by omega) E (HE.out.congr (fun i hi => by rw [if_pos hi]))
    go_simp
    go_at_call 34
    exact rely_det hfin
  clear hK K
  try simp only [Act.put, List.setIfInBounds_toArray, List.set_cons_zero, List.set_cons_succ]
  iterate 7
    first | (with_reducible refine wpRely_step (fun K hK => ?_)) | (refine wpRely_step (fun K hK => ?_))
    refine .inl ?_
    apply Exists.intro
    refine ⟨Any, ?_, hK _ _ _ _ ?_⟩
    · simp only [RelyOp, fillE]
      rintro _ ⟨g, rfl⟩
      refine ⟨?_, fun w9 hw9 _ => ?_⟩
      · first | rfl | (go_simp; done)
      first
      | (refine relyAt_load_row 88 _ rfl (g2 + 1) rfl 88 #[.int .i64 co, .int .i64 va] _ (HA6.out.below hw9.same HA6.out.lt) Tryd.underlying88 rfl infoAn ⟨⟨rfl, trivial⟩, Keeps.refl _ _⟩)
      | (refine relyAt_load_row 88 _ rfl (g5 + 1) rfl 88 #[.int .i64 co, .int .i64 va] _ (HX6.out.below hw9.same HX6.out.lt) Tryd.underlying88 rfl infoAn ⟨⟨rfl, trivial⟩, Keeps.refl _ _⟩)
      | (go_simp
         exact ⟨⟨rfl, trivial⟩, Keeps.refl _ _⟩)
    clear hK K
    try simp only [Act.put, List.setIfInBounds_toArray, List.set_cons_zero, List.set_cons_succ]
  first | (with_reducible refine wpRely_nil ?_) | (refine wpRely_nil ?_)
  simp only [fillE]
  rintro _ ⟨g9, rfl⟩ w9 hw9 hmet
  clear hmet
  have HW9 := Lib.hid (HW6.out.trans (hw9.same.mono HW6.out.size))
  simp only [List.drop_succ_cons, List.drop_zero]
  go_wp2
  go_ret
  exact ⟨rfl, HW9.out⟩


end Go.Proofs.YtahobohfknnhhaaDoor.lawObjectDoes
