/-
  Size returns what the reference returns, for every kind and every seventeen words. No condition beyond the tied variable.
-/
import Derived.Test.YtahobohfknnhhaaDoorRows
import Derived.Test.YtahobohfknnhhaaDoorCards
import Derived.Test.YtahobohfknnhhaaDoorTie
import Derived.Test.YtahobohfknnhhaaDoorCardB
import Derived.SevenTiedAt
import Derived.Test.YtahobohfknnhhaaDoorMBase
import Derived.Test.YtahobohfknnhhaaDoorObjZ
import Derived.Test.YtahobohfknnhhaaDoorMErr
namespace Go.Proofs.YtahobohfknnhhaaDoor.lawObjectSizes
set_option linter.unusedSimpArgs false
set_option linter.unusedVariables false
set_option linter.unusedSectionVars false
open Go.RowKit Go.ChangeShapes Go.WideShapes Go.ChangeAt Go.Joins

attribute [local go_sem ↓] Go.wp_at_zero Go.wp_at_succ
set_option linter.unusedSimpArgs false
set_option linter.unusedVariables false

set_option maxRecDepth 100000 in
set_option maxHeartbeats 4000000 in
theorem walk_bad (C : Array Value) (z : Nat → Int) (kind : Int) (w : World) (h : U64s C 17 z) (hz : ¬ thingOk kind z) (hg : ErrT w) :
    Calls Tryd.prog 10 #[.int .i64 kind, .agg C] w fun e w' => e = .returned (.bool true) ∧ Below w.heap.size w w' := by
  have HIE : Hid ((Tryd.prog.info? 76).map (·.size) = some C.size) := by show _ = _; rw [infoOC, h.size]
  have hB0 : Blk (w.alloc (.cells C 76)) w.heap.size 76 C := Blk.new _ _ _
  have HS := Lib.hid (SlU.of_blk (n := 17) (c := 17) (o := 0) hB0 h (by omega) (by omega) (by omega))
  have HB0 := Lib.hid hB0
  have HSZ : Hid (∀ W : World, Calls Tryd.prog 36 #[.int .i64 kind, .agg C] W fun e w' => e = .returned (.tuple #[.int .i64 0, .iface 38 (.int .i64 1)]) ∧ Below W.heap.size W w') := Lib.hid fun W => size_bad C z kind W h hz
  have HB : Hid (false = true ↔ thingOk kind z) := Lib.hid ⟨fun h => Bool.noConfusion h, fun h => absurd h hz⟩
  have HG := Lib.hid hg
  clear h hz hB0 hg
  go_enter Tryd.func10, Tryd.ntmps10
  go_wp2_with fail
  with_reducible refine (thing_any _ 17 z kind false _ (by simpa using HS.out) (by simpa using HB.out)).mono ?_
  rintro e w1 ⟨hb1, D, hs, h1, rfl, hT⟩
  have hz1 := hb1.size
  simp only [World.size_alloc] at hz1
  have HD1 : Hid ((Tryd.prog.info? 83).map (·.size) = some D.size) := by show _ = _; rw [infoTh, hs]
  have HONE := Lib.hid h1
  have HDS := Lib.hid hs
  have hW1 : Below w.heap.size w w1 := Below.trans (by go_grown) (hb1.mono (by simp))
  have hB1 := (HB0.out.below hb1 (by simp)).alloc (.cells #[.int .i64 0, .slice none 0 0, .int .i64 0, .int .i64 0, .int .i64 0, .int .i64 0, .int .i64 0, .int .i64 0, .int .i64 0, .int .i64 0, .int .i64 0, .int .i64 0, .int .i64 0, .int .i64 0, .int .i64 0, .int .i64 0, .int .i64 0, .int .i64 0, .int .i64 0] 83)
  have hne : w.heap.size ≠ w1.heap.size := by omega
  have hD1 := Blk.setRow (Blk.new w1 83 #[.int .i64 0, .slice none 0 0, .int .i64 0, .int .i64 0, .int .i64 0, .int .i64 0, .int .i64 0, .int .i64 0, .int .i64 0, .int .i64 0, .int .i64 0, .int .i64 0, .int .i64 0, .int .i64 0, .int .i64 0, .int .i64 0, .int .i64 0, .int .i64 0, .int .i64 0]) D
  have HC1 := Lib.hid (hB1.far_row hne D)
  have hW2 := below_setRow (hW1.alloc hW1.size (.cells #[.int .i64 0, .slice none 0 0, .int .i64 0, .int .i64 0, .int .i64 0, .int .i64 0, .int .i64 0, .int .i64 0, .int .i64 0, .int .i64 0, .int .i64 0, .int .i64 0, .int .i64 0, .int .i64 0, .int .i64 0, .int .i64 0, .int .i64 0, .int .i64 0, .int .i64 0] 83)) (show w.heap.size ≤ w1.heap.size from hW1.size) D
  have HD2 := Lib.hid hD1
  have HW2 := Lib.hid hW2
  clear hs h1 hT hW1 hB1 hD1 hW2 hb1
  go_wp2_with (first
    | (with_reducible refine fStore 83 w1.heap.size D 83 #[.int .i64 0, .slice none 0 0, .int .i64 0, .int .i64 0, .int .i64 0, .int .i64 0, .int .i64 0, .int .i64 0, .int .i64 0, .int .i64 0, .int .i64 0, .int .i64 0, .int .i64 0, .int .i64 0, .int .i64 0, .int .i64 0, .int .i64 0, .int .i64 0, .int .i64 0] (by kernel_rfl) (by kernel_rfl) (Blk.new _ _ _) HD1.out (by rw [HDS.out]; kernel_rfl) HONE.out ?_)
    | (with_reducible refine fLoad 76 w.heap.size 76 C (by kernel_rfl) HC1.out Tryd.underlying76 (by kernel_rfl) HIE.out ?_))
  with_reducible refine (HSZ.out _).mono ?_
  rintro e w2 ⟨rfl, hb2⟩
  have HW3 := Lib.hid (HW2.out.trans (hb2.mono HW2.out.size))
  clear hb2
  go_wp2_with fail
  with_reducible refine (bare1 _ (HG.out.below HW3.out)).mono ?_
  rintro e w3 ⟨rfl, hb3⟩
  have HW4 := Lib.hid (HW3.out.trans (hb3.mono HW3.out.size))
  clear hb3
  go_wp2
  go_ret
  exact ⟨rfl, HW4.out⟩

set_option maxRecDepth 100000 in
set_option maxHeartbeats 4000000 in
theorem walk_ok (C : Array Value) (z : Nat → Int) (kind : Int) (w : World) (h : U64s C 17 z) (hz : thingOk kind z) :
    Calls Tryd.prog 10 #[.int .i64 kind, .agg C] w fun e w' => e = .returned (.bool true) ∧ Below w.heap.size w w' := by
  have HIE : Hid ((Tryd.prog.info? 76).map (·.size) = some C.size) := by show _ = _; rw [infoOC, h.size]
  have hB0 : Blk (w.alloc (.cells C 76)) w.heap.size 76 C := Blk.new _ _ _
  have HS := Lib.hid (SlU.of_blk (n := 17) (c := 17) (o := 0) hB0 h (by omega) (by omega) (by omega))
  have HB0 := Lib.hid hB0
  have HSZ : Hid (∀ W : World, Calls Tryd.prog 36 #[.int .i64 kind, .agg C] W fun e w' => e = .returned (.tuple #[.int .i64 (doV kind z 6 0 0), .nilIface]) ∧ Below W.heap.size W w') := Lib.hid fun W => size_ok C z kind W h hz
  have HTD : Hid (∀ (D : Array Value) (W : World), ThOk kind z D W → Calls Tryd.prog 33 #[.agg D, .agg #[.int .i64 6, .int .i64 0, .int .i64 0]] W (DoOut (ThOk kind (doZ kind z 6 0 0 0)) (doC kind z 6 0 0) (doV kind z 6 0 0) W)) := Lib.hid fun D W hT =>
    thingDo_any D z kind 6 0 0 0 W (fun i hi => h.bd i hi) hz (by unfold opOk; decide) (fun _ h => absurd h (by decide)) hT
  have HB : Hid (true = true ↔ thingOk kind z) := Lib.hid ⟨fun _ => hz, fun _ => rfl⟩
  clear h hz hB0
  generalize doZ kind z 6 0 0 0 = y at *
  generalize doC kind z 6 0 0 = co at *
  generalize doV kind z 6 0 0 = va at *
  go_enter Tryd.func10, Tryd.ntmps10
  go_wp2_with fail
  with_reducible refine (thing_any _ 17 z kind true _ (by simpa using HS.out) (by simpa using HB.out)).mono ?_
  rintro e w1 ⟨hb1, D, hs, h1, rfl, hT⟩
  have hz1 := hb1.size
  simp only [World.size_alloc] at hz1
  have HD1 : Hid ((Tryd.prog.info? 83).map (·.size) = some D.size) := by show _ = _; rw [infoTh, hs]
  have HONE := Lib.hid h1
  have HDS := Lib.hid hs
  have hW1 : Below w.heap.size w w1 := Below.trans (by go_grown) (hb1.mono (by simp))
  have hB1 := (HB0.out.below hb1 (by simp)).alloc (.cells #[.int .i64 0, .slice none 0 0, .int .i64 0, .int .i64 0, .int .i64 0, .int .i64 0, .int .i64 0, .int .i64 0, .int .i64 0, .int .i64 0, .int .i64 0, .int .i64 0, .int .i64 0, .int .i64 0, .int .i64 0, .int .i64 0, .int .i64 0, .int .i64 0, .int .i64 0] 83)
  have hne : w.heap.size ≠ w1.heap.size := by omega
  have hD1 := Blk.setRow (Blk.new w1 83 #[.int .i64 0, .slice none 0 0, .int .i64 0, .int .i64 0, .int .i64 0, .int .i64 0, .int .i64 0, .int .i64 0, .int .i64 0, .int .i64 0, .int .i64 0, .int .i64 0, .int .i64 0, .int .i64 0, .int .i64 0, .int .i64 0, .int .i64 0, .int .i64 0, .int .i64 0]) D
  have HC1 := Lib.hid (hB1.far_row hne D)
  have hW2 := below_setRow (hW1.alloc hW1.size (.cells #[.int .i64 0, .slice none 0 0, .int .i64 0, .int .i64 0, .int .i64 0, .int .i64 0, .int .i64 0, .int .i64 0, .int .i64 0, .int .i64 0, .int .i64 0, .int .i64 0, .int .i64 0, .int .i64 0, .int .i64 0, .int .i64 0, .int .i64 0, .int .i64 0, .int .i64 0] 83)) (show w.heap.size ≤ w1.heap.size from hW1.size) D
  have hT1 := (hT rfl).weak.below (below_setRow ((Below.refl _ _).alloc (Nat.le_refl _) (.cells #[.int .i64 0, .slice none 0 0, .int .i64 0, .int .i64 0, .int .i64 0, .int .i64 0, .int .i64 0, .int .i64 0, .int .i64 0, .int .i64 0, .int .i64 0, .int .i64 0, .int .i64 0, .int .i64 0, .int .i64 0, .int .i64 0, .int .i64 0, .int .i64 0, .int .i64 0] 83)) (Nat.le_refl _) D)
  have HT1 := Lib.hid hT1
  have HD2 := Lib.hid hD1
  have HW2 := Lib.hid hW2
  clear hs h1 hT hW1 hB1 hD1 hW2 hb1 hT1
  go_wp2_with (first
    | (with_reducible refine fStore 83 w1.heap.size D 83 #[.int .i64 0, .slice none 0 0, .int .i64 0, .int .i64 0, .int .i64 0, .int .i64 0, .int .i64 0, .int .i64 0, .int .i64 0, .int .i64 0, .int .i64 0, .int .i64 0, .int .i64 0, .int .i64 0, .int .i64 0, .int .i64 0, .int .i64 0, .int .i64 0, .int .i64 0] (by kernel_rfl) (by kernel_rfl) (Blk.new _ _ _) HD1.out (by rw [HDS.out]; kernel_rfl) HONE.out ?_)
    | (with_reducible refine fLoad 76 w.heap.size 76 C (by kernel_rfl) HC1.out Tryd.underlying76 (by kernel_rfl) HIE.out ?_))
  with_reducible refine (HSZ.out _).mono ?_
  rintro e w2 ⟨rfl, hb2⟩
  have HW3 := Lib.hid (HW2.out.trans (hb2.mono HW2.out.size))
  have HD3 := Lib.hid (HD2.out.below hb2 HD2.out.lt)
  have HT3 := Lib.hid (HT1.out.below hb2)
  clear hb2
  go_wp2_with (with_reducible refine fLoad 83 w1.heap.size 83 D (by kernel_rfl) HD3.out Tryd.underlying83 (by kernel_rfl) HD1.out ?_)
  with_reducible refine (HTD.out D _ HT3.out).mono ?_
  rintro e w4 ⟨hb4, F, hFs, hF1, rfl, hTF⟩
  have HIF : Hid ((Tryd.prog.info? 83).map (·.size) = some F.size) := by show _ = _; rw [infoTh, hFs]
  have HFS := Lib.hid hFs
  have HF1 := Lib.hid hF1
  have hW4 := HW3.out.trans (hb4.mono HW3.out.size)
  have HW5 := Lib.hid (below_setRow (below_setRow ((hW4.alloc hW4.size (.cells #[.int .i64 0, .slice none 0 0, .int .i64 0, .int .i64 0, .int .i64 0, .int .i64 0, .int .i64 0, .int .i64 0, .int .i64 0, .int .i64 0, .int .i64 0, .int .i64 0, .int .i64 0, .int .i64 0, .int .i64 0, .int .i64 0, .int .i64 0, .int .i64 0, .int .i64 0] 83)).alloc (by have := hW4.size; simp; omega) (.cells #[.int .i64 0, .int .i64 0] 88)) (show w.heap.size ≤ w4.heap.size from hW4.size) F) (show w.heap.size ≤ w4.heap.size + 1 by have := hW4.size; omega) #[.int .i64 co, .int .i64 va])
  have hA : Blk ((((w4.alloc (.cells #[.int .i64 0, .slice none 0 0, .int .i64 0, .int .i64 0, .int .i64 0, .int .i64 0, .int .i64 0, .int .i64 0, .int .i64 0, .int .i64 0, .int .i64 0, .int .i64 0, .int .i64 0, .int .i64 0, .int .i64 0, .int .i64 0, .int .i64 0, .int .i64 0, .int .i64 0] 83)).alloc (.cells #[.int .i64 0, .int .i64 0] 88)).setRow w4.heap.size F).setRow (w4.heap.size + 1) #[.int .i64 co, .int .i64 va]) (w4.heap.size + 1) 88 #[.int .i64 co, .int .i64 va] := Blk.setRow (Blk.far_row (Blk.newAt _ _ _ (by simp)) (by omega) _) _
  have c1 := hA.cell 1
  simp only [List.getElem?_toArray, List.getElem?_cons_zero, List.getElem?_cons_succ] at c1
  clear hb4 hFs hF1 hTF hW4 hA
  go_wp2_with (first
    | (with_reducible refine fStore 83 w4.heap.size F 83 #[.int .i64 0, .slice none 0 0, .int .i64 0, .int .i64 0, .int .i64 0, .int .i64 0, .int .i64 0, .int .i64 0, .int .i64 0, .int .i64 0, .int .i64 0, .int .i64 0, .int .i64 0, .int .i64 0, .int .i64 0, .int .i64 0, .int .i64 0, .int .i64 0, .int .i64 0] (by kernel_rfl) (by kernel_rfl) ((Blk.new _ _ _).alloc _) HIF.out (by rw [HFS.out]; kernel_rfl) HF1.out ?_)
    | (with_reducible refine fStore 88 (w4.heap.size + 1) #[.int .i64 co, .int .i64 va] 88 #[.int .i64 0, .int .i64 0] (by kernel_rfl) (by kernel_rfl) (Blk.far_row (Blk.newAt _ _ _ (by simp)) (by omega) _) (by kernel_rfl) (by kernel_rfl) (two_one _ _) ?_))
  go_ret
  exact ⟨rfl, HW5.out⟩

theorem walk (C : Array Value) (z : Nat → Int) (kind : Int) (w : World) (h : U64s C 17 z) (hg : ErrT w) :
    Calls Tryd.prog 10 #[.int .i64 kind, .agg C] w fun e w' => e = .returned (.bool true) ∧ Below w.heap.size w w' := by
  by_cases hz : thingOk kind z
  · exact walk_ok C z kind w h hz
  · exact walk_bad C z kind w h hz hg

theorem own : ownKnob Tryd.prog.godebug = none := by kernel_rfl

set_option maxHeartbeats 2000000 in
set_option maxRecDepth 100000 in
theorem lifted (os : Os) (started : os.Started) (H : Type) (enc : TypeId × Value → H) :
    ReturnsInHanded {} Tryd.checked os 10 .any (fun w args => (Rows.objectSizesSpec.pre enc Tryd.prog Tryd.f10 [] false w args ∧ laidMetH Tryd.prog laidE w) ∧ sizedMet enc Tryd.prog Tryd.f10 (OpenSpec.ofChange Rows.objectSizesSpec) false w args) (Rows.objectSizesSpec.post enc Tryd.prog Tryd.f10 false true false false) := by
  refine law_lifted_and (C := Tryd.checked) (X := fun w _ => laidMetH Tryd.prog laidE w) (fun _ _ _ hh h => h.of_heap hh) own started (by kernel_rfl) Tryd.func10
    (ChangeSpec.witness_at (enc := enc) (C := Tryd.checked) (os := os) (X := fun w _ => laidMetH Tryd.prog laidE w) false (laidWorld os) #[.int .i64 0, .agg #[.int .u64 0, .int .u64 0, .int .u64 0, .int .u64 0, .int .u64 0, .int .u64 0, .int .u64 0, .int .u64 0, .int .u64 0, .int .u64 0, .int .u64 0, .int .u64 0, .int .u64 0, .int .u64 0, .int .u64 0, .int .u64 0, .int .u64 0]] 8 rfl (by kernel_rfl) (by kernel_rfl) (by kernel_rfl) (by kernel_rfl) (by kernel_rfl) (laidWorld_met os _))
    (by kernel_rfl) (by kernel_rfl) rfl rfl Tryd.underlying4 ?_
  intro W base args ds ps hval0 hA0 hsz0 hL
  have hg := errT_of_laid hL
  have hval : ∀ (j : Nat) t v, Tryd.f10.params[j]? = some t → args[j]? = some v → Value.okWide Tryd.prog W .any base t v := hval0
  have hA : DataW.TrodAll enc Tryd.prog W 0 (fun _ => true) true Tryd.f10.params.toList args.toList ds ps := hA0
  rw [Tryd.params10] at hA hval
  obtain ⟨v0, v1, d0, d1, p0, p1, rfl, rfl, rfl, h0, h1⟩ := trodAll_two hA
  obtain ⟨kind, rfl, rfl, rfl, wkind⟩ := open_int Tryd.underlying3 (hval 0 3 v0 rfl rfl) h0
  obtain ⟨c, rfl, wc⟩ := open_flat 4 (K := List.replicate 17 .u64) (by kernel_rfl) (by kernel_rfl) (by kernel_rfl) (hval 1 76 v1 rfl rfl) h1
  have hU := flatU 17 wc
  exact ⟨rfl, walk _ c kind W hU hg⟩

theorem kinPlace : (Rows.objectSizesRow.inPlace == Tryd.pinned.checked.prog.inPlace 10) = true := by kernel_rfl
theorem kunfollowed : (Rows.objectSizesRow.unfollowed == Tryd.pinned.checked.prog.unfollowed 10) = true := by kernel_rfl
theorem krecurses : (Rows.objectSizesRow.recurses == Tryd.pinned.checked.prog.recurses 10) = true := by kernel_rfl
theorem knamed : (Rows.objectSizesRow.named == Tryd.pinned.checked.prog.varsNamed 10) = true := by kernel_rfl
theorem closed : joinedFacts Tryd.pinned.checked.prog 10 Tryd.f10 Rows.objectSizesSpec Rows.objectSizesRow = true := by
  unfold joinedFacts
  simp only [Bool.and_eq_true]
  repeat' apply And.intro
  all_goals first | (with_reducible exact kinPlace) | (with_reducible exact kunfollowed) | (with_reducible exact krecurses) | (with_reducible exact knamed) | (with_reducible exact laidOutP) | (with_reducible exact mapsRowedP) | kernel_rfl
theorem goes : false = Rows.objectSizesRow.goesBy Tryd.pinned.checked.prog := by kernel_rfl
theorem wfText : Rows.objectSizesRow.wfByText (OpenSpec.ofChange Rows.objectSizesSpec) = true := by kernel_rfl

theorem row : Rows.ObjectSizesSaid :=
  OpenClaim.holds_of_wide 10 Tryd.f10 rfl rfl rfl rfl rfl rfl rfl ⟨rfl, rfl, rfl, rfl, rfl⟩ rfl rfl rfl rfl rfl (by kernel_rfl) Tryd.func10 closed
    (of_decide_eq_true (by kernel_rfl)) (by unfold Func.isWrapper; first | (rw [if_pos (by decide +kernel)]; kernel_rfl) | (rw [if_neg (by decide +kernel)]; exact ⟨rfl, rfl⟩))
    (fun os started H enc _ => lifted os started H enc)
theorem holds : Rows.ObjectSizesCardSaid :=
  Claim7.holds_tied_plain_at .later [] [.handle] true Rows.objectSizesCard.stood.harness true
    row (fun _ h => by cases h) wfText (fun _ h => by cases h) objectSizes_row_tie rfl ⟨rfl, rfl⟩ (by kernel_rfl) rfl
    (fun f fn hf hfn => by
      obtain rfl : f = 10 := Option.some.inj ((show Tryd.prog.funcNamed Rows.objectSizesRow.func = some 10 by kernel_rfl).symm.trans hf) |>.symm
      obtain rfl : fn = Tryd.f10 := (Option.some.inj (Tryd.func10.symm.trans hfn)).symm
      refine ⟨looksP, fun j t ht => ?_⟩
      have hall : (Tryd.f10.params.toList.all fun t => !(Tryd.prog.wantsStandIn t)) = true := by kernel_rfl
      have hm : t ∈ Tryd.f10.params.toList := List.mem_of_getElem? (by simpa using ht)
      have h := List.all_eq_true.1 hall t hm
      show Tryd.prog.wantsStandIn t = false
      simpa using h)
    goes
#print axioms holds
end Go.Proofs.YtahobohfknnhhaaDoor.lawObjectSizes
