/-
  Legal returns what the reference returns, for every kind and any deeds. No condition beyond the tied variable.
-/
import Derived.Test.YtahobohfknnhhaaDoorRows
import Derived.Test.YtahobohfknnhhaaDoorCards
import Derived.Test.YtahobohfknnhhaaDoorTie
import Derived.Test.YtahobohfknnhhaaDoorCardB
import Derived.SevenTiedAt
import Derived.Test.YtahobohfknnhhaaDoorMBase
import Derived.Test.YtahobohfknnhhaaDoorLegR
import Derived.Test.YtahobohfknnhhaaDoorMAt
import Derived.Test.YtahobohfknnhhaaDoorMWord
namespace Go.Proofs.YtahobohfknnhhaaDoor.lawJudgeLegal
set_option linter.unusedSimpArgs false
set_option linter.unusedVariables false
set_option linter.unusedSectionVars false
open Go.RowKit Go.ChangeShapes Go.WideShapes Go.ChangeAt Go.Joins

attribute [local go_sem ↓] Go.wp_at_zero Go.wp_at_succ
set_option linter.unusedSimpArgs false
set_option linter.unusedVariables false

theorem legal_none (kind : Int) (A : Option Addr) (n c : Nat) (w : World) (hk : ¬ (1 ≤ kind ∧ kind ≤ 6)) :
    Calls Tryd.prog 38 #[.int .i64 kind, .slice A n c] w (LegOut #[.int .u64 0, .int .u64 0, .int .u64 0, .int .u64 0, .int .u64 0, .int .u64 0, .int .u64 0, .int .u64 0, .int .u64 0, .int .u64 0, .int .u64 0, .int .u64 0, .int .u64 0, .int .u64 0, .int .u64 0, .int .u64 0, .int .u64 0] 1 (-1) w) := by
  have HIS : Hid (decide (1 ≤ kind ∧ kind ≤ 6) = false) := Lib.hid (by rw [decide_eq_false_iff_not]; exact hk)
  clear hk
  have HB1 : Hid (Blk ((w.alloc (.cells #[.int .u64 0, .int .u64 0, .int .u64 0, .int .u64 0, .int .u64 0, .int .u64 0, .int .u64 0, .int .u64 0, .int .u64 0, .int .u64 0, .int .u64 0, .int .u64 0, .int .u64 0, .int .u64 0, .int .u64 0, .int .u64 0, .int .u64 0] 76)).alloc (.cells #[.int .u64 0, .int .u64 0, .int .u64 0, .int .u64 0, .int .u64 0, .int .u64 0, .int .u64 0, .int .u64 0, .int .u64 0, .int .u64 0, .int .u64 0, .int .u64 0, .int .u64 0, .int .u64 0, .int .u64 0, .int .u64 0, .int .u64 0] 76)) (w.heap.size + 1) 76 #[.int .u64 0, .int .u64 0, .int .u64 0, .int .u64 0, .int .u64 0, .int .u64 0, .int .u64 0, .int .u64 0, .int .u64 0, .int .u64 0, .int .u64 0, .int .u64 0, .int .u64 0, .int .u64 0, .int .u64 0, .int .u64 0, .int .u64 0]) := Lib.hid (Blk.newAt _ _ _ (by simp))
  have HB0 : Hid (Blk ((w.alloc (.cells #[.int .u64 0, .int .u64 0, .int .u64 0, .int .u64 0, .int .u64 0, .int .u64 0, .int .u64 0, .int .u64 0, .int .u64 0, .int .u64 0, .int .u64 0, .int .u64 0, .int .u64 0, .int .u64 0, .int .u64 0, .int .u64 0, .int .u64 0] 76)).alloc (.cells #[.int .u64 0, .int .u64 0, .int .u64 0, .int .u64 0, .int .u64 0, .int .u64 0, .int .u64 0, .int .u64 0, .int .u64 0, .int .u64 0, .int .u64 0, .int .u64 0, .int .u64 0, .int .u64 0, .int .u64 0, .int .u64 0, .int .u64 0] 76)) w.heap.size 76 #[.int .u64 0, .int .u64 0, .int .u64 0, .int .u64 0, .int .u64 0, .int .u64 0, .int .u64 0, .int .u64 0, .int .u64 0, .int .u64 0, .int .u64 0, .int .u64 0, .int .u64 0, .int .u64 0, .int .u64 0, .int .u64 0, .int .u64 0]) := Lib.hid ((Blk.new _ _ _).alloc _)
  go_enter Tryd.func38, Tryd.ntmps38
  generalize hQ : bodyPost Tryd.prog Tryd.f38 (LegOut #[.int .u64 0, .int .u64 0, .int .u64 0, .int .u64 0, .int .u64 0, .int .u64 0, .int .u64 0, .int .u64 0, .int .u64 0, .int .u64 0, .int .u64 0, .int .u64 0, .int .u64 0, .int .u64 0, .int .u64 0, .int .u64 0, .int .u64 0] 1 (-1) w) = Q
  have HQ := Lib.hid hQ
  clear hQ
  go_wp2_with (first
    | (go_at_call 85; refine (objIs_any _ _).mono ?_; rintro e w1 ⟨rfl, rfl⟩; rw [HIS.out])
    | (with_reducible refine fLoad 76 (w.heap.size + 1) 76 #[.int .u64 0, .int .u64 0, .int .u64 0, .int .u64 0, .int .u64 0, .int .u64 0, .int .u64 0, .int .u64 0, .int .u64 0, .int .u64 0, .int .u64 0, .int .u64 0, .int .u64 0, .int .u64 0, .int .u64 0, .int .u64 0, .int .u64 0] (by kernel_rfl) HB1.out Tryd.underlying76 (by kernel_rfl) (by kernel_rfl) ?_)
    | (with_reducible refine fStore 76 w.heap.size #[.int .u64 0, .int .u64 0, .int .u64 0, .int .u64 0, .int .u64 0, .int .u64 0, .int .u64 0, .int .u64 0, .int .u64 0, .int .u64 0, .int .u64 0, .int .u64 0, .int .u64 0, .int .u64 0, .int .u64 0, .int .u64 0, .int .u64 0] 76 #[.int .u64 0, .int .u64 0, .int .u64 0, .int .u64 0, .int .u64 0, .int .u64 0, .int .u64 0, .int .u64 0, .int .u64 0, .int .u64 0, .int .u64 0, .int .u64 0, .int .u64 0, .int .u64 0, .int .u64 0, .int .u64 0, .int .u64 0] (by kernel_rfl) (by kernel_rfl) HB0.out (by kernel_rfl) (by kernel_rfl) (by kernel_rfl) ?_))
  (try simp only [Exit.inBlock, Exit.then])
  rw [← HQ.out]
  with_reducible refine bodyPost_ret (results_row_tmp Tryd.results38 _ _ w.heap.size 76 #[.int .u64 0, .int .u64 0, .int .u64 0, .int .u64 0, .int .u64 0, .int .u64 0, .int .u64 0, .int .u64 0, .int .u64 0, .int .u64 0, .int .u64 0, .int .u64 0, .int .u64 0, .int .u64 0, .int .u64 0, .int .u64 0, .int .u64 0] _ (.iface 38 (.int .i64 1)) (by kernel_rfl) (by kernel_rfl) (Blk.setRow HB0.out _) Tryd.underlying76 (by kernel_rfl) (by kernel_rfl)) (by kernel_rfl) ?_
  exact ⟨below_setRow (by go_grown) (Nat.le_refl _) _, _, rfl, .inl ⟨by simp [errV], rfl⟩⟩
/-- The reference's slice reads as D. -/
def RLegOut (D : Array Value) (e0 p0 : Int) (w : World) (e : Ending) (w' : World) : Prop :=
  Below w.heap.size w w' ∧ ∃ A n c z, e = .returned (.tuple #[.slice A n c, .agg #[.int .i64 e0, .int .i64 p0]]) ∧ SlU w' A n c z ∧ n ≤ 17 ∧ U64s D 17 (fun i => if i < n then z i else 0)
theorem refLegal_none (kind : Int) (A : Option Addr) (n c : Nat) (w : World) (hk : ¬ (1 ≤ kind ∧ kind ≤ 6)) :
    Calls Tryd.prog 37 #[.int .i64 kind, .slice A n c] w (RLegOut #[.int .u64 0, .int .u64 0, .int .u64 0, .int .u64 0, .int .u64 0, .int .u64 0, .int .u64 0, .int .u64 0, .int .u64 0, .int .u64 0, .int .u64 0, .int .u64 0, .int .u64 0, .int .u64 0, .int .u64 0, .int .u64 0, .int .u64 0] 1 (-1) w) := by
  have HIS : Hid (withinB kind 1 6 = false) := Lib.hid (by unfold withinB; rw [decide_eq_false_iff_not]; exact hk)
  clear hk
  have HB0 : Hid (Blk (w.alloc (.cells #[.int .i64 0, .int .i64 0] 72)) w.heap.size 72 #[.int .i64 0, .int .i64 0]) := Lib.hid (Blk.new _ _ _)
  go_enter Tryd.func37, Tryd.ntmps37
  generalize hQ : bodyPost Tryd.prog Tryd.f37 (RLegOut #[.int .u64 0, .int .u64 0, .int .u64 0, .int .u64 0, .int .u64 0, .int .u64 0, .int .u64 0, .int .u64 0, .int .u64 0, .int .u64 0, .int .u64 0, .int .u64 0, .int .u64 0, .int .u64 0, .int .u64 0, .int .u64 0, .int .u64 0] 1 (-1) w) = Q
  have HQ := Lib.hid hQ
  clear hQ
  go_wp2_with (go_at_call 46; refine (within_any _ _ _ _).mono ?_; rintro e w1 ⟨rfl, rfl⟩; rw [HIS.out])
  with_reducible refine (refBare_any 1 _).mono ?_
  rintro e w1 ⟨rfl, hb1⟩
  have HB1 := Lib.hid (HB0.out.below hb1 HB0.out.lt)
  have HW1 : Hid (Below w.heap.size w w1) := Lib.hid (Below.trans (by go_grown) (hb1.mono (by simp)))
  clear hb1
  go_wp2_with (with_reducible refine fStore 72 w.heap.size #[.int .i64 1, .int .i64 (-1)] 72 #[.int .i64 0, .int .i64 0] (by kernel_rfl) (by kernel_rfl) HB1.out (by kernel_rfl) (by kernel_rfl) (two_one _ _) ?_)
  (try simp only [Exit.inBlock, Exit.then])
  rw [← HQ.out]
  with_reducible refine bodyPost_ret (results_tmp_row Tryd.results37 _ _ w.heap.size 72 #[.int .i64 1, .int .i64 (-1)] _ (.slice none 0 0) (by kernel_rfl) (by kernel_rfl) (Blk.setRow HB1.out _) Tryd.underlying72 (by kernel_rfl) (by kernel_rfl)) (by kernel_rfl) ?_
  exact ⟨below_setRow HW1.out (Nat.le_refl _) _, none, 0, 0, fun _ => 0, rfl, ⟨Nat.le_refl _, by decide, fun i hi => absurd hi (by omega), fun h => absurd h (by omega)⟩, by omega, (U64s.zero 17).congr (fun i hi => by simp)⟩

set_option maxRecDepth 100000 in
set_option maxHeartbeats 4000000 in
theorem walk_core (kind : Int) (A : Option Addr) (n c : Nat) (e0 p0 : Int) (D : Array Value) (w : World) (hn : n ≤ 60) (hDU : ∃ zz, U64s D 17 zz) (hg : ErrT w)
    (href : ∀ W : World, Below w.heap.size w W → Calls Tryd.prog 37 #[.int .i64 kind, .slice A n c] W (RLegOut D e0 p0 W))
    (hjud : ∀ W : World, Below w.heap.size w W → Calls Tryd.prog 38 #[.int .i64 kind, .slice A n c] W (LegOut D e0 p0 W)) :
    Calls Tryd.prog 11 #[.int .i64 kind, .slice A n c] w fun e w' => e = .returned (.bool true) ∧ Below w.heap.size w w' := by
  obtain ⟨zz, hzz⟩ := hDU
  have HID : Hid ((Tryd.prog.info? 76).map (·.size) = some D.size) := by show _ = _; rw [infoOC, hzz.size]
  have HDS := Lib.hid hzz.size
  have HD1 := Lib.hid hzz.one
  have heq := eq_cells hzz
  have HREF := Lib.hid href
  have HJ := Lib.hid hjud
  have HG := Lib.hid hg
  have hn0 : (n : Int) ≤ 60 := by omega
  have d60 : decide (60 < (n : Int)) = false := by simp; omega
  clear href hjud hg hzz
  go_enter Tryd.func11, Tryd.ntmps11
  go_wp2_with fail
  with_reducible refine (HREF.out _ (Below.refl _ _)).mono ?_
  rintro e w1 ⟨hb1, A1, n1, c1, z1, rfl, hS1, hn1, hU1⟩
  have hB1 := (hb1.alloc hb1.size (.cells #[.int .i64 e0, .int .i64 p0] 72))
  have HF1 := Lib.hid (Blk.new w1 72 #[.int .i64 e0, .int .i64 p0])
  have HS1 := Lib.hid (hS1.below ((Below.refl _ _).alloc (Nat.le_refl _) (.cells #[.int .i64 e0, .int .i64 p0] 72)))
  have HU1 := Lib.hid hU1
  have HB1 := Lib.hid hB1
  clear hb1 hS1 hU1 hB1
  go_wp2_with fail
  with_reducible refine (HJ.out _ HB1.out).mono ?_
  rintro e w2 ⟨hb2, err, rfl, hPE⟩
  have HF2 := Lib.hid (HF1.out.below hb2 HF1.out.lt)
  have HS2 := Lib.hid (HS1.out.below hb2)
  have HB2 := Lib.hid (HB1.out.trans (hb2.mono HB1.out.size))
  have hlt2 := HF2.out.lt
  have hB3 : Below w2.heap.size w2 ((w2.alloc (.cells #[.int .u64 0, .int .u64 0, .int .u64 0, .int .u64 0, .int .u64 0, .int .u64 0, .int .u64 0, .int .u64 0, .int .u64 0, .int .u64 0, .int .u64 0, .int .u64 0, .int .u64 0, .int .u64 0, .int .u64 0, .int .u64 0, .int .u64 0] 76)).setRow w2.heap.size D) := below_setRow ((Below.refl _ _).alloc (Nat.le_refl _) _) (Nat.le_refl _) D
  have HF3 := Lib.hid (HF2.out.below hB3 HF2.out.lt)
  have HS3 := Lib.hid (HS2.out.below hB3)
  have HP3 := Lib.hid (hPE.below hB3)
  have HC3 := Lib.hid (Blk.setRow (Blk.new w2 76 #[.int .u64 0, .int .u64 0, .int .u64 0, .int .u64 0, .int .u64 0, .int .u64 0, .int .u64 0, .int .u64 0, .int .u64 0, .int .u64 0, .int .u64 0, .int .u64 0, .int .u64 0, .int .u64 0, .int .u64 0, .int .u64 0, .int .u64 0]) D)
  have HB3 := Lib.hid (HB2.out.trans (hB3.mono HB2.out.size))
  have HG3 := Lib.hid (HG.out.below HB3.out)
  clear hb2 hPE hB3
  go_wp2_with (with_reducible refine fStore 76 w2.heap.size D 76 #[.int .u64 0, .int .u64 0, .int .u64 0, .int .u64 0, .int .u64 0, .int .u64 0, .int .u64 0, .int .u64 0, .int .u64 0, .int .u64 0, .int .u64 0, .int .u64 0, .int .u64 0, .int .u64 0, .int .u64 0, .int .u64 0, .int .u64 0] (by kernel_rfl) (by kernel_rfl) (Blk.new _ _ _) HID.out (by rw [HDS.out]; kernel_rfl) HD1.out ?_)
  generalize (w2.alloc (.cells #[.int .u64 0, .int .u64 0, .int .u64 0, .int .u64 0, .int .u64 0, .int .u64 0, .int .u64 0, .int .u64 0, .int .u64 0, .int .u64 0, .int .u64 0, .int .u64 0, .int .u64 0, .int .u64 0, .int .u64 0, .int .u64 0, .int .u64 0] 76)).setRow w2.heap.size D = W3 at *
  generalize w1.heap.size = g1 at *
  generalize w2.heap.size = g2 at *
  refine wp_region_relyA 9 nowhere [] (by kernel_rfl) (by kernel_rfl) ?_
  intro anc HA
  iterate 9
    first | (with_reducible refine wpRely_step (fun K hK => ?_)) | (refine wpRely_step (fun K hK => ?_))
    refine .inl ?_
    apply Exists.intro
    refine ⟨Any, ?_, hK _ _ _ _ ?_⟩
    · simp only [RelyOp, fillE]
      refine ⟨?_, fun w9 hw9 _ => ?_⟩
      · first | rfl | (go_simp; done)
      first
      | (refine relyAt_load_row 76 _ rfl g2 rfl 76 D _ (HC3.out.below hw9.same HC3.out.lt) Tryd.underlying76 rfl HID.out ⟨⟨rfl, trivial⟩, Keeps.refl _ _⟩)
      | (refine relyAt_load_row 72 _ rfl g1 rfl 72 #[.int .i64 e0, .int .i64 p0] _ (HF3.out.below hw9.same HF3.out.lt) Tryd.underlying72 rfl (by kernel_rfl) ⟨⟨rfl, trivial⟩, Keeps.refl _ _⟩)
      | (go_simp
         first
         | exact ⟨⟨rfl, trivial⟩, Keeps.refl _ _⟩
         | (go_at_call 27; exact rely_det (placed_any err e0 p0 _ (HP3.out.below hw9.same) (HG3.out.below hw9.same)))
         | (go_at_call 34; exact rely_det (cellsOf_any A1 n1 c1 z1 _ (HS3.out.below hw9.same) hn1 D HU1.out)))
    clear hK K
    try simp only [Act.put, List.setIfInBounds_toArray, List.set_cons_zero, List.set_cons_succ]
  first | (with_reducible refine wpRely_nil ?_) | (refine wpRely_nil ?_)
  simp only [fillE]
  intro w9 hw9 hmet
  clear hmet
  have HW9 := Lib.hid (HB3.out.trans (hw9.same.mono HB3.out.size))
  simp only [List.drop_succ_cons, List.drop_zero]
  go_wp2
  go_ret
  exact ⟨rfl, HW9.out⟩

theorem walk (kind : Int) (A : Option Addr) (n c : Nat) (f : Nat → Nat → Int) (w : World) (hs : SlF K6 w A n c f) (hg : ErrT w) :
    Calls Tryd.prog 11 #[.int .i64 kind, .slice A n c] w fun e w' => e = .returned (.bool true) ∧ Below w.heap.size w w' := by
  by_cases hn : n ≤ 60
  · by_cases hk : 1 ≤ kind ∧ kind ≤ 6
    · obtain ⟨g, hR⟩ := runs_exists kind f
      obtain ⟨K, hK⟩ := lupto_exists kind f g n
      obtain ⟨D, hD⟩ : ∃ D, U64s D 17 (if K = n then g n else fun _ => 0) := by
        by_cases e : K = n
        · rw [if_pos e]
          exact U64s.ex _ 17 (runs_ok hk hR n (fun j hj => hK.2.1 j (by omega))).2
        · rw [if_neg e]
          exact ⟨_, U64s.zero 17⟩
      refine walk_core kind A n c (if K = n then 0 else 13) (if K = n then -1 else K) D w hn ⟨_, hD⟩ hg (fun W hW => ?_) (fun W hW => ?_)
      · refine (refLegal_any kind f g A n c K W ?_ hn hk hR hK).mono ?_
        · exact ⟨hs.cap, hs.cap63, hs.wf, fun hp => by
            obtain ⟨b, off, h1, h2, h3⟩ := hs.at_ hp
            exact ⟨b, off, h1, Nat.lt_of_lt_of_le h2 hW.size, fun i j hi hj => (hW.cell (p := ⟨b, off + i * K6.length + j, none⟩) h2).trans (h3 i j hi hj)⟩⟩
        · rintro e w' ⟨hB, sl, rfl, h1, h2⟩
          refine ⟨hB, ?_⟩
          by_cases e : K = n
          · obtain ⟨gb, E, rfl, hE, hU⟩ := h1 e
            refine ⟨_, 17, 17, g n, rfl, ?_, by omega, ?_⟩
            · have := SlU.of_blk (n := 17) (c := 17) (o := 0) hE hU (by omega) (by omega) (by omega)
              simpa using this
            · rw [if_pos e] at hD
              exact hD.congr (fun i hi => by rw [if_pos hi])
          · rw [h2 e]
            refine ⟨none, 0, 0, fun _ => 0, rfl, ⟨Nat.le_refl _, by decide, fun i hi => absurd hi (by omega), fun h => absurd h (by omega)⟩, by omega, ?_⟩
            rw [if_neg e] at hD
            exact hD.congr (fun i hi => by simp)
      · refine legal_any kind f g A n c K W ?_ hn hk hR hK D hD
        exact ⟨hs.cap, hs.cap63, hs.wf, fun hp => by
            obtain ⟨b, off, h1, h2, h3⟩ := hs.at_ hp
            exact ⟨b, off, h1, Nat.lt_of_lt_of_le h2 hW.size, fun i j hi hj => (hW.cell (p := ⟨b, off + i * K6.length + j, none⟩) h2).trans (h3 i j hi hj)⟩⟩
    · exact walk_core kind A n c 1 (-1) #[.int .u64 0, .int .u64 0, .int .u64 0, .int .u64 0, .int .u64 0, .int .u64 0, .int .u64 0, .int .u64 0, .int .u64 0, .int .u64 0, .int .u64 0, .int .u64 0, .int .u64 0, .int .u64 0, .int .u64 0, .int .u64 0, .int .u64 0] w hn ⟨_, U64s.zero 17⟩ hg (fun W hW => refLegal_none kind A n c W hk) (fun W hW => legal_none kind A n c W hk)
  · have d60 : decide (60 < (n : Int)) = true := by simp; omega
    have hgt : (60 : Int) < n := by omega
    go_enter Tryd.func11, Tryd.ntmps11
    go_wp2
    go_ret
    exact ⟨rfl, by go_grown⟩

theorem own : ownKnob Tryd.prog.godebug = none := by kernel_rfl

set_option maxHeartbeats 2000000 in
set_option maxRecDepth 100000 in
theorem lifted (os : Os) (started : os.Started) (H : Type) (enc : TypeId × Value → H) :
    ReturnsInHanded {} Tryd.checked os 11 .any (fun w args => (Rows.judgeLegalSpec.pre enc Tryd.prog Tryd.f11 [] false w args ∧ laidMetH Tryd.prog laidE w) ∧ sizedMet enc Tryd.prog Tryd.f11 (OpenSpec.ofChange Rows.judgeLegalSpec) false w args) (Rows.judgeLegalSpec.post enc Tryd.prog Tryd.f11 false true false false) := by
  refine law_lifted_and (C := Tryd.checked) (X := fun w _ => laidMetH Tryd.prog laidE w) (fun _ _ _ hh h => h.of_heap hh) own started (by kernel_rfl) Tryd.func11
    (ChangeSpec.witness_at (enc := enc) (C := Tryd.checked) (os := os) (X := fun w _ => laidMetH Tryd.prog laidE w) false (laidWorld os) #[.int .i64 0, .slice none 0 0] 8 rfl (by kernel_rfl) (by kernel_rfl) (by kernel_rfl) (by kernel_rfl) (by kernel_rfl) (laidWorld_met os _))
    (by kernel_rfl) (by kernel_rfl) rfl rfl Tryd.underlying4 ?_
  intro W base args ds ps hval0 hA0 hsz0 hL
  have hg := errT_of_laid hL
  have hval : ∀ (j : Nat) t v, Tryd.f11.params[j]? = some t → args[j]? = some v → Value.okWide Tryd.prog W .any base t v := hval0
  have hA : DataW.TrodAll enc Tryd.prog W 0 (fun _ => true) true Tryd.f11.params.toList args.toList ds ps := hA0
  rw [Tryd.params11] at hA hval
  obtain ⟨v0, v1, d0, d1, p0, p1, rfl, rfl, rfl, h0, h1⟩ := trodAll_two hA
  obtain ⟨kind, rfl, rfl, rfl, wkind⟩ := open_int Tryd.underlying3 (hval 0 3 v0 rfl rfl) h0
  obtain ⟨lA, ln, lc, l, rfl, lh⟩ := open_slF (K := [.i64, .i64, .i64, .i64, .i64, .i64]) 4 Tryd.underlying68 (by kernel_rfl) (by kernel_rfl) (by decide) (hval 1 68 v1 rfl rfl) h1
  exact ⟨rfl, walk kind lA ln lc l W lh hg⟩

theorem kinPlace : (Rows.judgeLegalRow.inPlace == Tryd.pinned.checked.prog.inPlace 11) = true := by kernel_rfl
theorem kunfollowed : (Rows.judgeLegalRow.unfollowed == Tryd.pinned.checked.prog.unfollowed 11) = true := by kernel_rfl
theorem krecurses : (Rows.judgeLegalRow.recurses == Tryd.pinned.checked.prog.recurses 11) = true := by kernel_rfl
theorem knamed : (Rows.judgeLegalRow.named == Tryd.pinned.checked.prog.varsNamed 11) = true := by kernel_rfl
theorem closed : joinedFacts Tryd.pinned.checked.prog 11 Tryd.f11 Rows.judgeLegalSpec Rows.judgeLegalRow = true := by
  unfold joinedFacts
  simp only [Bool.and_eq_true]
  repeat' apply And.intro
  all_goals first | (with_reducible exact kinPlace) | (with_reducible exact kunfollowed) | (with_reducible exact krecurses) | (with_reducible exact knamed) | (with_reducible exact laidOutP) | (with_reducible exact mapsRowedP) | kernel_rfl
theorem goes : false = Rows.judgeLegalRow.goesBy Tryd.pinned.checked.prog := by kernel_rfl
theorem wfText : Rows.judgeLegalRow.wfByText (OpenSpec.ofChange Rows.judgeLegalSpec) = true := by kernel_rfl

theorem row : Rows.JudgeLegalSaid :=
  OpenClaim.holds_of_wide 11 Tryd.f11 rfl rfl rfl rfl rfl rfl rfl ⟨rfl, rfl, rfl, rfl, rfl⟩ rfl rfl rfl rfl rfl (by kernel_rfl) Tryd.func11 closed
    (of_decide_eq_true (by kernel_rfl)) (by unfold Func.isWrapper; first | (rw [if_pos (by decide +kernel)]; kernel_rfl) | (rw [if_neg (by decide +kernel)]; exact ⟨rfl, rfl⟩))
    (fun os started H enc _ => lifted os started H enc)
theorem holds : Rows.JudgeLegalCardSaid :=
  Claim7.holds_tied_plain_at .later [] [.handle] true Rows.judgeLegalCard.stood.harness true
    row (fun _ h => by cases h) wfText (fun _ h => by cases h) judgeLegal_row_tie rfl ⟨rfl, rfl⟩ (by kernel_rfl) rfl
    (fun f fn hf hfn => by
      obtain rfl : f = 11 := Option.some.inj ((show Tryd.prog.funcNamed Rows.judgeLegalRow.func = some 11 by kernel_rfl).symm.trans hf) |>.symm
      obtain rfl : fn = Tryd.f11 := (Option.some.inj (Tryd.func11.symm.trans hfn)).symm
      refine ⟨looksP, fun j t ht => ?_⟩
      have hall : (Tryd.f11.params.toList.all fun t => !(Tryd.prog.wantsStandIn t)) = true := by kernel_rfl
      have hm : t ∈ Tryd.f11.params.toList := List.mem_of_getElem? (by simpa using ht)
      have h := List.all_eq_true.1 hall t hm
      show Tryd.prog.wantsStandIn t = false
      simpa using h)
    goes
#print axioms holds
end Go.Proofs.YtahobohfknnhhaaDoor.lawJudgeLegal
