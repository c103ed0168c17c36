/-
  What object.slots returns: for any seventeen words.
-/
import Derived.Test.YtahobohfknnhhaaProg
import Derived.Test.YtahobohfknnhhaaKit
import Derived.Test.YtahobohfknnhhaaThing
import Derived.Test.YtahobohfknnhhaaTabR
import Derived.Test.YtahobohfknnhhaaTabD
import Derived.Test.YtahobohfknnhhaaRely
namespace Go.Proofs.Ytahobohfknnhhaa
set_option linter.unusedSimpArgs false
set_option linter.unusedVariables false
set_option linter.unusedSectionVars false
open Go.RowKit
set_option linter.unusedSimpArgs false
set_option linter.unusedVariables false
attribute [local go_sem ↓] Go.wp_at_zero Go.wp_at_succ

def pairOk (z : Nat → Int) (i : Nat) : Prop := z (2 * i) ≤ 1000 ∧ z (2 * i + 1) ≤ 4294967295
def slotsOk (z : Nat → Int) : Prop := (∀ i, i < 8 → pairOk z i) ∧ z 16 = 0 ∧ rightT z = true
def SlotsOut (z : Nat → Int) (w : World) (e : Ending) (w' : World) : Prop :=
  Below w.heap.size w w' ∧ ∃ D y b, e = .returned (.tuple #[.agg D, .bool b]) ∧ I64s D 16 y ∧ (b = true ↔ slotsOk z) ∧ (b = true → ∀ i, i < 16 → y i = z i)

theorem infoTS : (Try.prog.info? 58).map (·.size) = some 16 := by kernel_rfl

/-- The three blocks of object.slots: the words, the result, the slots so far. -/
structure SlS (w W : World) (C R D : Array Value) : Prop where
  words : Blk W w.heap.size 24 C
  res : Blk W (w.heap.size + 1) 58 R
  tab : Blk W (w.heap.size + 2) 58 D
  below : Below w.heap.size w W

theorem SlS.on {w W W' : World} {C R D : Array Value} (h : SlS w W C R D) (hk : Below W.heap.size W W') : SlS w W' C R D :=
  ⟨h.words.below hk h.words.lt, h.res.below hk h.res.lt, h.tab.below hk h.tab.lt, h.below.trans (hk.mono h.below.size)⟩
theorem SlS.put {w W : World} {C R D : Array Value} (h : SlS w W C R D) (i : Nat) (x y : Value) :
    SlS w ((W.setCell ⟨w.heap.size + 1 + 1, i, none⟩ x).setCell ⟨w.heap.size + 1 + 1, i + 1, none⟩ y).drew C R ((D.setIfInBounds i x).setIfInBounds (i + 1) y) :=
  ⟨(h.words.far (by simp; omega) _).far (by simp; omega) _, (h.res.far (by simp) _).far (by simp) _, (h.tab.set_ _ _).set_ _ _, ((h.below.setCell (by show w.heap.size ≤ w.heap.size + 1 + 1; omega) _).setCell (by show w.heap.size ≤ w.heap.size + 1 + 1; omega) _).drew⟩
theorem slotK_put (z : Nat → Int) (k i : Nat) : slotK (k + 1) z i = if i = k * 2 + 1 then z (2 * k + 1) else if i = k * 2 then z (2 * k) else slotK k z i := by
  unfold slotK
  by_cases h1 : i = k * 2 + 1
  · subst h1
    rw [if_pos (by omega), if_pos rfl, show k * 2 + 1 = 2 * k + 1 by omega]
  · rw [if_neg h1]
    by_cases h2 : i = k * 2
    · subst h2
      rw [if_pos (by omega), if_pos rfl, show k * 2 = 2 * k by omega]
    · rw [if_neg h2]
      by_cases h3 : i < 2 * k
      · rw [if_pos h3, if_pos (by omega)]
      · rw [if_neg h3, if_neg (by omega)]
theorem results_row_tmp {P : Program} {fn : Func} {p q : Tmp} {ty : TypeId} (h : fn.results = #[.cell p ty, .tmp q]) (tmps : Array Value) (w : World) (g : Nat) (t : TypeId) (cs : Array Value) (d : TypeDesc) (v : Value)
    (hp : tmps.getD p undef = .pointer (some ⟨g, 0, none⟩)) (hq : tmps.getD q undef = v) (hg : Blk w g t cs)
    (hu : P.underlying ty = some d) (hd : (match d with | .struct _ | .array _ _ => true | _ => false) = true) (hi : (P.info? ty).map (·.size) = some cs.size) :
    (results fn tmps).run P w = .ok (.tuple #[.agg cs, v]) w := by
  have hp' : tmps[p]?.getD undef = .pointer (some ⟨g, 0, none⟩) := by simpa using hp
  have hq' : tmps[q]?.getD undef = v := by simpa using hq
  simp [results, h, hp', hq', asAddr, run_loadVar_row w g t ty cs (0, 0) d hg hu hd hi]

set_option maxRecDepth 100000 in
set_option maxHeartbeats 4000000 in
theorem slots_any (C : Array Value) (z : Nat → Int) (w : World) (h : U64s C 17 z) : Calls Try.prog 16 #[.agg C] w (SlotsOut z w) := by
  have HC := Lib.hid h
  have HS0 : Hid (SlS w (((w.alloc (.cells C 24)).alloc (.cells #[.int .i64 0, .int .i64 0, .int .i64 0, .int .i64 0, .int .i64 0, .int .i64 0, .int .i64 0, .int .i64 0, .int .i64 0, .int .i64 0, .int .i64 0, .int .i64 0, .int .i64 0, .int .i64 0, .int .i64 0, .int .i64 0] 58)).alloc (.cells #[.int .i64 0, .int .i64 0, .int .i64 0, .int .i64 0, .int .i64 0, .int .i64 0, .int .i64 0, .int .i64 0, .int .i64 0, .int .i64 0, .int .i64 0, .int .i64 0, .int .i64 0, .int .i64 0, .int .i64 0, .int .i64 0] 58)) C #[.int .i64 0, .int .i64 0, .int .i64 0, .int .i64 0, .int .i64 0, .int .i64 0, .int .i64 0, .int .i64 0, .int .i64 0, .int .i64 0, .int .i64 0, .int .i64 0, .int .i64 0, .int .i64 0, .int .i64 0, .int .i64 0] #[.int .i64 0, .int .i64 0, .int .i64 0, .int .i64 0, .int .i64 0, .int .i64 0, .int .i64 0, .int .i64 0, .int .i64 0, .int .i64 0, .int .i64 0, .int .i64 0, .int .i64 0, .int .i64 0, .int .i64 0, .int .i64 0]) := Lib.hid
    ⟨((Blk.new _ _ _).alloc _).alloc _, (Blk.newAt _ _ _ (by simp)).alloc _, Blk.newAt _ _ _ (by simp), by go_grown⟩
  have HZ : Hid (I64s #[.int .i64 0, .int .i64 0, .int .i64 0, .int .i64 0, .int .i64 0, .int .i64 0, .int .i64 0, .int .i64 0, .int .i64 0, .int .i64 0, .int .i64 0, .int .i64 0, .int .i64 0, .int .i64 0, .int .i64 0, .int .i64 0] 16 (slotK 0 z)) := Lib.hid ((show I64s #[.int .i64 0, .int .i64 0, .int .i64 0, .int .i64 0, .int .i64 0, .int .i64 0, .int .i64 0, .int .i64 0, .int .i64 0, .int .i64 0, .int .i64 0, .int .i64 0, .int .i64 0, .int .i64 0, .int .i64 0, .int .i64 0] 16 (fun _ => 0) from I64s.zero 16).congr (fun i hi => by unfold slotK; rw [if_neg (by omega)]))
  clear h
  go_enter Try.func16, Try.ntmps16
  go_wp2
  go_loopw [6] (fun i wr => ∃ k : Nat, k ≤ 8 ∧ i = .int .i64 k ∧ Hid (∃ D, SlS w wr C #[.int .i64 0, .int .i64 0, .int .i64 0, .int .i64 0, .int .i64 0, .int .i64 0, .int .i64 0, .int .i64 0, .int .i64 0, .int .i64 0, .int .i64 0, .int .i64 0, .int .i64 0, .int .i64 0, .int .i64 0, .int .i64 0] D ∧ I64s D 16 (slotK k z)) ∧ Hid (∀ j, j < k → pairOk z j)) (fun i _ => 8 - (intOf i).toNat)
  case atStart => exact ⟨0, by omega, rfl, Lib.hid ⟨_, HS0.out, HZ.out⟩, Lib.hid fun j hj => absurd hj (by omega)⟩
  case round =>
    obtain ⟨k, hk, rfl, hD, hall⟩ := hrel
    obtain ⟨D, hL, hI⟩ := hD.out
    have HL := Lib.hid hL
    have HI := Lib.hid hI
    have HIE : Hid ((Try.prog.info? 58).map (·.size) = some D.size) := by show _ = _; rw [infoTS, hI.size]
    by_cases hk8 : k < 8
    · have b1 : (k : Int) < 8 := by omega
      have s0 : wr.cell? ⟨w.heap.size, 2 * k, none⟩ = some (.int .u64 (z (2 * k))) := (hL.words.cell (2 * k)).trans (HC.out.get _ (by omega))
      have s1 : wr.cell? ⟨w.heap.size, 2 * k + 1, none⟩ = some (.int .u64 (z (2 * k + 1))) := (hL.words.cell (2 * k + 1)).trans (HC.out.get _ (by omega))
      have bd0 := HC.out.bd (2 * k) (by omega)
      have bd1 := HC.out.bd (2 * k + 1) (by omega)
      clear hL hI hD
      generalize hx : z (2 * k) = x at s0 bd0
      generalize hy : z (2 * k + 1) = y at s1 bd1
      have HX := Lib.hid hx
      have HY := Lib.hid hy
      clear hx hy
      by_cases hx1 : x ≤ 1000
      · have d1 : decide (1000 < x) = false := by simp; omega
        by_cases hy1 : y ≤ 4294967295
        · have d2 : decide (4294967295 < y) = false := by simp; omega
          have t0 : wr.cell? ⟨w.heap.size + 1 + 1, k * 2, none⟩ = some (.int .i64 (slotK k z (k * 2))) := (HL.out.tab.cell (k * 2)).trans (HI.out.get _ (by omega))
          have t1 : wr.cell? ⟨w.heap.size + 1 + 1, k * 2 + 1, none⟩ = some (.int .i64 (slotK k z (k * 2 + 1))) := (HL.out.tab.cell (k * 2 + 1)).trans (HI.out.get _ (by omega))
          have f0 : wr.frozen? ⟨w.heap.size + 1 + 1, k * 2, none⟩ = false := HL.out.tab.frozen (k * 2)
          have f1 : wr.frozen? ⟨w.heap.size + 1 + 1, k * 2 + 1, none⟩ = false := HL.out.tab.frozen (k * 2 + 1)
          go_wp2
          clear HS0 HZ
          go_region
          apply_assumption
          go_wp2
          go_roundw
          case rel => exact ⟨k + 1, by omega, by go_num, Lib.hid ⟨_, HL.out.put (k * 2) _ _, ((HI.out.set_ (k := k * 2) (v := x) (by omega)).set_ (k := k * 2 + 1) (v := y) (by omega)).congr (fun i hi => by rw [slotK_put, HX.out, HY.out])⟩, Lib.hid fun j hj => by
            rcases Nat.lt_or_ge j k with h | h
            · exact hall.out j h
            · obtain rfl : j = k := by omega
              exact ⟨by rw [HX.out]; exact hx1, by rw [HY.out]; exact hy1⟩⟩
          case measure => simp [intOf]; omega
        · have d2 : decide (4294967295 < y) = true := by simp; omega
          go_wp2_with (first
            | (refine wpList_load_row rfl 58 _ rfl (w.heap.size + 1 + 1) rfl 58 D (0, 0) _ HL.out.tab Try.underlying58 rfl HIE.out ?_)
            | (refine wpList_store_row rfl 58 _ _ rfl (w.heap.size + 1) D rfl rfl 58 #[.int .i64 0, .int .i64 0, .int .i64 0, .int .i64 0, .int .i64 0, .int .i64 0, .int .i64 0, .int .i64 0, .int .i64 0, .int .i64 0, .int .i64 0, .int .i64 0, .int .i64 0, .int .i64 0, .int .i64 0, .int .i64 0] HL.out.res HIE.out (by rw [HI.out.size]; rfl) HI.out.one ?_))
          refine bodyPost_ret (results_row_tmp Try.results16 _ _ (w.heap.size + 1) 58 D _ _ rfl rfl (Blk.setRow HL.out.res D) Try.underlying58 rfl HIE.out) rfl ⟨below_setRow HL.out.below (by simp) _, D, _, false, rfl, HI.out, Iff.intro (fun h => Bool.noConfusion h) (fun h => ?_), fun h => Bool.noConfusion h⟩
          have h1 := (h.1 k hk8).2
          rw [HY.out] at h1
          omega
      · have d1 : decide (1000 < x) = true := by simp; omega
        go_wp2_with (first
          | (refine wpList_load_row rfl 58 _ rfl (w.heap.size + 1 + 1) rfl 58 D (0, 0) _ HL.out.tab Try.underlying58 rfl HIE.out ?_)
          | (refine wpList_store_row rfl 58 _ _ rfl (w.heap.size + 1) D rfl rfl 58 #[.int .i64 0, .int .i64 0, .int .i64 0, .int .i64 0, .int .i64 0, .int .i64 0, .int .i64 0, .int .i64 0, .int .i64 0, .int .i64 0, .int .i64 0, .int .i64 0, .int .i64 0, .int .i64 0, .int .i64 0, .int .i64 0] HL.out.res HIE.out (by rw [HI.out.size]; rfl) HI.out.one ?_))
        refine bodyPost_ret (results_row_tmp Try.results16 _ _ (w.heap.size + 1) 58 D _ _ rfl rfl (Blk.setRow HL.out.res D) Try.underlying58 rfl HIE.out) rfl ⟨below_setRow HL.out.below (by simp) _, D, _, false, rfl, HI.out, Iff.intro (fun h => Bool.noConfusion h) (fun h => ?_), fun h => Bool.noConfusion h⟩
        have h1 := (h.1 k hk8).1
        rw [HX.out] at h1
        omega
    · obtain rfl : k = 8 := by omega
      have HI8 : Hid (I64s D 16 z) := Lib.hid (hI.congr (fun i hi => by unfold slotK; rw [if_pos (by omega)]))
      have s16 : wr.cell? ⟨w.heap.size, 16, none⟩ = some (.int .u64 (z 16)) := (hL.words.cell 16).trans (HC.out.get _ (by omega))
      have hlt1 : w.heap.size < wr.heap.size := hL.words.lt
      clear hL hI hD HS0 HZ
      generalize hx : z 16 = x at s16
      have HX := Lib.hid hx
      clear hx
      by_cases hx0 : x = 0
      · subst hx0
        go_wp2
        refine wp_region_rely 9 (fun b => b = w.heap.size + 1) [8] (by kernel_rfl) (by kernel_rfl) ?_
        iterate 8
          refine wpRely_step (fun K hK => ?_)
          first
          | (refine .inl ?_
             apply Exists.intro
             refine ⟨Any, ?_, hK _ _ _ _ ?_⟩
             · simp only [RelyOp, fillE]
               refine ⟨?_, fun w9 hw9 _ => ?_⟩
               · first | rfl | (go_simp; done)
               have q16 := (hw9.cell (p := ⟨w.heap.size, 16, none⟩) hlt1 (by show ¬ w.heap.size = w.heap.size + 1; omega)).trans s16
               first
               | exact relyAt_load_row 58 _ rfl (w.heap.size + 1 + 1) rfl 58 D _ ((hw9.block (w.heap.size + 1 + 1) HL.out.tab.lt (by omega)).trans HL.out.tab) Try.underlying58 rfl HIE.out ⟨⟨rfl, trivial⟩, Keeps.refl _ _⟩
               | (go_simp
                  first
                  | exact ⟨⟨rfl, trivial⟩, Keeps.refl _ _⟩
                  | (go_at_call 25; exact rely_det (right_any D z _ HI8.out)))
             clear hK K
             try simp only [Act.put, List.setIfInBounds_toArray, List.set_cons_zero, List.set_cons_succ])
          | (refine .inr (.inl ⟨?_, hK _ _ _ _ ?_⟩)
             · simp only [fillE]
               first | rfl | (go_simp; done)
             clear hK K
             try simp only [Act.put, List.setIfInBounds_toArray, List.set_cons_zero, List.set_cons_succ])
        refine wpRely_step (fun K hK => ?_)
        refine .inl ⟨undef, fun _ w' => Blk w' (w.heap.size + 1) 58 D, ?_, hK _ _ _ _ ?_⟩
        · simp only [RelyOp, fillE]
          refine ⟨?_, fun w9 hw9 hm9 => ?_⟩
          · first | rfl | (go_simp; done)
          have hB9 : Blk w9 (w.heap.size + 1) 58 #[.int .i64 0, .int .i64 0, .int .i64 0, .int .i64 0, .int .i64 0, .int .i64 0, .int .i64 0, .int .i64 0, .int .i64 0, .int .i64 0, .int .i64 0, .int .i64 0, .int .i64 0, .int .i64 0, .int .i64 0, .int .i64 0] := (hm9.1.block _ HL.out.res.lt (fun h => calm_out h (by kernel_rfl))).trans HL.out.res
          exact relyAt_store_row 58 _ _ rfl (w.heap.size + 1) D rfl rfl 58 #[.int .i64 0, .int .i64 0, .int .i64 0, .int .i64 0, .int .i64 0, .int .i64 0, .int .i64 0, .int .i64 0, .int .i64 0, .int .i64 0, .int .i64 0, .int .i64 0, .int .i64 0, .int .i64 0, .int .i64 0, .int .i64 0] hB9 HIE.out (by rw [HI8.out.size]; rfl) HI8.out.one ⟨⟨rfl, hB9.setRow D⟩, keeps_setRow (.inl ⟨by decide, rfl⟩) _⟩
        clear hK K
        refine wpRely_nil ?_
        simp only [fillE]
        intro w9 hw9 hmet
        obtain ⟨w0, k0, k1, hF⟩ := hmet.1 rfl
        have HB9 : Hid (Blk w9 (w.heap.size + 1) 58 D) := Lib.hid ((k1.block _ hF.lt (fun h => calm_out h (by kernel_rfl))).trans hF)
        have HW9 : Hid (Below w.heap.size w w9) := Lib.hid (HL.out.below.trans (hw9.below HL.out.below.size (fun b hb e => by omega)))
        clear hmet hF k0 k1
        go_wp2
        refine bodyPost_ret (results_row_tmp Try.results16 _ _ (w.heap.size + 1) 58 D _ _ rfl rfl HB9.out Try.underlying58 rfl HIE.out) rfl ⟨HW9.out, D, z, _, rfl, HI8.out, ?_, fun _ i hi => rfl⟩
        unfold slotsOk
        rw [HX.out]
        exact ⟨fun h => ⟨hall.out, rfl, h⟩, fun h => h.2.2⟩
      · have d1 : (x == 0) = false := by simpa using hx0
        go_wp2
        refine wp_region_rely 9 (fun b => b = w.heap.size + 1) [8] (by kernel_rfl) (by kernel_rfl) ?_
        iterate 8
          refine wpRely_step (fun K hK => ?_)
          first
          | (refine .inl ?_
             apply Exists.intro
             refine ⟨Any, ?_, hK _ _ _ _ ?_⟩
             · simp only [RelyOp, fillE]
               refine ⟨?_, fun w9 hw9 _ => ?_⟩
               · first | rfl | (go_simp; done)
               have q16 := (hw9.cell (p := ⟨w.heap.size, 16, none⟩) hlt1 (by show ¬ w.heap.size = w.heap.size + 1; omega)).trans s16
               first
               | exact relyAt_load_row 58 _ rfl (w.heap.size + 1 + 1) rfl 58 D _ ((hw9.block (w.heap.size + 1 + 1) HL.out.tab.lt (by omega)).trans HL.out.tab) Try.underlying58 rfl HIE.out ⟨⟨rfl, trivial⟩, Keeps.refl _ _⟩
               | (go_simp
                  first
                  | exact ⟨⟨rfl, trivial⟩, Keeps.refl _ _⟩
                  | (go_at_call 25; exact rely_det (right_any D z _ HI8.out)))
             clear hK K
             try simp only [Act.put, List.setIfInBounds_toArray, List.set_cons_zero, List.set_cons_succ])
          | (refine .inr (.inl ⟨?_, hK _ _ _ _ ?_⟩)
             · simp only [fillE]
               first | rfl | (go_simp; done)
             clear hK K
             try simp only [Act.put, List.setIfInBounds_toArray, List.set_cons_zero, List.set_cons_succ])
        refine wpRely_step (fun K hK => ?_)
        refine .inl ⟨undef, fun _ w' => Blk w' (w.heap.size + 1) 58 D, ?_, hK _ _ _ _ ?_⟩
        · simp only [RelyOp, fillE]
          refine ⟨?_, fun w9 hw9 hm9 => ?_⟩
          · first | rfl | (go_simp; done)
          have hB9 : Blk w9 (w.heap.size + 1) 58 #[.int .i64 0, .int .i64 0, .int .i64 0, .int .i64 0, .int .i64 0, .int .i64 0, .int .i64 0, .int .i64 0, .int .i64 0, .int .i64 0, .int .i64 0, .int .i64 0, .int .i64 0, .int .i64 0, .int .i64 0, .int .i64 0] := (hm9.1.block _ HL.out.res.lt (fun h => calm_out h (by kernel_rfl))).trans HL.out.res
          exact relyAt_store_row 58 _ _ rfl (w.heap.size + 1) D rfl rfl 58 #[.int .i64 0, .int .i64 0, .int .i64 0, .int .i64 0, .int .i64 0, .int .i64 0, .int .i64 0, .int .i64 0, .int .i64 0, .int .i64 0, .int .i64 0, .int .i64 0, .int .i64 0, .int .i64 0, .int .i64 0, .int .i64 0] hB9 HIE.out (by rw [HI8.out.size]; rfl) HI8.out.one ⟨⟨rfl, hB9.setRow D⟩, keeps_setRow (.inl ⟨by decide, rfl⟩) _⟩
        clear hK K
        refine wpRely_nil ?_
        simp only [fillE]
        intro w9 hw9 hmet
        obtain ⟨w0, k0, k1, hF⟩ := hmet.1 rfl
        have HB9 : Hid (Blk w9 (w.heap.size + 1) 58 D) := Lib.hid ((k1.block _ hF.lt (fun h => calm_out h (by kernel_rfl))).trans hF)
        have HW9 : Hid (Below w.heap.size w w9) := Lib.hid (HL.out.below.trans (hw9.below HL.out.below.size (fun b hb e => by omega)))
        clear hmet hF k0 k1
        go_wp2
        refine bodyPost_ret (results_row_tmp Try.results16 _ _ (w.heap.size + 1) 58 D _ _ rfl rfl HB9.out Try.underlying58 rfl HIE.out) rfl ⟨HW9.out, D, z, _, rfl, HI8.out, ?_, fun _ i hi => rfl⟩
        unfold slotsOk
        rw [HX.out]
        exact ⟨fun h => Bool.noConfusion h, fun h => absurd h.2.1 hx0⟩
end Go.Proofs.Ytahobohfknnhhaa
