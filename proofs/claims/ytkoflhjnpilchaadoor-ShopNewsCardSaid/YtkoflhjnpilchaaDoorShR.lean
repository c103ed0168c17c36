/-
  What the program's shop tells of its store: the version that counts, and its record.
-/
import Derived.Test.YtkoflhjnpilchaaDoorShP
import Derived.Test.YtkoflhjnpilchaaDoorStW
namespace Go.Proofs.YtkoflhjnpilchaaDoor
set_option linter.unusedSimpArgs false
set_option linter.unusedVariables false
set_option linter.unusedSectionVars false
open Go.RowKit
set_option linter.unusedSimpArgs false
set_option linter.unusedVariables false
attribute [local go_sem ↓] Go.wp_at_zero Go.wp_at_succ

theorem shVersion (p gs V : Nat) (C : Array Value) (s : Sst) (w : World) (hp : Blk w p 70 C) (h1 : C[1]? = some (ptr gs)) (hs : Blk w gs 99 (stA s)) (hv : s.now 0 = (V : Int)) (hV : V ≤ 9223372036854775807) :
    Calls Tryd.prog 7 #[.pointer (some ⟨p, 0, none⟩)] w fun e w' => e = .returned (.int .i64 (V : Int)) ∧ w = w' := by
  have c1 : w.cell? ⟨p, 1, none⟩ = some (.pointer (some ⟨gs, 0, none⟩)) := by rw [hp.cell, h1]; rfl
  have HL := stLoad_in gs 0 s w hs (by omega)
  rw [hv] at HL
  rw [show ((0 : Nat) : Int) = (0 : Int) from rfl] at HL
  have HL' := Lib.hid HL
  have q1 : (V : Int) ≤ 9223372036854775807 := by omega
  clear HL hv hp h1 hs
  go_enter Tryd.func7, Tryd.ntmps7
  go_wp2_with fail
  with_reducible refine HL'.out.mono ?_
  rintro e w1 ⟨rfl, rfl⟩
  go_wp2
  go_ret
  exact ⟨rfl, rfl⟩
def baseV (V : Nat) : Nat := 8 + V % 2 * 32
theorem infoRS : (Tryd.prog.info? 33).map (·.size) = some 32 := by kernel_rfl

set_option maxRecDepth 100000 in
set_option maxHeartbeats 1000000 in
theorem shRecord (p gs V : Nat) (C : Array Value) (s : Sst) (w : World) (hp : Blk w p 70 C) (h1 : C[1]? = some (ptr gs)) (hs : Blk w gs 99 (stA s)) (hv : s.now 0 = (V : Int)) (hV : V ≤ 9223372036854775807) (hok : s.Ok)
    (D : Array Value) (hD : U64s D 32 (fun i => s.now (baseV V + i))) :
    Calls Tryd.prog 8 #[.pointer (some ⟨p, 0, none⟩)] w fun e w' => e = .returned (.agg D) ∧ Below w.heap.size w w' := by
  obtain ⟨B, hB, hB2⟩ : ∃ B : Nat, B = baseV V ∧ ((V : Int) % 2 = 0 ∧ B = 8 ∨ (V : Int) % 2 = 1 ∧ B = 40) := ⟨_, rfl, by unfold baseV; omega⟩
  rw [← hB] at hD
  clear hB
  have HP := Lib.hid hp
  have HS := Lib.hid hs
  have H1 := Lib.hid h1
  have HD := Lib.hid hD
  have hDs := Lib.hid hD.size
  have HV := Lib.hid hv
  have HOK := Lib.hid hok
  have v0 : (0 : Int) ≤ V := by omega
  have v1 : (V : Int) ≤ 9223372036854775807 := by omega
  clear hp hs h1 hD hv hok
  rcases hB2 with ⟨hm, hB⟩ | ⟨hm, hB⟩
  · subst hB
    go_enter Tryd.func8, Tryd.ntmps8
    go_wp2_with fail
    with_reducible refine (shVersion p gs V C s _ ((HP.out.alloc _).alloc _) H1.out ((HS.out.alloc _).alloc _) HV.out hV).mono ?_
    rintro e w1 ⟨rfl, rfl⟩
    go_wp2
    clear hm
    go_loopw [13] (fun i wr => ∃ k : Nat, k ≤ 32 ∧ i = .int .i64 k ∧ Hid (∃ E, Blk wr (w.heap.size + 1) 33 E ∧ U64s E 32 (fun i => if i < k then s.now (8 + i) else 0)) ∧ Hid (Blk wr w.heap.size 33 #[.int .u64 0, .int .u64 0, .int .u64 0, .int .u64 0, .int .u64 0, .int .u64 0, .int .u64 0, .int .u64 0, .int .u64 0, .int .u64 0, .int .u64 0, .int .u64 0, .int .u64 0, .int .u64 0, .int .u64 0, .int .u64 0, .int .u64 0, .int .u64 0, .int .u64 0, .int .u64 0, .int .u64 0, .int .u64 0, .int .u64 0, .int .u64 0, .int .u64 0, .int .u64 0, .int .u64 0, .int .u64 0, .int .u64 0, .int .u64 0, .int .u64 0, .int .u64 0]) ∧ Below w.heap.size w wr) (fun i _ => 32 - (intOf i).toNat)
    case atStart => exact ⟨0, by omega, rfl, Lib.hid ⟨#[.int .u64 0, .int .u64 0, .int .u64 0, .int .u64 0, .int .u64 0, .int .u64 0, .int .u64 0, .int .u64 0, .int .u64 0, .int .u64 0, .int .u64 0, .int .u64 0, .int .u64 0, .int .u64 0, .int .u64 0, .int .u64 0, .int .u64 0, .int .u64 0, .int .u64 0, .int .u64 0, .int .u64 0, .int .u64 0, .int .u64 0, .int .u64 0, .int .u64 0, .int .u64 0, .int .u64 0, .int .u64 0, .int .u64 0, .int .u64 0, .int .u64 0, .int .u64 0], Blk.newAt _ _ _ (by simp), (U64s.zero 32).congr (fun i hi => by simp)⟩, Lib.hid ((Blk.new _ _ _).alloc _), by go_grown⟩
    case round =>
      obtain ⟨k, hk, rfl, hE, hR, hb⟩ := hrel
      obtain ⟨E, hblk, hU⟩ := hE.out
      clear hE
      have HU := Lib.hid hU
      clear hU
      have HBl := Lib.hid hblk
      clear hblk
      have hbz := hb.size
      by_cases hkn : k < 32
      · have q1 : (k : Int) < 32 := by omega
        have hbd := HOK.out.now (8 + k) (by omega)
        have c1 : wr.cell? ⟨p, 1, none⟩ = some (.pointer (some ⟨gs, 0, none⟩)) := by rw [(HP.out.below hb HP.out.lt).cell, H1.out]; rfl
        have HL := stLoad_in gs (8 + k) s wr (HS.out.below hb HS.out.lt) (by omega)
        rw [show ((8 + k : Nat) : Int) = 8 + (k : Int) by omega] at HL
        have HL' := Lib.hid HL
        clear HL
        have hc2 : wr.cell? ⟨w.heap.size + 1, k, none⟩ = some (.int .u64 0) := by
          rw [HBl.out.cell, HU.out.get k (by omega), if_neg (by omega)]
        have hf : wr.frozen? ⟨w.heap.size + 1, k, none⟩ = false := HBl.out.frozen k
        go_wp2_with fail
        with_reducible refine HL'.out.mono ?_
        rintro e w1 ⟨rfl, rfl⟩
        go_wp2
        go_roundw
        case rel => exact ⟨k + 1, by omega, by go_num, Lib.hid ⟨_, HBl.out.set_ k _, (HU.out.set_ hbd).congr (fun i hi => by
            by_cases h1 : i = k
            · subst h1; simp
            · by_cases h2 : i < k
              · rw [if_pos (by omega), if_neg h1, if_pos h2]
              · rw [if_neg (by omega), if_neg h1, if_neg h2])⟩, Lib.hid (hR.out.far (by simp) _), hb.setCell (by simp) _⟩
        case measure => simp [intOf]; omega
      · obtain rfl : k = 32 := by omega
        have hED : E = D := (HU.out.congr (z' := fun i => s.now (8 + i)) (fun i hi => by rw [if_pos hi])).ext HD.out
        subst hED
        have q1 : ¬ ((32 : Nat) : Int) < 32 := by omega
        go_wp2_with (first
          | (with_reducible refine fLoad 33 (w.heap.size + 1) 33 E (by kernel_rfl) HBl.out Tryd.underlying33 (by kernel_rfl) (by rw [infoRS, hDs.out]) ?_)
          | (with_reducible refine fStore 33 w.heap.size E 33 #[.int .u64 0, .int .u64 0, .int .u64 0, .int .u64 0, .int .u64 0, .int .u64 0, .int .u64 0, .int .u64 0, .int .u64 0, .int .u64 0, .int .u64 0, .int .u64 0, .int .u64 0, .int .u64 0, .int .u64 0, .int .u64 0, .int .u64 0, .int .u64 0, .int .u64 0, .int .u64 0, .int .u64 0, .int .u64 0, .int .u64 0, .int .u64 0, .int .u64 0, .int .u64 0, .int .u64 0, .int .u64 0, .int .u64 0, .int .u64 0, .int .u64 0, .int .u64 0] (by kernel_rfl) (by kernel_rfl) hR.out (by rw [infoRS, hDs.out]) (by rw [hDs.out]; kernel_rfl) HD.out.one ?_))
        refine bodyPost_ret (results_cell_row Tryd.results8 _ _ w.heap.size 33 E (0, 0) _ rfl (hR.out.setRow E) Tryd.underlying33 rfl (by rw [infoRS, hDs.out])) rfl ⟨rfl, below_setRow hb (Nat.le_refl _) _⟩
  · subst hB
    go_enter Tryd.func8, Tryd.ntmps8
    go_wp2_with fail
    with_reducible refine (shVersion p gs V C s _ ((HP.out.alloc _).alloc _) H1.out ((HS.out.alloc _).alloc _) HV.out hV).mono ?_
    rintro e w1 ⟨rfl, rfl⟩
    go_wp2
    clear hm
    go_loopw [13] (fun i wr => ∃ k : Nat, k ≤ 32 ∧ i = .int .i64 k ∧ Hid (∃ E, Blk wr (w.heap.size + 1) 33 E ∧ U64s E 32 (fun i => if i < k then s.now (40 + i) else 0)) ∧ Hid (Blk wr w.heap.size 33 #[.int .u64 0, .int .u64 0, .int .u64 0, .int .u64 0, .int .u64 0, .int .u64 0, .int .u64 0, .int .u64 0, .int .u64 0, .int .u64 0, .int .u64 0, .int .u64 0, .int .u64 0, .int .u64 0, .int .u64 0, .int .u64 0, .int .u64 0, .int .u64 0, .int .u64 0, .int .u64 0, .int .u64 0, .int .u64 0, .int .u64 0, .int .u64 0, .int .u64 0, .int .u64 0, .int .u64 0, .int .u64 0, .int .u64 0, .int .u64 0, .int .u64 0, .int .u64 0]) ∧ Below w.heap.size w wr) (fun i _ => 32 - (intOf i).toNat)
    case atStart => exact ⟨0, by omega, rfl, Lib.hid ⟨#[.int .u64 0, .int .u64 0, .int .u64 0, .int .u64 0, .int .u64 0, .int .u64 0, .int .u64 0, .int .u64 0, .int .u64 0, .int .u64 0, .int .u64 0, .int .u64 0, .int .u64 0, .int .u64 0, .int .u64 0, .int .u64 0, .int .u64 0, .int .u64 0, .int .u64 0, .int .u64 0, .int .u64 0, .int .u64 0, .int .u64 0, .int .u64 0, .int .u64 0, .int .u64 0, .int .u64 0, .int .u64 0, .int .u64 0, .int .u64 0, .int .u64 0, .int .u64 0], Blk.newAt _ _ _ (by simp), (U64s.zero 32).congr (fun i hi => by simp)⟩, Lib.hid ((Blk.new _ _ _).alloc _), by go_grown⟩
    case round =>
      obtain ⟨k, hk, rfl, hE, hR, hb⟩ := hrel
      obtain ⟨E, hblk, hU⟩ := hE.out
      clear hE
      have HU := Lib.hid hU
      clear hU
      have HBl := Lib.hid hblk
      clear hblk
      have hbz := hb.size
      by_cases hkn : k < 32
      · have q1 : (k : Int) < 32 := by omega
        have hbd := HOK.out.now (40 + k) (by omega)
        have c1 : wr.cell? ⟨p, 1, none⟩ = some (.pointer (some ⟨gs, 0, none⟩)) := by rw [(HP.out.below hb HP.out.lt).cell, H1.out]; rfl
        have HL := stLoad_in gs (40 + k) s wr (HS.out.below hb HS.out.lt) (by omega)
        rw [show ((40 + k : Nat) : Int) = 40 + (k : Int) by omega] at HL
        have HL' := Lib.hid HL
        clear HL
        have hc2 : wr.cell? ⟨w.heap.size + 1, k, none⟩ = some (.int .u64 0) := by
          rw [HBl.out.cell, HU.out.get k (by omega), if_neg (by omega)]
        have hf : wr.frozen? ⟨w.heap.size + 1, k, none⟩ = false := HBl.out.frozen k
        go_wp2_with fail
        with_reducible refine HL'.out.mono ?_
        rintro e w1 ⟨rfl, rfl⟩
        go_wp2
        go_roundw
        case rel => exact ⟨k + 1, by omega, by go_num, Lib.hid ⟨_, HBl.out.set_ k _, (HU.out.set_ hbd).congr (fun i hi => by
            by_cases h1 : i = k
            · subst h1; simp
            · by_cases h2 : i < k
              · rw [if_pos (by omega), if_neg h1, if_pos h2]
              · rw [if_neg (by omega), if_neg h1, if_neg h2])⟩, Lib.hid (hR.out.far (by simp) _), hb.setCell (by simp) _⟩
        case measure => simp [intOf]; omega
      · obtain rfl : k = 32 := by omega
        have hED : E = D := (HU.out.congr (z' := fun i => s.now (40 + i)) (fun i hi => by rw [if_pos hi])).ext HD.out
        subst hED
        have q1 : ¬ ((32 : Nat) : Int) < 32 := by omega
        go_wp2_with (first
          | (with_reducible refine fLoad 33 (w.heap.size + 1) 33 E (by kernel_rfl) HBl.out Tryd.underlying33 (by kernel_rfl) (by rw [infoRS, hDs.out]) ?_)
          | (with_reducible refine fStore 33 w.heap.size E 33 #[.int .u64 0, .int .u64 0, .int .u64 0, .int .u64 0, .int .u64 0, .int .u64 0, .int .u64 0, .int .u64 0, .int .u64 0, .int .u64 0, .int .u64 0, .int .u64 0, .int .u64 0, .int .u64 0, .int .u64 0, .int .u64 0, .int .u64 0, .int .u64 0, .int .u64 0, .int .u64 0, .int .u64 0, .int .u64 0, .int .u64 0, .int .u64 0, .int .u64 0, .int .u64 0, .int .u64 0, .int .u64 0, .int .u64 0, .int .u64 0, .int .u64 0, .int .u64 0] (by kernel_rfl) (by kernel_rfl) hR.out (by rw [infoRS, hDs.out]) (by rw [hDs.out]; kernel_rfl) HD.out.one ?_))
        refine bodyPost_ret (results_cell_row Tryd.results8 _ _ w.heap.size 33 E (0, 0) _ rfl (hR.out.setRow E) Tryd.underlying33 rfl (by rw [infoRS, hDs.out])) rfl ⟨rfl, below_setRow hb (Nat.le_refl _) _⟩
end Go.Proofs.YtkoflhjnpilchaaDoor
