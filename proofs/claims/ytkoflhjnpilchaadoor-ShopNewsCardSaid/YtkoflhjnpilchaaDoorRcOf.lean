/-
  The laws' recordOf: a slice of up to 32 words as a Record. No condition.
-/
import Derived.Test.YtkoflhjnpilchaaDoorMBase
namespace Go.Proofs.YtkoflhjnpilchaaDoor
set_option linter.unusedSimpArgs false
set_option linter.unusedVariables false
set_option linter.unusedSectionVars false
open Go.RowKit
attribute [local go_sem ↓] Go.wp_at_zero Go.wp_at_succ
theorem infoRO : (Tryd.prog.info? 33).map (·.size) = some 32 := by kernel_rfl

set_option maxRecDepth 100000 in
theorem recordOf_any (A : Option Addr) (n c : Nat) (z : Nat → Int) (w : World) (h : SlU w A n c z) (hn : n ≤ 32) (D : Array Value) (hD : U64s D 32 (fun i => if i < n then z i else 0)) :
    Calls Tryd.prog 9 #[.slice A n c] w fun e w' => e = .returned (.agg D) ∧ Below w.heap.size w w' := by
  have H := Lib.hid h
  clear h
  have HD := Lib.hid hD
  clear hD
  have hD1 := HD.out.one
  have hDs := Lib.hid HD.out.size
  have hn0 : 0 ≤ (n : Int) := by omega
  go_enter Tryd.func9, Tryd.ntmps9
  go_wp2
  go_loopw [4] (fun i wr => ∃ k : Nat, k ≤ n ∧ i = .int .i64 k ∧ Hid (∃ E, Blk wr (w.heap.size + 1) 33 E ∧ U64s E 32 (fun i => if i < k then z i else 0)) ∧ Hid (Blk wr w.heap.size 33 #[.int .u64 0, .int .u64 0, .int .u64 0, .int .u64 0, .int .u64 0, .int .u64 0, .int .u64 0, .int .u64 0, .int .u64 0, .int .u64 0, .int .u64 0, .int .u64 0, .int .u64 0, .int .u64 0, .int .u64 0, .int .u64 0, .int .u64 0, .int .u64 0, .int .u64 0, .int .u64 0, .int .u64 0, .int .u64 0, .int .u64 0, .int .u64 0, .int .u64 0, .int .u64 0, .int .u64 0, .int .u64 0, .int .u64 0, .int .u64 0, .int .u64 0, .int .u64 0]) ∧ Below w.heap.size w wr) (fun i _ => n - (intOf i).toNat)
  case atStart => exact ⟨0, by omega, rfl, Lib.hid ⟨#[.int .u64 0, .int .u64 0, .int .u64 0, .int .u64 0, .int .u64 0, .int .u64 0, .int .u64 0, .int .u64 0, .int .u64 0, .int .u64 0, .int .u64 0, .int .u64 0, .int .u64 0, .int .u64 0, .int .u64 0, .int .u64 0, .int .u64 0, .int .u64 0, .int .u64 0, .int .u64 0, .int .u64 0, .int .u64 0, .int .u64 0, .int .u64 0, .int .u64 0, .int .u64 0, .int .u64 0, .int .u64 0, .int .u64 0, .int .u64 0, .int .u64 0, .int .u64 0], Blk.newAt _ _ _ (by simp), (U64s.zero 32).congr (fun i hi => by simp)⟩, Lib.hid ((Blk.new _ _ _).alloc _), by go_grown⟩
  case round =>
    obtain ⟨k, hk, rfl, hE, hR, hb⟩ := hrel
    obtain ⟨E, hblk, hU⟩ := hE.out
    clear hE
    have HU := Lib.hid hU
    clear hU
    have HBl := Lib.hid hblk
    clear hblk
    have hk17 : k ≤ 32 := by omega
    have hbz := hb.size
    by_cases hkn : k < n
    · obtain ⟨b, off, rfl, hblt, hcell⟩ := H.out.at_ (by omega)
      have hc := (hb.cell (p := ⟨b, off + k, none⟩) hblt).trans (hcell k hkn)
      clear hcell
      have hbd := H.out.bd k hkn
      have hc2 : wr.cell? ⟨w.heap.size + 1, k, none⟩ = some (.int .u64 0) := by
        rw [HBl.out.cell, HU.out.get k (by omega), if_neg (by omega)]
      have hf : wr.frozen? ⟨w.heap.size + 1, k, none⟩ = false := HBl.out.frozen k
      have q1 : (k : Int) < 32 := by omega
      go_wp2
      go_roundw
      case rel => exact ⟨k + 1, by omega, by go_num, Lib.hid ⟨_, HBl.out.set_ k _, (HU.out.set_ hbd).congr (fun i hi => by
          by_cases h1 : i = k
          · subst h1; simp
          · by_cases h2 : i < k
            · rw [if_pos (by omega), if_neg h1, if_pos h2]
            · rw [if_neg (by omega), if_neg h1, if_neg h2])⟩, Lib.hid (hR.out.far (by simp) _), hb.setCell (by simp) _⟩
      case measure => simp [intOf]; omega
    · obtain rfl : k = n := by omega
      have hED : E = D := HU.out.ext HD.out
      subst hED
      go_wp2_with (first
        | (refine wpList_load_row rfl 33 _ rfl (w.heap.size + 1) rfl 33 E (0, 0) _ ?ha Tryd.underlying33 rfl ?hb1 ?_)
        | (refine wpList_store_row rfl 33 _ _ rfl w.heap.size E rfl rfl 33 #[.int .u64 0, .int .u64 0, .int .u64 0, .int .u64 0, .int .u64 0, .int .u64 0, .int .u64 0, .int .u64 0, .int .u64 0, .int .u64 0, .int .u64 0, .int .u64 0, .int .u64 0, .int .u64 0, .int .u64 0, .int .u64 0, .int .u64 0, .int .u64 0, .int .u64 0, .int .u64 0, .int .u64 0, .int .u64 0, .int .u64 0, .int .u64 0, .int .u64 0, .int .u64 0, .int .u64 0, .int .u64 0, .int .u64 0, .int .u64 0, .int .u64 0, .int .u64 0] ?hg ?hj ?ho hD1 ?_))
      case ha => exact HBl.out
      case hb1 => rw [infoRO, hDs.out]
      case hg => exact hR.out
      case hj => rw [infoRO, hDs.out]
      case ho => rw [hDs.out]; rfl
      refine bodyPost_ret (results_cell_row Tryd.results9 _ _ w.heap.size 33 E (0, 0) _ rfl (hR.out.setRow E) Tryd.underlying33 rfl (by rw [infoRO, hDs.out])) rfl ⟨rfl, below_setRow hb (Nat.le_refl _) _⟩
end Go.Proofs.YtkoflhjnpilchaaDoor
