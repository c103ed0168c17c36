/-
  What a record's Kind, Object and Toggle return, and cellsOf: for every record, every thread; for slices of at most 17 words.
-/
import Derived.Test.YtfpfhiogfjlpaaaWordB
namespace Go.Proofs.Ytfpfhiogfjlpaaa
open Go.RowKit
attribute [local go_sem ↓] Go.wp_at_zero Go.wp_at_succ

theorem kind_any (C : Array Value) (z : Nat → Int) (w : World) (h : U64s C 32 z) :
    Calls Try.prog 25 #[.agg C] w fun e w' => e = .returned (.int .i64 (if z 0 ≤ 4294967296 then z 0 else 4294967296)) ∧ Below w.heap.size w w' := by
  have h0 := h.get 0 (by decide)
  obtain ⟨b1, b2⟩ := h.bd 0 (by decide)
  have H := Lib.hid h
  clear h
  go_enter Try.func25, Try.ntmps25
  go_wp2
  all_goals (go_ret; refine ⟨ret_int ?_, by go_grown⟩; first | rfl | (split <;> omega))

theorem s2a (b : Nat) (w : World) : (Instr.arrayAt 34 (.slice (some ⟨b, 1, none⟩) 17 31)).run Try.prog w = .ok (.pointer (some ⟨b, 1, none⟩)) w := by kernel_rfl

theorem info34 : (Try.prog.info? 34).map (·.size) = some 17 := by kernel_rfl

theorem object_any (C D : Array Value) (z : Nat → Int) (w : World) (h : U64s C 32 z) (hD : D = C.extract 1 18) :
    Calls Try.prog 26 #[.agg C] w fun e w' => e = .returned (.agg D) ∧ Below w.heap.size w w' := by
  have hs2 := s2a
  have hu : U64s D 17 (fun i => z (1 + i)) := by rw [hD]; exact h.cut 1 17 (by decide)
  have h1 := U64s.one hu
  have hsz := hu.size
  have H := Lib.hid h
  clear h
  have HD := Lib.hid hD
  clear hD
  have HU := Lib.hid hu
  clear hu
  have HS := Lib.hid hsz
  clear hsz
  go_enter Try.func26, Try.ntmps26
  go_wp2_with (first
    | (refine wpList_load_mid rfl 34 _ rfl w.heap.size 1 rfl D.toList _ ?hc Try.underlying34 rfl ?hi ?_)
    | (refine wpList_store_row rfl 34 _ _ rfl (w.heap.size + 1) D rfl rfl 34 #[.int .u64 0, .int .u64 0, .int .u64 0, .int .u64 0, .int .u64 0, .int .u64 0, .int .u64 0, .int .u64 0, .int .u64 0, .int .u64 0, .int .u64 0, .int .u64 0, .int .u64 0, .int .u64 0, .int .u64 0, .int .u64 0, .int .u64 0] ?hg ?hj ?ho h1 ?_))
  case hc =>
    rw [HD.out]
    exact World.rangeAt_of_block (t := 31) (fr := (0, 0)) (((Blk.new w 31 C).alloc _)) 1 17
  case hi => rw [info34, Array.length_toList, HS.out]
  case hg => exact Blk.newAt _ _ _ (by simp)
  case hj => rw [info34, HS.out]
  case ho => rw [HS.out]; rfl
  refine bodyPost_ret (results_cell_row Try.results26 _ _ (w.heap.size + 1) 34 D (0, 0) _ rfl ?_ Try.underlying34 rfl (by rw [info34, HS.out])) rfl ⟨rfl, ?_⟩
  · refine Blk.setRow (cs := #[.int .u64 0, .int .u64 0, .int .u64 0, .int .u64 0, .int .u64 0, .int .u64 0, .int .u64 0, .int .u64 0, .int .u64 0, .int .u64 0, .int .u64 0, .int .u64 0, .int .u64 0, .int .u64 0, .int .u64 0, .int .u64 0, .int .u64 0]) ?_ D
    exact Blk.newAt _ _ _ (by simp)
  · exact below_setRow (by go_grown) (by simp) _

def togN (x : Nat) (t : Int) : Int := if 0 ≤ t ∧ t < 4 ∧ bitB x t = true then 1 else 0

set_option maxRecDepth 100000 in
theorem toggle_any (C : Array Value) (z : Nat → Int) (t : Int) (w : World) (h : U64s C 32 z) :
    Calls Try.prog 28 #[.agg C, .int .i64 t] w fun e w' => e = .returned (.int .i64 (togN (z 26).toNat t)) ∧ Below w.heap.size w w' := by
  have h0 := h.get 26 (by decide)
  obtain ⟨b1, b2⟩ := h.bd 26 (by decide)
  obtain ⟨x, hx⟩ := Int.eq_ofNat_of_zero_le b1
  rw [hx] at h0 b2
  have HX := Lib.hid hx
  clear hx b1
  have hx64 : x < 18446744073709551616 := by omega
  have HB := Lib.hid hx64
  clear b2 hx64
  have H := Lib.hid h
  clear h
  go_enter Try.func28, Try.ntmps28
  go_wp2_with (go_at_call 19; refine (bit_any _ _ _ HB.out).mono ?_; rintro e w1 ⟨rfl, rfl⟩)
  all_goals (go_ret; refine ⟨ret_int ?_, by go_grown⟩; rw [HX.out]; simp_all [togN]; try omega)

set_option maxRecDepth 100000 in
theorem cellsOf_any (A : Option Addr) (n c : Nat) (z : Nat → Int) (w : World) (h : SlU w A n c z) (hn : n ≤ 17) (D : Array Value) (hD : U64s D 17 (fun i => if i < n then z i else 0)) :
    Calls Try.prog 27 #[.slice A n c] w fun e w' => e = .returned (.agg D) ∧ Below w.heap.size w w' := by
  have H := Lib.hid h
  clear h
  have HD := Lib.hid hD
  clear hD
  have hD1 := HD.out.one
  have hDs := Lib.hid HD.out.size
  have hn0 : 0 ≤ (n : Int) := by omega
  go_enter Try.func27, Try.ntmps27
  go_wp2
  go_loopw [4] (fun i wr => ∃ k : Nat, k ≤ n ∧ i = .int .i64 k ∧ Hid (∃ E, Blk wr (w.heap.size + 1) 34 E ∧ U64s E 17 (fun i => if i < k then z i else 0)) ∧ Hid (Blk wr w.heap.size 34 #[.int .u64 0, .int .u64 0, .int .u64 0, .int .u64 0, .int .u64 0, .int .u64 0, .int .u64 0, .int .u64 0, .int .u64 0, .int .u64 0, .int .u64 0, .int .u64 0, .int .u64 0, .int .u64 0, .int .u64 0, .int .u64 0, .int .u64 0]) ∧ Below w.heap.size w wr) (fun i _ => n - (intOf i).toNat)
  case atStart => exact ⟨0, by omega, rfl, Lib.hid ⟨#[.int .u64 0, .int .u64 0, .int .u64 0, .int .u64 0, .int .u64 0, .int .u64 0, .int .u64 0, .int .u64 0, .int .u64 0, .int .u64 0, .int .u64 0, .int .u64 0, .int .u64 0, .int .u64 0, .int .u64 0, .int .u64 0, .int .u64 0], Blk.newAt _ _ _ (by simp), (U64s.zero 17).congr (fun i hi => by simp)⟩, Lib.hid ((Blk.new _ _ _).alloc _), by go_grown⟩
  case round =>
    obtain ⟨k, hk, rfl, hE, hR, hb⟩ := hrel
    obtain ⟨E, hblk, hU⟩ := hE.out
    clear hE
    have HU := Lib.hid hU
    clear hU
    have HBl := Lib.hid hblk
    clear hblk
    have hk17 : k ≤ 17 := by omega
    have hbz := hb.size
    by_cases hkn : k < n
    · obtain ⟨b, off, rfl, hblt, hcell⟩ := H.out.at_ (by omega)
      have hc := (hb.cell (p := ⟨b, off + k, none⟩) hblt).trans (hcell k hkn)
      clear hcell
      have hbd := H.out.bd k hkn
      have hc2 : wr.cell? ⟨w.heap.size + 1, k, none⟩ = some (.int .u64 0) := by
        rw [HBl.out.cell, HU.out.get k (by omega), if_neg (by omega)]
      have hf : wr.frozen? ⟨w.heap.size + 1, k, none⟩ = false := HBl.out.frozen k
      have q1 : (k : Int) < 17 := by omega
      go_wp2
      go_roundw
      case rel => exact ⟨k + 1, by omega, by go_num, Lib.hid ⟨_, HBl.out.set_ k _, (HU.out.set_ hbd).congr (fun i hi => by
          by_cases h1 : i = k
          · subst h1; simp
          · by_cases h2 : i < k
            · rw [if_pos (by omega), if_neg h1, if_pos h2]
            · rw [if_neg (by omega), if_neg h1, if_neg h2])⟩, Lib.hid (hR.out.far (by simp) _), hb.setCell (by simp) _⟩
      case measure => simp [intOf]; omega
    · obtain rfl : k = n := by omega
      have hED : E = D := HU.out.ext HD.out
      subst hED
      go_wp2_with (first
        | (refine wpList_load_row rfl 34 _ rfl (w.heap.size + 1) rfl 34 E (0, 0) _ ?ha Try.underlying34 rfl ?hb1 ?_)
        | (refine wpList_store_row rfl 34 _ _ rfl w.heap.size E rfl rfl 34 #[.int .u64 0, .int .u64 0, .int .u64 0, .int .u64 0, .int .u64 0, .int .u64 0, .int .u64 0, .int .u64 0, .int .u64 0, .int .u64 0, .int .u64 0, .int .u64 0, .int .u64 0, .int .u64 0, .int .u64 0, .int .u64 0, .int .u64 0] ?hg ?hj ?ho hD1 ?_))
      case ha => exact HBl.out
      case hb1 => rw [info34, hDs.out]
      case hg => exact hR.out
      case hj => rw [info34, hDs.out]
      case ho => rw [hDs.out]; rfl
      refine bodyPost_ret (results_cell_row Try.results27 _ _ w.heap.size 34 E (0, 0) _ rfl (hR.out.setRow E) Try.underlying34 rfl (by rw [info34, hDs.out])) rfl ⟨rfl, below_setRow hb (Nat.le_refl _) _⟩
end Go.Proofs.Ytfpfhiogfjlpaaa
