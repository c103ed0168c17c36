/-
  What a record's Kind, Object and Toggle return, and cellsOf: for every record, every thread; for slices of at most 17 words.
-/
import Derived.Test.YtahobohfknnhhaaWordB
namespace Go.Proofs.Ytahobohfknnhhaa
set_option linter.unusedSimpArgs false
set_option linter.unusedVariables false
set_option linter.unusedSectionVars false
open Go.RowKit
attribute [local go_sem ↓] Go.wp_at_zero Go.wp_at_succ

theorem kind_any (C : Array Value) (z : Nat → Int) (w : World) (h : U64s C 32 z) :
    Calls Try.prog 20 #[.agg C] w fun e w' => e = .returned (.int .i64 (if z 0 ≤ 4294967296 then z 0 else 4294967296)) ∧ Below w.heap.size w w' := by
  have h0 := h.get 0 (by decide)
  obtain ⟨b1, b2⟩ := h.bd 0 (by decide)
  have H := Lib.hid h
  clear h
  go_enter Try.func20, Try.ntmps20
  go_wp2
  all_goals (go_ret; refine ⟨ret_int ?_, by go_grown⟩; first | rfl | (split <;> omega))

theorem s2a (b : Nat) (w : World) : (Instr.arrayAt 24 (.slice (some ⟨b, 1, none⟩) 17 31)).run Try.prog w = .ok (.pointer (some ⟨b, 1, none⟩)) w := by kernel_rfl

theorem info34 : (Try.prog.info? 24).map (·.size) = some 17 := by kernel_rfl

theorem object_any (C D : Array Value) (z : Nat → Int) (w : World) (h : U64s C 32 z) (hD : D = C.extract 1 18) :
    Calls Try.prog 21 #[.agg C] w fun e w' => e = .returned (.agg D) ∧ Below w.heap.size w w' := by
  have hs2 := s2a
  have hu : U64s D 17 (fun i => z (1 + i)) := by rw [hD]; exact h.cut 1 17 (by decide)
  have h1 := U64s.one hu
  have hsz := hu.size
  have H := Lib.hid h
  clear h
  have HD := Lib.hid hD
  clear hD
  have HU := Lib.hid hu
  clear hu
  have HS := Lib.hid hsz
  clear hsz
  go_enter Try.func21, Try.ntmps21
  go_wp2_with (first
    | (refine wpList_load_mid rfl 24 _ rfl w.heap.size 1 rfl D.toList _ ?hc Try.underlying24 rfl ?hi ?_)
    | (refine wpList_store_row rfl 24 _ _ rfl (w.heap.size + 1) D rfl rfl 24 #[.int .u64 0, .int .u64 0, .int .u64 0, .int .u64 0, .int .u64 0, .int .u64 0, .int .u64 0, .int .u64 0, .int .u64 0, .int .u64 0, .int .u64 0, .int .u64 0, .int .u64 0, .int .u64 0, .int .u64 0, .int .u64 0, .int .u64 0] ?hg ?hj ?ho h1 ?_))
  case hc =>
    rw [HD.out]
    exact World.rangeAt_of_block (t := 37) (fr := (0, 0)) (((Blk.new w 37 C).alloc _)) 1 17
  case hi => rw [info34, Array.length_toList, HS.out]
  case hg => exact Blk.newAt _ _ _ (by simp)
  case hj => rw [info34, HS.out]
  case ho => rw [HS.out]; rfl
  refine bodyPost_ret (results_cell_row Try.results21 _ _ (w.heap.size + 1) 24 D (0, 0) _ rfl ?_ Try.underlying24 rfl (by rw [info34, HS.out])) rfl ⟨rfl, ?_⟩
  · refine Blk.setRow (cs := #[.int .u64 0, .int .u64 0, .int .u64 0, .int .u64 0, .int .u64 0, .int .u64 0, .int .u64 0, .int .u64 0, .int .u64 0, .int .u64 0, .int .u64 0, .int .u64 0, .int .u64 0, .int .u64 0, .int .u64 0, .int .u64 0, .int .u64 0]) ?_ D
    exact Blk.newAt _ _ _ (by simp)
  · exact below_setRow (by go_grown) (by simp) _

def togN (x : Nat) (t : Int) : Int := if 0 ≤ t ∧ t < 4 ∧ bitB x t = true then 1 else 0

end Go.Proofs.Ytahobohfknnhhaa
