/-
  record.New and the reference's NewRec, for any kind. No condition.
-/
import Derived.Test.YtkoflhjnpilchaaDoorStrC
import Derived.Test.YtkoflhjnpilchaaDoorMErr
import Derived.Test.YtkoflhjnpilchaaDoorRcOf
import Derived.Test.YtkoflhjnpilchaaDoorMSets
namespace Go.Proofs.YtkoflhjnpilchaaDoor
set_option linter.unusedSimpArgs false
set_option linter.unusedVariables false
set_option linter.unusedSectionVars false
open Go.RowKit
attribute [local go_sem ↓] Go.wp_at_zero Go.wp_at_succ

abbrev newRow (kind : Int) : Array Value := #[.int .u64 kind, .int .u64 0, .int .u64 0, .int .u64 0, .int .u64 0, .int .u64 0, .int .u64 0, .int .u64 0, .int .u64 0, .int .u64 0, .int .u64 0, .int .u64 0, .int .u64 0, .int .u64 0, .int .u64 0, .int .u64 0, .int .u64 0, .int .u64 0, .int .u64 0, .int .u64 0, .int .u64 0, .int .u64 0, .int .u64 0, .int .u64 0, .int .u64 0, .int .u64 0, .int .u64 0, .int .u64 0, .int .u64 0, .int .u64 0, .int .u64 0, .int .u64 0]
abbrev recRow (kind : Int) : Array Value := #[.int .i64 kind, .slice none 0 0, .int .i64 0, .int .i64 0, .int .i64 0, .int .i64 0, .int .i64 0, .int .i64 0, .int .i64 0, .int .i64 0, .int .i64 0, .int .i64 0, .int .i64 0, .int .i64 0, .int .i64 0, .int .i64 0, .int .i64 0, .int .i64 0, .int .i64 0, .int .i64 0, .int .i64 0, .int .i64 0, .int .i64 0, .int .i64 0, .int .i64 0, .int .i64 0, .int .i64 0, .int .u64 0, .int .u64 0, .int .u64 0, .int .u64 0, .int .i64 0, .int .i64 0, .int .i64 0, .int .i64 0, .int .u64 0, .int .u64 0]
theorem newU (kind : Int) (h1 : 1 ≤ kind) (h2 : kind ≤ 6) : U64s (newRow kind) 32 (fun i => if i = 0 then kind else 0) := by
  have h := (U64s.zero 32).set_ (k := 0) (v := kind) (by omega)
  exact h.congr (fun i hi => by by_cases e : i = 0 <;> simp [e])

set_option maxRecDepth 100000 in
theorem recNew_bad (kind : Int) (w : World) (hk : kindB kind = false) :
    Calls Tryd.prog 14 #[.int .i64 kind] w fun e w' => e = .returned (.tuple #[.agg #[.int .u64 0, .int .u64 0, .int .u64 0, .int .u64 0, .int .u64 0, .int .u64 0, .int .u64 0, .int .u64 0, .int .u64 0, .int .u64 0, .int .u64 0, .int .u64 0, .int .u64 0, .int .u64 0, .int .u64 0, .int .u64 0, .int .u64 0, .int .u64 0, .int .u64 0, .int .u64 0, .int .u64 0, .int .u64 0, .int .u64 0, .int .u64 0, .int .u64 0, .int .u64 0, .int .u64 0, .int .u64 0, .int .u64 0, .int .u64 0, .int .u64 0, .int .u64 0], .iface 29 (.int .i64 1)]) ∧ Below w.heap.size w w' := by
  have HK := Lib.hid hk
  clear hk
  have HB0 : Hid (Blk (w.alloc (.cells #[.int .u64 0, .int .u64 0, .int .u64 0, .int .u64 0, .int .u64 0, .int .u64 0, .int .u64 0, .int .u64 0, .int .u64 0, .int .u64 0, .int .u64 0, .int .u64 0, .int .u64 0, .int .u64 0, .int .u64 0, .int .u64 0, .int .u64 0, .int .u64 0, .int .u64 0, .int .u64 0, .int .u64 0, .int .u64 0, .int .u64 0, .int .u64 0, .int .u64 0, .int .u64 0, .int .u64 0, .int .u64 0, .int .u64 0, .int .u64 0, .int .u64 0, .int .u64 0] 33)) w.heap.size 33 #[.int .u64 0, .int .u64 0, .int .u64 0, .int .u64 0, .int .u64 0, .int .u64 0, .int .u64 0, .int .u64 0, .int .u64 0, .int .u64 0, .int .u64 0, .int .u64 0, .int .u64 0, .int .u64 0, .int .u64 0, .int .u64 0, .int .u64 0, .int .u64 0, .int .u64 0, .int .u64 0, .int .u64 0, .int .u64 0, .int .u64 0, .int .u64 0, .int .u64 0, .int .u64 0, .int .u64 0, .int .u64 0, .int .u64 0, .int .u64 0, .int .u64 0, .int .u64 0]) := Lib.hid (Blk.new _ _ _)
  go_enter Tryd.func14, Tryd.ntmps14
  generalize hQ : bodyPost Tryd.prog Tryd.f14 (fun e w' => e = .returned (.tuple #[.agg #[.int .u64 0, .int .u64 0, .int .u64 0, .int .u64 0, .int .u64 0, .int .u64 0, .int .u64 0, .int .u64 0, .int .u64 0, .int .u64 0, .int .u64 0, .int .u64 0, .int .u64 0, .int .u64 0, .int .u64 0, .int .u64 0, .int .u64 0, .int .u64 0, .int .u64 0, .int .u64 0, .int .u64 0, .int .u64 0, .int .u64 0, .int .u64 0, .int .u64 0, .int .u64 0, .int .u64 0, .int .u64 0, .int .u64 0, .int .u64 0, .int .u64 0, .int .u64 0], .iface 29 (.int .i64 1)]) ∧ Below w.heap.size w w') = Q
  have HQ := Lib.hid hQ
  clear hQ
  go_wp2_with (first
    | (go_at_call 25; refine (is_any _ _).mono ?_; rintro e w1 ⟨rfl, rfl⟩; rw [HK.out])
    | (with_reducible refine fStore 33 w.heap.size #[.int .u64 0, .int .u64 0, .int .u64 0, .int .u64 0, .int .u64 0, .int .u64 0, .int .u64 0, .int .u64 0, .int .u64 0, .int .u64 0, .int .u64 0, .int .u64 0, .int .u64 0, .int .u64 0, .int .u64 0, .int .u64 0, .int .u64 0, .int .u64 0, .int .u64 0, .int .u64 0, .int .u64 0, .int .u64 0, .int .u64 0, .int .u64 0, .int .u64 0, .int .u64 0, .int .u64 0, .int .u64 0, .int .u64 0, .int .u64 0, .int .u64 0, .int .u64 0] 33 #[.int .u64 0, .int .u64 0, .int .u64 0, .int .u64 0, .int .u64 0, .int .u64 0, .int .u64 0, .int .u64 0, .int .u64 0, .int .u64 0, .int .u64 0, .int .u64 0, .int .u64 0, .int .u64 0, .int .u64 0, .int .u64 0, .int .u64 0, .int .u64 0, .int .u64 0, .int .u64 0, .int .u64 0, .int .u64 0, .int .u64 0, .int .u64 0, .int .u64 0, .int .u64 0, .int .u64 0, .int .u64 0, .int .u64 0, .int .u64 0, .int .u64 0, .int .u64 0] (by kernel_rfl) (by kernel_rfl) HB0.out (by kernel_rfl) (by kernel_rfl) (by kernel_rfl) ?_))
  (try simp only [Exit.inBlock, Exit.then])
  rw [← HQ.out]
  with_reducible refine bodyPost_ret (results_row_tmp Tryd.results14 _ _ w.heap.size 33 #[.int .u64 0, .int .u64 0, .int .u64 0, .int .u64 0, .int .u64 0, .int .u64 0, .int .u64 0, .int .u64 0, .int .u64 0, .int .u64 0, .int .u64 0, .int .u64 0, .int .u64 0, .int .u64 0, .int .u64 0, .int .u64 0, .int .u64 0, .int .u64 0, .int .u64 0, .int .u64 0, .int .u64 0, .int .u64 0, .int .u64 0, .int .u64 0, .int .u64 0, .int .u64 0, .int .u64 0, .int .u64 0, .int .u64 0, .int .u64 0, .int .u64 0, .int .u64 0] _ (.iface 29 (.int .i64 1)) (by kernel_rfl) (by kernel_rfl) (Blk.setRow HB0.out _) Tryd.underlying33 (by kernel_rfl) (by kernel_rfl)) (by kernel_rfl) ?_
  exact ⟨rfl, below_setRow (by go_grown) (Nat.le_refl _) _⟩

set_option maxRecDepth 100000 in
theorem recNew_ok (kind : Int) (w : World) (hk : kindB kind = true) :
    Calls Tryd.prog 14 #[.int .i64 kind] w fun e w' => e = .returned (.tuple #[.agg (newRow kind), .nilIface]) ∧ Below w.heap.size w w' := by
  have hq : 1 ≤ kind ∧ kind ≤ 6 := by simpa [kindB] using hk
  have kw : IntKind.u64.wrap kind = kind := IntWalk.u64_in _ (by omega)
  have km : kind % 18446744073709551616 = kind := by omega
  have HK := Lib.hid hk
  clear hk hq
  have HB0 : Hid (Blk (w.alloc (.cells #[.int .u64 0, .int .u64 0, .int .u64 0, .int .u64 0, .int .u64 0, .int .u64 0, .int .u64 0, .int .u64 0, .int .u64 0, .int .u64 0, .int .u64 0, .int .u64 0, .int .u64 0, .int .u64 0, .int .u64 0, .int .u64 0, .int .u64 0, .int .u64 0, .int .u64 0, .int .u64 0, .int .u64 0, .int .u64 0, .int .u64 0, .int .u64 0, .int .u64 0, .int .u64 0, .int .u64 0, .int .u64 0, .int .u64 0, .int .u64 0, .int .u64 0, .int .u64 0] 33)) w.heap.size 33 #[.int .u64 0, .int .u64 0, .int .u64 0, .int .u64 0, .int .u64 0, .int .u64 0, .int .u64 0, .int .u64 0, .int .u64 0, .int .u64 0, .int .u64 0, .int .u64 0, .int .u64 0, .int .u64 0, .int .u64 0, .int .u64 0, .int .u64 0, .int .u64 0, .int .u64 0, .int .u64 0, .int .u64 0, .int .u64 0, .int .u64 0, .int .u64 0, .int .u64 0, .int .u64 0, .int .u64 0, .int .u64 0, .int .u64 0, .int .u64 0, .int .u64 0, .int .u64 0]) := Lib.hid (Blk.new _ _ _)
  go_enter Tryd.func14, Tryd.ntmps14
  generalize hQ : bodyPost Tryd.prog Tryd.f14 (fun e w' => e = .returned (.tuple #[.agg (newRow kind), .nilIface]) ∧ Below w.heap.size w w') = Q
  have HQ := Lib.hid hQ
  clear hQ
  go_wp2_with (first
    | (go_at_call 25; refine (is_any _ _).mono ?_; rintro e w1 ⟨rfl, rfl⟩; rw [HK.out])
    | (with_reducible refine fStore 33 w.heap.size (newRow kind) 33 #[.int .u64 0, .int .u64 0, .int .u64 0, .int .u64 0, .int .u64 0, .int .u64 0, .int .u64 0, .int .u64 0, .int .u64 0, .int .u64 0, .int .u64 0, .int .u64 0, .int .u64 0, .int .u64 0, .int .u64 0, .int .u64 0, .int .u64 0, .int .u64 0, .int .u64 0, .int .u64 0, .int .u64 0, .int .u64 0, .int .u64 0, .int .u64 0, .int .u64 0, .int .u64 0, .int .u64 0, .int .u64 0, .int .u64 0, .int .u64 0, .int .u64 0, .int .u64 0] (by kernel_rfl) (by kernel_rfl) HB0.out (by kernel_rfl) (by kernel_rfl) (by kernel_rfl) ?_))
  (try simp only [Exit.inBlock, Exit.then])
  rw [← HQ.out]
  with_reducible refine bodyPost_ret (results_row_tmp Tryd.results14 _ _ w.heap.size 33 (newRow kind) _ .nilIface (by kernel_rfl) (by kernel_rfl) (Blk.setRow HB0.out _) Tryd.underlying33 (by kernel_rfl) (by kernel_rfl)) (by kernel_rfl) ?_
  exact ⟨rfl, below_setRow (by go_grown) (Nat.le_refl _) _⟩

set_option maxRecDepth 100000 in
theorem newRec_any (kind : Int) (w : World) : Calls Tryd.prog 10 #[.int .i64 kind] w fun e w' => e = .returned (.agg (recRow kind)) ∧ Below w.heap.size w w' := by
  have HB0 : Hid (Blk (w.alloc (.cells #[.int .i64 0, .slice none 0 0, .int .i64 0, .int .i64 0, .int .i64 0, .int .i64 0, .int .i64 0, .int .i64 0, .int .i64 0, .int .i64 0, .int .i64 0, .int .i64 0, .int .i64 0, .int .i64 0, .int .i64 0, .int .i64 0, .int .i64 0, .int .i64 0, .int .i64 0, .int .i64 0, .int .i64 0, .int .i64 0, .int .i64 0, .int .i64 0, .int .i64 0, .int .i64 0, .int .i64 0, .int .u64 0, .int .u64 0, .int .u64 0, .int .u64 0, .int .i64 0, .int .i64 0, .int .i64 0, .int .i64 0, .int .u64 0, .int .u64 0] 50)) w.heap.size 50 #[.int .i64 0, .slice none 0 0, .int .i64 0, .int .i64 0, .int .i64 0, .int .i64 0, .int .i64 0, .int .i64 0, .int .i64 0, .int .i64 0, .int .i64 0, .int .i64 0, .int .i64 0, .int .i64 0, .int .i64 0, .int .i64 0, .int .i64 0, .int .i64 0, .int .i64 0, .int .i64 0, .int .i64 0, .int .i64 0, .int .i64 0, .int .i64 0, .int .i64 0, .int .i64 0, .int .i64 0, .int .u64 0, .int .u64 0, .int .u64 0, .int .u64 0, .int .i64 0, .int .i64 0, .int .i64 0, .int .i64 0, .int .u64 0, .int .u64 0]) := Lib.hid (Blk.new _ _ _)
  go_enter Tryd.func10, Tryd.ntmps10
  generalize hQ : bodyPost Tryd.prog Tryd.f10 (fun e w' => e = .returned (.agg (recRow kind)) ∧ Below w.heap.size w w') = Q
  have HQ := Lib.hid hQ
  clear hQ
  go_wp2_with (with_reducible refine fStore 50 w.heap.size (recRow kind) 50 #[.int .i64 0, .slice none 0 0, .int .i64 0, .int .i64 0, .int .i64 0, .int .i64 0, .int .i64 0, .int .i64 0, .int .i64 0, .int .i64 0, .int .i64 0, .int .i64 0, .int .i64 0, .int .i64 0, .int .i64 0, .int .i64 0, .int .i64 0, .int .i64 0, .int .i64 0, .int .i64 0, .int .i64 0, .int .i64 0, .int .i64 0, .int .i64 0, .int .i64 0, .int .i64 0, .int .i64 0, .int .u64 0, .int .u64 0, .int .u64 0, .int .u64 0, .int .i64 0, .int .i64 0, .int .i64 0, .int .i64 0, .int .u64 0, .int .u64 0] (by kernel_rfl) (by kernel_rfl) HB0.out (by kernel_rfl) (by kernel_rfl) (by kernel_rfl) ?_)
  (try simp only [Exit.inBlock, Exit.then])
  rw [← HQ.out]
  refine bodyPost_ret (results_cell_row Tryd.results10 _ _ w.heap.size 50 (recRow kind) (0, 0) _ (by kernel_rfl) (Blk.setRow HB0.out _) Tryd.underlying50 (by kernel_rfl) (by kernel_rfl)) (by kernel_rfl) ?_
  exact ⟨rfl, below_setRow (by go_grown) (Nat.le_refl _) _⟩
end Go.Proofs.YtkoflhjnpilchaaDoor
