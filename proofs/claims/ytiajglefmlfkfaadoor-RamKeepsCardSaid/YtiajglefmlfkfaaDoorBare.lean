/-
  api.Tell, plain.Place and the laws' test of errors without a place: of no error, of a bare Errno.
-/
import Derived.Test.YtiajglefmlfkfaaDoorAsHit
namespace Go.Proofs.YtiajglefmlfkfaaDoor
open Go.RowKit Go.Extern.Stop Go.Stop Go.Extern
attribute [local go_sem ↓] Go.wp_at_zero Go.wp_at_succ

/-- No error, or a bare Errno, which is not OK. -/
def errV (e : Int) : Value := if e = 0 then .nilIface else .iface 25 (.int .i64 e)

theorem ta_At (v : Value) (w : World) : (Instr.typeAssert (.iface 25 v) 29 205 true).run Tryd.prog w = .ok (.tuple #[.pointer none, .bool false]) w := by kernel_rfl
theorem ta_Unwrap (v : Value) (w : World) : (Instr.typeAssert (.iface 25 v) 29 215 true).run Tryd.prog w = .ok (.tuple #[.nilIface, .bool false]) w :=
  run_typeAssert_lacksB Tryd.underlying215 (by kernel_rfl) (by kernel_rfl) v 29 w

theorem tell_nil (w : World) : Calls Tryd.prog 122 #[.nilIface] w fun e w' => e = .returned (.int .i64 0) ∧ Below w.heap.size w w' := by
  go_enter Tryd.func122, Tryd.ntmps122
  go_wp2
  go_ret
  exact ⟨rfl, by go_grown⟩
set_option maxHeartbeats 1000000 in
theorem tell_errno (e : Int) (w : World) (hg : ErrT w) : Calls Tryd.prog 122 #[.iface 25 (.int .i64 e)] w fun e' w' => e' = .returned (.int .i64 e) ∧ Below w.heap.size w w' := by
  have hg1 : ErrT (w.alloc (.cells #[.int .i64 0] 25)) := hg.below ((Below.refl _ _).alloc (Nat.le_refl _) _)
  have HG := Lib.hid hg1
  clear hg1 hg
  go_enter Tryd.func122, Tryd.ntmps122
  go_wp2_with (go_at_call 140; refine (as_hit e ⟨w.heap.size, 0, none⟩ (.int .i64 0) _ HG.out (by simp) (by simp)).mono ?_; rintro ev w' ⟨rfl, rfl⟩)
  go_ret
  exact ⟨rfl, by go_grown⟩
set_option maxHeartbeats 1000000 in
theorem place_nil (w : World) : Calls Tryd.prog 72 #[.nilIface] w fun e' w' => e' = .returned (.tuple #[.int .i64 0, .int .i64 (-1)]) ∧ Below w.heap.size w w' := by
  go_enter Tryd.func72, Tryd.ntmps72
  go_wp2_with (go_at_call 122; refine (tell_nil _).mono ?_; rintro ev w' ⟨rfl, hb⟩)
  refine wp_loop_rounds 1 ?_
  rw [rounds_succ]
  go_wp2
  go_ret2
  exact ⟨rfl, hb⟩
set_option maxRecDepth 100000 in
set_option maxHeartbeats 1000000 in
theorem place_errno (e : Int) (w : World) (hg : ErrT w) : Calls Tryd.prog 72 #[.iface 25 (.int .i64 e)] w fun e' w' => e' = .returned (.tuple #[.int .i64 e, .int .i64 (-1)]) ∧ Below w.heap.size w w' := by
  have HG := Lib.hid hg
  clear hg
  have t1 := ta_At
  have t2 := ta_Unwrap
  go_enter Tryd.func72, Tryd.ntmps72
  go_wp2_with (go_at_call 122; refine (tell_errno e _ HG.out).mono ?_; rintro ev w' ⟨rfl, hb⟩)
  refine wp_loop_rounds 1 ?_
  rw [rounds_succ]
  go_wp2
  go_ret2
  exact ⟨rfl, hb⟩
theorem place_any (e : Int) (w : World) (hg : ErrT w) : Calls Tryd.prog 72 #[errV e] w fun e' w' => e' = .returned (.tuple #[.int .i64 e, .int .i64 (-1)]) ∧ Below w.heap.size w w' := by
  unfold errV
  split
  · rename_i h; subst h; exact place_nil w
  · exact place_errno e w hg
/-- The laws' test. -/
theorem bare_any (e x : Int) (w : World) (hg : ErrT w) : Calls Tryd.prog 23 #[errV e, .int .i64 x] w fun e' w' => e' = .returned (.bool (e == x)) ∧ Below w.heap.size w w' := by
  have HG := Lib.hid hg
  clear hg
  generalize hv : errV e = v
  have HV := Lib.hid hv
  clear hv
  go_enter Tryd.func23, Tryd.ntmps23
  go_wp2_with (go_at_call 72; (have hp := place_any e w HG.out; rw [HV.out] at hp; refine hp.mono ?_); rintro ev w' ⟨rfl, hb⟩)
  all_goals (go_ret; refine ⟨ret_bool ?_, hb⟩; simp_all)
end Go.Proofs.YtiajglefmlfkfaaDoor
