/-
  What (record.Record).Answer returns. For every record and thread.
-/
import Derived.Test.YtkoflhjnpilchaaGreatDoorOf
namespace Go.Proofs.YtkoflhjnpilchaaGreatDoor
set_option linter.unusedSimpArgs false
set_option linter.unusedVariables false
set_option linter.unusedSectionVars false
open Go.RowKit
attribute [local go_sem ↓] Go.wp_at_zero Go.wp_at_succ

theorem answer_out (C : Array Value) (t : Int) (w : World) (ho : t < 0 ∨ (0 ≤ t ∧ 4 ≤ t)) :
    Calls Tryz.prog 21 #[.agg C, .int .i64 t] w fun e w' => e = .returned (.tuple #[.agg #[.int .i64 0, .int .i64 0], .int .i64 0, errV 2]) ∧ Below w.heap.size w w' := by
  have e3 : errV 2 = .iface 28 (.int .i64 2) := by simp [errV]
  rw [e3]
  clear e3
  rcases ho with ho | ⟨ho1, ho2⟩
  all_goals
    go_enter Tryz.func21, Tryz.ntmps21
    go_wp2
    refine bodyPost_ret (by simp [results, Tryz.results21, go_sem]; try rfl) rfl ?_
    exact ⟨rfl, by go_grown⟩

set_option linter.unusedSimpArgs false in
theorem answer_no (C : Array Value) (z : Nat → Int) (t x p q : Nat) (w : World) (h : U64s C 32 z) (ht : t < 4) (hx : z (18 + t) = (x : Int)) (hp : x / 4294967296 = p) (hq : x % 4294967296 = q) (hr : fitsB p q = false) :
    Calls Tryz.prog 21 #[.agg C, .int .i64 t] w fun e w' => e = .returned (.tuple #[.agg #[.int .i64 0, .int .i64 0], .int .i64 0, errV 8]) ∧ Below w.heap.size w w' := by
  have e3 : errV 8 = .iface 28 (.int .i64 8) := by simp [errV]
  rw [e3]
  clear e3
  have hx64 : x < 18446744073709551616 := by have := h.bd (18 + t) (by omega); omega
  have htold : ∀ w, Calls Tryz.prog 34 #[.int .u64 x] w fun e w' => e = .returned (.tuple #[.agg #[.int .i64 0, .int .i64 0], .iface 28 (.int .i64 3)]) ∧ Below w.heap.size w w' := fun w => by
    have := told_any x p q w hx64 hp hq
    rw [hr] at this
    simpa [toldC, toldV, hr, okE, errV] using this
  have HT := Lib.hid htold
  have t4 : decide ((4 : Int) ≤ t) = false := by simp; omega
  have hc0 : C[18 + t]? = some (.int .u64 x) := by rw [h.get _ (by omega), hx]
  have hi : (18 : Int) + t = ((18 + t : Nat) : Int) := by omega
  clear htold hp hq hr h hx
  generalize hs : 18 + t = s at *
  have s32 : (s : Int) < 32 := by omega
  clear hs ht
  go_enter Tryz.func21, Tryz.ntmps21
  go_wp2_with (go_at_call 34; refine (HT.out _).mono ?_; rintro e w3 ⟨rfl, hb3⟩; have z3 : w.heap.size + 2 ≤ w3.heap.size := (by have := hb3.size; simpa using this); obtain ⟨hc3, hf3⟩ := bcell hb3; have m3 : w.heap.size + 1 < w3.heap.size := (by omega); have m4 : w.heap.size < w3.heap.size := (by omega); have n3 : ¬ w.heap.size + 1 = w3.heap.size := (by omega); have n4 : ¬ w3.heap.size = w.heap.size + 1 := (by omega); have hB : Below w.heap.size w w3 := Below.trans (by go_grown) (hb3.mono (by simp; omega)); have r0 := hc3 (w.heap.size + 1) 0 (by simp); have r1 := hc3 (w.heap.size + 1) 1 (by simp); have g0 := hf3 (w.heap.size + 1) 0 (by simp); have g1 := hf3 (w.heap.size + 1) 1 (by simp); simp [go_sem] at r0 r1 g0 g1; clear hc3 hf3)
  refine bodyPost_ret (by simp [results, Tryz.results21, go_sem, r0, r1, m3, n3]; try rfl) rfl ?_
  exact ⟨rfl, by go_grown⟩

set_option linter.unusedSimpArgs false in
theorem answer_yes (C : Array Value) (z : Nat → Int) (t x p q : Nat) (y v : Int) (w : World) (h : U64s C 32 z) (ht : t < 4) (hx : z (18 + t) = (x : Int)) (hy : z (22 + t) = y) (hp : x / 4294967296 = p) (hq : x % 4294967296 = q) (hr : fitsB p q = true)
    (hv : (y ≤ 9223372036854775807 ∧ v = y) ∨ (9223372036854775807 < y ∧ v = wrap64 y)) :
    Calls Tryz.prog 21 #[.agg C, .int .i64 t] w fun e w' => e = .returned (.tuple #[.agg #[.int .i64 p, .int .i64 q], .int .i64 v, .nilIface]) ∧ Below w.heap.size w w' := by
  have hx64 : x < 18446744073709551616 := by have := h.bd (18 + t) (by omega); omega
  have htold : ∀ w, Calls Tryz.prog 34 #[.int .u64 x] w fun e w' => e = .returned (.tuple #[.agg #[.int .i64 p, .int .i64 q], .nilIface]) ∧ Below w.heap.size w w' := fun w => by
    have := told_any x p q w hx64 hp hq
    rw [hr] at this
    simpa [toldC, toldV, hr, okE, errV] using this
  have HT := Lib.hid htold
  have t4 : decide ((4 : Int) ≤ t) = false := by simp; omega
  obtain ⟨y1, y2⟩ := h.bd (22 + t) (by omega)
  rw [hy] at y1 y2
  have hc0 : C[18 + t]? = some (.int .u64 x) := by rw [h.get _ (by omega), hx]
  have hd0 : C[22 + t]? = some (.int .u64 y) := by rw [h.get _ (by omega), hy]
  have hi : (18 : Int) + t = ((18 + t : Nat) : Int) := by omega
  have hj : (22 : Int) + t = ((22 + t : Nat) : Int) := by omega
  have p1 : (p : Int) ≤ 4294967295 := by omega
  have q1 : (q : Int) ≤ 4294967295 := by omega
  clear htold hp hq hr h hx hy
  generalize hs : 18 + t = s at *
  generalize hu : 22 + t = u at *
  have s32 : (s : Int) < 32 := by omega
  have u32 : (u : Int) < 32 := by omega
  clear hs hu ht
  have hB0 : Below w.heap.size w (w.alloc (.cells C 24)) := by go_grown
  rcases hv with ⟨hv1, hv2⟩ | ⟨hv1, hv2⟩
  all_goals
    go_enter Tryz.func21, Tryz.ntmps21
    go_wp2_with (go_at_call 34; refine (HT.out _).mono ?_; rintro e w3 ⟨rfl, hb3⟩; have z3 : w.heap.size + 2 ≤ w3.heap.size := (by have := hb3.size; simpa using this); obtain ⟨hc3, hf3⟩ := bcell hb3; have m3 : w.heap.size + 1 < w3.heap.size := (by omega); have m4 : w.heap.size < w3.heap.size := (by omega); have n3 : ¬ w.heap.size + 1 = w3.heap.size := (by omega); have n4 : ¬ w3.heap.size = w.heap.size + 1 := (by omega); have hB : Below w.heap.size w w3 := Below.trans (by go_grown) (hb3.mono (by simp; omega)); have r0 := hc3 (w.heap.size + 1) 0 (by simp); have r1 := hc3 (w.heap.size + 1) 1 (by simp); have g0 := hf3 (w.heap.size + 1) 0 (by simp); have g1 := hf3 (w.heap.size + 1) 1 (by simp); have k0 := hc3 w.heap.size u (by simp; omega); have k1 : w3.cell? ⟨w.heap.size, u, none⟩ = some (.int .u64 y) := (k0.trans (by simp [go_sem, hd0])); simp [go_sem] at r0 r1 g0 g1; clear hc3 hf3 k0)
    go_region
    go_wp2
    rw [hv2]
    refine bodyPost_ret (by simp [results, Tryz.results21, go_sem, r0, r1, m3, n3]; try rfl) rfl ?_
    exact ⟨rfl, by go_grown⟩
end Go.Proofs.YtkoflhjnpilchaaGreatDoor
