/-
  What op.Of and the reference's AnswerOf, OpOf return. For every word.
-/
import Derived.Test.YtiajglefmlfkfaaDoorTold
namespace Go.Proofs.YtiajglefmlfkfaaDoor
open Go.RowKit
attribute [local go_sem ↓] Go.wp_at_zero Go.wp_at_succ

def ofC (p k q y : Int) : Int := if opRightB p k q = true then y else 0

set_option linter.unusedSimpArgs false in
theorem of_any (x p k q : Nat) (w : World) (hx : x < 18446744073709551616) (hp : x / 65536 / 4294967296 = p) (hk : x / 4294967296 % 65536 = k) (hq : x % 4294967296 = q) :
    Calls Tryd.prog 42 #[.int .u64 x] w fun e w' => e = .returned (.tuple #[.agg #[.int .i64 (ofC p k q p), .int .i64 (ofC p k q k), .int .i64 (ofC p k q q)], errV (okE (opRightB p k q) 3)]) ∧ Below w.heap.size w w' := by
  have hp2 : (p : Int) ≤ 65535 := by omega
  have hk2 : (k : Int) ≤ 65535 := by omega
  have hq2 : (q : Int) ≤ 4294967295 := by omega
  have h32 : (2 : Nat) ^ 32 = 4294967296 := by decide
  have h16 : (2 : Nat) ^ 16 = 65536 := by decide
  have h48 : (2 : Nat) ^ 48 = 281474976710656 := by decide
  have g1 : ∀ w, _ := fun w => get_at x 48 16 p w hx (by omega) (by rw [h48, h16]; omega) 48 16 rfl rfl
  have g3 : ∀ w, _ := fun w => get_at x 32 16 k w hx (by omega) (by rw [h32, h16]; omega) 32 16 rfl rfl
  have g2 : ∀ w, _ := fun w => get_at x 0 32 q w hx (by omega) (by rw [h32, Nat.pow_zero, Nat.div_one, hq]) 0 32 rfl rfl
  have G1 := Lib.hid g1
  have G2 := Lib.hid g2
  have G3 := Lib.hid g3
  clear g1 g2 g3 h32 h16 h48 hx hp hk hq
  cases hr : opRightB p k q with
  | false =>
    have e1 : ∀ y, ofC p k q y = 0 := fun y => by unfold ofC; rw [if_neg (by rw [hr]; simp)]
    have e3 : errV (okE false 3) = .iface 25 (.int .i64 3) := by simp [okE, errV]
    simp only [e1, e3]
    clear e1 e3
    have HR := Lib.hid hr
    clear hr
    go_enter Tryd.func42, Tryd.ntmps42
    go_wp2_with (first
      | (go_at_call 29; (with_reducible refine (G1.out _).mono ?_); rintro e w1 ⟨rfl, hb1⟩; have z1 : w.heap.size + 1 ≤ w1.heap.size := (by have := hb1.size; simpa using this); have HB1 := hb1.mono (show w.heap.size + 1 ≤ _ by simp))
      | (go_at_call 29; (with_reducible refine (G3.out _).mono ?_); rintro e w5 ⟨rfl, hb5⟩; have z5 : w.heap.size + 1 ≤ w5.heap.size := (by have := hb5.size; omega); have HB5 := HB1.trans (hb5.mono z1))
      | (go_at_call 29; (with_reducible refine (G2.out _).mono ?_); rintro e w2 ⟨rfl, hb2⟩; have z2 : w.heap.size + 1 ≤ w2.heap.size := (by have := hb2.size; omega); have HB2 := HB5.trans (hb2.mono z5))
      | (go_at_call 71; refine (opRight_any _ _ _ _).mono ?_; rintro e w3 ⟨rfl, hb3⟩; rw [HR.out]; have z3 : w2.heap.size + 1 ≤ w3.heap.size := (by have := hb3.size; simpa using this); have HB3 := HB2.trans (Below.trans (by go_grown) (hb3.mono (show w.heap.size + 1 ≤ _ by simp; omega))); obtain ⟨hc, hf⟩ := bcell HB3; obtain ⟨hc3, hf3⟩ := bcell hb3; have m3 : w2.heap.size < w3.heap.size := (by omega); have n3 : ¬ w2.heap.size = w.heap.size := (by omega); have hB : Below w.heap.size w w3 := Below.trans (by go_grown) (HB3.mono (by omega))))
    refine bodyPost_ret (by simp [results, Tryd.results42, go_sem, hc]; try rfl) rfl ?_
    exact ⟨rfl, by go_grown⟩
  | true =>
    have e1 : ∀ y, ofC p k q y = y := fun y => by unfold ofC; rw [if_pos hr]
    have e3 : errV (okE true 3) = .nilIface := by simp [okE, errV]
    simp only [e1, e3]
    clear e1 e3
    have HR := Lib.hid hr
    clear hr
    go_enter Tryd.func42, Tryd.ntmps42
    go_wp2_with (first
      | (go_at_call 29; (with_reducible refine (G1.out _).mono ?_); rintro e w1 ⟨rfl, hb1⟩; have z1 : w.heap.size + 1 ≤ w1.heap.size := (by have := hb1.size; simpa using this); have HB1 := hb1.mono (show w.heap.size + 1 ≤ _ by simp))
      | (go_at_call 29; (with_reducible refine (G3.out _).mono ?_); rintro e w5 ⟨rfl, hb5⟩; have z5 : w.heap.size + 1 ≤ w5.heap.size := (by have := hb5.size; omega); have HB5 := HB1.trans (hb5.mono z1))
      | (go_at_call 29; (with_reducible refine (G2.out _).mono ?_); rintro e w2 ⟨rfl, hb2⟩; have z2 : w.heap.size + 1 ≤ w2.heap.size := (by have := hb2.size; omega); have HB2 := HB5.trans (hb2.mono z5))
      | (go_at_call 71; refine (opRight_any _ _ _ _).mono ?_; rintro e w3 ⟨rfl, hb3⟩; rw [HR.out]; have z3 : w2.heap.size + 1 ≤ w3.heap.size := (by have := hb3.size; simpa using this); have HB3 := HB2.trans (Below.trans (by go_grown) (hb3.mono (show w.heap.size + 1 ≤ _ by simp; omega))); obtain ⟨hc, hf⟩ := bcell HB3; obtain ⟨hc3, hf3⟩ := bcell hb3; have m3 : w2.heap.size < w3.heap.size := (by omega); have n3 : ¬ w2.heap.size = w.heap.size := (by omega); have hB : Below w.heap.size w w3 := Below.trans (by go_grown) (HB3.mono (by omega))))
    refine bodyPost_ret (by simp [results, Tryd.results42, go_sem, hc]; try rfl) rfl ?_
    exact ⟨rfl, by go_grown⟩
set_option linter.unusedSimpArgs false in
theorem refAnswerOf_any (x p q : Nat) (w : World) (hx : x < 18446744073709551616) (hp : x / 4294967296 = p) (hq : x % 4294967296 = q) :
    Calls Tryd.prog 39 #[.int .u64 x] w fun e w' => e = .returned (.tuple #[.agg #[.int .i64 (toldC p q), .int .i64 (toldV p q)], .int .i64 (okE (fitsB p q) 3)]) ∧ Below w.heap.size w w' := by
  have p1 : (x : Int) / 4294967296 = (p : Int) := by omega
  have q1 : (x : Int) % 4294967296 = (q : Int) := by omega
  have p2 : (p : Int) ≤ 4294967295 := by omega
  have q2 : (q : Int) ≤ 4294967295 := by omega
  clear hp hq
  clear hx
  cases hr : fitsB p q with
  | false =>
    have e1 : toldC p q = 0 := by unfold toldC; rw [if_neg (by rw [hr]; simp)]
    have e2 : toldV p q = 0 := by unfold toldV; rw [if_neg (by rw [hr]; simp)]
    have e3 : okE false 3 = 3 := by simp [okE]
    simp only [e1, e2, e3]
    clear e1 e2 e3
    have HR := Lib.hid hr
    clear hr
    go_enter Tryd.func39, Tryd.ntmps39
    go_wp2_with (go_at_call 27; refine (refFits_any _ _ _).mono ?_; rintro e w3 ⟨rfl, hb3⟩; rw [HR.out]; have HB3 : Below (w.heap.size + 1) (w.alloc (.cells #[.int .i64 0, .int .i64 0] 35)) w3 := Below.trans (by go_grown) (hb3.mono (show w.heap.size + 1 ≤ _ by simp)); obtain ⟨hc, hf⟩ := bcell HB3; obtain ⟨hc3, hf3⟩ := bcell hb3; have z3 := hb3.size; simp only [World.size_alloc] at z3; have m3 : w.heap.size + 1 < w3.heap.size := (by omega); have hB : Below w.heap.size w w3 := Below.trans (by go_grown) (HB3.mono (by omega)))
    refine bodyPost_ret (by simp [results, Tryd.results39, go_sem, hc]; try rfl) rfl ?_
    exact ⟨rfl, by go_grown⟩
  | true =>
    have e1 : toldC p q = p := by unfold toldC; rw [if_pos hr]
    have e2 : toldV p q = q := by unfold toldV; rw [if_pos hr]
    have e3 : okE true 3 = 0 := by simp [okE]
    simp only [e1, e2, e3]
    clear e1 e2 e3
    have HR := Lib.hid hr
    clear hr
    go_enter Tryd.func39, Tryd.ntmps39
    go_wp2_with (go_at_call 27; refine (refFits_any _ _ _).mono ?_; rintro e w3 ⟨rfl, hb3⟩; rw [HR.out]; have HB3 : Below (w.heap.size + 1) (w.alloc (.cells #[.int .i64 0, .int .i64 0] 35)) w3 := Below.trans (by go_grown) (hb3.mono (show w.heap.size + 1 ≤ _ by simp)); obtain ⟨hc, hf⟩ := bcell HB3; obtain ⟨hc3, hf3⟩ := bcell hb3; have z3 := hb3.size; simp only [World.size_alloc] at z3; have m3 : w.heap.size + 1 < w3.heap.size := (by omega); have hB : Below w.heap.size w w3 := Below.trans (by go_grown) (HB3.mono (by omega)))
    refine bodyPost_ret (by simp [results, Tryd.results39, go_sem, hc]; try rfl) rfl ?_
    exact ⟨rfl, by go_grown⟩

set_option linter.unusedSimpArgs false in
theorem refOpOf_any (x p k q : Nat) (w : World) (hx : x < 18446744073709551616) (hp : x / 65536 / 4294967296 = p) (hk : x / 4294967296 % 65536 = k) (hq : x % 4294967296 = q) :
    Calls Tryd.prog 41 #[.int .u64 x] w fun e w' => e = .returned (.tuple #[.agg #[.int .i64 (ofC p k q p), .int .i64 (ofC p k q k), .int .i64 (ofC p k q q)], .int .i64 (okE (opRightB p k q) 3)]) ∧ Below w.heap.size w w' := by
  have p1 : (x : Int) / 65536 / 4294967296 = (p : Int) := by omega
  have k1 : (x : Int) / 4294967296 % 65536 = (k : Int) := by omega
  have q1 : (x : Int) % 4294967296 = (q : Int) := by omega
  have p2 : (p : Int) ≤ 65535 := by omega
  have k2 : (k : Int) ≤ 65535 := by omega
  have q2 : (q : Int) ≤ 4294967295 := by omega
  clear hp hk hq
  clear hx
  cases hr : opRightB p k q with
  | false =>
    have e1 : ∀ y, ofC p k q y = 0 := fun y => by unfold ofC; rw [if_neg (by rw [hr]; simp)]
    have e2 : True = True := rfl
    have e3 : okE false 3 = 3 := by simp [okE]
    simp only [e1, e2, e3]
    clear e1 e2 e3
    have HR := Lib.hid hr
    clear hr
    go_enter Tryd.func41, Tryd.ntmps41
    go_wp2_with (go_at_call 59; refine (refOpRight_any _ _ _ _).mono ?_; rintro e w3 ⟨rfl, hb3⟩; rw [HR.out]; have HB3 : Below (w.heap.size + 1) (w.alloc (.cells #[.int .i64 0, .int .i64 0, .int .i64 0] 23)) w3 := Below.trans (by go_grown) (hb3.mono (show w.heap.size + 1 ≤ _ by simp)); obtain ⟨hc, hf⟩ := bcell HB3; obtain ⟨hc3, hf3⟩ := bcell hb3; have z3 := hb3.size; simp only [World.size_alloc] at z3; have m3 : w.heap.size + 1 < w3.heap.size := (by omega); have hB : Below w.heap.size w w3 := Below.trans (by go_grown) (HB3.mono (by omega)))
    refine bodyPost_ret (by simp [results, Tryd.results41, go_sem, hc]; try rfl) rfl ?_
    exact ⟨rfl, by go_grown⟩
  | true =>
    have e1 : ∀ y, ofC p k q y = y := fun y => by unfold ofC; rw [if_pos hr]
    have e2 : True = True := rfl
    have e3 : okE true 3 = 0 := by simp [okE]
    simp only [e1, e2, e3]
    clear e1 e2 e3
    have HR := Lib.hid hr
    clear hr
    go_enter Tryd.func41, Tryd.ntmps41
    go_wp2_with (go_at_call 59; refine (refOpRight_any _ _ _ _).mono ?_; rintro e w3 ⟨rfl, hb3⟩; rw [HR.out]; have HB3 : Below (w.heap.size + 1) (w.alloc (.cells #[.int .i64 0, .int .i64 0, .int .i64 0] 23)) w3 := Below.trans (by go_grown) (hb3.mono (show w.heap.size + 1 ≤ _ by simp)); obtain ⟨hc, hf⟩ := bcell HB3; obtain ⟨hc3, hf3⟩ := bcell hb3; have z3 := hb3.size; simp only [World.size_alloc] at z3; have m3 : w.heap.size + 1 < w3.heap.size := (by omega); have hB : Below w.heap.size w w3 := Below.trans (by go_grown) (HB3.mono (by omega)))
    refine bodyPost_ret (by simp [results, Tryd.results41, go_sem, hc]; try rfl) rfl ?_
    exact ⟨rfl, by go_grown⟩

end Go.Proofs.YtiajglefmlfkfaaDoor
