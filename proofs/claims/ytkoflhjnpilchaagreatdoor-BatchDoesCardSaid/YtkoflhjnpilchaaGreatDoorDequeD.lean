/-
  What deque.Do and gristmillref.Deque return: for lists of at most 60 numbers.
-/
import Derived.Test.YtkoflhjnpilchaaGreatDoorInsDel
import Derived.Test.YtkoflhjnpilchaaGreatDoorLists
namespace Go.Proofs.YtkoflhjnpilchaaGreatDoor
set_option linter.unusedSimpArgs false
set_option linter.unusedVariables false
set_option linter.unusedSectionVars false
open Go.RowKit
attribute [local go_sem ↓] Go.wp_at_zero Go.wp_at_succ

def dqY (xs : List Int) (a v : Int) : List Int := if a = 1 then (if xs.length < 6 then xs ++ [v] else xs) else if a = 3 then (if xs.length < 6 then v :: xs else xs) else if a = 2 then xs.take 0 ++ xs.drop (0 + 1) else if a = 4 then xs.take (xs.length - 1) ++ xs.drop (xs.length - 1 + 1) else xs
def dqC (xs : List Int) (a : Int) : Int := if a = 1 ∨ a = 3 then (if xs.length < 6 then 1 else 3) else if a = 2 ∨ a = 4 ∨ a = 5 then (if xs.length = 0 then 2 else 1) else if a = 6 then 1 else 5
def dqV (xs : List Int) (a : Int) : Int := if a = 2 ∨ a = 5 then xs[0]?.getD 0 else if a = 4 then xs[xs.length - 1]?.getD 0 else if a = 6 then xs.length else 0

theorem Own.same {w w' : World} {B : Nat} {A : Option Addr} {n c : Nat} {xs : List Int} (h : Own w B A n c xs) (hb : Below w.heap.size w w') : Own w' B A n c xs :=
  World.ownsRow.kept (row := none) h ⟨hb.os, hb.tape, hb.output, hb.size, fun k hk _ => hb.block k hk⟩ (by
    cases ho : (Value.slice A n c).ownBlock with
    | none => exact .inl rfl
    | some k => exact .inr (fun e => by cases e))
theorem Own.lt {w : World} {B : Nat} {A : Option Addr} {n c : Nat} {xs : List Int} (h : Own w B A n c xs) : ∀ a, A = some a → B ≤ a.block ∧ a.block < w.heap.size := fun a ha => by
  subst ha
  exact World.ownsRow.lt h a.block rfl

theorem delete1' {w : World} {B g n c : Nat} (i : Nat) {xs : List Int} (p q : Int) (h : Own w B (some ⟨g, 0, none⟩) n c xs) (bd : IBd xs) (hi : i < n) (hp : p = i) (hq : q = i + 1) :
    Calls Tryz.prog 85 #[.slice (some ⟨g, 0, none⟩) n c, .int .i64 p, .int .i64 q] w fun e w' => e = .returned (.slice (some ⟨g, 0, none⟩) (n - 1) c) ∧ SlO w' B (some ⟨g, 0, none⟩) (n - 1) c (xs.take i ++ xs.drop (i + 1)) ∧ Below B w w' := by
  subst hp
  have e : q = ((i + 1 : Nat) : Int) := by omega
  rw [e]
  exact delete1 h bd hi

set_option linter.unusedSimpArgs false in
set_option maxRecDepth 100000 in
set_option maxHeartbeats 2000000 in
theorem deque_pos (A : Option Addr) (n c : Nat) (xs : List Int) (a k v : Int) (w : World) (h : SlI w A n c xs) (hn : n ≤ 60) (hv : -9223372036854775808 ≤ v ∧ v ≤ 9223372036854775807) (hn0 : 0 < n) :
    Calls Tryz.prog 66 #[.slice A n c, .agg #[.int .i64 a, .int .i64 k, .int .i64 v]] w (RetL (dqY xs a v) (dqC xs a) (dqV xs a) w) := by
  have hlen := Lib.hid h.len
  obtain ⟨x0, hx0⟩ : ∃ x, xs[n - 1]?.getD 0 = x := ⟨_, rfl⟩
  have HX0 := Lib.hid hx0
  clear hx0
  obtain ⟨y0, hy0⟩ : ∃ x, xs[0]?.getD 0 = x := ⟨_, rfl⟩
  have HY0 := Lib.hid hy0
  clear hy0
  have HBD : Hid (IBd xs) := h.bd
  have H := Lib.hid h
  clear h
  have hv' := Lib.hid hv
  clear hv
  go_enter Tryz.func66, Tryz.ntmps66
  have b0 : (0 : Int) ≤ (n : Int) - 1 := by omega
  have b1 : (n : Int) - 1 < n := by omega
  have b1' : (n : Int) - 1 ≤ n := by omega
  have b1'' : (1 : Int) ≤ n := by omega
  have d0 : ((n : Int) == 0) = false := by simp; omega
  have e1 : ((n : Int) - 1).toNat = n - 1 := by omega
  have e2 : IntKind.i64.wrap ((n : Int) - 1) = n - 1 := IntWalk.i64_in _ (by omega)
  go_wp2_with (first
    | (go_at_call 83; refine (clone_at A n c xs w _ H.out hn ?_).mono ?_; (go_grown); rintro e w1 ⟨A1, c1, rfl, hown, hb1, hB⟩; obtain ⟨hc, hf⟩ := bcell hb1; have hz := hb1.size; simp only [World.size_alloc] at hz; replace hown := hown.mono (B' := w.heap.size + 2) (by simp); have q1 : w.heap.size + 1 < w1.heap.size := (by omega); have q0 : w.heap.size < w1.heap.size := (by omega); obtain ⟨g, rfl, hg0, hg1, hgc⟩ := hown.at_ hn0; have hc1n := (hown.sli H.out.bd).cap; have hc163 := (hown.sli H.out.bd).cap63; have hgx := hgc (n - 1) (by omega); rw [HX0.out] at hgx; have hgy := hgc 0 (by omega); rw [HY0.out] at hgy; clear hgc; have hown' := Lib.hid hown; clear hown; have r0 := hc (w.heap.size + 1) 0 (by simp); have r1 := hc (w.heap.size + 1) 1 (by simp); simp [go_sem] at r0 r1; have m1 : ¬ w.heap.size + 1 = w1.heap.size := (by omega); have b2 : (n : Int) - 1 ≤ c1 := (by omega))
    | (at_builtin; refine wpList_append1 rfl (.tmp 23) (.tmp 26) rfl (B := w.heap.size + 2) rfl (hown'.out.alloc _) rfl ((Blk.new _ _ _).cell 0) (by omega) (by simp; omega) ?_; intro g2 c2 w2 hown2 hb2; obtain ⟨hc2, hf2⟩ := bcell hb2; have hz2 := hb2.size; simp only [World.size_alloc] at hz2; have hB2 : Below w.heap.size w w2 := Below.trans (by go_grown) (hb2.mono (by simp)); have s0 := (hc2 (w.heap.size + 1) 0 (by simp)).trans ((cell_alloc_lt (by omega)).trans r0); have s1 := (hc2 (w.heap.size + 1) 1 (by simp)).trans ((cell_alloc_lt (by omega)).trans r1); have hslo' := Lib.hid (hown2.slo (IBd.app H.out.bd hv'.out)); clear hown2; have q3 : w.heap.size + 1 < w2.heap.size := (by omega); have q4 : w.heap.size < w2.heap.size := (by omega); have m2 : ¬ w.heap.size + 1 = w2.heap.size := (by omega))
    | (go_at_call 85; (with_reducible refine (delete1' (B := w.heap.size + 2) 0 0 1 hown'.out HBD.out ?_ ?_ ?_).mono ?_); (omega); (rfl); (rfl); rintro e w2 ⟨rfl, hslo, hb2⟩; obtain ⟨hc2, hf2⟩ := bcell hb2; have hz2 := hb2.size; have hB2 : Below w.heap.size w w2 := hB.trans (hb2.mono (by omega)); have s0 := (hc2 (w.heap.size + 1) 0 (by omega)).trans r0; have s1 := (hc2 (w.heap.size + 1) 1 (by omega)).trans r1; have t0 := (hc2 w.heap.size 0 (by omega)); have hslo' := Lib.hid hslo; clear hslo; have q3 : w.heap.size + 1 < w2.heap.size := (by omega); have q4 : w.heap.size < w2.heap.size := (by omega); have m2 : ¬ w.heap.size + 1 = w2.heap.size := (by omega))
    | (go_at_call 85; (with_reducible refine (delete1' (B := w.heap.size + 2) (n - 1) ((n : Int) - 1) n hown'.out HBD.out ?_ ?_ ?_).mono ?_); (omega); (omega); (omega); rintro e w2 ⟨rfl, hslo, hb2⟩; obtain ⟨hc2, hf2⟩ := bcell hb2; have hz2 := hb2.size; have hB2 : Below w.heap.size w w2 := hB.trans (hb2.mono (by omega)); have s0 := (hc2 (w.heap.size + 1) 0 (by omega)).trans r0; have s1 := (hc2 (w.heap.size + 1) 1 (by omega)).trans r1; have t0 := (hc2 w.heap.size 0 (by omega)); have hslo' := Lib.hid hslo; clear hslo; have q3 : w.heap.size + 1 < w2.heap.size := (by omega); have q4 : w.heap.size < w2.heap.size := (by omega); have m2 : ¬ w.heap.size + 1 = w2.heap.size := (by omega))
    | (go_at_call 84; refine (insert0 (B := w.heap.size + 2) (xs := xs) (v := v) (hown'.out.alloc _) H.out.bd hv'.out (Blk.new _ _ _) (fun a ha => by have := (hown'.out.lt a ha).2; omega) hn (by simp; omega)).mono ?_; rintro e w2 ⟨A2, c2, rfl, hslo, hb2⟩; obtain ⟨hc2, hf2⟩ := bcell hb2; have hz2 := hb2.size; simp only [World.size_alloc] at hz2; have hB2 : Below w.heap.size w w2 := Below.trans (by go_grown) (hb2.mono (by simp)); have s0 := (hc2 (w.heap.size + 1) 0 (by simp)).trans ((cell_alloc_lt (by omega)).trans r0); have s1 := (hc2 (w.heap.size + 1) 1 (by simp)).trans ((cell_alloc_lt (by omega)).trans r1); have hslo' := Lib.hid hslo; clear hslo; have q3 : w.heap.size + 1 < w2.heap.size := (by omega); have q4 : w.heap.size < w2.heap.size := (by omega); have m2 : ¬ w.heap.size + 1 = w2.heap.size := (by omega)))
  all_goals (refine bodyPost_ret (by first | (simp [results, Tryz.results66, go_sem, s0, s1]; try rfl; done) | (simp [results, Tryz.results66, go_sem, r0, r1]; try rfl; done)) rfl ?_)
  all_goals try simp only [beq_iff_eq, beq_eq_false_iff_ne, bne_iff_ne, bne_eq_false_iff_eq, ne_eq] at *
  all_goals (first
    | (refine retL_slo hslo'.out hB2 ?_ ?_ ?_ ?_ ?_ ?_ ?_)
    | (refine retL_slo (hown'.out.slo H.out.bd) hB ?_ ?_ ?_ ?_ ?_ ?_ ?_))
  all_goals first | (show w.heap.size + 1 < w.heap.size + 2; omega) | (show w.heap.size ≤ w.heap.size + 1; omega) | skip
  all_goals (have hx := HX0.out; have hy := HY0.out; have hl := hlen.out; simp only [dqY, dqC, dqV]; (repeat' split) <;> first | rfl | (exfalso; omega) | (simp_all; done) | (simp_all; omega))

set_option linter.unusedSimpArgs false in
set_option maxRecDepth 100000 in
set_option maxHeartbeats 2000000 in
theorem deque_nil (A : Option Addr) (c : Nat) (a k v : Int) (w : World) (h : SlI w A 0 c []) (hv : -9223372036854775808 ≤ v ∧ v ≤ 9223372036854775807) :
    Calls Tryz.prog 66 #[.slice A 0 c, .agg #[.int .i64 a, .int .i64 k, .int .i64 v]] w (RetL (dqY [] a v) (dqC [] a) (dqV [] a) w) := by
  have H := Lib.hid h
  clear h
  have hv' := Lib.hid hv
  clear hv
  go_enter Tryz.func66, Tryz.ntmps66
  go_wp2_with (first
    | (go_at_call 83; refine (clone_at A 0 c [] w _ H.out (by omega) ?_).mono ?_; (go_grown); rintro e w1 ⟨A1, c1, rfl, hown, hb1, hB⟩; obtain ⟨hc, hf⟩ := bcell hb1; have hz := hb1.size; simp only [World.size_alloc] at hz; replace hown := hown.mono (B' := w.heap.size + 2) (by simp); have q1 : w.heap.size + 1 < w1.heap.size := (by omega); have q0 : w.heap.size < w1.heap.size := (by omega); have hown' := Lib.hid hown; clear hown; have r0 := hc (w.heap.size + 1) 0 (by simp); have r1 := hc (w.heap.size + 1) 1 (by simp); simp [go_sem] at r0 r1; have m1 : ¬ w.heap.size + 1 = w1.heap.size := (by omega))
    | (at_builtin; refine wpList_append1 rfl (.tmp 23) (.tmp 26) rfl (B := w.heap.size + 2) rfl (hown'.out.alloc _) rfl ((Blk.new _ _ _).cell 0) (by omega) (by simp; omega) ?_; intro g2 c2 w2 hown2 hb2; obtain ⟨hc2, hf2⟩ := bcell hb2; have hz2 := hb2.size; simp only [World.size_alloc] at hz2; have hB2 : Below w.heap.size w w2 := Below.trans (by go_grown) (hb2.mono (by simp)); have s0 := (hc2 (w.heap.size + 1) 0 (by simp)).trans ((cell_alloc_lt (by omega)).trans r0); have s1 := (hc2 (w.heap.size + 1) 1 (by simp)).trans ((cell_alloc_lt (by omega)).trans r1); have hslo' := Lib.hid (hown2.slo (IBd.app H.out.bd hv'.out)); clear hown2; have q3 : w.heap.size + 1 < w2.heap.size := (by omega); have q4 : w.heap.size < w2.heap.size := (by omega); have m2 : ¬ w.heap.size + 1 = w2.heap.size := (by omega))
    | (go_at_call 84; refine (insert0 (B := w.heap.size + 2) (xs := []) (v := v) (hown'.out.alloc _) H.out.bd hv'.out (Blk.new _ _ _) (fun a ha => by have := (hown'.out.lt a ha).2; omega) (by omega) (by simp; omega)).mono ?_; rintro e w2 ⟨A2, c2, rfl, hslo, hb2⟩; obtain ⟨hc2, hf2⟩ := bcell hb2; have hz2 := hb2.size; simp only [World.size_alloc] at hz2; have hB2 : Below w.heap.size w w2 := Below.trans (by go_grown) (hb2.mono (by simp)); have s0 := (hc2 (w.heap.size + 1) 0 (by simp)).trans ((cell_alloc_lt (by omega)).trans r0); have s1 := (hc2 (w.heap.size + 1) 1 (by simp)).trans ((cell_alloc_lt (by omega)).trans r1); have hslo' := Lib.hid hslo; clear hslo; have q3 : w.heap.size + 1 < w2.heap.size := (by omega); have q4 : w.heap.size < w2.heap.size := (by omega); have m2 : ¬ w.heap.size + 1 = w2.heap.size := (by omega)))
  all_goals (refine bodyPost_ret (by first | (simp [results, Tryz.results66, go_sem, s0, s1]; try rfl; done) | (simp [results, Tryz.results66, go_sem, r0, r1]; try rfl; done)) rfl ?_)
  all_goals try simp only [beq_iff_eq, beq_eq_false_iff_ne, bne_iff_ne, bne_eq_false_iff_eq, ne_eq] at *
  all_goals (first
    | (refine retL_slo hslo'.out hB2 ?_ ?_ ?_ ?_ ?_ ?_ ?_)
    | (refine retL_slo (hown'.out.slo H.out.bd) hB ?_ ?_ ?_ ?_ ?_ ?_ ?_))
  all_goals first | (show w.heap.size + 1 < w.heap.size + 2; omega) | (show w.heap.size ≤ w.heap.size + 1; omega) | skip
  all_goals (simp only [dqY, dqC, dqV]; (repeat' split) <;> first | rfl | (exfalso; omega) | (simp_all; done) | (simp_all; omega))

theorem deque_any (A : Option Addr) (n c : Nat) (xs : List Int) (a k v : Int) (w : World) (h : SlI w A n c xs) (hn : n ≤ 60) (hv : -9223372036854775808 ≤ v ∧ v ≤ 9223372036854775807) :
    Calls Tryz.prog 66 #[.slice A n c, .agg #[.int .i64 a, .int .i64 k, .int .i64 v]] w (RetL (dqY xs a v) (dqC xs a) (dqV xs a) w) := by
  rcases Nat.eq_zero_or_pos n with hn0 | hn0
  · subst hn0
    obtain rfl : xs = [] := List.eq_nil_of_length_eq_zero h.len
    exact deque_nil A c a k v w h hv
  · exact deque_pos A n c xs a k v w h hn hv hn0

end Go.Proofs.YtkoflhjnpilchaaGreatDoor
