/-
  What stack.Do returns: for lists of at most 60 numbers.
-/
import Derived.Test.YtkoflhjnpilchaaGreatDoorMWord
namespace Go.Proofs.YtkoflhjnpilchaaGreatDoor
set_option linter.unusedSimpArgs false
set_option linter.unusedVariables false
set_option linter.unusedSectionVars false
open Go.RowKit
attribute [local go_sem ↓] Go.wp_at_zero Go.wp_at_succ

/-- The first k, with the room that there was. -/
theorem SlO.takeCap {w : World} {G : Nat} {A : Option Addr} {n c : Nat} {xs : List Int} (h : SlO w G A n c xs) (k : Nat) (hk : k ≤ n) : SlO w G A k c (xs.take k) :=
  ⟨⟨by rw [List.length_take, h.sli.len]; omega, by have := h.sli.cap; omega, h.sli.cap63, (h.take k hk).sli.bd, (h.take k hk).sli.at_⟩, (h.take k hk).up⟩

def stackY (xs : List Int) (a v : Int) : List Int := if a = 1 then (if xs.length < 6 then xs ++ [v] else xs) else if a = 2 then xs.take (xs.length - 1) else xs
def stackC (xs : List Int) (a : Int) : Int := if a = 1 then (if xs.length < 6 then 1 else 3) else if a = 6 then 1 else if a = 2 ∨ a = 5 then (if xs.length = 0 then 2 else 1) else 5
def stackV (xs : List Int) (a : Int) : Int := if a = 6 then xs.length else if a = 2 ∨ a = 5 then xs[xs.length - 1]?.getD 0 else 0

set_option linter.unusedSimpArgs false in
set_option maxRecDepth 100000 in
set_option maxHeartbeats 2000000 in
theorem stack_pos (A : Option Addr) (n c : Nat) (xs : List Int) (a k v : Int) (w : World) (h : SlI w A n c xs) (hn : n ≤ 60) (hv : -9223372036854775808 ≤ v ∧ v ≤ 9223372036854775807) (hn0 : 0 < n) :
    Calls Tryz.prog 65 #[.slice A n c, .agg #[.int .i64 a, .int .i64 k, .int .i64 v]] w (RetL (stackY xs a v) (stackC xs a) (stackV xs a) w) := by
  have hlen := Lib.hid h.len
  obtain ⟨x0, hx0⟩ : ∃ x, xs[n - 1]?.getD 0 = x := ⟨_, rfl⟩
  have HX0 := Lib.hid hx0
  clear hx0
  have H := Lib.hid h
  clear h
  have hv' := Lib.hid hv
  clear hv
  go_enter Tryz.func65, Tryz.ntmps65
  have b0 : (0 : Int) ≤ (n : Int) - 1 := by omega
  have b1 : (n : Int) - 1 < n := by omega
  have b1' : (n : Int) - 1 ≤ n := by omega
  have b1'' : (1 : Int) ≤ n := by omega
  have e1 : ((n : Int) - 1).toNat = n - 1 := by omega
  have e2 : IntKind.i64.wrap ((n : Int) - 1) = n - 1 := IntWalk.i64_in _ (by omega)
  go_wp2_with (first
    | (go_at_call 83; refine (clone_at A n c xs w _ H.out hn ?_).mono ?_; (go_grown); rintro e w1 ⟨A1, c1, rfl, hown, hb1, hB⟩; obtain ⟨hc, hf⟩ := bcell hb1; have hz := hb1.size; simp only [World.size_alloc] at hz; replace hown := hown.mono (B' := w.heap.size + 2) (by simp); have q1 : w.heap.size + 1 < w1.heap.size := (by omega); have q0 : w.heap.size < w1.heap.size := (by omega); obtain ⟨g, rfl, hg0, hg1, hgc⟩ := hown.at_ hn0; have hc1n := (hown.sli H.out.bd).cap; have hc163 := (hown.sli H.out.bd).cap63; have hgx := hgc (n - 1) (by omega); rw [HX0.out] at hgx; clear hgc; have hown' := Lib.hid hown; clear hown; have r0 := hc (w.heap.size + 1) 0 (by simp); have r1 := hc (w.heap.size + 1) 1 (by simp); simp [go_sem] at r0 r1; have m1 : ¬ w.heap.size + 1 = w1.heap.size := (by omega); have b2 : (n : Int) - 1 ≤ c1 := (by omega))
    | (at_builtin; refine wpList_append1 rfl (.tmp 27) (.tmp 30) rfl (B := w.heap.size + 2) rfl (hown'.out.alloc _) rfl ((Blk.new _ _ _).cell 0) (by omega) (by simp; omega) ?_; intro g2 c2 w2 hown2 hb2; obtain ⟨hc2, hf2⟩ := bcell hb2; have hz2 := hb2.size; simp only [World.size_alloc] at hz2; have hB2 : Below w.heap.size w w2 := Below.trans (by go_grown) (hb2.mono (by simp)); have s0 := (hc2 (w.heap.size + 1) 0 (by simp)).trans ((cell_alloc_lt (by omega)).trans r0); have s1 := (hc2 (w.heap.size + 1) 1 (by simp)).trans ((cell_alloc_lt (by omega)).trans r1); have hslo' := Lib.hid (hown2.slo (IBd.app H.out.bd hv'.out)); clear hown2; have q3 : w.heap.size + 1 < w2.heap.size := (by omega); have q4 : w.heap.size < w2.heap.size := (by omega); have m2 : ¬ w.heap.size + 1 = w2.heap.size := (by omega)))
  iterate 2
    rotate_right 1
    focus
      (first
       | (have hq : (a == 5) = true := by assumption
          clear hq
          refine wp_region_rely 7 nowhere [] (by kernel_rfl) (by kernel_rfl) ?_
          iterate 7
            refine wpRely_step (fun K hK => ?_)
            first
            | (refine .inl ?_
               apply Exists.intro
               refine ⟨Any, ?_, hK _ _ _ _ ?_⟩
               · simp only [RelyOp, fillE]
                 refine ⟨?_, fun w9 hw9 _ => ?_⟩
                 · first | rfl | (go_simp; done)
                 obtain ⟨hc9, hf9⟩ := hw9.all
                 go_simp
                 first
                 | exact ⟨⟨rfl, trivial⟩, Keeps.refl _ _⟩
               clear hK K
               try simp only [Act.put, List.setIfInBounds_toArray, List.set_cons_zero, List.set_cons_succ])
            | (refine .inr (.inl ⟨?_, hK _ _ _ _ ?_⟩)
               · simp only [fillE]
                 first | rfl | (go_simp; done)
               clear hK K
               try simp only [Act.put, List.setIfInBounds_toArray, List.set_cons_zero, List.set_cons_succ])
          refine wpRely_nil ?_
          simp only [fillE]
          intro w9 hw9 _
          obtain ⟨hc9, hf9⟩ := hw9.all
          have s0 := (hc9 (w.heap.size + 1) 0 (by omega)).trans r0
          have s1 := (hc9 (w.heap.size + 1) 1 (by omega)).trans r1
          have hB2 : Below w.heap.size w w9 := hB.trans (hw9.same.mono (by omega))
          have hslo' := Lib.hid ((hown'.out.slo H.out.bd).keeps hw9)
          go_wp2)
       | (skip
          refine wp_region_rely 9 nowhere [] (by kernel_rfl) (by kernel_rfl) ?_
          iterate 9
            refine wpRely_step (fun K hK => ?_)
            first
            | (refine .inl ?_
               apply Exists.intro
               refine ⟨Any, ?_, hK _ _ _ _ ?_⟩
               · simp only [RelyOp, fillE]
                 refine ⟨?_, fun w9 hw9 _ => ?_⟩
                 · first | rfl | (go_simp; done)
                 obtain ⟨hc9, hf9⟩ := hw9.all
                 go_simp
                 first
                 | exact ⟨⟨rfl, trivial⟩, Keeps.refl _ _⟩
               clear hK K
               try simp only [Act.put, List.setIfInBounds_toArray, List.set_cons_zero, List.set_cons_succ])
            | (refine .inr (.inl ⟨?_, hK _ _ _ _ ?_⟩)
               · simp only [fillE]
                 first | rfl | (go_simp; done)
               clear hK K
               try simp only [Act.put, List.setIfInBounds_toArray, List.set_cons_zero, List.set_cons_succ])
          refine wpRely_nil ?_
          simp only [fillE]
          intro w9 hw9 _
          obtain ⟨hc9, hf9⟩ := hw9.all
          have s0 := (hc9 (w.heap.size + 1) 0 (by omega)).trans r0
          have s1 := (hc9 (w.heap.size + 1) 1 (by omega)).trans r1
          have hB2 : Below w.heap.size w w9 := hB.trans (hw9.same.mono (by omega))
          have hslo' := Lib.hid (((hown'.out.slo H.out.bd).takeCap (n - 1) (by omega)).keeps hw9)
          go_wp2))
  all_goals (refine bodyPost_ret (by first | (simp [results, Tryz.results65, go_sem, s0, s1]; try rfl; done) | (simp [results, Tryz.results65, go_sem, r0, r1]; try rfl; done)) rfl ?_)
  all_goals try simp only [beq_iff_eq, beq_eq_false_iff_ne, bne_iff_ne, bne_eq_false_iff_eq, ne_eq] at *
  all_goals (first
    | (refine retL_slo hslo'.out hB2 ?_ ?_ ?_ ?_ ?_ ?_ ?_)
    | (refine retL_slo (hown'.out.slo H.out.bd) hB ?_ ?_ ?_ ?_ ?_ ?_ ?_))
  all_goals first | (show w.heap.size + 1 < w.heap.size + 2; omega) | (show w.heap.size ≤ w.heap.size + 1; omega) | skip
  all_goals (have hx := HX0.out; have hl := hlen.out; simp only [stackY, stackC, stackV]; (repeat' split) <;> first | rfl | (exfalso; omega) | (simp_all; done) | (simp_all; omega))

set_option linter.unusedSimpArgs false in
set_option maxRecDepth 100000 in
set_option maxHeartbeats 2000000 in
theorem stack_nil (A : Option Addr) (c : Nat) (a k v : Int) (w : World) (h : SlI w A 0 c []) (hv : -9223372036854775808 ≤ v ∧ v ≤ 9223372036854775807) :
    Calls Tryz.prog 65 #[.slice A 0 c, .agg #[.int .i64 a, .int .i64 k, .int .i64 v]] w (RetL (stackY [] a v) (stackC [] a) (stackV [] a) w) := by
  have H := Lib.hid h
  clear h
  have hv' := Lib.hid hv
  clear hv
  go_enter Tryz.func65, Tryz.ntmps65
  go_wp2_with (first
    | (go_at_call 83; refine (clone_at A 0 c [] w _ H.out (by omega) ?_).mono ?_; (go_grown); rintro e w1 ⟨A1, c1, rfl, hown, hb1, hB⟩; obtain ⟨hc, hf⟩ := bcell hb1; have hz := hb1.size; simp only [World.size_alloc] at hz; replace hown := hown.mono (B' := w.heap.size + 2) (by simp); have q1 : w.heap.size + 1 < w1.heap.size := (by omega); have q0 : w.heap.size < w1.heap.size := (by omega); have hown' := Lib.hid hown; clear hown; have r0 := hc (w.heap.size + 1) 0 (by simp); have r1 := hc (w.heap.size + 1) 1 (by simp); simp [go_sem] at r0 r1; have m1 : ¬ w.heap.size + 1 = w1.heap.size := (by omega))
    | (at_builtin; refine wpList_append1 rfl (.tmp 27) (.tmp 30) rfl (B := w.heap.size + 2) rfl (hown'.out.alloc _) rfl ((Blk.new _ _ _).cell 0) (by omega) (by simp; omega) ?_; intro g2 c2 w2 hown2 hb2; obtain ⟨hc2, hf2⟩ := bcell hb2; have hz2 := hb2.size; simp only [World.size_alloc] at hz2; have hB2 : Below w.heap.size w w2 := Below.trans (by go_grown) (hb2.mono (by simp)); have s0 := (hc2 (w.heap.size + 1) 0 (by simp)).trans ((cell_alloc_lt (by omega)).trans r0); have s1 := (hc2 (w.heap.size + 1) 1 (by simp)).trans ((cell_alloc_lt (by omega)).trans r1); have hslo' := Lib.hid (hown2.slo (IBd.app H.out.bd hv'.out)); clear hown2; have q3 : w.heap.size + 1 < w2.heap.size := (by omega); have q4 : w.heap.size < w2.heap.size := (by omega); have m2 : ¬ w.heap.size + 1 = w2.heap.size := (by omega)))
  all_goals (refine bodyPost_ret (by first | (simp [results, Tryz.results65, go_sem, s0, s1]; try rfl; done) | (simp [results, Tryz.results65, go_sem, r0, r1]; try rfl; done)) rfl ?_)
  all_goals try simp only [beq_iff_eq, beq_eq_false_iff_ne, bne_iff_ne, bne_eq_false_iff_eq, ne_eq] at *
  all_goals (first
    | (refine retL_slo hslo'.out hB2 ?_ ?_ ?_ ?_ ?_ ?_ ?_)
    | (refine retL_slo (hown'.out.slo H.out.bd) hB ?_ ?_ ?_ ?_ ?_ ?_ ?_))
  all_goals first | (show w.heap.size + 1 < w.heap.size + 2; omega) | (show w.heap.size ≤ w.heap.size + 1; omega) | skip
  all_goals (simp only [stackY, stackC, stackV]; (repeat' split) <;> first | rfl | (exfalso; omega) | (simp_all; done) | (simp_all; omega))

theorem stack_any (A : Option Addr) (n c : Nat) (xs : List Int) (a k v : Int) (w : World) (h : SlI w A n c xs) (hn : n ≤ 60) (hv : -9223372036854775808 ≤ v ∧ v ≤ 9223372036854775807) :
    Calls Tryz.prog 65 #[.slice A n c, .agg #[.int .i64 a, .int .i64 k, .int .i64 v]] w (RetL (stackY xs a v) (stackC xs a) (stackV xs a) w) := by
  rcases Nat.eq_zero_or_pos n with hn0 | hn0
  · subst hn0
    obtain rfl : xs = [] := List.eq_nil_of_length_eq_zero h.len
    exact stack_nil A c a k v w h hv
  · exact stack_pos A n c xs a k v w h hn hv hn0
end Go.Proofs.YtkoflhjnpilchaaGreatDoor
