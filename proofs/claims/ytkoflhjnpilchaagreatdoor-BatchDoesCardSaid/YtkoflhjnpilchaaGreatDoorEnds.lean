/-
  What gristmillref.ends returns: for lists of at most 60 numbers, out a place of the list.
-/
import Derived.Test.YtkoflhjnpilchaaGreatDoorMBase
import Derived.Test.YtkoflhjnpilchaaGreatDoorMWord
namespace Go.Proofs.YtkoflhjnpilchaaGreatDoor
set_option linter.unusedSimpArgs false
set_option linter.unusedVariables false
set_option linter.unusedSectionVars false
open Go.RowKit
attribute [local go_sem ↓] Go.wp_at_zero Go.wp_at_succ

theorem said_below (c v : Int) (w : World) : Calls Tryz.prog 71 #[.int .i64 c, .int .i64 v] w fun e w' => e = .returned (.agg #[.int .i64 c, .int .i64 v]) ∧ Below w.heap.size w w' :=
  (said_any c v w).mono fun _ _ ⟨he, hw⟩ => ⟨he, by rw [hw]; exact (Below.refl _ _).alloc (Nat.le_refl _) _⟩

def endsY (xs : List Int) (a v : Int) (fr : Bool) (k : Nat) : List Int := if a = 6 then xs else if a = 1 ∨ a = 3 then (if xs.length < 6 then (if fr then v :: xs else xs ++ [v]) else xs) else if a = 5 ∨ xs.length = 0 then xs else xs.take k ++ xs.drop (k + 1)
def endsC (xs : List Int) (a : Int) : Int := if a = 6 then 1 else if a = 1 ∨ a = 3 then (if xs.length < 6 then 1 else 3) else if xs.length = 0 then 2 else 1
def endsV (xs : List Int) (a : Int) (k : Nat) : Int := if a = 6 then xs.length else if a = 1 ∨ a = 3 then 0 else if xs.length = 0 then 0 else xs[k]?.getD 0

set_option linter.unusedSimpArgs false in
set_option maxRecDepth 100000 in
set_option maxHeartbeats 2000000 in
theorem ends_pos (A : Option Addr) (n c : Nat) (xs : List Int) (a k v : Int) (fr : Bool) (out : Int) (p : Nat) (w : World) (h : SlI w A n c xs) (hn : n ≤ 60) (hv : -9223372036854775808 ≤ v ∧ v ≤ 9223372036854775807) (hn0 : 0 < n) (hp : out = p) (hpn : p < n) :
    Calls Tryz.prog 72 #[.slice A n c, .agg #[.int .i64 a, .int .i64 k, .int .i64 v], .bool fr, .int .i64 out] w (RetL (endsY xs a v fr p) (endsC xs a) (endsV xs a p) w) := by
  subst hp
  obtain ⟨b, off, rfl, hblt, hcell⟩ := h.at_ hn0
  have h63 := h.cap63
  have hnc := h.cap
  have hlen := Lib.hid h.len
  have hc0 := hcell p hpn
  obtain ⟨x0, hx0⟩ : ∃ x, xs[p]?.getD 0 = x := ⟨_, rfl⟩
  rw [hx0] at hc0
  have HX0 := Lib.hid hx0
  clear hx0 hcell
  have H := Lib.hid h
  clear h
  have hv' := Lib.hid hv
  clear hv
  go_enter Tryz.func72, Tryz.ntmps72
  have d0 : ((n : Int) == 0) = false := by simp; omega
  have hpn' : (p : Int) < n := by omega
  go_wp2_with (first
    | (at_builtin; refine wpList_append_copy rfl (.const (.slice none 0 0)) (.tmp 11) rfl rfl rfl (H.out.below (by go_grown)) (by omega) ?_; intro A1 c1 w1 hown hb1; obtain ⟨hc, hf⟩ := bcell hb1; have hz := hb1.size; simp only [World.size_alloc] at hz; have hB : Below w.heap.size w w1 := Below.trans (by go_grown) (hb1.mono (by simp; omega)); replace hown := hown.mono (B' := w.heap.size + 2) (by simp); have q1 : w.heap.size + 1 < w1.heap.size := (by omega); have q0 : w.heap.size < w1.heap.size := (by omega); have m1 : ¬ w.heap.size + 1 = w1.heap.size := (by omega); obtain ⟨g, rfl, hg0, hg1, hgc⟩ := hown.at_ hn0; have hc1n := (hown.sli H.out.bd).cap; have hc163 := (hown.sli H.out.bd).cap63; clear hgc; have hown' := Lib.hid hown; clear hown; have rb := (hB.cell (p := ⟨b, off + p, none⟩) hblt).trans hc0; have r0 := hc (w.heap.size + 1) 0 (by simp); have r1 := hc (w.heap.size + 1) 1 (by simp); simp [go_sem] at r0 r1)
    | (at_builtin; refine wpList_append_full rfl (.tmp 38) (.tmp 39) rfl rfl rfl (SlO.one w1 3 v hv'.out) (by simp) (by intro h; cases h) ((hown'.out.sli H.out.bd).below (by go_grown)) (by omega) (by omega) ?_; intro A2 c2 w2 hslo hb2; obtain ⟨hc2, hf2⟩ := bcell hb2; have hz2 := hb2.size; simp only [World.size_alloc] at hz2; have hB2 : Below w.heap.size w w2 := Below.trans (by go_grown) (hb2.mono (by simp; omega)); have s0 := (hc2 (w.heap.size + 1) 0 (by simp; omega)).trans ((cell_alloc_lt (by omega)).trans r0); have s1 := (hc2 (w.heap.size + 1) 1 (by simp; omega)).trans ((cell_alloc_lt (by omega)).trans r1); replace hslo := hslo.mono (B' := w.heap.size + 2) (by omega); have hslo' := Lib.hid hslo; clear hslo; have q3 : w.heap.size + 1 < w2.heap.size := (by omega); have q4 : w.heap.size < w2.heap.size := (by omega); have m2 : ¬ w.heap.size + 1 = w2.heap.size := (by omega))
    | (at_builtin; refine wpList_append1 rfl (.tmp 42) (.tmp 45) rfl (B := w.heap.size + 2) rfl (hown'.out.alloc _) rfl ((Blk.new _ _ _).cell 0) (by omega) (by simp; omega) ?_; intro g2 c2 w2 hown2 hb2; obtain ⟨hc2, hf2⟩ := bcell hb2; have hz2 := hb2.size; simp only [World.size_alloc] at hz2; have hB2 : Below w.heap.size w w2 := Below.trans (by go_grown) (hb2.mono (by simp)); have s0 := (hc2 (w.heap.size + 1) 0 (by simp)).trans ((cell_alloc_lt (by omega)).trans r0); have s1 := (hc2 (w.heap.size + 1) 1 (by simp)).trans ((cell_alloc_lt (by omega)).trans r1); have hslo' := Lib.hid (hown2.slo (IBd.app H.out.bd hv'.out)); clear hown2; have q3 : w.heap.size + 1 < w2.heap.size := (by omega); have q4 : w.heap.size < w2.heap.size := (by omega); have m2 : ¬ w.heap.size + 1 = w2.heap.size := (by omega))
    | (go_at_call 71; refine (said_any _ _ _).mono ?_; rintro e w2 ⟨rfl, rfl⟩))
  rotate_right 1
  focus
    have e1 : IntKind.i64.wrap ((p : Int) + 1) = p + 1 := IntWalk.i64_in _ (by omega)
    have hbw1 : b < w1.heap.size := by omega
    have hc1p : ((c1 : Int) - (p + 1)).toNat = c1 - (p + 1) := by omega
    have hn1p : ((n : Int) - (p + 1)).toNat = n - (p + 1) := by omega
    have hp1 : ((p : Int) + 1).toNat = p + 1 := by omega
    have b1 : (p : Int) + 1 ≤ n := by omega
    have b2 : (p : Int) + 1 ≤ c1 := by omega
    have b3 : (p : Int) ≤ c1 := by omega
    have b4 : (n : Int) ≤ c1 := by omega
    have b5 : (p : Int) ≤ n := by omega
    have hS1 : SlI w1 (some ⟨g, 0, none⟩) n c1 xs := hown'.out.sli H.out.bd
    have hS2 := Lib.hid (((hown'.out.slo H.out.bd).take p (by omega)))
    have hS3 := Lib.hid (hS1.dropIf (p + 1) (by omega))
    have hS1 := Lib.hid hS1
    refine wp_region_rely 14 nowhere [] (by kernel_rfl) (by kernel_rfl) ?_
    iterate 14
      refine wpRely_step (fun K hK => ?_)
      first
      | (refine .inl ?_
         apply Exists.intro
         refine ⟨Any, ?_, hK _ _ _ _ ?_⟩
         · simp only [RelyOp, fillE]
           first
           | refine ⟨rfl, fun w9 hw9 _ => ?_⟩
           | (rintro _ ⟨A9, c9, rfl⟩; refine ⟨rfl, fun w9 hw9 _ => ?_⟩)
           obtain ⟨hc9, hf9⟩ := hw9.all
           go_simp
           first
           | exact ⟨⟨rfl, trivial⟩, Keeps.refl _ _⟩
           | (go_at_call 71; exact rely_det (said_below _ _ _))
         clear hK K
         try simp only [Act.put, List.setIfInBounds_toArray, List.set_cons_zero, List.set_cons_succ])
      | (refine .inr (.inr ⟨fun v => ∃ A c, v = .slice A (n - 1) c, fun v w' => ∃ A c, v = .slice A (n - 1) c ∧ SlO w' (w.heap.size + 2) A (n - 1) c (xs.take p ++ xs.drop (p + 1)), ⟨_, none, 0, rfl⟩, ?_, hK _ _ _ _ ?_⟩)
         · simp only [RelyOp, fillE]
           refine ⟨rfl, fun w9 hw9 _ => ?_⟩
           refine relyAt_append_full (.tmp 67) (.tmp 71) rfl (n := p) (c := p) (xs := xs.take p) (ys := xs.drop (p + 1)) (m := n - (p + 1)) (G := w.heap.size + 2) (A := some ⟨g, 0, none⟩) rfl ?_ (hS2.out.keeps hw9) ?_ ?_ (hS3.out.keeps hw9) ?_ ?_ ?_
           · simp [go_sem]
           · have := hw9.size; omega
           · intro h; cases h
           · omega
           · omega
           intro A' c' w' hslo hbb
           exact ⟨⟨⟨A', c', by rw [show p + (n - (p + 1)) = n - 1 by omega]⟩, ⟨A', c', by rw [show p + (n - (p + 1)) = n - 1 by omega], by rw [show n - 1 = p + (n - (p + 1)) by omega]; exact hslo⟩⟩, Keeps.of_same hbb⟩
         clear hK K)
    refine wpRely_nil ?_
    simp only [fillE]
    rintro _ ⟨A9, c9, rfl⟩ w9 hw9 hmet
    obtain ⟨w0, k0, k1, A8, c8, hv8, hslo⟩ := (hmet.1 rfl).out
    cases hv8
    obtain ⟨hc9, hf9⟩ := hw9.all
    have s0 := (hc9 (w.heap.size + 1) 0 (by omega)).trans r0
    have s1 := (hc9 (w.heap.size + 1) 1 (by omega)).trans r1
    have hB2 : Below w.heap.size w w9 := hB.trans (hw9.same.mono (by omega))
    have hslo' := Lib.hid (hslo.below k1)
    clear hmet hslo
    go_wp2
  all_goals (refine bodyPost_ret (by first | (simp [results, Tryz.results72, go_sem, s0, s1, m2, q3]; try rfl; done) | (simp [results, Tryz.results72, go_sem, s0, s1]; try rfl; done) | (simp [results, Tryz.results72, go_sem, r0, r1, m1, q1]; try rfl; done)) rfl ?_)
  all_goals simp only [beq_iff_eq, beq_eq_false_iff_ne, ne_eq] at *
  all_goals (first
    | (refine retL_slo hslo'.out hB2 ?_ ?_ ?_ ?_ ?_ ?_ ?_)
    | (refine RetL.alloc (retL_slo hslo'.out hB2 ?_ ?_ ?_ ?_ ?_ ?_ ?_) _)
    | (refine RetL.alloc (retL_slo (hown'.out.slo H.out.bd) hB ?_ ?_ ?_ ?_ ?_ ?_ ?_) _))
  all_goals first | (show w.heap.size + 1 < w.heap.size + 2; omega) | (show w.heap.size ≤ w.heap.size + 1; omega) | skip
  all_goals (have hx := HX0.out; have hl := hlen.out; simp only [endsY, endsC, endsV]; (repeat' split) <;> first | rfl | (exfalso; omega) | (simp_all; done) | (simp_all; omega))

set_option linter.unusedSimpArgs false in
set_option maxRecDepth 100000 in
set_option maxHeartbeats 2000000 in
theorem ends_nil (A : Option Addr) (c : Nat) (a k v : Int) (fr : Bool) (out : Int) (p : Nat) (w : World) (h : SlI w A 0 c []) (hv : -9223372036854775808 ≤ v ∧ v ≤ 9223372036854775807) :
    Calls Tryz.prog 72 #[.slice A 0 c, .agg #[.int .i64 a, .int .i64 k, .int .i64 v], .bool fr, .int .i64 out] w (RetL (endsY [] a v fr p) (endsC [] a) (endsV [] a p) w) := by
  have h63 := h.cap63
  have H := Lib.hid h
  clear h
  have hv' := Lib.hid hv
  clear hv
  go_enter Tryz.func72, Tryz.ntmps72
  go_wp2_with (first
    | (at_builtin; refine wpList_append_copy rfl (.const (.slice none 0 0)) (.tmp 11) rfl rfl rfl (H.out.below (by go_grown)) (by omega) ?_; intro A1 c1 w1 hown hb1; obtain ⟨hc, hf⟩ := bcell hb1; have hz := hb1.size; simp only [World.size_alloc] at hz; have hB : Below w.heap.size w w1 := Below.trans (by go_grown) (hb1.mono (by simp; omega)); replace hown := hown.mono (B' := w.heap.size + 2) (by simp); have q1 : w.heap.size + 1 < w1.heap.size := (by omega); have q0 : w.heap.size < w1.heap.size := (by omega); have m1 : ¬ w.heap.size + 1 = w1.heap.size := (by omega); have hc163 := (hown.sli H.out.bd).cap63; have hown' := Lib.hid hown; clear hown; have r0 := hc (w.heap.size + 1) 0 (by simp); have r1 := hc (w.heap.size + 1) 1 (by simp); simp [go_sem] at r0 r1)
    | (at_builtin; refine wpList_append_full rfl (.tmp 38) (.tmp 39) rfl rfl rfl (SlO.one w1 3 v hv'.out) (by simp) (by intro h; cases h) ((hown'.out.sli H.out.bd).below (by go_grown)) (by omega) (by omega) ?_; intro A2 c2 w2 hslo hb2; obtain ⟨hc2, hf2⟩ := bcell hb2; have hz2 := hb2.size; simp only [World.size_alloc] at hz2; have hB2 : Below w.heap.size w w2 := Below.trans (by go_grown) (hb2.mono (by simp; omega)); have s0 := (hc2 (w.heap.size + 1) 0 (by simp; omega)).trans ((cell_alloc_lt (by omega)).trans r0); have s1 := (hc2 (w.heap.size + 1) 1 (by simp; omega)).trans ((cell_alloc_lt (by omega)).trans r1); replace hslo := hslo.mono (B' := w.heap.size + 2) (by omega); have hslo' := Lib.hid hslo; clear hslo; have q3 : w.heap.size + 1 < w2.heap.size := (by omega); have q4 : w.heap.size < w2.heap.size := (by omega); have m2 : ¬ w.heap.size + 1 = w2.heap.size := (by omega))
    | (at_builtin; refine wpList_append1 rfl (.tmp 42) (.tmp 45) rfl (B := w.heap.size + 2) rfl (hown'.out.alloc _) rfl ((Blk.new _ _ _).cell 0) (by omega) (by simp; omega) ?_; intro g2 c2 w2 hown2 hb2; obtain ⟨hc2, hf2⟩ := bcell hb2; have hz2 := hb2.size; simp only [World.size_alloc] at hz2; have hB2 : Below w.heap.size w w2 := Below.trans (by go_grown) (hb2.mono (by simp)); have s0 := (hc2 (w.heap.size + 1) 0 (by simp)).trans ((cell_alloc_lt (by omega)).trans r0); have s1 := (hc2 (w.heap.size + 1) 1 (by simp)).trans ((cell_alloc_lt (by omega)).trans r1); have hslo' := Lib.hid (hown2.slo (IBd.app H.out.bd hv'.out)); clear hown2; have q3 : w.heap.size + 1 < w2.heap.size := (by omega); have q4 : w.heap.size < w2.heap.size := (by omega); have m2 : ¬ w.heap.size + 1 = w2.heap.size := (by omega))
    | (go_at_call 71; refine (said_any _ _ _).mono ?_; rintro e w2 ⟨rfl, rfl⟩))
  all_goals (refine bodyPost_ret (by first | (simp [results, Tryz.results72, go_sem, s0, s1, m2, q3]; try rfl; done) | (simp [results, Tryz.results72, go_sem, s0, s1]; try rfl; done) | (simp [results, Tryz.results72, go_sem, r0, r1, m1, q1]; try rfl; done)) rfl ?_)
  all_goals simp only [beq_iff_eq, beq_eq_false_iff_ne, ne_eq] at *
  all_goals (first
    | (refine RetL.alloc (retL_slo hslo'.out hB2 ?_ ?_ ?_ ?_ ?_ ?_ ?_) _)
    | (refine RetL.alloc (retL_slo (hown'.out.slo H.out.bd) hB ?_ ?_ ?_ ?_ ?_ ?_ ?_) _))
  all_goals first | (show w.heap.size + 1 < w.heap.size + 2; omega) | (show w.heap.size ≤ w.heap.size + 1; omega) | skip
  all_goals (simp only [endsY, endsC, endsV]; (repeat' split) <;> first | rfl | (exfalso; omega) | (simp_all; done) | (simp_all; omega))

theorem ends_any (A : Option Addr) (n c : Nat) (xs : List Int) (a k v : Int) (fr : Bool) (out : Int) (p : Nat) (w : World) (h : SlI w A n c xs) (hn : n ≤ 60) (hv : -9223372036854775808 ≤ v ∧ v ≤ 9223372036854775807) (hp : 0 < n → out = p ∧ p < n) :
    Calls Tryz.prog 72 #[.slice A n c, .agg #[.int .i64 a, .int .i64 k, .int .i64 v], .bool fr, .int .i64 out] w (RetL (endsY xs a v fr p) (endsC xs a) (endsV xs a p) w) := by
  rcases Nat.eq_zero_or_pos n with hn0 | hn0
  · subst hn0
    obtain rfl : xs = [] := List.eq_nil_of_length_eq_zero h.len
    exact ends_nil A c a k v fr out p w h hv
  · exact ends_pos A n c xs a k v fr out p w h hn hv hn0 (hp hn0).1 (hp hn0).2
end Go.Proofs.YtkoflhjnpilchaaGreatDoor
