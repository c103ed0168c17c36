/-
  Answer returns what the reference says, for every Record and every thread. No condition beyond the tied variable.
-/
import Derived.Test.YtiajglefmlfkfaaDoorRows
import Derived.Test.YtiajglefmlfkfaaDoorCards
import Derived.Test.YtiajglefmlfkfaaDoorTie
import Derived.Test.YtiajglefmlfkfaaDoorCardB
import Derived.SevenTiedAt
import Derived.Test.YtiajglefmlfkfaaDoorFrame
import Derived.Test.YtiajglefmlfkfaaDoorOpen
import Derived.Test.YtiajglefmlfkfaaDoorAns
namespace Go.Proofs.YtiajglefmlfkfaaDoor.lawRecordAnswers
open Go.RowKit Go.ChangeShapes Go.WideShapes Go.ChangeAt Go.Joins

attribute [local go_sem ↓] Go.wp_at_zero Go.wp_at_succ

theorem cell_alloc_lt {w : World} {o : Obj} {b i : Nat} (h : b < w.heap.size) : (w.alloc o).cell? ⟨b, i, none⟩ = w.cell? ⟨b, i, none⟩ := ((Below.refl w.heap.size w).alloc (Nat.le_refl _) o).cell (p := ⟨b, i, none⟩) h
theorem infoR : (Tryd.prog.info? 46).map (·.size) = some 32 := by kernel_rfl

set_option maxRecDepth 100000 in
theorem out (C : Array Value) (z : Nat → Int) (t : Int) (w : World) (h : U64s C 32 z) (hg : ErrT w) (ho : t < 0 ∨ (0 ≤ t ∧ 4 ≤ t)) :
    Calls Tryd.prog 11 #[.agg C, .int .i64 t] w fun e w' => e = .returned (.bool true) ∧ Below w.heap.size w w' := by
  have hz2 : (Tryd.prog.info? 46).map (·.size) = some C.size := by rw [h.size]; exact infoR
  have HZ := Lib.hid hz2
  clear hz2 h
  have HBK : Hid (Blk (w.alloc (.cells C 46)) w.heap.size 46 C) := Blk.new _ _ _
  have HG2 : Hid (ErrT (w.alloc (.cells C 46))) := hg.below ((Below.refl _ _).alloc (Nat.le_refl _) _)
  clear hg
  have hA := fun w => answer_out C t w ho
  have HA := Lib.hid hA
  clear hA
  have e2 : errV 2 = .iface 25 (.int .i64 2) := by simp [errV]
  have HE := Lib.hid e2
  clear e2
  rcases ho with ho | ⟨ho1, ho2⟩
  all_goals
    go_enter Tryd.func11, Tryd.ntmps11
    go_wp2_with (first
      | (refine wpList_load_row rfl 46 _ rfl w.heap.size rfl 46 C (0, 0) _ ?_ Tryd.underlying46 rfl ?_ ?_; (exact HBK.out); (exact HZ.out))
      | (go_at_call 43; refine (HA.out _).mono ?_; rintro e w1 ⟨rfl, hb1⟩; rw [HE.out]; have HG3 := Lib.hid (HG2.out.below hb1); have z1 : w.heap.size + 1 ≤ w1.heap.size := (by have := hb1.size; simpa using this); have HG4 := Lib.hid (HG3.out.below ((Below.refl _ _).alloc (Nat.le_refl _) (.cells #[.int .i64 0, .int .i64 0] 35))); have hB : Below w.heap.size w w1 := Below.trans (by go_grown) (hb1.mono (by simp)))
      | (go_at_call 23; rw [← HE.out]; refine (bare_any _ _ _ HG4.out).mono ?_; rintro e w2 ⟨rfl, hb2⟩; obtain ⟨hc2, hf2⟩ := bcell hb2; have z2 := hb2.size; simp only [World.size_alloc] at z2; have r0 := hc2 w1.heap.size 0 (by simp); have r1 := hc2 w1.heap.size 1 (by simp); simp [go_sem] at r0 r1; clear hc2 hf2))
    go_ret
    exact ⟨ret_bool (by simp), hB.trans ((Below.trans (by go_grown) (hb2.mono (by simp))).mono hB.size)⟩

set_option maxRecDepth 100000 in
theorem no (C : Array Value) (z : Nat → Int) (t x p q : Nat) (w : World) (h : U64s C 32 z) (hg : ErrT w) (ht : t < 4) (hx : z (18 + t) = (x : Int)) (hp : x / 4294967296 = p) (hq : x % 4294967296 = q) (hr : fitsB p q = false) :
    Calls Tryd.prog 11 #[.agg C, .int .i64 t] w fun e w' => e = .returned (.bool true) ∧ Below w.heap.size w w' := by
  have hz2 : (Tryd.prog.info? 46).map (·.size) = some C.size := by rw [h.size]; exact infoR
  have HZ := Lib.hid hz2
  clear hz2
  have HBK : Hid (Blk (w.alloc (.cells C 46)) w.heap.size 46 C) := Blk.new _ _ _
  have HG2 : Hid (ErrT (w.alloc (.cells C 46))) := hg.below ((Below.refl _ _).alloc (Nat.le_refl _) _)
  clear hg
  have hA := fun w => answer_no C z t x p q w h ht hx hp hq hr
  have HA := Lib.hid hA
  clear hA
  have hx64 : x < 18446744073709551616 := by have := h.bd (18 + t) (by omega); omega
  have hO : ∀ w, Calls Tryd.prog 39 #[.int .u64 x] w fun e w' => e = .returned (.tuple #[.agg #[.int .i64 0, .int .i64 0], .int .i64 3]) ∧ Below w.heap.size w w' := fun w => by
    have := refAnswerOf_any x p q w hx64 hp hq
    simpa [toldC, toldV, hr, okE] using this
  have HO := Lib.hid hO
  clear hO
  have e2 : errV 8 = .iface 25 (.int .i64 8) := by simp [errV]
  have HE := Lib.hid e2
  clear e2
  have hc0 : C[18 + t]? = some (.int .u64 x) := by rw [h.get _ (by omega), hx]
  have HC0 := Lib.hid hc0
  have t4 : decide ((4 : Int) ≤ t) = false := by simp; omega
  have hi : (18 : Int) + t = ((18 + t : Nat) : Int) := by omega
  clear hp hq hr h hx hc0
  generalize hs : 18 + t = s at *
  have s32 : (s : Int) < 32 := by omega
  clear hs ht
  go_enter Tryd.func11, Tryd.ntmps11
  go_wp2_with (first
    | (refine wpList_load_row rfl 46 _ rfl w.heap.size rfl 46 C (0, 0) _ ?_ Tryd.underlying46 rfl ?_ ?_; (exact HBK.out); (exact HZ.out))
    | (go_at_call 43; refine (HA.out _).mono ?_; rintro e w1 ⟨rfl, hb1⟩; rw [HE.out]; have HG3 := Lib.hid (HG2.out.below hb1); have z1 : w.heap.size + 1 ≤ w1.heap.size := (by have := hb1.size; simpa using this); have HG4 := Lib.hid (HG3.out.below ((Below.refl _ _).alloc (Nat.le_refl _) (.cells #[.int .i64 0, .int .i64 0] 35))); have hB : Below w.heap.size w w1 := Below.trans (by go_grown) (hb1.mono (by simp)); have k1 : w1.cell? ⟨w.heap.size, s, none⟩ = some (.int .u64 x) := ((HBK.out.below hb1 (by simp)).cell s).trans HC0.out; have m1 : w.heap.size < w1.heap.size := (by omega))
    | (go_at_call 39; refine (HO.out _).mono ?_; rintro e w3 ⟨rfl, hb3⟩; have HG5 := Lib.hid (HG4.out.below hb3); have z3 := hb3.size; simp only [World.size_alloc] at z3; have HG6 := Lib.hid (HG5.out.below ((Below.refl _ _).alloc (Nat.le_refl _) (.cells #[.int .i64 0, .int .i64 0] 35))); obtain ⟨hc3, hf3⟩ := bcell hb3; have r0 := hc3 w1.heap.size 0 (by simp); have r1 := hc3 w1.heap.size 1 (by simp); simp [go_sem] at r0 r1; clear hc3 hf3; have m3 : w1.heap.size < w3.heap.size := (by omega); have n3 : ¬ w1.heap.size = w3.heap.size := (by omega); have hB3 : Below w.heap.size w w3 := hB.trans (((Below.refl _ _).alloc (show w.heap.size ≤ w1.heap.size by omega) _).trans (hb3.mono (by simp; omega))))
    | (go_at_call 23; rw [← HE.out]; refine (bare_any _ _ _ HG6.out).mono ?_; rintro e w2 ⟨rfl, hb2⟩; obtain ⟨hc2, hf2⟩ := bcell hb2; have z2 := hb2.size; simp only [World.size_alloc] at z2; have q0 := (hc2 w1.heap.size 0 (by simp; omega)).trans ((cell_alloc_lt m3).trans r0); have q1 := (hc2 w1.heap.size 1 (by simp; omega)).trans ((cell_alloc_lt m3).trans r1); clear hc2 hf2; have hB2 : Below w.heap.size w w2 := hB3.trans (((Below.refl _ _).alloc (show w.heap.size ≤ w3.heap.size by omega) _).trans (hb2.mono (by simp; omega)))))
  go_ret
  exact ⟨ret_bool (by simp), hB2⟩

set_option maxRecDepth 100000 in
theorem yes (C : Array Value) (z : Nat → Int) (t x p q : Nat) (y v : Int) (w : World) (h : U64s C 32 z) (ht : t < 4) (hx : z (18 + t) = (x : Int)) (hy : z (22 + t) = y) (hp : x / 4294967296 = p) (hq : x % 4294967296 = q) (hr : fitsB p q = true)
    (hv : (y ≤ 9223372036854775807 ∧ v = y) ∨ (9223372036854775807 < y ∧ v = wrap64 y)) :
    Calls Tryd.prog 11 #[.agg C, .int .i64 t] w fun e w' => e = .returned (.bool true) ∧ Below w.heap.size w w' := by
  have hz2 : (Tryd.prog.info? 46).map (·.size) = some C.size := by rw [h.size]; exact infoR
  have HZ := Lib.hid hz2
  clear hz2
  have HBK : Hid (Blk (w.alloc (.cells C 46)) w.heap.size 46 C) := Blk.new _ _ _
  have hA := fun w => answer_yes C z t x p q y v w h ht hx hy hp hq hr hv
  have HA := Lib.hid hA
  clear hA
  have hx64 : x < 18446744073709551616 := by have := h.bd (18 + t) (by omega); omega
  have hO : ∀ w, Calls Tryd.prog 39 #[.int .u64 x] w fun e w' => e = .returned (.tuple #[.agg #[.int .i64 p, .int .i64 q], .int .i64 0]) ∧ Below w.heap.size w w' := fun w => by
    have := refAnswerOf_any x p q w hx64 hp hq
    simpa [toldC, toldV, hr, okE] using this
  have HO := Lib.hid hO
  clear hO
  obtain ⟨y1, y2⟩ := h.bd (22 + t) (by omega)
  rw [hy] at y1 y2
  have hc0 : C[18 + t]? = some (.int .u64 x) := by rw [h.get _ (by omega), hx]
  have hd0 : C[22 + t]? = some (.int .u64 y) := by rw [h.get _ (by omega), hy]
  have HC0 := Lib.hid hc0
  have HD0 := Lib.hid hd0
  have t4 : decide ((4 : Int) ≤ t) = false := by simp; omega
  have hi : (18 : Int) + t = ((18 + t : Nat) : Int) := by omega
  have hj : (22 : Int) + t = ((22 + t : Nat) : Int) := by omega
  clear hp hq hr h hx hc0 hd0 hy
  generalize hs : 18 + t = s at *
  generalize hu : 22 + t = u at *
  have s32 : (s : Int) < 32 := by omega
  have u32 : (u : Int) < 32 := by omega
  clear hs hu ht
  rcases hv with ⟨hv1, hv2⟩ | ⟨hv1, hv2⟩
  all_goals
    go_enter Tryd.func11, Tryd.ntmps11
    go_wp2_with (first
      | (refine wpList_load_row rfl 46 _ rfl w.heap.size rfl 46 C (0, 0) _ ?_ Tryd.underlying46 rfl ?_ ?_; (exact HBK.out); (exact HZ.out))
      | (go_at_call 43; refine (HA.out _).mono ?_; rintro e w1 ⟨rfl, hb1⟩; have z1 : w.heap.size + 1 ≤ w1.heap.size := (by have := hb1.size; simpa using this); have hB : Below w.heap.size w w1 := Below.trans (by go_grown) (hb1.mono (by simp)); have k1 : w1.cell? ⟨w.heap.size, s, none⟩ = some (.int .u64 x) := ((HBK.out.below hb1 (by simp)).cell s).trans HC0.out; have k2 : w1.cell? ⟨w.heap.size, u, none⟩ = some (.int .u64 y) := ((HBK.out.below hb1 (by simp)).cell u).trans HD0.out; have m1 : w.heap.size < w1.heap.size := (by omega))
      | (go_at_call 39; refine (HO.out _).mono ?_; rintro e w3 ⟨rfl, hb3⟩; have z3 := hb3.size; simp only [World.size_alloc] at z3; obtain ⟨hc3, hf3⟩ := bcell hb3; have r0 := hc3 w1.heap.size 0 (by simp); have r1 := hc3 w1.heap.size 1 (by simp); have r2 : w3.cell? ⟨w.heap.size, u, none⟩ = some (.int .u64 y) := (hc3 w.heap.size u (by simp; omega)).trans ((cell_alloc_lt m1).trans k2); simp [go_sem] at r0 r1; clear hc3 hf3; have m3 : w1.heap.size < w3.heap.size := (by omega); have n3 : ¬ w1.heap.size = w3.heap.size := (by omega); have m4 : w.heap.size < w3.heap.size := (by omega); have hB3 : Below w.heap.size w w3 := hB.trans (((Below.refl _ _).alloc (show w.heap.size ≤ w1.heap.size by omega) _).trans (hb3.mono (by simp; omega)))))
    all_goals go_ret
    all_goals exact ⟨ret_bool (by first | rfl | (simp [hv2]; done) | (exfalso; omega) | (simp; omega)), hB3.trans ((Below.refl _ _).alloc (show w.heap.size ≤ w3.heap.size by omega) _)⟩

theorem walk (C : Array Value) (z : Nat → Int) (t : Int) (w : World) (h : U64s C 32 z) (hg : ErrT w) :
    Calls Tryd.prog 11 #[.agg C, .int .i64 t] w fun e w' => e = .returned (.bool true) ∧ Below w.heap.size w w' := by
  by_cases h1 : t < 0
  · exact out C z t w h hg (.inl h1)
  · by_cases h2 : 4 ≤ t
    · exact out C z t w h hg (.inr ⟨by omega, h2⟩)
    · obtain ⟨n, rfl⟩ := Int.eq_ofNat_of_zero_le (show 0 ≤ t by omega)
      obtain ⟨x, hx⟩ := Int.eq_ofNat_of_zero_le (h.bd (18 + n) (by omega)).1
      cases hr : fitsB (x / 4294967296 : Nat) (x % 4294967296 : Nat) with
      | false => exact no C z n x _ _ w h hg (by omega) hx rfl rfl hr
      | true =>
        rcases Int.lt_or_le 9223372036854775807 (z (22 + n)) with hh | hh
        · exact yes C z n x _ _ _ _ w h (by omega) hx rfl rfl rfl hr (.inr ⟨hh, rfl⟩)
        · exact yes C z n x _ _ _ _ w h (by omega) hx rfl rfl rfl hr (.inl ⟨hh, rfl⟩)

theorem own : ownKnob Tryd.prog.godebug = none := by kernel_rfl

set_option maxRecDepth 100000 in
theorem lifted (os : Os) (started : os.Started) (H : Type) (enc : TypeId × Value → H) :
    ReturnsInHanded {} Tryd.checked os 11 .any (fun w args => (Rows.recordAnswersSpec.pre enc Tryd.prog Tryd.f11 [] false w args ∧ laidMetH Tryd.prog laidE w) ∧ sizedMet enc Tryd.prog Tryd.f11 (OpenSpec.ofChange Rows.recordAnswersSpec) false w args) (Rows.recordAnswersSpec.post enc Tryd.prog Tryd.f11 false true false false) := by
  refine law_lifted_and (C := Tryd.checked) (X := fun w _ => laidMetH Tryd.prog laidE w) (fun _ _ _ hh h => h.of_heap hh) own started (by kernel_rfl) Tryd.func11
    (ChangeSpec.witness_at (enc := enc) (C := Tryd.checked) (os := os) (X := fun w _ => laidMetH Tryd.prog laidE w) false (laidWorld os) #[.agg #[.int .u64 0, .int .u64 0, .int .u64 0, .int .u64 0, .int .u64 0, .int .u64 0, .int .u64 0, .int .u64 0, .int .u64 0, .int .u64 0, .int .u64 0, .int .u64 0, .int .u64 0, .int .u64 0, .int .u64 0, .int .u64 0, .int .u64 0, .int .u64 0, .int .u64 0, .int .u64 0, .int .u64 0, .int .u64 0, .int .u64 0, .int .u64 0, .int .u64 0, .int .u64 0, .int .u64 0, .int .u64 0, .int .u64 0, .int .u64 0, .int .u64 0, .int .u64 0], .int .i64 0] 8 rfl (by kernel_rfl) (by kernel_rfl) (by kernel_rfl) (by kernel_rfl) (by kernel_rfl) (laidWorld_met os _))
    (by kernel_rfl) (by kernel_rfl) rfl rfl Tryd.underlying4 ?_
  intro W base args ds ps hval0 hA0 hsz0 hL
  have hg := errT_of_laid hL
  have hval : ∀ (j : Nat) t v, Tryd.f11.params[j]? = some t → args[j]? = some v → Value.okWide Tryd.prog W .any base t v := hval0
  have hA : DataW.TrodAll enc Tryd.prog W 0 (fun _ => true) true Tryd.f11.params.toList args.toList ds ps := hA0
  rw [Tryd.params11] at hA hval
  obtain ⟨v0, v1, d0, d1, p0, p1, rfl, rfl, rfl, h0, h1⟩ := trodAll_two hA
  obtain ⟨r, rfl, wr⟩ := open_flat 4 (K := List.replicate 32 .u64) (by kernel_rfl) (by kernel_rfl) (by kernel_rfl) (hval 0 46 v0 rfl rfl) h0
  obtain ⟨t, rfl, rfl, rfl, wt⟩ := open_int Tryd.underlying3 (hval 1 3 v1 rfl rfl) h1
  have hU := flatU 32 wr
  exact ⟨rfl, walk _ r t W hU hg⟩

theorem kinPlace : (Rows.recordAnswersRow.inPlace == Tryd.pinned.checked.prog.inPlace 11) = true := by kernel_rfl
theorem kunfollowed : (Rows.recordAnswersRow.unfollowed == Tryd.pinned.checked.prog.unfollowed 11) = true := by kernel_rfl
theorem krecurses : (Rows.recordAnswersRow.recurses == Tryd.pinned.checked.prog.recurses 11) = true := by kernel_rfl
theorem knamed : (Rows.recordAnswersRow.named == Tryd.pinned.checked.prog.varsNamed 11) = true := by kernel_rfl
theorem closed : joinedFacts Tryd.pinned.checked.prog 11 Tryd.f11 Rows.recordAnswersSpec Rows.recordAnswersRow = true := by
  unfold joinedFacts
  simp only [Bool.and_eq_true]
  repeat' apply And.intro
  all_goals first | (with_reducible exact kinPlace) | (with_reducible exact kunfollowed) | (with_reducible exact krecurses) | (with_reducible exact knamed) | (with_reducible exact laidOutP) | (with_reducible exact mapsRowedP) | kernel_rfl
theorem goes : false = Rows.recordAnswersRow.goesBy Tryd.pinned.checked.prog := by kernel_rfl
theorem wfText : Rows.recordAnswersRow.wfByText (OpenSpec.ofChange Rows.recordAnswersSpec) = true := by kernel_rfl

theorem row : Rows.RecordAnswersSaid :=
  OpenClaim.holds_of_wide 11 Tryd.f11 rfl rfl rfl rfl rfl rfl rfl ⟨rfl, rfl, rfl, rfl, rfl⟩ rfl rfl rfl rfl rfl (by kernel_rfl) Tryd.func11 closed
    (of_decide_eq_true (by kernel_rfl)) (by unfold Func.isWrapper; first | (rw [if_pos (by decide +kernel)]; kernel_rfl) | (rw [if_neg (by decide +kernel)]; exact ⟨rfl, rfl⟩))
    (fun os started H enc _ => lifted os started H enc)
theorem holds : Rows.RecordAnswersCardSaid :=
  Claim7.holds_tied_plain_at .later [] [.handle] true Rows.recordAnswersCard.stood.harness true
    row (fun _ h => by cases h) wfText (fun _ h => by cases h) recordAnswers_row_tie rfl ⟨rfl, rfl⟩ (by kernel_rfl) rfl
    (fun f fn hf hfn => by
      obtain rfl : f = 11 := Option.some.inj ((show Tryd.prog.funcNamed Rows.recordAnswersRow.func = some 11 by kernel_rfl).symm.trans hf) |>.symm
      obtain rfl : fn = Tryd.f11 := (Option.some.inj (Tryd.func11.symm.trans hfn)).symm
      refine ⟨looksP, fun j t ht => ?_⟩
      have hall : (Tryd.f11.params.toList.all fun t => !(Tryd.prog.wantsStandIn t)) = true := by kernel_rfl
      have hm : t ∈ Tryd.f11.params.toList := List.mem_of_getElem? (by simpa using ht)
      have h := List.all_eq_true.1 hall t hm
      show Tryd.prog.wantsStandIn t = false
      simpa using h)
    goes
#print axioms holds
end Go.Proofs.YtiajglefmlfkfaaDoor.lawRecordAnswers
