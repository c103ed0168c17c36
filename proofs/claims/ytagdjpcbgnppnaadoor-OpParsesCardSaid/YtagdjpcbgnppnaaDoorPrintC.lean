/-
  op.Print and the reference's OpText, for any operation; the names in histories (story.name, ref.name). The tables of strings and strconv hold what they hold (premises on variables).
-/
import Derived.Test.YtagdjpcbgnppnaaDoorSayC
namespace Go.Proofs.YtagdjpcbgnppnaaDoor
set_option linter.unusedSimpArgs false
set_option linter.unusedVariables false
set_option linter.unusedSectionVars false
open Go.RowKit
attribute [local go_sem ↓] Go.wp_at_zero Go.wp_at_succ

/-- An operation's text. -/
def keyD (a k : Int) : ByteArray := if 0 < k then nameOf opL a ++ ((⟨#[58]⟩ : ByteArray) ++ itoaB k) else nameOf opL a
def optD (a k v : Int) : ByteArray := if 0 < v then keyD a k ++ ((⟨#[61]⟩ : ByteArray) ++ itoaB v) else keyD a k
def printZ (a k v : Int) : ByteArray := if opRightB a k v then optD a k v else ⟨#[]⟩


set_option maxRecDepth 100000 in
theorem optext_in (a k v : Int) (i : Nat) (z : ByteArray) (C : Array Value) {w : World} (hS : SpT w.heap.size w) (hT : TenT w.heap.size w) (hr : opRightB a k v = true) (hi : a = (i : Int) + 1) (hi6 : i < 6) (hC : C[i]? = some (.string z)) (zs : z.size ≤ 6)
    (hF : ∀ w1 : World, SpT w.heap.size w1 → Calls Tryd.prog 7 #[.string ⟨#[112, 117, 116, 32, 116, 97, 107, 101, 32, 102, 114, 111, 110, 116, 32, 98, 97, 99, 107, 32, 112, 101, 101, 107, 32, 99, 111, 117, 110, 116]⟩] w1 fun e w' =>
      e = .returned (.slice (some ⟨w1.heap.size, 0, none⟩) 6 6) ∧ w' = w1.alloc (.cells C 9)) :
    Calls Tryd.prog 10 #[.agg #[.int .i64 a, .int .i64 k, .int .i64 v]] w fun e w' => e = .returned (.tuple #[.string (if 0 < v then (if 0 < k then z ++ ((⟨#[58]⟩ : ByteArray) ++ itoaB k) else z) ++ ((⟨#[61]⟩ : ByteArray) ++ itoaB v) else (if 0 < k then z ++ ((⟨#[58]⟩ : ByteArray) ++ itoaB k) else z)), .int .i64 0]) ∧ Below w.heap.size w w' := by
  have hq : 1 ≤ a ∧ a ≤ 6 ∧ 0 ≤ k ∧ k ≤ 1000 ∧ 0 ≤ v ∧ v ≤ 4294967295 := by simpa [opRightB] using hr
  obtain ⟨q1, q2, q3, q4, q5, q6⟩ := hq
  have HR := Lib.hid hr
  have HT := Lib.hid hT
  have HS := Lib.hid hS
  have HF := Lib.hid hF
  have hcm : a - 1 = (i : Int) := by omega
  clear hr hS hT hF hi
  have kw : IntKind.i64.wrap (i : Int) = (i : Int) := IntWalk.i64_in _ (by omega)
  have k1 : (0 : Int) ≤ (i : Int) ∧ (i : Int) < 6 := by omega
  have ys := itoaB_size v (by omega) (by omega)
  have ks := itoaB_size k (by omega) (by omega)
  have n1 : ¬ 9223372036854775807 < 1 + (itoaB v).size := by omega
  have n2 : ¬ 9223372036854775807 < 1 + (itoaB k).size := by omega
  have n3 : ¬ 9223372036854775807 < z.size + (1 + (itoaB v).size) := by omega
  have n4 : ¬ 9223372036854775807 < z.size + (1 + (itoaB k).size) := by omega
  have n5 : ¬ 9223372036854775807 < z.size + (1 + (itoaB k).size) + (1 + (itoaB v).size) := by omega

  by_cases hk : 0 < k <;> by_cases hv : 0 < v
  · rw [if_pos hv]
    rw [if_pos hk]
    have d1 : (k != 0) = true := by simp; omega
    have d2 : (v != 0) = true := by simp; omega
    go_enter Tryd.func10, Tryd.ntmps10
    go_wp2_with (go_at_call 19; refine (refOpRight_any _ _ _ _).mono ?_; rintro e w1 ⟨rfl, hb⟩; rw [HR.out]; have hz1 := hb.size; simp only [World.size_alloc] at hz1; have HB1 := Lib.hid (show Below w.heap.size w w1 from Below.trans (by go_grown) (hb.mono (by simp))); have hc0 := hb.cell (p := ⟨w.heap.size, 0, none⟩) (by simp); have hck := hb.cell (p := ⟨w.heap.size, 1, none⟩) (by simp); have hcv := hb.cell (p := ⟨w.heap.size, 2, none⟩) (by simp); simp [go_sem] at hc0 hck hcv; have hcc := hc0; clear hb)
    refine wp_region_rely 7 nowhere [] (by kernel_rfl) (by kernel_rfl) ?_
    refine wpRely_step (fun K hK => ?_)
    refine .inr (.inr ⟨IsSl 6, SlAt 6 C, ⟨_, 0, rfl⟩, ?_, hK _ _ _ _ ?_⟩)
    · simp only [RelyOp, fillE]
      refine ⟨rfl, fun w9 hw9 _ => ?_⟩
      go_simp
      go_at_call 7
      refine (HF.out _ (HS.out.on (HB1.out.trans (hw9.same.mono HB1.out.size)))).mono ?_
      rintro e w2 ⟨rfl, rfl⟩
      exact ⟨_, rfl, ⟨⟨_, rfl⟩, ⟨_, rfl, Blk.new _ _ _⟩⟩, Keeps.of_same ((Below.refl _ _).alloc (Nat.le_refl _) _)⟩
    clear hK K
    try simp only [Act.put, List.setIfInBounds_toArray, List.set_cons_zero, List.set_cons_succ]
    iterate 3
      refine wpRely_step (fun K hK => ?_)
      refine .inl ?_
      apply Exists.intro
      refine ⟨Any, ?_, hK _ _ _ _ ?_⟩
      · simp only [RelyOp, fillE]
        rintro _ ⟨g2, rfl⟩
        refine ⟨?_, fun w9 hw9 _ => ?_⟩
        · first | rfl | (go_simp; done)
        obtain ⟨hc9, hf9⟩ := hw9.all
        have hcc9 := (hc9 w.heap.size 0 (by omega)).trans hcc
        go_simp
        exact ⟨⟨rfl, trivial⟩, Keeps.refl _ _⟩
      clear hK K
      try simp only [Act.put, List.setIfInBounds_toArray, List.set_cons_zero, List.set_cons_succ]
    refine wpRely_step (fun K hK => ?_)
    refine .inr (.inr ⟨IsPt i, PtAt i C, ⟨_, 0, rfl⟩, ?_, hK _ _ _ _ ?_⟩)
    · simp only [RelyOp, fillE]
      rintro _ ⟨g2, rfl⟩
      refine ⟨rfl, fun w9 hw9 hmet0 => ?_⟩
      obtain ⟨w0, k0, k1, g', hv9, hl⟩ := (hmet0.2.1 (by kernel_rfl)).out
      cases hv9
      have hl9 := hl.below k1 hl.lt
      clear hmet0 hl
      go_simp
      exact ⟨⟨⟨_, rfl⟩, ⟨_, rfl, hl9⟩⟩, Keeps.refl _ _⟩
    clear hK K
    refine wpRely_step (fun K hK => ?_)
    refine .inl ⟨.string z, Any, ?_, hK _ _ _ _ ?_⟩
    · simp only [RelyOp, fillE]
      rintro _ ⟨g4, rfl⟩ _ ⟨g2, rfl⟩
      refine ⟨rfl, fun w9 hw9 hmet0 => ?_⟩
      obtain ⟨w0, k0, k1, g', hv9, hl⟩ := (hmet0.2.2.1 (by kernel_rfl)).out
      cases hv9
      have hl9 := ((hl.below k1 hl.lt).cell i).trans hC
      clear hmet0 hl
      go_simp
      exact ⟨⟨rfl, trivial⟩, Keeps.refl _ _⟩
    clear hK K
    try simp only [Act.put, List.setIfInBounds_toArray, List.set_cons_zero, List.set_cons_succ]
    refine wpRely_step (fun K hK => ?_)
    refine .inl ⟨.string z, Any, ?_, hK _ _ _ _ ?_⟩
    · simp only [RelyOp, fillE]
      rintro _ ⟨g4, rfl⟩ _ ⟨g2, rfl⟩
      refine ⟨rfl, fun w9 hw9 _ => ?_⟩
      go_simp
      exact ⟨⟨rfl, trivial⟩, Keeps.refl _ _⟩
    clear hK K
    try simp only [Act.put, List.setIfInBounds_toArray, List.set_cons_zero, List.set_cons_succ]
    refine wpRely_nil ?_
    simp only [fillE]
    rintro _ ⟨g4, rfl⟩ _ ⟨g2, rfl⟩ w9 hw9 _
    obtain ⟨hc9, hf9⟩ := hw9.all
    have hck9 := (hc9 w.heap.size 1 (by omega)).trans hck
    have hcv9 := (hc9 w.heap.size 2 (by omega)).trans hcv
    have hB9 : Below w.heap.size w w9 := HB1.out.trans (hw9.same.mono HB1.out.size)
    have HB9 := Lib.hid hB9
    have hz9 : w1.heap.size ≤ w9.heap.size := hw9.same.size
    clear hB9 hc9 hf9 hcv
    have hcv := hcv9
    simp only [List.drop_succ_cons, List.drop_zero, List.drop, Act.put, List.setIfInBounds_toArray, List.set_cons_zero, List.set_cons_succ]
    go_wp2_with fail
    refine (itoa_any _ (by omega) (by omega) (HT.out.on HB9.out)).mono ?_
    rintro e w2 ⟨rfl, hb2⟩
    have HB2 := Lib.hid (HB9.out.trans (hb2.mono HB9.out.size))
    have hcv2 := (hb2.cell (p := ⟨w.heap.size, 2, none⟩) (by show w.heap.size < _; omega)).trans hcv
    have hz2 := hb2.size
    clear hb2
    go_wp2_with fail
    refine (itoa_any _ (by omega) (by omega) (HT.out.on HB2.out)).mono ?_
    rintro e w3 ⟨rfl, hb3⟩
    have HB3 := Lib.hid (HB2.out.trans (hb3.mono HB2.out.size))
    go_wp2
    go_ret2
    exact ⟨rfl, HB3.out⟩
  · rw [if_neg hv]
    rw [if_pos hk]
    have d1 : (k != 0) = true := by simp; omega
    have d2 : (v != 0) = false := by simp; omega
    go_enter Tryd.func10, Tryd.ntmps10
    go_wp2_with (go_at_call 19; refine (refOpRight_any _ _ _ _).mono ?_; rintro e w1 ⟨rfl, hb⟩; rw [HR.out]; have hz1 := hb.size; simp only [World.size_alloc] at hz1; have HB1 := Lib.hid (show Below w.heap.size w w1 from Below.trans (by go_grown) (hb.mono (by simp))); have hc0 := hb.cell (p := ⟨w.heap.size, 0, none⟩) (by simp); have hck := hb.cell (p := ⟨w.heap.size, 1, none⟩) (by simp); have hcv := hb.cell (p := ⟨w.heap.size, 2, none⟩) (by simp); simp [go_sem] at hc0 hck hcv; have hcc := hc0; clear hb)
    refine wp_region_rely 7 nowhere [] (by kernel_rfl) (by kernel_rfl) ?_
    refine wpRely_step (fun K hK => ?_)
    refine .inr (.inr ⟨IsSl 6, SlAt 6 C, ⟨_, 0, rfl⟩, ?_, hK _ _ _ _ ?_⟩)
    · simp only [RelyOp, fillE]
      refine ⟨rfl, fun w9 hw9 _ => ?_⟩
      go_simp
      go_at_call 7
      refine (HF.out _ (HS.out.on (HB1.out.trans (hw9.same.mono HB1.out.size)))).mono ?_
      rintro e w2 ⟨rfl, rfl⟩
      exact ⟨_, rfl, ⟨⟨_, rfl⟩, ⟨_, rfl, Blk.new _ _ _⟩⟩, Keeps.of_same ((Below.refl _ _).alloc (Nat.le_refl _) _)⟩
    clear hK K
    try simp only [Act.put, List.setIfInBounds_toArray, List.set_cons_zero, List.set_cons_succ]
    iterate 3
      refine wpRely_step (fun K hK => ?_)
      refine .inl ?_
      apply Exists.intro
      refine ⟨Any, ?_, hK _ _ _ _ ?_⟩
      · simp only [RelyOp, fillE]
        rintro _ ⟨g2, rfl⟩
        refine ⟨?_, fun w9 hw9 _ => ?_⟩
        · first | rfl | (go_simp; done)
        obtain ⟨hc9, hf9⟩ := hw9.all
        have hcc9 := (hc9 w.heap.size 0 (by omega)).trans hcc
        go_simp
        exact ⟨⟨rfl, trivial⟩, Keeps.refl _ _⟩
      clear hK K
      try simp only [Act.put, List.setIfInBounds_toArray, List.set_cons_zero, List.set_cons_succ]
    refine wpRely_step (fun K hK => ?_)
    refine .inr (.inr ⟨IsPt i, PtAt i C, ⟨_, 0, rfl⟩, ?_, hK _ _ _ _ ?_⟩)
    · simp only [RelyOp, fillE]
      rintro _ ⟨g2, rfl⟩
      refine ⟨rfl, fun w9 hw9 hmet0 => ?_⟩
      obtain ⟨w0, k0, k1, g', hv9, hl⟩ := (hmet0.2.1 (by kernel_rfl)).out
      cases hv9
      have hl9 := hl.below k1 hl.lt
      clear hmet0 hl
      go_simp
      exact ⟨⟨⟨_, rfl⟩, ⟨_, rfl, hl9⟩⟩, Keeps.refl _ _⟩
    clear hK K
    refine wpRely_step (fun K hK => ?_)
    refine .inl ⟨.string z, Any, ?_, hK _ _ _ _ ?_⟩
    · simp only [RelyOp, fillE]
      rintro _ ⟨g4, rfl⟩ _ ⟨g2, rfl⟩
      refine ⟨rfl, fun w9 hw9 hmet0 => ?_⟩
      obtain ⟨w0, k0, k1, g', hv9, hl⟩ := (hmet0.2.2.1 (by kernel_rfl)).out
      cases hv9
      have hl9 := ((hl.below k1 hl.lt).cell i).trans hC
      clear hmet0 hl
      go_simp
      exact ⟨⟨rfl, trivial⟩, Keeps.refl _ _⟩
    clear hK K
    try simp only [Act.put, List.setIfInBounds_toArray, List.set_cons_zero, List.set_cons_succ]
    refine wpRely_step (fun K hK => ?_)
    refine .inl ⟨.string z, Any, ?_, hK _ _ _ _ ?_⟩
    · simp only [RelyOp, fillE]
      rintro _ ⟨g4, rfl⟩ _ ⟨g2, rfl⟩
      refine ⟨rfl, fun w9 hw9 _ => ?_⟩
      go_simp
      exact ⟨⟨rfl, trivial⟩, Keeps.refl _ _⟩
    clear hK K
    try simp only [Act.put, List.setIfInBounds_toArray, List.set_cons_zero, List.set_cons_succ]
    refine wpRely_nil ?_
    simp only [fillE]
    rintro _ ⟨g4, rfl⟩ _ ⟨g2, rfl⟩ w9 hw9 _
    obtain ⟨hc9, hf9⟩ := hw9.all
    have hck9 := (hc9 w.heap.size 1 (by omega)).trans hck
    have hcv9 := (hc9 w.heap.size 2 (by omega)).trans hcv
    have hB9 : Below w.heap.size w w9 := HB1.out.trans (hw9.same.mono HB1.out.size)
    have HB9 := Lib.hid hB9
    have hz9 : w1.heap.size ≤ w9.heap.size := hw9.same.size
    clear hB9 hc9 hf9 hcv
    have hcv := hcv9
    simp only [List.drop_succ_cons, List.drop_zero, List.drop, Act.put, List.setIfInBounds_toArray, List.set_cons_zero, List.set_cons_succ]
    go_wp2_with fail
    refine (itoa_any _ (by omega) (by omega) (HT.out.on HB9.out)).mono ?_
    rintro e w2 ⟨rfl, hb2⟩
    have HB2 := Lib.hid (HB9.out.trans (hb2.mono HB9.out.size))
    have hcv2 := (hb2.cell (p := ⟨w.heap.size, 2, none⟩) (by show w.heap.size < _; omega)).trans hcv
    have hz2 := hb2.size
    clear hb2
    go_wp2_with fail
    go_ret2
    exact ⟨rfl, HB2.out⟩
  · rw [if_pos hv]
    rw [if_neg hk]
    have d1 : (k != 0) = false := by simp; omega
    have d2 : (v != 0) = true := by simp; omega
    go_enter Tryd.func10, Tryd.ntmps10
    go_wp2_with (go_at_call 19; refine (refOpRight_any _ _ _ _).mono ?_; rintro e w1 ⟨rfl, hb⟩; rw [HR.out]; have hz1 := hb.size; simp only [World.size_alloc] at hz1; have HB1 := Lib.hid (show Below w.heap.size w w1 from Below.trans (by go_grown) (hb.mono (by simp))); have hc0 := hb.cell (p := ⟨w.heap.size, 0, none⟩) (by simp); have hck := hb.cell (p := ⟨w.heap.size, 1, none⟩) (by simp); have hcv := hb.cell (p := ⟨w.heap.size, 2, none⟩) (by simp); simp [go_sem] at hc0 hck hcv; have hcc := hc0; clear hb)
    refine wp_region_rely 7 nowhere [] (by kernel_rfl) (by kernel_rfl) ?_
    refine wpRely_step (fun K hK => ?_)
    refine .inr (.inr ⟨IsSl 6, SlAt 6 C, ⟨_, 0, rfl⟩, ?_, hK _ _ _ _ ?_⟩)
    · simp only [RelyOp, fillE]
      refine ⟨rfl, fun w9 hw9 _ => ?_⟩
      go_simp
      go_at_call 7
      refine (HF.out _ (HS.out.on (HB1.out.trans (hw9.same.mono HB1.out.size)))).mono ?_
      rintro e w2 ⟨rfl, rfl⟩
      exact ⟨_, rfl, ⟨⟨_, rfl⟩, ⟨_, rfl, Blk.new _ _ _⟩⟩, Keeps.of_same ((Below.refl _ _).alloc (Nat.le_refl _) _)⟩
    clear hK K
    try simp only [Act.put, List.setIfInBounds_toArray, List.set_cons_zero, List.set_cons_succ]
    iterate 3
      refine wpRely_step (fun K hK => ?_)
      refine .inl ?_
      apply Exists.intro
      refine ⟨Any, ?_, hK _ _ _ _ ?_⟩
      · simp only [RelyOp, fillE]
        rintro _ ⟨g2, rfl⟩
        refine ⟨?_, fun w9 hw9 _ => ?_⟩
        · first | rfl | (go_simp; done)
        obtain ⟨hc9, hf9⟩ := hw9.all
        have hcc9 := (hc9 w.heap.size 0 (by omega)).trans hcc
        go_simp
        exact ⟨⟨rfl, trivial⟩, Keeps.refl _ _⟩
      clear hK K
      try simp only [Act.put, List.setIfInBounds_toArray, List.set_cons_zero, List.set_cons_succ]
    refine wpRely_step (fun K hK => ?_)
    refine .inr (.inr ⟨IsPt i, PtAt i C, ⟨_, 0, rfl⟩, ?_, hK _ _ _ _ ?_⟩)
    · simp only [RelyOp, fillE]
      rintro _ ⟨g2, rfl⟩
      refine ⟨rfl, fun w9 hw9 hmet0 => ?_⟩
      obtain ⟨w0, k0, k1, g', hv9, hl⟩ := (hmet0.2.1 (by kernel_rfl)).out
      cases hv9
      have hl9 := hl.below k1 hl.lt
      clear hmet0 hl
      go_simp
      exact ⟨⟨⟨_, rfl⟩, ⟨_, rfl, hl9⟩⟩, Keeps.refl _ _⟩
    clear hK K
    refine wpRely_step (fun K hK => ?_)
    refine .inl ⟨.string z, Any, ?_, hK _ _ _ _ ?_⟩
    · simp only [RelyOp, fillE]
      rintro _ ⟨g4, rfl⟩ _ ⟨g2, rfl⟩
      refine ⟨rfl, fun w9 hw9 hmet0 => ?_⟩
      obtain ⟨w0, k0, k1, g', hv9, hl⟩ := (hmet0.2.2.1 (by kernel_rfl)).out
      cases hv9
      have hl9 := ((hl.below k1 hl.lt).cell i).trans hC
      clear hmet0 hl
      go_simp
      exact ⟨⟨rfl, trivial⟩, Keeps.refl _ _⟩
    clear hK K
    try simp only [Act.put, List.setIfInBounds_toArray, List.set_cons_zero, List.set_cons_succ]
    refine wpRely_step (fun K hK => ?_)
    refine .inl ⟨.string z, Any, ?_, hK _ _ _ _ ?_⟩
    · simp only [RelyOp, fillE]
      rintro _ ⟨g4, rfl⟩ _ ⟨g2, rfl⟩
      refine ⟨rfl, fun w9 hw9 _ => ?_⟩
      go_simp
      exact ⟨⟨rfl, trivial⟩, Keeps.refl _ _⟩
    clear hK K
    try simp only [Act.put, List.setIfInBounds_toArray, List.set_cons_zero, List.set_cons_succ]
    refine wpRely_nil ?_
    simp only [fillE]
    rintro _ ⟨g4, rfl⟩ _ ⟨g2, rfl⟩ w9 hw9 _
    obtain ⟨hc9, hf9⟩ := hw9.all
    have hck9 := (hc9 w.heap.size 1 (by omega)).trans hck
    have hcv9 := (hc9 w.heap.size 2 (by omega)).trans hcv
    have hB9 : Below w.heap.size w w9 := HB1.out.trans (hw9.same.mono HB1.out.size)
    have HB9 := Lib.hid hB9
    have hz9 : w1.heap.size ≤ w9.heap.size := hw9.same.size
    clear hB9 hc9 hf9 hcv
    have hcv := hcv9
    simp only [List.drop_succ_cons, List.drop_zero, List.drop, Act.put, List.setIfInBounds_toArray, List.set_cons_zero, List.set_cons_succ]
    go_wp2_with fail
    refine (itoa_any _ (by omega) (by omega) (HT.out.on HB9.out)).mono ?_
    rintro e w3 ⟨rfl, hb3⟩
    have HB3 := Lib.hid (HB9.out.trans (hb3.mono HB9.out.size))
    go_wp2
    go_ret2
    exact ⟨rfl, HB3.out⟩
  · rw [if_neg hv]
    rw [if_neg hk]
    have d1 : (k != 0) = false := by simp; omega
    have d2 : (v != 0) = false := by simp; omega
    go_enter Tryd.func10, Tryd.ntmps10
    go_wp2_with (go_at_call 19; refine (refOpRight_any _ _ _ _).mono ?_; rintro e w1 ⟨rfl, hb⟩; rw [HR.out]; have hz1 := hb.size; simp only [World.size_alloc] at hz1; have HB1 := Lib.hid (show Below w.heap.size w w1 from Below.trans (by go_grown) (hb.mono (by simp))); have hc0 := hb.cell (p := ⟨w.heap.size, 0, none⟩) (by simp); have hck := hb.cell (p := ⟨w.heap.size, 1, none⟩) (by simp); have hcv := hb.cell (p := ⟨w.heap.size, 2, none⟩) (by simp); simp [go_sem] at hc0 hck hcv; have hcc := hc0; clear hb)
    refine wp_region_rely 7 nowhere [] (by kernel_rfl) (by kernel_rfl) ?_
    refine wpRely_step (fun K hK => ?_)
    refine .inr (.inr ⟨IsSl 6, SlAt 6 C, ⟨_, 0, rfl⟩, ?_, hK _ _ _ _ ?_⟩)
    · simp only [RelyOp, fillE]
      refine ⟨rfl, fun w9 hw9 _ => ?_⟩
      go_simp
      go_at_call 7
      refine (HF.out _ (HS.out.on (HB1.out.trans (hw9.same.mono HB1.out.size)))).mono ?_
      rintro e w2 ⟨rfl, rfl⟩
      exact ⟨_, rfl, ⟨⟨_, rfl⟩, ⟨_, rfl, Blk.new _ _ _⟩⟩, Keeps.of_same ((Below.refl _ _).alloc (Nat.le_refl _) _)⟩
    clear hK K
    try simp only [Act.put, List.setIfInBounds_toArray, List.set_cons_zero, List.set_cons_succ]
    iterate 3
      refine wpRely_step (fun K hK => ?_)
      refine .inl ?_
      apply Exists.intro
      refine ⟨Any, ?_, hK _ _ _ _ ?_⟩
      · simp only [RelyOp, fillE]
        rintro _ ⟨g2, rfl⟩
        refine ⟨?_, fun w9 hw9 _ => ?_⟩
        · first | rfl | (go_simp; done)
        obtain ⟨hc9, hf9⟩ := hw9.all
        have hcc9 := (hc9 w.heap.size 0 (by omega)).trans hcc
        go_simp
        exact ⟨⟨rfl, trivial⟩, Keeps.refl _ _⟩
      clear hK K
      try simp only [Act.put, List.setIfInBounds_toArray, List.set_cons_zero, List.set_cons_succ]
    refine wpRely_step (fun K hK => ?_)
    refine .inr (.inr ⟨IsPt i, PtAt i C, ⟨_, 0, rfl⟩, ?_, hK _ _ _ _ ?_⟩)
    · simp only [RelyOp, fillE]
      rintro _ ⟨g2, rfl⟩
      refine ⟨rfl, fun w9 hw9 hmet0 => ?_⟩
      obtain ⟨w0, k0, k1, g', hv9, hl⟩ := (hmet0.2.1 (by kernel_rfl)).out
      cases hv9
      have hl9 := hl.below k1 hl.lt
      clear hmet0 hl
      go_simp
      exact ⟨⟨⟨_, rfl⟩, ⟨_, rfl, hl9⟩⟩, Keeps.refl _ _⟩
    clear hK K
    refine wpRely_step (fun K hK => ?_)
    refine .inl ⟨.string z, Any, ?_, hK _ _ _ _ ?_⟩
    · simp only [RelyOp, fillE]
      rintro _ ⟨g4, rfl⟩ _ ⟨g2, rfl⟩
      refine ⟨rfl, fun w9 hw9 hmet0 => ?_⟩
      obtain ⟨w0, k0, k1, g', hv9, hl⟩ := (hmet0.2.2.1 (by kernel_rfl)).out
      cases hv9
      have hl9 := ((hl.below k1 hl.lt).cell i).trans hC
      clear hmet0 hl
      go_simp
      exact ⟨⟨rfl, trivial⟩, Keeps.refl _ _⟩
    clear hK K
    try simp only [Act.put, List.setIfInBounds_toArray, List.set_cons_zero, List.set_cons_succ]
    refine wpRely_step (fun K hK => ?_)
    refine .inl ⟨.string z, Any, ?_, hK _ _ _ _ ?_⟩
    · simp only [RelyOp, fillE]
      rintro _ ⟨g4, rfl⟩ _ ⟨g2, rfl⟩
      refine ⟨rfl, fun w9 hw9 _ => ?_⟩
      go_simp
      exact ⟨⟨rfl, trivial⟩, Keeps.refl _ _⟩
    clear hK K
    try simp only [Act.put, List.setIfInBounds_toArray, List.set_cons_zero, List.set_cons_succ]
    refine wpRely_nil ?_
    simp only [fillE]
    rintro _ ⟨g4, rfl⟩ _ ⟨g2, rfl⟩ w9 hw9 _
    obtain ⟨hc9, hf9⟩ := hw9.all
    have hck9 := (hc9 w.heap.size 1 (by omega)).trans hck
    have hcv9 := (hc9 w.heap.size 2 (by omega)).trans hcv
    have hB9 : Below w.heap.size w w9 := HB1.out.trans (hw9.same.mono HB1.out.size)
    have HB9 := Lib.hid hB9
    have hz9 : w1.heap.size ≤ w9.heap.size := hw9.same.size
    clear hB9 hc9 hf9 hcv
    have hcv := hcv9
    simp only [List.drop_succ_cons, List.drop_zero, List.drop, Act.put, List.setIfInBounds_toArray, List.set_cons_zero, List.set_cons_succ]
    go_wp2_with fail
    go_ret2
    exact ⟨rfl, HB9.out⟩


theorem optext_any (a k v : Int) {w : World} (hS : SpT w.heap.size w) (hT : TenT w.heap.size w) : Calls Tryd.prog 10 #[.agg #[.int .i64 a, .int .i64 k, .int .i64 v]] w fun e w' => e = .returned (.tuple #[.string (printZ a k v), .int .i64 (okE (opRightB a k v) 1)]) ∧ Below w.heap.size w w' := by
  cases hr : opRightB a k v with
  | false =>
    have hz : printZ a k v = ⟨#[]⟩ := by simp [printZ, hr]
    have e2 : okE false 1 = 1 := by simp [okE]
    rw [hz, e2]
    clear e2 hz
    have HR := Lib.hid hr
    clear hr
    go_enter Tryd.func10, Tryd.ntmps10
    go_wp2_with (go_at_call 19; refine (refOpRight_any _ _ _ _).mono ?_; rintro e w1 ⟨rfl, hb⟩; rw [HR.out])
    go_ret2
    exact ⟨rfl, Below.trans (by go_grown) (hb.mono (by simp))⟩
  | true =>
    have hq : 1 ≤ a ∧ a ≤ 6 ∧ 0 ≤ k ∧ k ≤ 1000 ∧ 0 ≤ v ∧ v ≤ 4294967295 := by simpa [opRightB] using hr
    have e2 : okE true 1 = 0 := by simp [okE]
    have zc : printZ a k v = optD a k v := by simp [printZ, hr]
    rw [zc, e2]
    unfold optD keyD
    exact optext_in a k v (a - 1).toNat _ _ hS hT hr (by omega) (by omega) (op_row a hq.1 hq.2.1) (op_size a) (fun w1 h => opFields h)

/-- An operation in a history. -/
def nameZ (a k v : Int) : ByteArray := if opRightB a k v then optD a k v else ⟨#[63]⟩
end Go.Proofs.YtagdjpcbgnppnaaDoor
