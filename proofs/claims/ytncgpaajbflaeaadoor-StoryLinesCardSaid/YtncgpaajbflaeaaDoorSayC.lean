/-
  strconv.Itoa and op.Say, op.Print with the reference's answers. The tables of strings and strconv hold what they hold (premises on variables).
-/
import Derived.Test.YtncgpaajbflaeaaDoorStrC
import Derived.Test.YtncgpaajbflaeaaDoorOpW
import Derived.Lib.ItoaLen
namespace Go.Proofs.YtncgpaajbflaeaaDoor
set_option linter.unusedSimpArgs false
set_option linter.unusedVariables false
set_option linter.unusedSectionVars false
open Go.RowKit
attribute [local go_sem ↓] Go.wp_at_zero Go.wp_at_succ

theorem tab_up {w w' : World} {n : String} {k : IntKind} {zs : List Int} (h : Lib.TabBelow Tryd.prog w.heap.size w n k zs) (hb : Below w.heap.size w w') : Lib.TabBelow Tryd.prog w'.heap.size w' n k zs := fun w'' h'' => h.on hb w'' (h''.mono hb.size)
/-- What Say reads. -/
structure SayT (w : World) : Prop where
  sp : SpT w.heap.size w
  ten : TenT w.heap.size w
  codes : StrT w 0 codeL
theorem SayT.below {w w' : World} (h : SayT w) (hb : Below w.heap.size w w') : SayT w' := ⟨tab_up h.sp hb, tab_up h.ten hb, h.codes.below (by decide) hb⟩
/-- What Print reads. -/
structure PrintT (w : World) : Prop where
  sp : SpT w.heap.size w
  ten : TenT w.heap.size w
  names : StrT w 1 opL
theorem PrintT.below {w w' : World} (h : PrintT w) (hb : Below w.heap.size w w') : PrintT w' := ⟨tab_up h.sp hb, tab_up h.ten hb, h.names.below (by decide) hb⟩

/-- strconv.Itoa, where the table of tens is held. -/
def itoaB (n : Int) : ByteArray := ⟨(Lib.itoa n).toArray⟩
theorem itoa_any (n : Int) (h0 : -9223372036854775808 ≤ n) (h1 : n ≤ 9223372036854775807) {B : Nat} {w : World} (hT : TenT B w) : Calls Tryd.prog 33 #[.int .i64 n] w fun e w' => e = .returned (.string (itoaB n)) ∧ Below w.heap.size w w' := by
  refine (Tryd.strconv_Itoa n h0 h1 w hT.here).mono ?_
  rintro e w' ⟨rfl, k, os, rfl⟩
  exact ⟨rfl, Lib.below_grow _ w (Nat.le_refl _) k os⟩

theorem itoaB_size (n : Int) (h0 : -9223372036854775808 ≤ n) (h1 : n ≤ 9223372036854775807) : (itoaB n).size ≤ 21 := by
  have := Lib.itoa_length_le n h0 h1
  simpa [itoaB, ByteArray.size] using this
theorem code_size (c : Int) : (nameOf codeL c).size ≤ 6 := by
  unfold nameOf
  generalize (c - 1).toNat = k
  rcases (by omega : k = 0 ∨ k = 1 ∨ k = 2 ∨ k = 3 ∨ k = 4 ∨ 5 ≤ k) with rfl | rfl | rfl | rfl | rfl | h
  all_goals first | decide | (rw [List.getD_eq_getElem?_getD, List.getElem?_eq_none (by simpa [codeL] using h)]; decide)
theorem op_size (c : Int) : (nameOf opL c).size ≤ 6 := by
  unfold nameOf
  generalize (c - 1).toNat = k
  rcases (by omega : k = 0 ∨ k = 1 ∨ k = 2 ∨ k = 3 ∨ k = 4 ∨ k = 5 ∨ 6 ≤ k) with rfl | rfl | rfl | rfl | rfl | rfl | h
  all_goals first | decide | (rw [List.getD_eq_getElem?_getD, List.getElem?_eq_none (by simpa [opL] using h)]; decide)

/-- What Say says. -/
def sayZ (c v : Int) : ByteArray := if fitsB c v then (if 0 < v then nameOf codeL c ++ ((⟨#[32]⟩ : ByteArray) ++ itoaB v) else nameOf codeL c) else ⟨#[63]⟩

theorem say_any (c v : Int) {w : World} (hC : StrT w 0 codeL) (hT : TenT w.heap.size w) : Calls Tryd.prog 17 #[.agg #[.int .i64 c, .int .i64 v]] w fun e w' => e = .returned (.string (sayZ c v)) ∧ Below w.heap.size w w' := by
  cases hr : fitsB c v with
  | false =>
    have hz : sayZ c v = ⟨#[63]⟩ := by simp [sayZ, hr]
    rw [hz]
    have HR := Lib.hid hr
    clear hr
    go_enter Tryd.func17, Tryd.ntmps17
    go_wp2_with (go_at_call 32; refine (fits_any _ _ _).mono ?_; rintro e w1 ⟨rfl, hb⟩; rw [HR.out])
    go_ret
    exact ⟨rfl, Below.trans (by go_grown) (hb.mono (by simp))⟩
  | true =>
    have hq : 1 ≤ c ∧ c ≤ 5 ∧ 0 ≤ v ∧ v ≤ 4294967295 ∧ (c = 1 ∨ v = 0) := by simpa [fitsB] using hr
    obtain ⟨q1, q2, q5, q6, _⟩ := hq
    have hlt : 0 < w.heap.size := World.block_lt_of_cell? w _ (hC 0 (by decide))
    have hc := hC (c - 1).toNat (by simp [codeL]; omega)
    rw [show (c - 1).toNat = c.toNat - 1 by omega] at hc
    have hn : nameOf codeL c = ⟨(codeL.getD (c.toNat - 1) []).toArray⟩ := by rw [nameOf, show (c - 1).toNat = c.toNat - 1 by omega]
    rw [← hn] at hc
    clear hn
    have HR := Lib.hid hr
    have HT := Lib.hid hT
    clear hr hC hT
    have zs := code_size c
    have ys := itoaB_size v (by omega) (by omega)
    by_cases hv : 0 < v
    · have hz : sayZ c v = nameOf codeL c ++ ((⟨#[32]⟩ : ByteArray) ++ itoaB v) := by simp [sayZ, HR.out, hv]
      rw [hz]
      generalize nameOf codeL c = z at hc zs
      clear hz
      have n1 : ¬ 9223372036854775807 < 1 + (itoaB v).size := by omega
      have n2 : ¬ 9223372036854775807 < z.size + (1 + (itoaB v).size) := by omega
      go_enter Tryd.func17, Tryd.ntmps17
      go_wp2_with (first
        | (go_at_call 32; refine (fits_any _ _ _).mono ?_; rintro e w1 ⟨rfl, hb⟩; rw [HR.out]; obtain ⟨hc1, hf1⟩ := bcell hb; have hz1 := hb.size; simp only [World.size_alloc] at hz1; have HB1 := Lib.hid (show Below w.heap.size w w1 from Below.trans (by go_grown) (hb.mono (by simp))); clear hb; have hc2 := (HB1.out.cell (p := ⟨0, c.toNat - 1, none⟩) hlt).trans hc)
        | (go_at_call 33; refine (itoa_any _ (by omega) (by omega) (HT.out.on HB1.out)).mono ?_; rintro e w2 ⟨rfl, hb2⟩))
      go_ret
      exact ⟨rfl, HB1.out.trans (hb2.mono HB1.out.size)⟩
    · have hz : sayZ c v = nameOf codeL c := by simp [sayZ, HR.out, hv]
      rw [hz]
      generalize nameOf codeL c = z at hc zs
      clear hz
      have d1 : ¬ v > 0 := hv
      go_enter Tryd.func17, Tryd.ntmps17
      go_wp2_with (go_at_call 32; refine (fits_any _ _ _).mono ?_; rintro e w1 ⟨rfl, hb⟩; rw [HR.out]; obtain ⟨hc1, hf1⟩ := bcell hb; have hz1 := hb.size; simp only [World.size_alloc] at hz1; have HB1 := Lib.hid (show Below w.heap.size w w1 from Below.trans (by go_grown) (hb.mono (by simp))); clear hb; have hc2 := (HB1.out.cell (p := ⟨0, c.toNat - 1, none⟩) hlt).trans hc)
      go_ret
      exact ⟨rfl, HB1.out⟩

def IsSl (n : Nat) (v : Value) : Prop := ∃ g, v = .slice (some ⟨g, 0, none⟩) n n
def SlAt (n : Nat) (C : Array Value) (v : Value) (w' : World) : Prop := ∃ g, v = .slice (some ⟨g, 0, none⟩) n n ∧ Blk w' g 9 C
def IsPt (k : Nat) (v : Value) : Prop := ∃ g, v = .pointer (some ⟨g, k, none⟩)
def PtAt (k : Nat) (C : Array Value) (v : Value) (w' : World) : Prop := ∃ g, v = .pointer (some ⟨g, k, none⟩) ∧ Blk w' g 9 C

set_option maxRecDepth 100000 in
theorem refSay_in (c : Int) (k : Nat) (v : Int) (z : ByteArray) (C : Array Value) {w : World} (hS : SpT w.heap.size w) (hT : TenT w.heap.size w) (hr : fitsB c v = true) (hk : c = (k : Int) + 1) (hk5 : k < 5) (hC : C[k]? = some (.string z)) (zs : z.size ≤ 6)
    (hF : ∀ w1 : World, SpT w.heap.size w1 → Calls Tryd.prog 27 #[.string ⟨#[100, 111, 110, 101, 32, 101, 109, 112, 116, 121, 32, 102, 117, 108, 108, 32, 97, 98, 115, 101, 110, 116, 32, 119, 114, 111, 110, 103]⟩] w1 fun e w' =>
      e = .returned (.slice (some ⟨w1.heap.size, 0, none⟩) 5 5) ∧ w' = w1.alloc (.cells C 9)) :
    Calls Tryd.prog 18 #[.agg #[.int .i64 c, .int .i64 v]] w fun e w' => e = .returned (.string (if 0 < v then z ++ ((⟨#[32]⟩ : ByteArray) ++ itoaB v) else z)) ∧ Below w.heap.size w w' := by
  have hq : 1 ≤ c ∧ c ≤ 5 ∧ 0 ≤ v ∧ v ≤ 4294967295 ∧ (c = 1 ∨ v = 0) := by simpa [fitsB] using hr
  obtain ⟨q1, q2, q5, q6, _⟩ := hq
  have HR := Lib.hid hr
  have HT := Lib.hid hT
  have HS := Lib.hid hS
  have HF := Lib.hid hF
  have hcm : c - 1 = (k : Int) := by omega
  clear hr hS hT hF hk
  have kw : IntKind.i64.wrap (k : Int) = (k : Int) := IntWalk.i64_in _ (by omega)
  have k1 : (0 : Int) ≤ (k : Int) ∧ (k : Int) < 5 := by omega
  have ys := itoaB_size v (by omega) (by omega)
  have n1 : ¬ 9223372036854775807 < 1 + (itoaB v).size := by omega
  have n2 : ¬ 9223372036854775807 < z.size + (1 + (itoaB v).size) := by omega
  by_cases hv : 0 < v
  · rw [if_pos hv]
    have d1 : ¬ v = 0 := by omega
    go_enter Tryd.func18, Tryd.ntmps18
    go_wp2_with (go_at_call 34; refine (refFits_any _ _ _).mono ?_; rintro e w1 ⟨rfl, hb⟩; rw [HR.out]; have hz1 := hb.size; simp only [World.size_alloc] at hz1; have HB1 := Lib.hid (show Below w.heap.size w w1 from Below.trans (by go_grown) (hb.mono (by simp))); have hcc := hb.cell (p := ⟨w.heap.size, 0, none⟩) (by simp); have hcv := hb.cell (p := ⟨w.heap.size, 1, none⟩) (by simp); simp [go_sem] at hcc hcv; clear hb)
    refine wp_region_rely 7 nowhere [] (by kernel_rfl) (by kernel_rfl) ?_
    refine wpRely_step (fun K hK => ?_)
    refine .inr (.inr ⟨IsSl 5, SlAt 5 C, ⟨_, 0, rfl⟩, ?_, hK _ _ _ _ ?_⟩)
    · simp only [RelyOp, fillE]
      refine ⟨rfl, fun w9 hw9 _ => ?_⟩
      go_simp
      go_at_call 27
      refine (HF.out _ (HS.out.on (HB1.out.trans (hw9.same.mono HB1.out.size)))).mono ?_
      rintro e w2 ⟨rfl, rfl⟩
      exact ⟨_, rfl, ⟨⟨_, rfl⟩, ⟨_, rfl, Blk.new _ _ _⟩⟩, Keeps.of_same ((Below.refl _ _).alloc (Nat.le_refl _) _)⟩
    clear hK K
    try simp only [Act.put, List.setIfInBounds_toArray, List.set_cons_zero, List.set_cons_succ]
    iterate 3
      refine wpRely_step (fun K hK => ?_)
      refine .inl ?_
      apply Exists.intro
      refine ⟨Any, ?_, hK _ _ _ _ ?_⟩
      · simp only [RelyOp, fillE]
        rintro _ ⟨g2, rfl⟩
        refine ⟨?_, fun w9 hw9 _ => ?_⟩
        · first | rfl | (go_simp; done)
        obtain ⟨hc9, hf9⟩ := hw9.all
        have hcc9 := (hc9 w.heap.size 0 (by omega)).trans hcc
        go_simp
        exact ⟨⟨rfl, trivial⟩, Keeps.refl _ _⟩
      clear hK K
      try simp only [Act.put, List.setIfInBounds_toArray, List.set_cons_zero, List.set_cons_succ]
    refine wpRely_step (fun K hK => ?_)
    refine .inr (.inr ⟨IsPt k, PtAt k C, ⟨_, 0, rfl⟩, ?_, hK _ _ _ _ ?_⟩)
    · simp only [RelyOp, fillE]
      rintro _ ⟨g2, rfl⟩
      refine ⟨rfl, fun w9 hw9 hmet0 => ?_⟩
      obtain ⟨w0, k0, k1, g', hv9, hl⟩ := (hmet0.2.1 (by kernel_rfl)).out
      cases hv9
      have hl9 := hl.below k1 hl.lt
      clear hmet0 hl
      go_simp
      exact ⟨⟨⟨_, rfl⟩, ⟨_, rfl, hl9⟩⟩, Keeps.refl _ _⟩
    clear hK K
    refine wpRely_step (fun K hK => ?_)
    refine .inl ⟨.string z, Any, ?_, hK _ _ _ _ ?_⟩
    · simp only [RelyOp, fillE]
      rintro _ ⟨g4, rfl⟩ _ ⟨g2, rfl⟩
      refine ⟨rfl, fun w9 hw9 hmet0 => ?_⟩
      obtain ⟨w0, k0, k1, g', hv9, hl⟩ := (hmet0.2.2.1 (by kernel_rfl)).out
      cases hv9
      have hl9 := ((hl.below k1 hl.lt).cell k).trans hC
      clear hmet0 hl
      go_simp
      exact ⟨⟨rfl, trivial⟩, Keeps.refl _ _⟩
    clear hK K
    try simp only [Act.put, List.setIfInBounds_toArray, List.set_cons_zero, List.set_cons_succ]
    refine wpRely_step (fun K hK => ?_)
    refine .inl ⟨.string z, Any, ?_, hK _ _ _ _ ?_⟩
    · simp only [RelyOp, fillE]
      rintro _ ⟨g4, rfl⟩ _ ⟨g2, rfl⟩
      refine ⟨rfl, fun w9 hw9 _ => ?_⟩
      go_simp
      exact ⟨⟨rfl, trivial⟩, Keeps.refl _ _⟩
    clear hK K
    try simp only [Act.put, List.setIfInBounds_toArray, List.set_cons_zero, List.set_cons_succ]
    refine wpRely_nil ?_
    simp only [fillE]
    rintro _ ⟨g4, rfl⟩ _ ⟨g2, rfl⟩ w9 hw9 _
    obtain ⟨hc9, hf9⟩ := hw9.all
    have hcv9 := (hc9 w.heap.size 1 (by omega)).trans hcv
    have hB9 : Below w.heap.size w w9 := HB1.out.trans (hw9.same.mono HB1.out.size)
    have HB9 := Lib.hid hB9
    clear hB9 hc9 hf9
    simp only [List.drop_succ_cons, List.drop_zero, List.drop, Act.put, List.setIfInBounds_toArray, List.set_cons_zero, List.set_cons_succ]
    go_wp2_with (go_at_call 33; refine (itoa_any _ (by omega) (by omega) (HT.out.on HB9.out)).mono ?_; rintro e w2 ⟨rfl, hb2⟩)
    go_ret
    exact ⟨rfl, HB9.out.trans (hb2.mono HB9.out.size)⟩
  · rw [if_neg hv]
    obtain rfl : v = 0 := by omega
    go_enter Tryd.func18, Tryd.ntmps18
    go_wp2_with (go_at_call 34; refine (refFits_any _ _ _).mono ?_; rintro e w1 ⟨rfl, hb⟩; rw [HR.out]; have hz1 := hb.size; simp only [World.size_alloc] at hz1; have HB1 := Lib.hid (show Below w.heap.size w w1 from Below.trans (by go_grown) (hb.mono (by simp))); have hcc := hb.cell (p := ⟨w.heap.size, 0, none⟩) (by simp); have hcv := hb.cell (p := ⟨w.heap.size, 1, none⟩) (by simp); simp [go_sem] at hcc hcv; clear hb)
    refine wp_region_rely 7 nowhere [] (by kernel_rfl) (by kernel_rfl) ?_
    refine wpRely_step (fun K hK => ?_)
    refine .inr (.inr ⟨IsSl 5, SlAt 5 C, ⟨_, 0, rfl⟩, ?_, hK _ _ _ _ ?_⟩)
    · simp only [RelyOp, fillE]
      refine ⟨rfl, fun w9 hw9 _ => ?_⟩
      go_simp
      go_at_call 27
      refine (HF.out _ (HS.out.on (HB1.out.trans (hw9.same.mono HB1.out.size)))).mono ?_
      rintro e w2 ⟨rfl, rfl⟩
      exact ⟨_, rfl, ⟨⟨_, rfl⟩, ⟨_, rfl, Blk.new _ _ _⟩⟩, Keeps.of_same ((Below.refl _ _).alloc (Nat.le_refl _) _)⟩
    clear hK K
    try simp only [Act.put, List.setIfInBounds_toArray, List.set_cons_zero, List.set_cons_succ]
    iterate 3
      refine wpRely_step (fun K hK => ?_)
      refine .inl ?_
      apply Exists.intro
      refine ⟨Any, ?_, hK _ _ _ _ ?_⟩
      · simp only [RelyOp, fillE]
        rintro _ ⟨g2, rfl⟩
        refine ⟨?_, fun w9 hw9 _ => ?_⟩
        · first | rfl | (go_simp; done)
        obtain ⟨hc9, hf9⟩ := hw9.all
        have hcc9 := (hc9 w.heap.size 0 (by omega)).trans hcc
        go_simp
        exact ⟨⟨rfl, trivial⟩, Keeps.refl _ _⟩
      clear hK K
      try simp only [Act.put, List.setIfInBounds_toArray, List.set_cons_zero, List.set_cons_succ]
    refine wpRely_step (fun K hK => ?_)
    refine .inr (.inr ⟨IsPt k, PtAt k C, ⟨_, 0, rfl⟩, ?_, hK _ _ _ _ ?_⟩)
    · simp only [RelyOp, fillE]
      rintro _ ⟨g2, rfl⟩
      refine ⟨rfl, fun w9 hw9 hmet0 => ?_⟩
      obtain ⟨w0, k0, k1, g', hv9, hl⟩ := (hmet0.2.1 (by kernel_rfl)).out
      cases hv9
      have hl9 := hl.below k1 hl.lt
      clear hmet0 hl
      go_simp
      exact ⟨⟨⟨_, rfl⟩, ⟨_, rfl, hl9⟩⟩, Keeps.refl _ _⟩
    clear hK K
    refine wpRely_step (fun K hK => ?_)
    refine .inl ⟨.string z, Any, ?_, hK _ _ _ _ ?_⟩
    · simp only [RelyOp, fillE]
      rintro _ ⟨g4, rfl⟩ _ ⟨g2, rfl⟩
      refine ⟨rfl, fun w9 hw9 hmet0 => ?_⟩
      obtain ⟨w0, k0, k1, g', hv9, hl⟩ := (hmet0.2.2.1 (by kernel_rfl)).out
      cases hv9
      have hl9 := ((hl.below k1 hl.lt).cell k).trans hC
      clear hmet0 hl
      go_simp
      exact ⟨⟨rfl, trivial⟩, Keeps.refl _ _⟩
    clear hK K
    try simp only [Act.put, List.setIfInBounds_toArray, List.set_cons_zero, List.set_cons_succ]
    refine wpRely_step (fun K hK => ?_)
    refine .inl ⟨.string z, Any, ?_, hK _ _ _ _ ?_⟩
    · simp only [RelyOp, fillE]
      rintro _ ⟨g4, rfl⟩ _ ⟨g2, rfl⟩
      refine ⟨rfl, fun w9 hw9 _ => ?_⟩
      go_simp
      exact ⟨⟨rfl, trivial⟩, Keeps.refl _ _⟩
    clear hK K
    try simp only [Act.put, List.setIfInBounds_toArray, List.set_cons_zero, List.set_cons_succ]
    refine wpRely_nil ?_
    simp only [fillE]
    rintro _ ⟨g4, rfl⟩ _ ⟨g2, rfl⟩ w9 hw9 _
    obtain ⟨hc9, hf9⟩ := hw9.all
    have hcv9 := (hc9 w.heap.size 1 (by omega)).trans hcv
    have hB9 : Below w.heap.size w w9 := HB1.out.trans (hw9.same.mono HB1.out.size)
    have HB9 := Lib.hid hB9
    clear hB9 hc9 hf9
    simp only [List.drop_succ_cons, List.drop_zero, List.drop, Act.put, List.setIfInBounds_toArray, List.set_cons_zero, List.set_cons_succ]
    go_wp2
    go_ret
    exact ⟨rfl, HB9.out⟩

theorem code_row (c : Int) (h1 : 1 ≤ c) (h2 : c ≤ 5) : (#[.string ⟨#[100, 111, 110, 101]⟩, .string ⟨#[101, 109, 112, 116, 121]⟩, .string ⟨#[102, 117, 108, 108]⟩, .string ⟨#[97, 98, 115, 101, 110, 116]⟩, .string ⟨#[119, 114, 111, 110, 103]⟩] : Array Value)[(c - 1).toNat]? = some (.string (nameOf codeL c)) := by
  rcases (by omega : c = 1 ∨ c = 2 ∨ c = 3 ∨ c = 4 ∨ c = 5) with rfl | rfl | rfl | rfl | rfl <;> rfl
theorem op_row (c : Int) (h1 : 1 ≤ c) (h2 : c ≤ 6) : (#[.string ⟨#[112, 117, 116]⟩, .string ⟨#[116, 97, 107, 101]⟩, .string ⟨#[102, 114, 111, 110, 116]⟩, .string ⟨#[98, 97, 99, 107]⟩, .string ⟨#[112, 101, 101, 107]⟩, .string ⟨#[99, 111, 117, 110, 116]⟩] : Array Value)[(c - 1).toNat]? = some (.string (nameOf opL c)) := by
  rcases (by omega : c = 1 ∨ c = 2 ∨ c = 3 ∨ c = 4 ∨ c = 5 ∨ c = 6) with rfl | rfl | rfl | rfl | rfl | rfl <;> rfl

theorem refSay_any (c v : Int) {w : World} (hS : SpT w.heap.size w) (hT : TenT w.heap.size w) : Calls Tryd.prog 18 #[.agg #[.int .i64 c, .int .i64 v]] w fun e w' => e = .returned (.string (sayZ c v)) ∧ Below w.heap.size w w' := by
  cases hr : fitsB c v with
  | false =>
    have hz : sayZ c v = ⟨#[63]⟩ := by simp [sayZ, hr]
    rw [hz]
    have HR := Lib.hid hr
    clear hr
    go_enter Tryd.func18, Tryd.ntmps18
    go_wp2_with (go_at_call 34; refine (refFits_any _ _ _).mono ?_; rintro e w1 ⟨rfl, hb⟩; rw [HR.out])
    go_ret
    exact ⟨rfl, Below.trans (by go_grown) (hb.mono (by simp))⟩
  | true =>
    have hq : 1 ≤ c ∧ c ≤ 5 ∧ 0 ≤ v ∧ v ≤ 4294967295 ∧ (c = 1 ∨ v = 0) := by simpa [fitsB] using hr
    have zc : sayZ c v = if 0 < v then nameOf codeL c ++ ((⟨#[32]⟩ : ByteArray) ++ itoaB v) else nameOf codeL c := by simp [sayZ, hr]
    rw [zc]
    exact refSay_in c (c - 1).toNat v _ _ hS hT hr (by omega) (by omega) (code_row c hq.1 hq.2.1) (code_size c) (fun w1 h => codeFields h)
end Go.Proofs.YtncgpaajbflaeaaDoor
