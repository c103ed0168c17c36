/-
  story.Line and the reference's EventLine, for any event. The tables of strings, strconv and op hold what they hold (premises on variables).
-/
import Derived.Test.YtncgpaajbflaeaaDoorDeedC
namespace Go.Proofs.YtncgpaajbflaeaaDoor
set_option linter.unusedSimpArgs false
set_option linter.unusedVariables false
set_option linter.unusedSectionVars false
open Go.RowKit
attribute [local go_sem ↓] Go.wp_at_zero Go.wp_at_succ

/-- An event's line. -/
def lineZ (q t a k v c x n s : Int) : ByteArray :=
  if q = 1 then itoaB s ++ (⟨#[32, 116, 104, 114, 101, 97, 100, 32]⟩ : ByteArray) ++ itoaB t ++ (⟨#[32, 99, 97, 108, 108, 115, 32]⟩ : ByteArray) ++ nameZ a k v
  else if q = 2 then itoaB s ++ (⟨#[32, 116, 104, 114, 101, 97, 100, 32]⟩ : ByteArray) ++ itoaB t ++ (⟨#[32, 104, 97, 115, 32]⟩ : ByteArray) ++ nameZ a k v ++ (⟨#[58, 32]⟩ : ByteArray) ++ sayZ c x ++ (⟨#[44, 32, 100, 101, 101, 100, 32]⟩ : ByteArray) ++ itoaB n
  else if q = 3 then itoaB s ++ (⟨#[32, 99, 114, 97, 115, 104]⟩ : ByteArray)
  else itoaB s ++ (⟨#[32, 63]⟩ : ByteArray)
theorem glue (y : ByteArray) : y ++ (⟨#[32]⟩ : ByteArray) ++ (⟨#[116, 104, 114, 101, 97, 100, 32]⟩ : ByteArray) = y ++ (⟨#[32, 116, 104, 114, 101, 97, 100, 32]⟩ : ByteArray) := by rw [ByteArray.append_assoc]; rfl
theorem glue3 (y : ByteArray) : y ++ (⟨#[32]⟩ : ByteArray) ++ (⟨#[99, 114, 97, 115, 104]⟩ : ByteArray) = y ++ (⟨#[32, 99, 114, 97, 115, 104]⟩ : ByteArray) := by rw [ByteArray.append_assoc]; rfl
theorem glue4 (y : ByteArray) : y ++ (⟨#[32]⟩ : ByteArray) ++ (⟨#[63]⟩ : ByteArray) = y ++ (⟨#[32, 63]⟩ : ByteArray) := by rw [ByteArray.append_assoc]; rfl
abbrev evRow (q t a k v c x n s : Int) : Array Value := #[.int .i64 q, .int .i64 t, .int .i64 a, .int .i64 k, .int .i64 v, .int .i64 c, .int .i64 x, .int .i64 n, .int .i64 s]


set_option maxRecDepth 100000 in
theorem line_any (q t a k v c x n s : Int) {w : World} (hg : DeedT w) (ht : -9223372036854775808 ≤ t ∧ t ≤ 9223372036854775807) (hn : -9223372036854775808 ≤ n ∧ n ≤ 9223372036854775807) (hs : -9223372036854775808 ≤ s ∧ s ≤ 9223372036854775807) :
    Calls Tryd.prog 19 #[.agg #[.int .i64 q, .int .i64 t, .int .i64 a, .int .i64 k, .int .i64 v, .int .i64 c, .int .i64 x, .int .i64 n, .int .i64 s]] w fun e w' => e = .returned (.string (lineZ q t a k v c x n s)) ∧ Below w.heap.size w w' := by
  have HG := Lib.hid hg
  clear hg
  have hA : Below w.heap.size w (w.alloc (.cells #[.int .i64 q, .int .i64 t, .int .i64 a, .int .i64 k, .int .i64 v, .int .i64 c, .int .i64 x, .int .i64 n, .int .i64 s] 56)) := (Below.refl _ _).alloc (Nat.le_refl _) _
  have HA := Lib.hid hA
  have HGA := Lib.hid (HG.out.below hA)
  clear hA

  have z1 := itoaB_size s hs.1 hs.2
  have z2 := itoaB_size t ht.1 ht.2
  have z3 := nameZ_size a k v
  have z4 := sayZ_size c x
  have z5 := itoaB_size n hn.1 hn.2
  have hI := fun w1 (h : DeedT w1) => itoa_any s hs.1 hs.2 h.say.ten
  have hI2 := fun w1 (h : DeedT w1) => itoa_any t ht.1 ht.2 h.say.ten
  have hI3 := fun w1 (h : DeedT w1) => itoa_any n hn.1 hn.2 h.say.ten
  have hN := fun w1 (h : DeedT w1) => name_story a k v h.prn
  have hS := fun w1 (h : DeedT w1) => say_any c x h.say.codes h.say.ten
  unfold lineZ
  generalize itoaB s = y1 at hI z1 ⊢
  generalize itoaB t = y2 at hI2 z2 ⊢
  generalize nameZ a k v = y3 at hN z3 ⊢
  generalize sayZ c x = y4 at hS z4 ⊢
  generalize itoaB n = y5 at hI3 z5 ⊢
  have HI := Lib.hid hI
  have HI2 := Lib.hid hI2
  have HI3 := Lib.hid hI3
  have HN := Lib.hid hN
  have HS := Lib.hid hS
  clear hI hI2 hI3 hN hS ht hn hs
  have m0 : ¬ 9223372036854775807 < y1.size + 1 := by omega
  have m1 : ¬ 9223372036854775807 < y1.size + 1 + 7 := by omega
  have m2 : ¬ 9223372036854775807 < y1.size + 1 + 7 + y2.size := by omega
  have m3 : ¬ 9223372036854775807 < y1.size + 1 + 7 + y2.size + 7 := by omega
  have m4 : ¬ 9223372036854775807 < y1.size + 1 + 7 + y2.size + 7 + y3.size := by omega
  have m5 : ¬ 9223372036854775807 < y1.size + 1 + 7 + y2.size + 5 := by omega
  have m6 : ¬ 9223372036854775807 < y1.size + 1 + 7 + y2.size + 5 + y3.size := by omega
  have m7 : ¬ 9223372036854775807 < y1.size + 1 + 7 + y2.size + 5 + y3.size + 2 := by omega
  have m8 : ¬ 9223372036854775807 < y1.size + 1 + 7 + y2.size + 5 + y3.size + 2 + y4.size := by omega
  have m9 : ¬ 9223372036854775807 < y1.size + 1 + 7 + y2.size + 5 + y3.size + 2 + y4.size + 7 := by omega
  have m10 : ¬ 9223372036854775807 < y1.size + 1 + 7 + y2.size + 5 + y3.size + 2 + y4.size + 7 + y5.size := by omega
  have m11 : ¬ 9223372036854775807 < y1.size + 1 + 5 := by omega
  have m12 : ¬ 9223372036854775807 < y1.size + 1 + 1 := by omega
  by_cases h1 : q = 1
  · subst h1
    rw [if_pos rfl]
    go_enter Tryd.func19, Tryd.ntmps19
    go_wp2_with fail
    refine (HI.out _ HGA.out).mono ?_
    rintro e w1 ⟨rfl, hb1⟩
    have hc1 : ∀ i, w1.cell? ⟨w.heap.size, i, none⟩ = _ := fun i => hb1.cell (p := ⟨w.heap.size, i, none⟩) (by simp)
    have r0 := hc1 0
    have r1 := hc1 1
    have r2 := hc1 2
    have r3 := hc1 3
    have r4 := hc1 4
    have r5 := hc1 5
    have r6 := hc1 6
    have r7 := hc1 7
    have r8 := hc1 8
    simp [go_sem] at r0 r1 r2 r3 r4 r5 r6 r7 r8
    clear hc1
    have HGr := Lib.hid (HGA.out.below hb1)
    have HB := Lib.hid (HA.out.trans (hb1.mono HA.out.size))
    have hz1 := hb1.size
    simp only [World.size_alloc] at hz1
    have hl1 : w.heap.size < w1.heap.size := by omega
    clear hb1
    go_wp2
    refine wp_region_rely 11 nowhere [] (by kernel_rfl) (by kernel_rfl) ?_
    iterate 11
      refine wpRely_step (fun K hK => ?_)
      first
      | (refine .inl ?_
         apply Exists.intro
         refine ⟨Any, ?_, hK _ _ _ _ ?_⟩
         · simp only [RelyOp, fillE]
           refine ⟨?_, fun w9 hw9 _ => ?_⟩
           · first | rfl | (go_simp; done)
           obtain ⟨hc9, hf9⟩ := hw9.all
           go_simp
           first
           | exact ⟨⟨rfl, trivial⟩, Keeps.refl _ _⟩
           | (go_at_call 33; first | exact rely_det (HI2.out _ (HGr.out.below hw9.same)) | exact rely_det (HI3.out _ (HGr.out.below hw9.same)) | exact rely_det (HI.out _ (HGr.out.below hw9.same))) | (go_at_call 35; exact rely_det (HN.out _ (HGr.out.below hw9.same))) | (go_at_call 17; exact rely_det (HS.out _ (HGr.out.below hw9.same)))
         clear hK K
         try simp only [Act.put, List.setIfInBounds_toArray, List.set_cons_zero, List.set_cons_succ])
      | (refine .inr (.inl ⟨?_, hK _ _ _ _ ?_⟩)
         · simp only [fillE]
           first | rfl | (go_simp; done)
         clear hK K
         try simp only [Act.put, List.setIfInBounds_toArray, List.set_cons_zero, List.set_cons_succ])
    refine wpRely_nil ?_
    simp only [fillE]
    intro w9 hw9 _
    obtain ⟨hc9, hf9⟩ := hw9.all
    simp only [List.drop_succ_cons, List.drop_zero, List.drop]
    go_wp2
    go_ret
    exact ⟨(by rw [glue]; rfl), HB.out.trans (hw9.same.mono HB.out.size)⟩
  rw [if_neg h1]
  by_cases h2 : q = 2
  · subst h2
    rw [if_pos rfl]
    go_enter Tryd.func19, Tryd.ntmps19
    go_wp2_with fail
    refine (HI.out _ HGA.out).mono ?_
    rintro e w1 ⟨rfl, hb1⟩
    have hc1 : ∀ i, w1.cell? ⟨w.heap.size, i, none⟩ = _ := fun i => hb1.cell (p := ⟨w.heap.size, i, none⟩) (by simp)
    have r0 := hc1 0
    have r1 := hc1 1
    have r2 := hc1 2
    have r3 := hc1 3
    have r4 := hc1 4
    have r5 := hc1 5
    have r6 := hc1 6
    have r7 := hc1 7
    have r8 := hc1 8
    simp [go_sem] at r0 r1 r2 r3 r4 r5 r6 r7 r8
    clear hc1
    have HGr := Lib.hid (HGA.out.below hb1)
    have HB := Lib.hid (HA.out.trans (hb1.mono HA.out.size))
    have hz1 := hb1.size
    simp only [World.size_alloc] at hz1
    have hl1 : w.heap.size < w1.heap.size := by omega
    clear hb1
    go_wp2
    refine wp_region_rely 21 nowhere [] (by kernel_rfl) (by kernel_rfl) ?_
    iterate 21
      refine wpRely_step (fun K hK => ?_)
      first
      | (refine .inl ?_
         apply Exists.intro
         refine ⟨Any, ?_, hK _ _ _ _ ?_⟩
         · simp only [RelyOp, fillE]
           refine ⟨?_, fun w9 hw9 _ => ?_⟩
           · first | rfl | (go_simp; done)
           obtain ⟨hc9, hf9⟩ := hw9.all
           go_simp
           first
           | exact ⟨⟨rfl, trivial⟩, Keeps.refl _ _⟩
           | (go_at_call 33; first | exact rely_det (HI2.out _ (HGr.out.below hw9.same)) | exact rely_det (HI3.out _ (HGr.out.below hw9.same)) | exact rely_det (HI.out _ (HGr.out.below hw9.same))) | (go_at_call 35; exact rely_det (HN.out _ (HGr.out.below hw9.same))) | (go_at_call 17; exact rely_det (HS.out _ (HGr.out.below hw9.same)))
         clear hK K
         try simp only [Act.put, List.setIfInBounds_toArray, List.set_cons_zero, List.set_cons_succ])
      | (refine .inr (.inl ⟨?_, hK _ _ _ _ ?_⟩)
         · simp only [fillE]
           first | rfl | (go_simp; done)
         clear hK K
         try simp only [Act.put, List.setIfInBounds_toArray, List.set_cons_zero, List.set_cons_succ])
    refine wpRely_nil ?_
    simp only [fillE]
    intro w9 hw9 _
    obtain ⟨hc9, hf9⟩ := hw9.all
    simp only [List.drop_succ_cons, List.drop_zero, List.drop]
    go_wp2
    go_ret
    exact ⟨(by rw [glue]; rfl), HB.out.trans (hw9.same.mono HB.out.size)⟩
  rw [if_neg h2]
  by_cases h3 : q = 3
  · subst h3
    rw [if_pos rfl]
    go_enter Tryd.func19, Tryd.ntmps19
    go_wp2_with fail
    refine (HI.out _ HGA.out).mono ?_
    rintro e w1 ⟨rfl, hb1⟩
    have hc1 : ∀ i, w1.cell? ⟨w.heap.size, i, none⟩ = _ := fun i => hb1.cell (p := ⟨w.heap.size, i, none⟩) (by simp)
    have r0 := hc1 0
    have r1 := hc1 1
    have r2 := hc1 2
    have r3 := hc1 3
    have r4 := hc1 4
    have r5 := hc1 5
    have r6 := hc1 6
    have r7 := hc1 7
    have r8 := hc1 8
    simp [go_sem] at r0 r1 r2 r3 r4 r5 r6 r7 r8
    clear hc1
    have HGr := Lib.hid (HGA.out.below hb1)
    have HB := Lib.hid (HA.out.trans (hb1.mono HA.out.size))
    have hz1 := hb1.size
    simp only [World.size_alloc] at hz1
    have hl1 : w.heap.size < w1.heap.size := by omega
    clear hb1
    go_wp2
    go_ret
    exact ⟨(by rw [glue3]; rfl), HB.out⟩
  rw [if_neg h3]
  · go_enter Tryd.func19, Tryd.ntmps19
    go_wp2_with fail
    refine (HI.out _ HGA.out).mono ?_
    rintro e w1 ⟨rfl, hb1⟩
    have hc1 : ∀ i, w1.cell? ⟨w.heap.size, i, none⟩ = _ := fun i => hb1.cell (p := ⟨w.heap.size, i, none⟩) (by simp)
    have r0 := hc1 0
    have r1 := hc1 1
    have r2 := hc1 2
    have r3 := hc1 3
    have r4 := hc1 4
    have r5 := hc1 5
    have r6 := hc1 6
    have r7 := hc1 7
    have r8 := hc1 8
    simp [go_sem] at r0 r1 r2 r3 r4 r5 r6 r7 r8
    clear hc1
    have HGr := Lib.hid (HGA.out.below hb1)
    have HB := Lib.hid (HA.out.trans (hb1.mono HA.out.size))
    have hz1 := hb1.size
    simp only [World.size_alloc] at hz1
    have hl1 : w.heap.size < w1.heap.size := by omega
    clear hb1
    go_wp2
    go_ret
    exact ⟨(by rw [glue4]; rfl), HB.out⟩

set_option maxRecDepth 100000 in
theorem eventLine_any (q t a k v c x n s : Int) {w : World} (hg : DeedT w) (ht : -9223372036854775808 ≤ t ∧ t ≤ 9223372036854775807) (hn : -9223372036854775808 ≤ n ∧ n ≤ 9223372036854775807) (hs : -9223372036854775808 ≤ s ∧ s ≤ 9223372036854775807) :
    Calls Tryd.prog 20 #[.agg #[.int .i64 q, .int .i64 t, .int .i64 a, .int .i64 k, .int .i64 v, .int .i64 c, .int .i64 x, .int .i64 n, .int .i64 s]] w fun e w' => e = .returned (.string (lineZ q t a k v c x n s)) ∧ Below w.heap.size w w' := by
  have HG := Lib.hid hg
  clear hg
  have hA : Below w.heap.size w (w.alloc (.cells #[.int .i64 q, .int .i64 t, .int .i64 a, .int .i64 k, .int .i64 v, .int .i64 c, .int .i64 x, .int .i64 n, .int .i64 s] 56)) := (Below.refl _ _).alloc (Nat.le_refl _) _
  have HA := Lib.hid hA
  have HGA := Lib.hid (HG.out.below hA)
  clear hA

  have z1 := itoaB_size s hs.1 hs.2
  have z2 := itoaB_size t ht.1 ht.2
  have z3 := nameZ_size a k v
  have z4 := sayZ_size c x
  have z5 := itoaB_size n hn.1 hn.2
  have hI := fun w1 (h : DeedT w1) => itoa_any s hs.1 hs.2 h.say.ten
  have hI2 := fun w1 (h : DeedT w1) => itoa_any t ht.1 ht.2 h.say.ten
  have hI3 := fun w1 (h : DeedT w1) => itoa_any n hn.1 hn.2 h.say.ten
  have hN := fun w1 (h : DeedT w1) => name_ref a k v h.prn
  have hS := fun w1 (h : DeedT w1) => refSay_any c x h.say.sp h.say.ten
  unfold lineZ
  generalize itoaB s = y1 at hI z1 ⊢
  generalize itoaB t = y2 at hI2 z2 ⊢
  generalize nameZ a k v = y3 at hN z3 ⊢
  generalize sayZ c x = y4 at hS z4 ⊢
  generalize itoaB n = y5 at hI3 z5 ⊢
  have HI := Lib.hid hI
  have HI2 := Lib.hid hI2
  have HI3 := Lib.hid hI3
  have HN := Lib.hid hN
  have HS := Lib.hid hS
  clear hI hI2 hI3 hN hS ht hn hs
  have m0 : ¬ 9223372036854775807 < y1.size + 8 := by omega
  have m1 : ¬ 9223372036854775807 < y1.size + 8 + y2.size := by omega
  have m2 : ¬ 9223372036854775807 < y1.size + 8 + y2.size + 7 := by omega
  have m3 : ¬ 9223372036854775807 < y1.size + 8 + y2.size + 7 + y3.size := by omega
  have m4 : ¬ 9223372036854775807 < y1.size + 8 + y2.size + 5 := by omega
  have m5 : ¬ 9223372036854775807 < y1.size + 8 + y2.size + 5 + y3.size := by omega
  have m6 : ¬ 9223372036854775807 < y1.size + 8 + y2.size + 5 + y3.size + 2 := by omega
  have m7 : ¬ 9223372036854775807 < y1.size + 8 + y2.size + 5 + y3.size + 2 + y4.size := by omega
  have m8 : ¬ 9223372036854775807 < y1.size + 8 + y2.size + 5 + y3.size + 2 + y4.size + 7 := by omega
  have m9 : ¬ 9223372036854775807 < y1.size + 8 + y2.size + 5 + y3.size + 2 + y4.size + 7 + y5.size := by omega
  have m10 : ¬ 9223372036854775807 < y1.size + 6 := by omega
  have m11 : ¬ 9223372036854775807 < y1.size + 2 := by omega
  by_cases h1 : q = 1
  · subst h1
    rw [if_pos rfl]
    go_enter Tryd.func20, Tryd.ntmps20
    have HGr := HGA
    have HB := HA
    go_wp2
    refine wp_region_rely 13 nowhere [] (by kernel_rfl) (by kernel_rfl) ?_
    iterate 13
      refine wpRely_step (fun K hK => ?_)
      first
      | (refine .inl ?_
         apply Exists.intro
         refine ⟨Any, ?_, hK _ _ _ _ ?_⟩
         · simp only [RelyOp, fillE]
           refine ⟨?_, fun w9 hw9 _ => ?_⟩
           · first | rfl | (go_simp; done)
           obtain ⟨hc9, hf9⟩ := hw9.all
           go_simp
           first
           | exact ⟨⟨rfl, trivial⟩, Keeps.refl _ _⟩
           | (go_at_call 33; first | exact rely_det (HI2.out _ (HGr.out.below hw9.same)) | exact rely_det (HI3.out _ (HGr.out.below hw9.same)) | exact rely_det (HI.out _ (HGr.out.below hw9.same))) | (go_at_call 36; exact rely_det (HN.out _ (HGr.out.below hw9.same))) | (go_at_call 18; exact rely_det (HS.out _ (HGr.out.below hw9.same)))
         clear hK K
         try simp only [Act.put, List.setIfInBounds_toArray, List.set_cons_zero, List.set_cons_succ])
      | (refine .inr (.inl ⟨?_, hK _ _ _ _ ?_⟩)
         · simp only [fillE]
           first | rfl | (go_simp; done)
         clear hK K
         try simp only [Act.put, List.setIfInBounds_toArray, List.set_cons_zero, List.set_cons_succ])
    refine wpRely_nil ?_
    simp only [fillE]
    intro w9 hw9 _
    obtain ⟨hc9, hf9⟩ := hw9.all
    simp only [List.drop_succ_cons, List.drop_zero, List.drop]
    go_wp2
    go_ret
    exact ⟨rfl, HB.out.trans (hw9.same.mono HB.out.size)⟩
  rw [if_neg h1]
  by_cases h2 : q = 2
  · subst h2
    rw [if_pos rfl]
    go_enter Tryd.func20, Tryd.ntmps20
    have HGr := HGA
    have HB := HA
    go_wp2
    refine wp_region_rely 23 nowhere [] (by kernel_rfl) (by kernel_rfl) ?_
    iterate 23
      refine wpRely_step (fun K hK => ?_)
      first
      | (refine .inl ?_
         apply Exists.intro
         refine ⟨Any, ?_, hK _ _ _ _ ?_⟩
         · simp only [RelyOp, fillE]
           refine ⟨?_, fun w9 hw9 _ => ?_⟩
           · first | rfl | (go_simp; done)
           obtain ⟨hc9, hf9⟩ := hw9.all
           go_simp
           first
           | exact ⟨⟨rfl, trivial⟩, Keeps.refl _ _⟩
           | (go_at_call 33; first | exact rely_det (HI2.out _ (HGr.out.below hw9.same)) | exact rely_det (HI3.out _ (HGr.out.below hw9.same)) | exact rely_det (HI.out _ (HGr.out.below hw9.same))) | (go_at_call 36; exact rely_det (HN.out _ (HGr.out.below hw9.same))) | (go_at_call 18; exact rely_det (HS.out _ (HGr.out.below hw9.same)))
         clear hK K
         try simp only [Act.put, List.setIfInBounds_toArray, List.set_cons_zero, List.set_cons_succ])
      | (refine .inr (.inl ⟨?_, hK _ _ _ _ ?_⟩)
         · simp only [fillE]
           first | rfl | (go_simp; done)
         clear hK K
         try simp only [Act.put, List.setIfInBounds_toArray, List.set_cons_zero, List.set_cons_succ])
    refine wpRely_nil ?_
    simp only [fillE]
    intro w9 hw9 _
    obtain ⟨hc9, hf9⟩ := hw9.all
    simp only [List.drop_succ_cons, List.drop_zero, List.drop]
    go_wp2
    go_ret
    exact ⟨rfl, HB.out.trans (hw9.same.mono HB.out.size)⟩
  rw [if_neg h2]
  by_cases h3 : q = 3
  · subst h3
    rw [if_pos rfl]
    go_enter Tryd.func20, Tryd.ntmps20
    go_wp2_with fail
    refine (HI.out _ HGA.out).mono ?_
    rintro e w1 ⟨rfl, hb1⟩
    go_wp2
    go_ret
    exact ⟨rfl, HA.out.trans (hb1.mono HA.out.size)⟩
  rw [if_neg h3]
  · go_enter Tryd.func20, Tryd.ntmps20
    go_wp2_with fail
    refine (HI.out _ HGA.out).mono ?_
    rintro e w1 ⟨rfl, hb1⟩
    go_wp2
    go_ret
    exact ⟨rfl, HA.out.trans (hb1.mono HA.out.size)⟩
end Go.Proofs.YtncgpaajbflaeaaDoor
