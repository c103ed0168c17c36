/-
  gristmilllaw.asksOf returns the same asks, for up to a thousand; gristmilllaw.sameDeeds says that two lists of the same deeds are alike.
-/
import Derived.Test.YtkoflhjnpilchaaGreatDoorRowL
import Derived.Test.YtkoflhjnpilchaaGreatDoorMSets
import Derived.Test.YtkoflhjnpilchaaGreatDoorMErr
namespace Go.Proofs.YtkoflhjnpilchaaGreatDoor
set_option linter.unusedSimpArgs false
set_option linter.unusedVariables false
set_option linter.unusedSectionVars false
open Go.RowKit
attribute [local go_sem ↓] Go.wp_at_zero Go.wp_at_succ

def askL (f : Nat → Nat → Int) (i : Nat) : List Value := [.int .i64 (f i 0), .int .i64 (f i 1), .int .i64 (f i 2), .int .i64 (f i 3), .int .i64 (f i 4)]
def askLs (f : Nat → Nat → Int) (n : Nat) : List (List Value) := (List.range n).map (askL f)
theorem askLs_succ (f : Nat → Nat → Int) (n : Nat) : askLs f (n + 1) = askLs f n ++ [askL f n] := by
  unfold askLs
  rw [List.range_succ, List.map_append]
  rfl
abbrev sixL : List IntKind := [.i64, .i64, .i64, .i64, .i64, .i64]
abbrev KA5 : List IntKind := [.i64, .i64, .i64, .i64, .i64]
theorem infoAskL : (Tryz.prog.info? 72).map (fun i => (i.zero, i.size, i.bytes)) = some (some (.agg #[.int .i64 0, .int .i64 0, .int .i64 0, .int .i64 0, .int .i64 0]), 5, 40) := by kernel_rfl
theorem info_askL : ∃ i0, Tryz.prog.info? 72 = some i0 ∧ i0.zero = some (.agg #[.int .i64 0, .int .i64 0, .int .i64 0, .int .i64 0, .int .i64 0]) ∧ i0.size = 5 ∧ i0.bytes = 40 := by
  have h := infoAskL
  cases hq : Tryz.prog.info? 72 with
  | none => simp [hq] at h
  | some i => simp [hq] at h; exact ⟨i, rfl, h.1, h.2.1, h.2.2⟩
def IsSg1 (v : Value) : Prop := ∃ g, v = .slice (some ⟨g, 0, none⟩) 1 1
def Sg1At (t : TypeId) (ys : List Value) (v : Value) (w' : World) : Prop := ∃ g, v = .slice (some ⟨g, 0, none⟩) 1 1 ∧ Blk w' g t ys.toArray
def IsSlN (n : Nat) (v : Value) : Prop := ∃ A c, v = .slice A n c
def SlNAt (B : Nat) (e : TypeId) (m n : Nat) (rows : List (List Value)) (v : Value) (w' : World) : Prop := ∃ A c, v = .slice A n c ∧ OwnR w' B e m A n c rows
def AskOut (f : Nat → Nat → Int) (n : Nat) (w : World) (e : Ending) (w' : World) : Prop := ∃ A c, e = .returned (.slice A n c) ∧ OwnR w' w.heap.size 72 5 A n c (askLs f n) ∧ Below w.heap.size w w'
def AskSt (f : Nat → Nat → Int) (w : World) (k : Nat) (s : Value) (wr : World) : Prop := ∃ A c, s = .slice A k c ∧ OwnR wr w.heap.size 72 5 A k c (askLs f k)

set_option maxRecDepth 100000 in
set_option maxHeartbeats 4000000 in
theorem asksOf_any (A : Option Addr) (n c : Nat) (f : Nat → Nat → Int) (w : World) (h : SlF KA5 w A n c f) (hn : n ≤ 1000) :
    Calls Tryz.prog 6 #[.slice A n c] w (AskOut f n w) := by
  have H := Lib.hid h
  clear h
  obtain ⟨i0, hi0, hz0, hz1, hz2⟩ := info_askL
  have HI := Lib.hid hi0
  have HZ := Lib.hid hz0
  have HS := Lib.hid hz1
  have HY := Lib.hid hz2
  clear hi0 hz0 hz1 hz2
  go_enter Tryz.func6, Tryz.ntmps6
  go_wp2
  go_loopw [3, 4] (fun s i wr => ∃ k : Nat, k ≤ n ∧ i = .int .i64 k ∧ Below w.heap.size w wr ∧ Hid (AskSt f w k s wr)) (fun _ i _ => n - (intOf i).toNat)
  case atStart => exact ⟨0, by omega, rfl, Below.refl _ _, Lib.hid ⟨none, 0, rfl, OwnR.nil _ _ _ _⟩⟩
  case round =>
    obtain ⟨k, hk, rfl, hB, hex⟩ := hrel
    obtain ⟨A1, c1, rfl, hown⟩ := hex.out
    have HO := Lib.hid hown
    have HHi : Hid (∀ b, SlB A1 b → w.heap.size ≤ b) := Lib.hid fun b hb => hown.high hb
    clear hown hex
    have hbz := hB.size
    by_cases hkn : k < n
    · obtain ⟨b, off, rfl, hblt, hcell⟩ := H.out.at_ (by omega)
      have q1 : (k : Int) < n := by omega
      have c0 : wr.cell? ⟨b, off + k * 5, none⟩ = some (.int .i64 (f k 0)) := (hB.cell (p := ⟨b, off + k * 5, none⟩) hblt).trans (by simpa using hcell k 0 hkn (by decide))
      have c1' : wr.cell? ⟨b, off + k * 5 + 1, none⟩ = some (.int .i64 (f k 1)) := (hB.cell (p := ⟨b, off + k * 5 + 1, none⟩) hblt).trans (by simpa using hcell k 1 hkn (by decide))
      have c2 : wr.cell? ⟨b, off + k * 5 + 2, none⟩ = some (.int .i64 (f k 2)) := (hB.cell (p := ⟨b, off + k * 5 + 2, none⟩) hblt).trans (by simpa using hcell k 2 hkn (by decide))
      have c3 : wr.cell? ⟨b, off + k * 5 + 3, none⟩ = some (.int .i64 (f k 3)) := (hB.cell (p := ⟨b, off + k * 5 + 3, none⟩) hblt).trans (by simpa using hcell k 3 hkn (by decide))
      have c4 : wr.cell? ⟨b, off + k * 5 + 4, none⟩ = some (.int .i64 (f k 4)) := (hB.cell (p := ⟨b, off + k * 5 + 4, none⟩) hblt).trans (by simpa using hcell k 4 hkn (by decide))
      clear hcell
      have HAR : Hid (askL f k = [.int .i64 (f k 0), .int .i64 (f k 1), .int .i64 (f k 2), .int .i64 (f k 3), .int .i64 (f k 4)]) := rfl
      generalize f k 0 = x0 at *
      generalize f k 1 = x1 at *
      generalize f k 2 = x2 at *
      generalize f k 3 = x3 at *
      generalize f k 4 = x4 at *
      have HBL : Hid (b < w.heap.size) := Lib.hid hblt
      go_wp2
      refine wp_region_rely 19 (SlB A1) [18] (by kernel_rfl) (by kernel_rfl) ?_
      first | (with_reducible refine wpRely_step (fun K hK => ?_)) | (refine wpRely_step (fun K hK => ?_))
      refine .inl ?_
      apply Exists.intro
      refine ⟨Any, ?_, hK _ _ _ _ ?_⟩
      · simp only [RelyOp, fillE]
        refine ⟨?_, fun w9 hw9 _ => ?_⟩
        · first | rfl | (go_simp; done)
        obtain ⟨hc9, hf9⟩ := hw9.rules hbz (fun b hb hs => by have := HHi.out b hs; omega)
        go_simp
        first
        | exact ⟨⟨rfl, trivial⟩, Keeps.refl _ _⟩
      clear hK K
      try simp only [Act.put, List.setIfInBounds_toArray, List.set_cons_zero, List.set_cons_succ]
      first | (with_reducible refine wpRely_step (fun K hK => ?_)) | (refine wpRely_step (fun K hK => ?_))
      refine .inl ?_
      apply Exists.intro
      refine ⟨Any, ?_, hK _ _ _ _ ?_⟩
      · simp only [RelyOp, fillE]
        refine ⟨?_, fun w9 hw9 _ => ?_⟩
        · first | rfl | (go_simp; done)
        obtain ⟨hc9, hf9⟩ := hw9.rules hbz (fun b hb hs => by have := HHi.out b hs; omega)
        go_simp
        first
        | exact ⟨⟨rfl, trivial⟩, Keeps.refl _ _⟩
      clear hK K
      try simp only [Act.put, List.setIfInBounds_toArray, List.set_cons_zero, List.set_cons_succ]
      first | (with_reducible refine wpRely_step (fun K hK => ?_)) | (refine wpRely_step (fun K hK => ?_))
      refine .inl ?_
      apply Exists.intro
      refine ⟨Any, ?_, hK _ _ _ _ ?_⟩
      · simp only [RelyOp, fillE]
        refine ⟨?_, fun w9 hw9 _ => ?_⟩
        · first | rfl | (go_simp; done)
        obtain ⟨hc9, hf9⟩ := hw9.rules hbz (fun b hb hs => by have := HHi.out b hs; omega)
        go_simp
        first
        | exact ⟨⟨rfl, trivial⟩, Keeps.refl _ _⟩
      clear hK K
      try simp only [Act.put, List.setIfInBounds_toArray, List.set_cons_zero, List.set_cons_succ]
      first | (with_reducible refine wpRely_step (fun K hK => ?_)) | (refine wpRely_step (fun K hK => ?_))
      refine .inl ?_
      apply Exists.intro
      refine ⟨Any, ?_, hK _ _ _ _ ?_⟩
      · simp only [RelyOp, fillE]
        refine ⟨?_, fun w9 hw9 _ => ?_⟩
        · first | rfl | (go_simp; done)
        obtain ⟨hc9, hf9⟩ := hw9.rules hbz (fun b hb hs => by have := HHi.out b hs; omega)
        go_simp
        first
        | exact ⟨⟨rfl, trivial⟩, Keeps.refl _ _⟩
      clear hK K
      try simp only [Act.put, List.setIfInBounds_toArray, List.set_cons_zero, List.set_cons_succ]
      first | (with_reducible refine wpRely_step (fun K hK => ?_)) | (refine wpRely_step (fun K hK => ?_))
      refine .inl ?_
      apply Exists.intro
      refine ⟨Any, ?_, hK _ _ _ _ ?_⟩
      · simp only [RelyOp, fillE]
        refine ⟨?_, fun w9 hw9 _ => ?_⟩
        · first | rfl | (go_simp; done)
        obtain ⟨hc9, hf9⟩ := hw9.rules hbz (fun b hb hs => by have := HHi.out b hs; omega)
        go_simp
        first
        | exact ⟨⟨rfl, trivial⟩, Keeps.refl _ _⟩
      clear hK K
      try simp only [Act.put, List.setIfInBounds_toArray, List.set_cons_zero, List.set_cons_succ]
      first | (with_reducible refine wpRely_step (fun K hK => ?_)) | (refine wpRely_step (fun K hK => ?_))
      refine .inl ?_
      apply Exists.intro
      refine ⟨Any, ?_, hK _ _ _ _ ?_⟩
      · simp only [RelyOp, fillE]
        refine ⟨?_, fun w9 hw9 _ => ?_⟩
        · first | rfl | (go_simp; done)
        obtain ⟨hc9, hf9⟩ := hw9.rules hbz (fun b hb hs => by have := HHi.out b hs; omega)
        go_simp
        first
        | exact ⟨⟨rfl, trivial⟩, Keeps.refl _ _⟩
      clear hK K
      try simp only [Act.put, List.setIfInBounds_toArray, List.set_cons_zero, List.set_cons_succ]
      first | (with_reducible refine wpRely_step (fun K hK => ?_)) | (refine wpRely_step (fun K hK => ?_))
      refine .inl ?_
      apply Exists.intro
      refine ⟨Any, ?_, hK _ _ _ _ ?_⟩
      · simp only [RelyOp, fillE]
        refine ⟨?_, fun w9 hw9 _ => ?_⟩
        · first | rfl | (go_simp; done)
        obtain ⟨hc9, hf9⟩ := hw9.rules hbz (fun b hb hs => by have := HHi.out b hs; omega)
        go_simp
        first
        | exact ⟨⟨rfl, trivial⟩, Keeps.refl _ _⟩
      clear hK K
      try simp only [Act.put, List.setIfInBounds_toArray, List.set_cons_zero, List.set_cons_succ]
      first | (with_reducible refine wpRely_step (fun K hK => ?_)) | (refine wpRely_step (fun K hK => ?_))
      refine .inl ?_
      apply Exists.intro
      refine ⟨Any, ?_, hK _ _ _ _ ?_⟩
      · simp only [RelyOp, fillE]
        refine ⟨?_, fun w9 hw9 _ => ?_⟩
        · first | rfl | (go_simp; done)
        obtain ⟨hc9, hf9⟩ := hw9.rules hbz (fun b hb hs => by have := HHi.out b hs; omega)
        go_simp
        first
        | exact ⟨⟨rfl, trivial⟩, Keeps.refl _ _⟩
      clear hK K
      try simp only [Act.put, List.setIfInBounds_toArray, List.set_cons_zero, List.set_cons_succ]
      first | (with_reducible refine wpRely_step (fun K hK => ?_)) | (refine wpRely_step (fun K hK => ?_))
      refine .inl ?_
      apply Exists.intro
      refine ⟨Any, ?_, hK _ _ _ _ ?_⟩
      · simp only [RelyOp, fillE]
        refine ⟨?_, fun w9 hw9 _ => ?_⟩
        · first | rfl | (go_simp; done)
        obtain ⟨hc9, hf9⟩ := hw9.rules hbz (fun b hb hs => by have := HHi.out b hs; omega)
        go_simp
        first
        | exact ⟨⟨rfl, trivial⟩, Keeps.refl _ _⟩
      clear hK K
      try simp only [Act.put, List.setIfInBounds_toArray, List.set_cons_zero, List.set_cons_succ]
      first | (with_reducible refine wpRely_step (fun K hK => ?_)) | (refine wpRely_step (fun K hK => ?_))
      refine .inl ?_
      apply Exists.intro
      refine ⟨Any, ?_, hK _ _ _ _ ?_⟩
      · simp only [RelyOp, fillE]
        refine ⟨?_, fun w9 hw9 _ => ?_⟩
        · first | rfl | (go_simp; done)
        obtain ⟨hc9, hf9⟩ := hw9.rules hbz (fun b hb hs => by have := HHi.out b hs; omega)
        go_simp
        first
        | exact ⟨⟨rfl, trivial⟩, Keeps.refl _ _⟩
      clear hK K
      try simp only [Act.put, List.setIfInBounds_toArray, List.set_cons_zero, List.set_cons_succ]
      first | (with_reducible refine wpRely_step (fun K hK => ?_)) | (refine wpRely_step (fun K hK => ?_))
      refine .inl ?_
      apply Exists.intro
      refine ⟨Any, ?_, hK _ _ _ _ ?_⟩
      · simp only [RelyOp, fillE]
        refine ⟨?_, fun w9 hw9 _ => ?_⟩
        · first | rfl | (go_simp; done)
        obtain ⟨hc9, hf9⟩ := hw9.rules hbz (fun b hb hs => by have := HHi.out b hs; omega)
        go_simp
        first
        | exact ⟨⟨rfl, trivial⟩, Keeps.refl _ _⟩
      clear hK K
      try simp only [Act.put, List.setIfInBounds_toArray, List.set_cons_zero, List.set_cons_succ]
      first | (with_reducible refine wpRely_step (fun K hK => ?_)) | (refine wpRely_step (fun K hK => ?_))
      refine .inl ?_
      apply Exists.intro
      refine ⟨Any, ?_, hK _ _ _ _ ?_⟩
      · simp only [RelyOp, fillE]
        refine ⟨?_, fun w9 hw9 _ => ?_⟩
        · first | rfl | (go_simp; done)
        obtain ⟨hc9, hf9⟩ := hw9.rules hbz (fun b hb hs => by have := HHi.out b hs; omega)
        go_simp
        first
        | exact ⟨⟨rfl, trivial⟩, Keeps.refl _ _⟩
      clear hK K
      try simp only [Act.put, List.setIfInBounds_toArray, List.set_cons_zero, List.set_cons_succ]
      first | (with_reducible refine wpRely_step (fun K hK => ?_)) | (refine wpRely_step (fun K hK => ?_))
      refine .inl ?_
      apply Exists.intro
      refine ⟨Any, ?_, hK _ _ _ _ ?_⟩
      · simp only [RelyOp, fillE]
        refine ⟨?_, fun w9 hw9 _ => ?_⟩
        · first | rfl | (go_simp; done)
        obtain ⟨hc9, hf9⟩ := hw9.rules hbz (fun b hb hs => by have := HHi.out b hs; omega)
        go_simp
        first
        | exact ⟨⟨rfl, trivial⟩, Keeps.refl _ _⟩
      clear hK K
      try simp only [Act.put, List.setIfInBounds_toArray, List.set_cons_zero, List.set_cons_succ]
      first | (with_reducible refine wpRely_step (fun K hK => ?_)) | (refine wpRely_step (fun K hK => ?_))
      refine .inl ?_
      apply Exists.intro
      refine ⟨Any, ?_, hK _ _ _ _ ?_⟩
      · simp only [RelyOp, fillE]
        refine ⟨?_, fun w9 hw9 _ => ?_⟩
        · first | rfl | (go_simp; done)
        obtain ⟨hc9, hf9⟩ := hw9.rules hbz (fun b hb hs => by have := HHi.out b hs; omega)
        go_simp
        first
        | exact ⟨⟨rfl, trivial⟩, Keeps.refl _ _⟩
      clear hK K
      try simp only [Act.put, List.setIfInBounds_toArray, List.set_cons_zero, List.set_cons_succ]
      first | (with_reducible refine wpRely_step (fun K hK => ?_)) | (refine wpRely_step (fun K hK => ?_))
      refine .inl ?_
      apply Exists.intro
      refine ⟨Any, ?_, hK _ _ _ _ ?_⟩
      · simp only [RelyOp, fillE]
        refine ⟨?_, fun w9 hw9 _ => ?_⟩
        · first | rfl | (go_simp; done)
        obtain ⟨hc9, hf9⟩ := hw9.rules hbz (fun b hb hs => by have := HHi.out b hs; omega)
        go_simp
        first
        | exact ⟨⟨rfl, trivial⟩, Keeps.refl _ _⟩
      clear hK K
      try simp only [Act.put, List.setIfInBounds_toArray, List.set_cons_zero, List.set_cons_succ]
      first | (with_reducible refine wpRely_step (fun K hK => ?_)) | (refine wpRely_step (fun K hK => ?_))
      refine .inl ?_
      apply Exists.intro
      refine ⟨Any, ?_, hK _ _ _ _ ?_⟩
      · simp only [RelyOp, fillE]
        refine ⟨?_, fun w9 hw9 _ => ?_⟩
        · first | rfl | (go_simp; done)
        obtain ⟨hc9, hf9⟩ := hw9.rules hbz (fun b hb hs => by have := HHi.out b hs; omega)
        go_simp
        first
        | exact ⟨⟨rfl, trivial⟩, Keeps.refl _ _⟩
      clear hK K
      try simp only [Act.put, List.setIfInBounds_toArray, List.set_cons_zero, List.set_cons_succ]
      first | (with_reducible refine wpRely_step (fun K hK => ?_)) | (refine wpRely_step (fun K hK => ?_))
      refine .inl ?_
      apply Exists.intro
      refine ⟨Any, ?_, hK _ _ _ _ ?_⟩
      · simp only [RelyOp, fillE]
        refine ⟨?_, fun w9 hw9 _ => ?_⟩
        · first | rfl | (go_simp; done)
        obtain ⟨hc9, hf9⟩ := hw9.rules hbz (fun b hb hs => by have := HHi.out b hs; omega)
        go_simp
        first
        | exact ⟨⟨rfl, trivial⟩, Keeps.refl _ _⟩
      clear hK K
      try simp only [Act.put, List.setIfInBounds_toArray, List.set_cons_zero, List.set_cons_succ]
      first | (with_reducible refine wpRely_step (fun K hK => ?_)) | (refine wpRely_step (fun K hK => ?_))
      refine .inr (.inr ⟨IsSg1, (Sg1At 72 (askL f k)), ⟨_, 0, rfl⟩, ?_, hK _ _ _ _ ?_⟩)
      · simp only [RelyOp, fillE]
        refine ⟨?_, fun w9 hw9 hmet0 => ?_⟩
        · first | rfl | (go_simp; done)
        rw [HAR.out]
        go_simp
        exact ⟨⟨⟨_, rfl⟩, ⟨_, rfl, Blk.new _ _ _⟩⟩, Keeps.of_same ((Below.refl _ _).alloc (Nat.le_refl _) _)⟩
      clear hK K
      try simp only [Act.put, List.setIfInBounds_toArray, List.set_cons_zero, List.set_cons_succ]
      first | (with_reducible refine wpRely_step (fun K hK => ?_)) | (refine wpRely_step (fun K hK => ?_))
      refine .inr (.inr ⟨(IsSlN (k + 1)), (SlNAt w.heap.size 72 5 (k + 1) (askLs f (k + 1))), ⟨_, none, 0, rfl⟩, ?_, hK _ _ _ _ ?_⟩)
      · simp only [RelyOp, fillE]
        rintro _ ⟨g9, rfl⟩
        refine ⟨?_, fun w9 hw9 hmet0 => ?_⟩
        · first | rfl | (go_simp; done)
        have hmet0' := hmet0
        have hmet := hmet0.2
        clear hmet0
        obtain ⟨w0, k0, k1, g', hv, hblk⟩ := hmet.1 (by kernel_rfl)
        cases hv
        have hz9 := hw9.size
        have hblk9 := hblk.below (quietB k1 (by kernel_rfl)) hblk.lt
        have hw9' : Keeps nowhere wr w9 := startB hmet0'.1 (by kernel_rfl)
        refine relyAt_appendR (.tmp 11) (.tmp 28) rfl Tryz.underlying37 HI.out HZ.out HS.out HY.out rfl (by decide) (by decide) (A := A1) (n := k) (c := c1) (rows := askLs f k) rfl (HO.out.kept hw9' (fun _ _ h => h)) (g := g9) (c' := 1) rfl (ys := askL f k) rfl ?_ ?_ (by omega) (by omega) ?_
        · intro j hj
          rw [hblk9.cell j]
          simp
        · intro u hu
          rw [HAR.out] at hu
          simp only [List.mem_cons, List.not_mem_nil, or_false] at hu
          rcases hu with rfl | rfl | rfl | rfl | rfl <;> rfl
        · intro g' cap w' ho hk' _
          refine ⟨⟨⟨_, _, rfl⟩, ⟨_, _, rfl, by rw [askLs_succ]; exact ho⟩⟩, hk'.mono fun b hb => ⟨by decide, hb⟩⟩
      clear hK K
      try simp only [Act.put, List.setIfInBounds_toArray, List.set_cons_zero, List.set_cons_succ]
      refine wpRely_nil ?_
      simp only [fillE]
      rintro _ ⟨A9, c9, rfl⟩ _ ⟨g9, rfl⟩ w9 hw9 hmet
      simp only [List.drop_succ_cons, List.drop_zero, List.drop, Act.put, List.setIfInBounds_toArray, List.set_cons_zero, List.set_cons_succ]
      obtain ⟨w0, k0, k1, A8, c8, hv8, hown⟩ := hmet.2.1 rfl
      cases hv8
      have HO2 := Lib.hid (hown.below (quietB k1 (by kernel_rfl)))
      have hB2 : Below w.heap.size w w9 := hB.trans (hw9.below hbz (fun b hb hs => by have := HHi.out b hs; omega))
      clear hmet hown k0 k1
      go_wp2
      go_roundw
      case rel => exact ⟨k + 1, by omega, by go_num, hB2, Lib.hid ⟨_, _, rfl, HO2.out⟩⟩
      case measure => simp [intOf]; omega
    · obtain rfl : k = n := by omega
      have q1 : ¬ (k : Int) < k := by omega
      go_wp2
      go_ret
      exact ⟨A1, c1, rfl, HO.out, hB⟩

theorem asks_slf {f : Nat → Nat → Int} {n : Nat} {w : World} {B : Nat} {A : Option Addr} {c : Nat} (h : OwnR w B 72 5 A n c (askLs f n)) (wf : ∀ i j, i < n → j < 5 → (Lit.int (KA5.getD j .i64) (f i j)).wf = true) : SlF KA5 w A n c f :=
  h.slr.slf (K := KA5) f (fun i hi => by simp [askLs, hi, askL, List.range_succ]) wf

def Row6 (r : List Value) : Prop := ∃ x0 x1 x2 x3 x4 x5 : Int, r = [.int .i64 x0, .int .i64 x1, .int .i64 x2, .int .i64 x3, .int .i64 x4, .int .i64 x5]
set_option maxRecDepth 100000 in
set_option maxHeartbeats 4000000 in
theorem sameDeeds_any (A A' : Option Addr) (n c c' : Nat) (rows : List (List Value)) (w : World) (h : SlR 6 w A n c rows) (h' : SlR 6 w A' n c' rows) (hr : ∀ r ∈ rows, Row6 r) :
    Calls Tryz.prog 9 #[.slice A n c, .slice A' n c'] w fun e w' => e = .returned (.bool true) ∧ Below w.heap.size w w' := by
  have H := Lib.hid h
  have H' := Lib.hid h'
  have HR := Lib.hid hr
  have hc := h.cap
  have hc' := h.cap63
  have hl := h.len
  clear h h' hr
  go_enter Tryz.func9, Tryz.ntmps9
  go_wp2
  go_loopw [5] (fun i wr => ∃ k : Nat, k ≤ n ∧ i = .int .i64 k ∧ Below w.heap.size w wr) (fun i _ => n - (intOf i).toNat)
  case atStart => exact ⟨0, by omega, rfl, Below.refl _ _⟩
  case round =>
    obtain ⟨k, hk, rfl, hB⟩ := hrel
    have hbz := hB.size
    by_cases hkn : k < n
    · obtain ⟨b, off, rfl, hblt, hcell⟩ := H.out.at_ (by omega)
      obtain ⟨b', off', rfl, hblt', hcell'⟩ := H'.out.at_ (by omega)
      have q1 : (k : Int) < n := by omega
      obtain ⟨r, hr⟩ : ∃ r, rows[k]? = some r := ⟨rows[k]'(by omega), List.getElem?_eq_getElem _⟩
      obtain ⟨x0, x1, x2, x3, x4, x5, rfl⟩ := HR.out r (List.mem_of_getElem? hr)
      have d0 : wr.cell? ⟨b, off + k * 6, none⟩ = some (.int .i64 x0) := (hB.cell (p := ⟨b, off + k * 6, none⟩) hblt).trans (by simpa using hcell k _ hr 0 _ rfl)
      have d1 : wr.cell? ⟨b, off + k * 6 + 1, none⟩ = some (.int .i64 x1) := (hB.cell (p := ⟨b, off + k * 6 + 1, none⟩) hblt).trans (by simpa using hcell k _ hr 1 _ rfl)
      have d2 : wr.cell? ⟨b, off + k * 6 + 2, none⟩ = some (.int .i64 x2) := (hB.cell (p := ⟨b, off + k * 6 + 2, none⟩) hblt).trans (by simpa using hcell k _ hr 2 _ rfl)
      have d3 : wr.cell? ⟨b, off + k * 6 + 3, none⟩ = some (.int .i64 x3) := (hB.cell (p := ⟨b, off + k * 6 + 3, none⟩) hblt).trans (by simpa using hcell k _ hr 3 _ rfl)
      have d4 : wr.cell? ⟨b, off + k * 6 + 4, none⟩ = some (.int .i64 x4) := (hB.cell (p := ⟨b, off + k * 6 + 4, none⟩) hblt).trans (by simpa using hcell k _ hr 4 _ rfl)
      have d5 : wr.cell? ⟨b, off + k * 6 + 5, none⟩ = some (.int .i64 x5) := (hB.cell (p := ⟨b, off + k * 6 + 5, none⟩) hblt).trans (by simpa using hcell k _ hr 5 _ rfl)
      have e0 : wr.cell? ⟨b', off' + k * 6, none⟩ = some (.int .i64 x0) := (hB.cell (p := ⟨b', off' + k * 6, none⟩) hblt').trans (by simpa using hcell' k _ hr 0 _ rfl)
      have e1 : wr.cell? ⟨b', off' + k * 6 + 1, none⟩ = some (.int .i64 x1) := (hB.cell (p := ⟨b', off' + k * 6 + 1, none⟩) hblt').trans (by simpa using hcell' k _ hr 1 _ rfl)
      have e2 : wr.cell? ⟨b', off' + k * 6 + 2, none⟩ = some (.int .i64 x2) := (hB.cell (p := ⟨b', off' + k * 6 + 2, none⟩) hblt').trans (by simpa using hcell' k _ hr 2 _ rfl)
      have e3 : wr.cell? ⟨b', off' + k * 6 + 3, none⟩ = some (.int .i64 x3) := (hB.cell (p := ⟨b', off' + k * 6 + 3, none⟩) hblt').trans (by simpa using hcell' k _ hr 3 _ rfl)
      have e4 : wr.cell? ⟨b', off' + k * 6 + 4, none⟩ = some (.int .i64 x4) := (hB.cell (p := ⟨b', off' + k * 6 + 4, none⟩) hblt').trans (by simpa using hcell' k _ hr 4 _ rfl)
      have e5 : wr.cell? ⟨b', off' + k * 6 + 5, none⟩ = some (.int .i64 x5) := (hB.cell (p := ⟨b', off' + k * 6 + 5, none⟩) hblt').trans (by simpa using hcell' k _ hr 5 _ rfl)
      clear hcell hcell' hr
      have hbr : b < wr.heap.size := by omega
      have hbr' : b' < wr.heap.size := by omega
      clear hl
      go_wp2
      refine wp_region_rely 9 nowhere [] (by kernel_rfl) (by kernel_rfl) ?_
      iterate 9
        refine wpRely_step (fun K hK => ?_)
        first
        | (refine .inl ?_
           apply Exists.intro
           refine ⟨Any, ?_, hK _ _ _ _ ?_⟩
           · simp only [RelyOp, fillE]
             refine ⟨?_, fun w9 hw9 _ => ?_⟩
             · first | rfl | (go_simp; done)
             obtain ⟨hc9, hf9⟩ := hw9.all
             go_simp
             first
             | exact ⟨⟨rfl, trivial⟩, Keeps.refl _ _⟩
           clear hK K
           try simp only [Act.put, List.setIfInBounds_toArray, List.set_cons_zero, List.set_cons_succ])
        | (refine .inr (.inl ⟨?_, hK _ _ _ _ ?_⟩)
           · simp only [fillE]
             first | rfl | (go_simp; done)
           clear hK K
           try simp only [Act.put, List.setIfInBounds_toArray, List.set_cons_zero, List.set_cons_succ])
      refine wpRely_nil ?_
      simp only [fillE]
      intro w9 hw9 _
      obtain ⟨hc9, hf9⟩ := hw9.all
      simp only [List.drop_succ_cons, List.drop_zero, List.drop]
      go_wp2
      go_roundw
      case rel => exact ⟨k + 1, by omega, by go_num, hB.trans (hw9.same.mono hbz)⟩
      case measure => simp [intOf]; omega
    · obtain rfl : k = n := by omega
      have q1 : ¬ (k : Int) < k := by omega
      go_wp2
      go_ret
      exact ⟨rfl, hB⟩
end Go.Proofs.YtkoflhjnpilchaaGreatDoor
