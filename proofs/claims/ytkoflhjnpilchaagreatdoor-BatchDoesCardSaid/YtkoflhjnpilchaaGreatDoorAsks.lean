/-
  What gristmilllaw.asksOf returns: the same asks. For a list of one.
-/
import Derived.Test.YtkoflhjnpilchaaGreatDoorProg
import Derived.Test.YtkoflhjnpilchaaGreatDoorWide
import Derived.Test.YtkoflhjnpilchaaGreatDoorMBase
import Derived.Deep.Onto
namespace Go.Proofs.YtkoflhjnpilchaaGreatDoor
set_option linter.unusedSimpArgs false
set_option linter.unusedVariables false
set_option linter.unusedSectionVars false
open Go.RowKit
attribute [local go_sem ↓] Go.wp_at_zero Go.wp_at_succ

def askRow (f : Nat → Nat → Int) (i : Nat) : List Value := [.int .i64 (f i 0), .int .i64 (f i 1), .int .i64 (f i 2), .int .i64 (f i 3), .int .i64 (f i 4)]
def askRows (f : Nat → Nat → Int) (n : Nat) : List Value := (List.range n).flatMap (askRow f)
theorem askRows_succ (f : Nat → Nat → Int) (n : Nat) : askRows f (n + 1) = askRows f n ++ askRow f n := by
  unfold askRows
  rw [List.range_succ, List.flatMap_append]
  simp
abbrev K5 : List IntKind := [.i64, .i64, .i64, .i64, .i64]
def OwnA (w : World) (B : Nat) (A : Option Addr) (n c : Nat) (f : Nat → Nat → Int) : Prop := w.ownsRow B 72 5 (.slice A n c) n (askRows f n)
theorem infoAsk : (Tryz.prog.info? 72).map (fun i => (i.zero, i.size, i.bytes)) = some (some (.agg #[.int .i64 0, .int .i64 0, .int .i64 0, .int .i64 0, .int .i64 0]), 5, 40) := by kernel_rfl
theorem info_ask : ∃ i0, Tryz.prog.info? 72 = some i0 ∧ i0.zero = some (.agg #[.int .i64 0, .int .i64 0, .int .i64 0, .int .i64 0, .int .i64 0]) ∧ i0.size = 5 ∧ i0.bytes = 40 := by
  have h := infoAsk
  cases hq : Tryz.prog.info? 72 with
  | none => simp [hq] at h
  | some i => simp [hq] at h; exact ⟨i, rfl, h.1, h.2.1, h.2.2⟩

set_option maxRecDepth 100000 in
set_option maxHeartbeats 4000000 in
theorem asksOf_one (A : Option Addr) (n c : Nat) (f : Nat → Nat → Int) (w : World) (h : SlF K5 w A n c f) (hn : n = 1) :
    Calls Tryz.prog 6 #[.slice A n c] w fun e w' => (∃ A' c', e = .returned (.slice A' n c') ∧ OwnA w' w.heap.size A' n c' f) ∧ Below w.heap.size w w' := by
  subst hn
  have H := Lib.hid h
  clear h
  obtain ⟨i0, hi0, hz0, hz1, hz2⟩ := info_ask
  have HI := Lib.hid hi0
  have HZ := Lib.hid hz0
  have HS := Lib.hid hz1
  have HY := Lib.hid hz2
  clear hi0 hz0 hz1 hz2
  go_enter Tryz.func6, Tryz.ntmps6
  go_wp2
  go_loopw [3, 4] (fun s i wr => ∃ k : Nat, k ≤ 1 ∧ i = .int .i64 k ∧ Below w.heap.size w wr ∧ Hid (∃ A' c', s = .slice A' k c' ∧ OwnA wr w.heap.size A' k c' f ∧ (k = 0 → A' = none ∧ c' = 0))) (fun _ i _ => 1 - (intOf i).toNat)
  case atStart => exact ⟨0, by omega, rfl, Below.refl _ _, Lib.hid ⟨none, 0, rfl, World.ownsRow_nil _ _ _ _, fun _ => ⟨rfl, rfl⟩⟩⟩
  case round =>
    obtain ⟨k, hk, rfl, hB, hex⟩ := hrel
    obtain ⟨A1, c1, rfl, hown, hnil⟩ := hex.out
    have HO := Lib.hid hown
    clear hown hex
    have hbz := hB.size
    by_cases hkn : k < 1
    · obtain rfl : k = 0 := by omega
      obtain ⟨rfl, rfl⟩ := hnil rfl
      clear HO
      simp only [show ((0 : Nat) : Int) = 0 from rfl]
      have q1 : (0 : Int) < 1 := by omega
      obtain ⟨b, off, rfl, hblt, hcell⟩ := H.out.at_ (by omega)
      have c0 : wr.cell? ⟨b, off, none⟩ = some (.int .i64 (f 0 0)) := (hB.cell (p := ⟨b, off, none⟩) hblt).trans (by simpa using hcell 0 0 hkn (by decide))
      have c1' : wr.cell? ⟨b, off + 1, none⟩ = some (.int .i64 (f 0 1)) := (hB.cell (p := ⟨b, off + 1, none⟩) hblt).trans (by simpa using hcell 0 1 hkn (by decide))
      have c2 : wr.cell? ⟨b, off + 2, none⟩ = some (.int .i64 (f 0 2)) := (hB.cell (p := ⟨b, off + 2, none⟩) hblt).trans (by simpa using hcell 0 2 hkn (by decide))
      have c3 : wr.cell? ⟨b, off + 3, none⟩ = some (.int .i64 (f 0 3)) := (hB.cell (p := ⟨b, off + 3, none⟩) hblt).trans (by simpa using hcell 0 3 hkn (by decide))
      have c4 : wr.cell? ⟨b, off + 4, none⟩ = some (.int .i64 (f 0 4)) := (hB.cell (p := ⟨b, off + 4, none⟩) hblt).trans (by simpa using hcell 0 4 hkn (by decide))
      have hblr : b < wr.heap.size := by omega
      clear hcell
      have HAR : Hid (askRow f 0 = [.int .i64 (f 0 0), .int .i64 (f 0 1), .int .i64 (f 0 2), .int .i64 (f 0 3), .int .i64 (f 0 4)]) := rfl
      generalize f 0 0 = x0 at *
      generalize f 0 1 = x1 at *
      generalize f 0 2 = x2 at *
      generalize f 0 3 = x3 at *
      generalize f 0 4 = x4 at *
      go_wp2
      refine wp_region_rely 19 nowhere [] (by kernel_rfl) (by kernel_rfl) ?_
      iterate 17
        refine wpRely_step (fun K hK => ?_)
        first
        | (refine .inl ?_
           apply Exists.intro
           refine ⟨Any, ?_, hK _ _ _ _ ?_⟩
           · simp only [RelyOp, fillE]
             refine ⟨?_, fun w9 hw9 _ => ?_⟩
             · first | rfl | (go_simp; done)
             obtain ⟨hc9, hf9⟩ := hw9.all
             go_simp
             exact ⟨⟨rfl, trivial⟩, Keeps.refl _ _⟩
           clear hK K
           try simp only [Act.put, List.setIfInBounds_toArray, List.set_cons_zero, List.set_cons_succ])
      refine wpRely_step (fun K hK => ?_)
      refine .inr (.inr ⟨fun v => ∃ g, v = .slice (some ⟨g, 0, none⟩) 1 1, fun v w' => ∃ g, v = .slice (some ⟨g, 0, none⟩) 1 1 ∧ Blk w' g 72 (askRow f 0).toArray, ⟨_, 0, rfl⟩, ?_, hK _ _ _ _ ?_⟩)
      · simp only [RelyOp, fillE]
        refine ⟨rfl, fun w9 hw9 _ => ?_⟩
        rw [HAR.out]
        go_simp
        exact ⟨⟨⟨_, rfl⟩, ⟨_, rfl, Blk.new _ _ _⟩⟩, Keeps.of_same ((Below.refl _ _).alloc (Nat.le_refl _) _)⟩
      clear hK K
      refine wpRely_step (fun K hK => ?_)
      refine .inr (.inr ⟨fun v => ∃ A' c', v = .slice A' 1 c', fun v w' => ∃ A' c', v = .slice A' 1 c' ∧ OwnA w' w.heap.size A' 1 c' f ∧ True, ⟨_, none, 0, rfl⟩, ?_, hK _ _ _ _ ?_⟩)
      · simp only [RelyOp, fillE]
        rintro _ ⟨g, rfl⟩
        refine ⟨rfl, fun w9 hw9 hmet0 => ?_⟩
        have hmet := hmet0.2
        clear hmet0
        obtain ⟨w0, k0, k1, g', hv, hblk⟩ := (hmet.1 (by kernel_rfl)).out
        cases hv
        have hz9 := hw9.size
        refine relyAt_appendV (.tmp 11) (.tmp 28) rfl Tryz.underlying37 HI.out HZ.out HS.out HY.out rfl (by decide) (by decide) (A := none) (n := 0) (c := 0) (xs := []) rfl (World.ownsRow_nil w9 w9.heap.size _ _) (g := g) (c' := 1) rfl (ys := askRow f 0) rfl ?_ ?_ (by omega) (Nat.le_refl _) ?_
        · intro j hj
          rw [(hblk.below k1 hblk.lt).cell j]
          simp
        · intro u hu
          rw [HAR.out] at hu
          simp only [List.mem_cons, List.not_mem_nil, or_false] at hu
          rcases hu with rfl | rfl | rfl | rfl | rfl <;> rfl
        · intro g' cap w' ho hb
          refine ⟨⟨⟨_, _, rfl⟩, ⟨_, _, rfl, ?_, trivial⟩⟩, Keeps.of_same hb⟩
          have := World.ownsRow.mono ho (show w.heap.size ≤ w9.heap.size by omega)
          rw [OwnA, askRows_succ]
          exact this
      clear hK K
      refine wpRely_nil ?_
      simp only [fillE]
      rintro _ ⟨A9, c9, rfl⟩ _ ⟨g9, rfl⟩ w9 hw9 hmet
      obtain ⟨w0, k0, k1, A8, c8, hv8, hown, _⟩ := (hmet.2.1 rfl).out
      cases hv8
      have HO2 := Lib.hid (ownV_below hown k1)
      have hB2 : Below w.heap.size w w9 := hB.trans (hw9.same.mono hbz)
      clear hmet hown
      go_wp2
      go_roundw
      case rel => exact ⟨1, by omega, by go_num, hB2, Lib.hid ⟨_, _, rfl, HO2.out, fun h => absurd h (by decide)⟩⟩
      case measure => simp [intOf]
    · obtain rfl : k = 1 := by omega
      go_wp2
      go_ret
      exact ⟨⟨A1, c1, rfl, HO.out⟩, hB⟩
end Go.Proofs.YtkoflhjnpilchaaGreatDoor
