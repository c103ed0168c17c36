/-
  the words of a Ram behind any acts are what the reference holds. No condition beyond the tied variable.
-/
import Derived.Test.YtiajglefmlfkfaaDoorRows
import Derived.Test.YtiajglefmlfkfaaDoorCards
import Derived.Test.YtiajglefmlfkfaaDoorTie
import Derived.Test.YtiajglefmlfkfaaDoorCardB
import Derived.SevenTiedAt
import Derived.Test.YtiajglefmlfkfaaDoorFrame
import Derived.Test.YtiajglefmlfkfaaDoorOpen
import Derived.Test.YtiajglefmlfkfaaDoorRam
import Derived.Test.YtiajglefmlfkfaaDoorOpenF
namespace Go.Proofs.YtiajglefmlfkfaaDoor.lawRamKeeps
open Go.RowKit Go.ChangeShapes Go.WideShapes Go.ChangeAt Go.Joins

attribute [local go_sem ↓] Go.wp_at_zero Go.wp_at_succ
set_option linter.unusedSimpArgs false
set_option linter.unusedVariables false

theorem bare_same (e : Int) (w : World) (hg : ErrT w) : Calls Tryd.prog 23 #[errV e, .int .i64 e] w fun e' w' => e' = .returned (.bool true) ∧ Below w.heap.size w w' :=
  (bare_any e e w hg).mono fun _ _ ⟨h, hb⟩ => ⟨by rw [h]; simp, hb⟩
theorem bare2 (w : World) (hg : ErrT w) : Calls Tryd.prog 23 #[.iface 25 (.int .i64 2), .int .i64 2] w fun e' w' => e' = .returned (.bool true) ∧ Below w.heap.size w w' := by
  have h := bare_same 2 w hg
  have e2 : errV 2 = .iface 25 (.int .i64 2) := by simp [errV]
  rwa [e2] at h
theorem bare0 (w : World) (hg : ErrT w) : Calls Tryd.prog 23 #[.nilIface, .int .i64 0] w fun e' w' => e' = .returned (.bool true) ∧ Below w.heap.size w w' := by
  have h := bare_same 0 w hg
  have e2 : errV 0 = .nilIface := by simp [errV]
  rwa [e2] at h

/-- What holds between the rounds: two blocks of the same sixteen words. -/
structure Two (w W : World) (g h : Nat) : Prop where
  below : Below w.heap.size w W
  ram : ∃ E F z, Blk W g 61 E ∧ Blk W h 59 F ∧ U64s E 16 z ∧ U64s F 16 z
theorem Two.grow {w W W' : World} {g h : Nat} (k : Two w W g h) (hb : Below W.heap.size W W') : Two w W' g h := by
  obtain ⟨E, F, z, h1, h2, h3, h4⟩ := k.ram
  exact ⟨k.below.trans (hb.mono k.below.size), E, F, z, h1.below hb h1.lt, h2.below hb h2.lt, h3, h4⟩
theorem two_save {w wr w3 : World} {o : Obj} {E F : Array Value} {z : Nat → Int} {i : Nat} {v : Int} (hB : Below w.heap.size w wr) (hE : Blk wr w.heap.size 61 E) (hF : Blk wr (w.heap.size + 1) 59 F) (UE : U64s E 16 z) (UF : U64s F 16 z) (hv : 0 ≤ v ∧ v < 18446744073709551616)
    (hb3 : Below ((wr.setCell ⟨w.heap.size, i, none⟩ (.int .u64 v)).alloc o).heap.size ((wr.setCell ⟨w.heap.size, i, none⟩ (.int .u64 v)).alloc o) w3) : Two w (w3.setCell ⟨w.heap.size + 1, i, none⟩ (.int .u64 v)) w.heap.size (w.heap.size + 1) := by
  have hlt := hF.lt
  have hlt' := hE.lt
  have k1 : Below w.heap.size w w3 := ((hB.setCell (p := ⟨w.heap.size, i, none⟩) (Nat.le_refl _) (.int .u64 v)).alloc (by simp; omega) o).trans (hb3.mono (by simp; omega))
  exact ⟨k1.setCell (by simp) _, _, _, _, ((((hE.set_ i _).alloc o).below hb3 (by simp; omega)).far (by simp) _), ((((hF.far (p := ⟨w.heap.size, i, none⟩) (by simp) _).alloc o).below hb3 (by simp; omega)).set_ i _), UE.set_ hv, UF.set_ hv⟩
theorem Blk.farRow {w : World} {g k : Nat} {t : TypeId} {cs ds : Array Value} (h : Blk w k t cs) (hn : k ≠ g) : Blk (w.setRow g ds) k t cs := (setRow_other w g k ds hn).trans h
theorem two_clear {w wr : World} {o : Obj} {E F : Array Value} (hB : Below w.heap.size w wr) (hE : Blk wr w.heap.size 61 E) (hF : Blk wr (w.heap.size + 1) 59 F) :
    Two w (((wr.alloc o).setRow w.heap.size #[.int .u64 0, .int .u64 0, .int .u64 0, .int .u64 0, .int .u64 0, .int .u64 0, .int .u64 0, .int .u64 0, .int .u64 0, .int .u64 0, .int .u64 0, .int .u64 0, .int .u64 0, .int .u64 0, .int .u64 0, .int .u64 0]).setRow (w.heap.size + 1) #[.int .u64 0, .int .u64 0, .int .u64 0, .int .u64 0, .int .u64 0, .int .u64 0, .int .u64 0, .int .u64 0, .int .u64 0, .int .u64 0, .int .u64 0, .int .u64 0, .int .u64 0, .int .u64 0, .int .u64 0, .int .u64 0]) w.heap.size (w.heap.size + 1) :=
  ⟨below_setRow (below_setRow (hB.alloc hB.size o) (Nat.le_refl _) _) (by omega) _, #[.int .u64 0, .int .u64 0, .int .u64 0, .int .u64 0, .int .u64 0, .int .u64 0, .int .u64 0, .int .u64 0, .int .u64 0, .int .u64 0, .int .u64 0, .int .u64 0, .int .u64 0, .int .u64 0, .int .u64 0, .int .u64 0], #[.int .u64 0, .int .u64 0, .int .u64 0, .int .u64 0, .int .u64 0, .int .u64 0, .int .u64 0, .int .u64 0, .int .u64 0, .int .u64 0, .int .u64 0, .int .u64 0, .int .u64 0, .int .u64 0, .int .u64 0, .int .u64 0], fun _ => 0, Blk.farRow ((hE.alloc o).setRow _) (by omega), (Blk.farRow (hF.alloc o) (by omega)).setRow _, zero16, zero16⟩

set_option maxRecDepth 100000 in
set_option maxHeartbeats 40000000 in
theorem walk (A : Option Addr) (n c : Nat) (l : Nat → Nat → Int) (ad : Int) (w : World) (hl : SlF [.i64, .i64, .u64, .i64, .i64] w A n c l) (hg : ErrT w) :
    Calls Tryd.prog 8 #[.slice A n c, .int .i64 ad] w fun e w' => e = .returned (.bool true) ∧ Below w.heap.size w w' := by
  have HG := Lib.hid hg
  have HL := Lib.hid hl
  clear hg hl
  go_enter Tryd.func8, Tryd.ntmps8
  by_cases h60 : n ≤ 60
  · have h60' : (n : Int) ≤ 60 := by omega
    go_wp2
    go_loopw [7, 8, 9, 10, 11, 12, 13, 14] (fun iv _ _ _ _ _ _ _ wr => ∃ k : Nat, k ≤ n ∧ iv = .int .i64 k ∧ Hid (Two w wr w.heap.size (w.heap.size + 1))) (fun iv _ _ _ _ _ _ _ _ => n - (intOf iv).toNat)
    case atStart => exact ⟨0, by omega, rfl, Lib.hid ⟨by go_grown, #[.int .u64 0, .int .u64 0, .int .u64 0, .int .u64 0, .int .u64 0, .int .u64 0, .int .u64 0, .int .u64 0, .int .u64 0, .int .u64 0, .int .u64 0, .int .u64 0, .int .u64 0, .int .u64 0, .int .u64 0, .int .u64 0], #[.int .u64 0, .int .u64 0, .int .u64 0, .int .u64 0, .int .u64 0, .int .u64 0, .int .u64 0, .int .u64 0, .int .u64 0, .int .u64 0, .int .u64 0, .int .u64 0, .int .u64 0, .int .u64 0, .int .u64 0, .int .u64 0], fun _ => 0, (Blk.new _ _ _).alloc _, Blk.newAt _ _ _ (by simp), zero16, zero16⟩⟩
    case round =>
      obtain ⟨k, hk, rfl, htwo⟩ := hrel
      have hB := htwo.out.below
      obtain ⟨E, F, z, hE, hF, UE, UF⟩ := htwo.out.ram
      have hlt := hF.lt
      by_cases hkn : k < n
      · have b1 : (k : Int) < n := by omega
        obtain ⟨b, off, rfl, hblt, hcell⟩ := HL.out.at_ (by omega)
        have c0 : wr.cell? ⟨b, off + k * 5, none⟩ = some (.int .i64 (l k 0)) := (hB.cell (p := ⟨b, off + k * 5, none⟩) hblt).trans (hcell k 0 hkn (by decide))
        have c1 : wr.cell? ⟨b, off + k * 5 + 1, none⟩ = some (.int .i64 (l k 1)) := (hB.cell (p := ⟨b, off + k * 5 + 1, none⟩) hblt).trans (hcell k 1 hkn (by decide))
        have c2 : wr.cell? ⟨b, off + k * 5 + 2, none⟩ = some (.int .u64 (l k 2)) := (hB.cell (p := ⟨b, off + k * 5 + 2, none⟩) hblt).trans (hcell k 2 hkn (by decide))
        have c3 : wr.cell? ⟨b, off + k * 5 + 3, none⟩ = some (.int .i64 (l k 3)) := (hB.cell (p := ⟨b, off + k * 5 + 3, none⟩) hblt).trans (hcell k 3 hkn (by decide))
        have c4 : wr.cell? ⟨b, off + k * 5 + 4, none⟩ = some (.int .i64 (l k 4)) := (hB.cell (p := ⟨b, off + k * 5 + 4, none⟩) hblt).trans (hcell k 4 hkn (by decide))
        have v2 := bounds_u64 (HL.out.wf k 2 hkn (by decide))
        have v4 := bounds_i64 (HL.out.wf k 4 hkn (by decide))
        clear hcell
        generalize l k 0 = what at *
        generalize l k 1 = addr at *
        generalize l k 2 = word at *
        generalize l k 3 = thr at *
        generalize l k 4 = line at *
        have v2' : 0 ≤ word ∧ word < 18446744073709551616 := by omega
        have W1 : Hid (∀ o, Below w.heap.size w (wr.alloc o)) := fun o => hB.trans ((Below.refl _ _).alloc hB.size o)
        have m0 : w.heap.size < wr.heap.size := by omega
        have m1 : w.heap.size + 1 < wr.heap.size := by omega
        by_cases ha : 0 ≤ addr ∧ addr < 16
        · obtain ⟨a0, a16⟩ := ha
          obtain ⟨i, rfl⟩ := Int.eq_ofNat_of_zero_le a0
          have hi : i < 16 := by omega
          by_cases h0 : what = 0
          · subst h0
            have hsv := fun o => ramSave_in w.heap.size i word E z (wr.alloc o) (hE.alloc o) UE hi
            have HSV := Lib.hid hsv
            clear hsv
            have HB2 : Hid (∀ o, Below w.heap.size w ((wr.setCell ⟨w.heap.size, i, none⟩ (.int .u64 word)).alloc o)) := fun o => (hB.setCell (p := ⟨w.heap.size, i, none⟩) (Nat.le_refl _) (.int .u64 word)).alloc (by simp; omega) o
            have cF : wr.cell? ⟨w.heap.size + 1, i, none⟩ = some (.int .u64 (z i)) := by rw [hF.cell, UF.get i hi]
            have fF : wr.frozen? ⟨w.heap.size + 1, i, none⟩ = false := hF.frozen i
            go_wp2_with (first
              | (go_at_call 35; refine (HSV.out _).mono ?_; rintro e w2 ⟨rfl, rfl⟩)
              | (go_at_call 23; refine (bare0 _ (HG.out.below (HB2.out _))).mono ?_; rintro e w3 ⟨rfl, hb3⟩; obtain ⟨hc3, hf3⟩ := bcell hb3; have z3 := hb3.size; simp at z3))
            exact ⟨⟨k + 1, by omega, by go_num, Lib.hid (two_save hB hE hF UE UF v2' hb3)⟩, by simp [intOf]; omega⟩
          · by_cases h1 : what = 1
            · subst h1
              have cF : wr.cell? ⟨w.heap.size + 1, i, none⟩ = some (.int .u64 (z i)) := by rw [hF.cell, UF.get i hi]
              have fF : wr.frozen? ⟨w.heap.size + 1, i, none⟩ = false := hF.frozen i
              by_cases hl0 : 0 ≤ line
              · by_cases hz : z i = line
                · have e1 : (z i == line) = true := by simpa using hz
                  have hsw := fun o => ramSwap_yes w.heap.size i line word E z (wr.alloc o) (hE.alloc o) UE hi e1
                  have HSW := Lib.hid hsw
                  have HB2 : Hid (∀ o, Below w.heap.size w ((wr.setCell ⟨w.heap.size, i, none⟩ (.int .u64 word)).alloc o)) := fun o => (hB.setCell (p := ⟨w.heap.size, i, none⟩) (Nat.le_refl _) (.int .u64 word)).alloc (by simp; omega) o
                  clear hsw hz
                  go_wp2_with (first
                    | (go_at_call 36; refine (HSW.out _).mono ?_; rintro e w2 ⟨rfl, rfl⟩)
                    | (go_at_call 23; refine (bare0 _ (HG.out.below (HB2.out _))).mono ?_; rintro e w3 ⟨rfl, hb3⟩; obtain ⟨hc3, hf3⟩ := bcell hb3; have z3 := hb3.size; simp at z3))
                  exact ⟨⟨k + 1, by omega, by go_num, Lib.hid (two_save hB hE hF UE UF v2' hb3)⟩, by simp [intOf]; omega⟩
                · have e1 : (z i == line) = false := by simpa using hz
                  have hsw := fun o => ramSwap_no w.heap.size i line word E z (wr.alloc o) (hE.alloc o) UE hi e1
                  have HSW := Lib.hid hsw
                  clear hsw hz
                  go_wp2_with (first
                    | (go_at_call 36; refine (HSW.out _).mono ?_; rintro e w2 ⟨rfl, rfl⟩)
                    | (go_at_call 23; refine (bare0 _ (HG.out.below (W1.out _))).mono ?_; rintro e w3 ⟨rfl, hb3⟩))
                  exact ⟨⟨k + 1, by omega, by go_num, Lib.hid ((htwo.out.grow ((Below.refl _ _).alloc (Nat.le_refl _) _)).grow hb3)⟩, by simp [intOf]; omega⟩
              · by_cases hz : z i = (IntKind.u64.wrap line)
                · have e1 : (z i == IntKind.u64.wrap line) = true := by simpa using hz
                  have hsw := fun o => ramSwap_yes w.heap.size i (IntKind.u64.wrap line) word E z (wr.alloc o) (hE.alloc o) UE hi e1
                  have HSW := Lib.hid hsw
                  have HB2 : Hid (∀ o, Below w.heap.size w ((wr.setCell ⟨w.heap.size, i, none⟩ (.int .u64 word)).alloc o)) := fun o => (hB.setCell (p := ⟨w.heap.size, i, none⟩) (Nat.le_refl _) (.int .u64 word)).alloc (by simp; omega) o
                  clear hsw hz
                  go_wp2_with (first
                    | (go_at_call 36; refine (HSW.out _).mono ?_; rintro e w2 ⟨rfl, rfl⟩)
                    | (go_at_call 23; refine (bare0 _ (HG.out.below (HB2.out _))).mono ?_; rintro e w3 ⟨rfl, hb3⟩; obtain ⟨hc3, hf3⟩ := bcell hb3; have z3 := hb3.size; simp at z3))
                  exact ⟨⟨k + 1, by omega, by go_num, Lib.hid (two_save hB hE hF UE UF v2' hb3)⟩, by simp [intOf]; omega⟩
                · have e1 : (z i == IntKind.u64.wrap line) = false := by simpa using hz
                  have hsw := fun o => ramSwap_no w.heap.size i (IntKind.u64.wrap line) word E z (wr.alloc o) (hE.alloc o) UE hi e1
                  have HSW := Lib.hid hsw
                  clear hsw hz
                  go_wp2_with (first
                    | (go_at_call 36; refine (HSW.out _).mono ?_; rintro e w2 ⟨rfl, rfl⟩)
                    | (go_at_call 23; refine (bare0 _ (HG.out.below (W1.out _))).mono ?_; rintro e w3 ⟨rfl, hb3⟩))
                  exact ⟨⟨k + 1, by omega, by go_num, Lib.hid ((htwo.out.grow ((Below.refl _ _).alloc (Nat.le_refl _) _)).grow hb3)⟩, by simp [intOf]; omega⟩
            · by_cases h2 : what = 2
              · subst h2
                have hcl := fun o => ramClear w.heap.size E z (wr.alloc o) (hE.alloc o) UE
                have HCL := Lib.hid hcl
                clear hcl
                have HFs := Lib.hid UF.size
                have HFB : Hid (∀ o, Blk ((wr.alloc o).setRow w.heap.size #[.int .u64 0, .int .u64 0, .int .u64 0, .int .u64 0, .int .u64 0, .int .u64 0, .int .u64 0, .int .u64 0, .int .u64 0, .int .u64 0, .int .u64 0, .int .u64 0, .int .u64 0, .int .u64 0, .int .u64 0, .int .u64 0]) (w.heap.size + 1) 59 F) := fun o => Blk.farRow (hF.alloc o) (by omega)
                go_wp2_with (first
                  | (go_at_call 37; refine (HCL.out _).mono ?_; rintro e w2 ⟨rfl, rfl⟩)
                  | (refine wpList_store_row rfl 59 _ _ rfl (w.heap.size + 1) #[.int .u64 0, .int .u64 0, .int .u64 0, .int .u64 0, .int .u64 0, .int .u64 0, .int .u64 0, .int .u64 0, .int .u64 0, .int .u64 0, .int .u64 0, .int .u64 0, .int .u64 0, .int .u64 0, .int .u64 0, .int .u64 0] rfl rfl 59 F (HFB.out _) infoRam HFs.out zero16.one ?_))
                exact ⟨⟨k + 1, by omega, by go_num, Lib.hid (two_clear hB hE hF)⟩, by simp [intOf]; omega⟩
              · have g0 : (what == 0) = false := by simpa using h0
                have g1 : (what == 1) = false := by simpa using h1
                have g2 : (what == 2) = false := by simpa using h2
                go_wp2
                exact ⟨⟨k + 1, by omega, by go_num, Lib.hid (htwo.out.grow ((Below.refl _ _).alloc (Nat.le_refl _) _))⟩, by simp [intOf]; omega⟩
        · have ho : addr < 0 ∨ (0 ≤ addr ∧ 16 ≤ addr) := by omega
          have HBR := Lib.hid (fun o => bare2 (wr.alloc o) (HG.out.below (W1.out o)))
          have hsv := fun o => ramSave_out w.heap.size addr word (wr.alloc o) ho
          have HSV := Lib.hid hsv
          have hsw := fun v o => ramSwap_out w.heap.size addr v word (wr.alloc o) ho
          have HSW := Lib.hid hsw
          clear hsv hsw
          have HT1 : Hid (∀ o, Two w (wr.alloc o) w.heap.size (w.heap.size + 1)) := fun o => htwo.out.grow ((Below.refl _ _).alloc (Nat.le_refl _) _)
          by_cases h2 : what = 2
          · subst h2
            have hcl := fun o => ramClear w.heap.size E z (wr.alloc o) (hE.alloc o) UE
            have HCL := Lib.hid hcl
            clear hcl
            have HFs := Lib.hid UF.size
            have HFB : Hid (∀ o, Blk ((wr.alloc o).setRow w.heap.size #[.int .u64 0, .int .u64 0, .int .u64 0, .int .u64 0, .int .u64 0, .int .u64 0, .int .u64 0, .int .u64 0, .int .u64 0, .int .u64 0, .int .u64 0, .int .u64 0, .int .u64 0, .int .u64 0, .int .u64 0, .int .u64 0]) (w.heap.size + 1) 59 F) := fun o => Blk.farRow (hF.alloc o) (by omega)
            rcases ho with ho | ⟨ho1, ho2⟩
            all_goals
              go_wp2_with (first
                | (go_at_call 37; refine (HCL.out _).mono ?_; rintro e w2 ⟨rfl, rfl⟩)
                | (refine wpList_store_row rfl 59 _ _ rfl (w.heap.size + 1) #[.int .u64 0, .int .u64 0, .int .u64 0, .int .u64 0, .int .u64 0, .int .u64 0, .int .u64 0, .int .u64 0, .int .u64 0, .int .u64 0, .int .u64 0, .int .u64 0, .int .u64 0, .int .u64 0, .int .u64 0, .int .u64 0] rfl rfl 59 F (HFB.out _) infoRam HFs.out zero16.one ?_))
              exact ⟨⟨k + 1, by omega, by go_num, Lib.hid (two_clear hB hE hF)⟩, by simp [intOf]; omega⟩
          · have g2 : (what == 2) = false := by simpa using h2
            by_cases h0 : what = 0
            · subst h0
              rcases ho with ho | ⟨ho1, ho2⟩
              all_goals
                go_wp2_with (first
                  | (go_at_call 35; refine (HSV.out _).mono ?_; rintro e w2 ⟨rfl, rfl⟩)
                  | (go_at_call 23; refine (HBR.out _).mono ?_; rintro e w3 ⟨rfl, hb3⟩))
                exact ⟨⟨k + 1, by omega, by go_num, Lib.hid ((HT1.out _).grow hb3)⟩, by simp [intOf]; omega⟩
            · by_cases h1 : what = 1
              · subst h1
                rcases ho with ho | ⟨ho1, ho2⟩
                all_goals
                  go_wp2_with (first
                    | (go_at_call 36; refine (HSW.out _ _).mono ?_; rintro e w2 ⟨rfl, rfl⟩)
                    | (go_at_call 23; refine (HBR.out _).mono ?_; rintro e w3 ⟨rfl, hb3⟩))
                  all_goals exact ⟨⟨k + 1, by omega, by go_num, Lib.hid ((HT1.out _).grow hb3)⟩, by simp [intOf]; omega⟩
              · have g0 : (what == 0) = false := by simpa using h0
                have g1 : (what == 1) = false := by simpa using h1
                rcases ho with ho | ⟨ho1, ho2⟩
                · have d0 : decide (0 ≤ addr) = false := by simpa using ho
                  go_wp2_with fail
                  all_goals first
                    | exact ⟨⟨k + 1, by omega, by go_num, Lib.hid (HT1.out _)⟩, by simp [intOf]; omega⟩
                    | (exfalso; omega)
                · have d0 : decide (0 ≤ addr) = true := by simpa using ho1
                  have d1 : decide (addr < 16) = false := by simpa using ho2
                  go_wp2_with fail
                  all_goals first
                    | exact ⟨⟨k + 1, by omega, by go_num, Lib.hid (HT1.out _)⟩, by simp [intOf]; omega⟩
                    | (exfalso; omega)
      · obtain rfl : k = n := by omega
        by_cases ha : 0 ≤ ad ∧ ad < 16
        · obtain ⟨a0, a16⟩ := ha
          obtain ⟨i, rfl⟩ := Int.eq_ofNat_of_zero_le a0
          have hi : i < 16 := by omega
          have hld := ramLoad_in w.heap.size i E z wr hE UE hi
          have HLD := Lib.hid hld
          clear hld
          have cF : wr.cell? ⟨w.heap.size + 1, i, none⟩ = some (.int .u64 (z i)) := by rw [hF.cell, UF.get i hi]
          have d1 : decide ((16 : Int) ≤ i) = false := by simp; omega
          go_wp2_with (go_at_call 38; refine HLD.out.mono ?_; rintro e w2 ⟨rfl, rfl⟩)
          go_ret
          exact ⟨ret_bool (by simp), hB⟩
        · have HBR := Lib.hid (bare2 wr (HG.out.below hB))
          have ho : ad < 0 ∨ (0 ≤ ad ∧ 16 ≤ ad) := by omega
          have hld := ramLoad_out w.heap.size ad wr ho
          have HLD := Lib.hid hld
          clear hld
          rcases ho with ho | ⟨ho1, ho2⟩
          · go_wp2_with (first
              | (go_at_call 38; refine HLD.out.mono ?_; rintro e w2 ⟨rfl, rfl⟩)
              | (go_at_call 23; refine HBR.out.mono ?_; rintro e w3 ⟨rfl, hb3⟩))
            go_ret
            exact ⟨ret_bool (by simp), hB.trans (hb3.mono hB.size)⟩
          · have d1 : decide ((16 : Int) ≤ ad) = true := by simpa using ho2
            have d0 : decide (ad < 0) = false := by simpa using ho1
            go_wp2_with (first
              | (go_at_call 38; refine HLD.out.mono ?_; rintro e w2 ⟨rfl, rfl⟩)
              | (go_at_call 23; refine HBR.out.mono ?_; rintro e w3 ⟨rfl, hb3⟩))
            go_ret
            exact ⟨ret_bool (by simp), hB.trans (hb3.mono hB.size)⟩
  · have h60' : ¬ (n : Int) ≤ 60 := by omega
    go_wp2
    go_ret
    exact ⟨rfl, Below.refl _ _⟩

theorem own : ownKnob Tryd.prog.godebug = none := by kernel_rfl

set_option maxRecDepth 100000 in
theorem lifted (os : Os) (started : os.Started) (H : Type) (enc : TypeId × Value → H) :
    ReturnsInHanded {} Tryd.checked os 8 .any (fun w args => (Rows.ramKeepsSpec.pre enc Tryd.prog Tryd.f8 [] false w args ∧ laidMetH Tryd.prog laidE w) ∧ sizedMet enc Tryd.prog Tryd.f8 (OpenSpec.ofChange Rows.ramKeepsSpec) false w args) (Rows.ramKeepsSpec.post enc Tryd.prog Tryd.f8 false true false false) := by
  refine law_lifted_and (C := Tryd.checked) (X := fun w _ => laidMetH Tryd.prog laidE w) (fun _ _ _ hh h => h.of_heap hh) own started (by kernel_rfl) Tryd.func8
    (ChangeSpec.witness_at (enc := enc) (C := Tryd.checked) (os := os) (X := fun w _ => laidMetH Tryd.prog laidE w) false (laidWorld os) #[.slice none 0 0, .int .i64 0] 8 rfl (by kernel_rfl) (by kernel_rfl) (by kernel_rfl) (by kernel_rfl) (by kernel_rfl) (laidWorld_met os _))
    (by kernel_rfl) (by kernel_rfl) rfl rfl Tryd.underlying4 ?_
  intro W base args ds ps hval0 hA0 hsz0 hL
  have hg := errT_of_laid hL
  have hval : ∀ (j : Nat) t v, Tryd.f8.params[j]? = some t → args[j]? = some v → Value.okWide Tryd.prog W .any base t v := hval0
  have hA : DataW.TrodAll enc Tryd.prog W 0 (fun _ => true) true Tryd.f8.params.toList args.toList ds ps := hA0
  rw [Tryd.params8] at hA hval
  obtain ⟨v0, v1, d0, d1, p0, p1, rfl, rfl, rfl, h0, h1⟩ := trodAll_two hA
  obtain ⟨lA, ln, lc, l, rfl, lh⟩ := open_slF (K := [.i64, .i64, .u64, .i64, .i64]) 4 Tryd.underlying57 (by kernel_rfl) (by kernel_rfl) (by decide) (hval 0 57 v0 rfl rfl) h0
  obtain ⟨a, rfl, rfl, rfl, wa⟩ := open_int Tryd.underlying3 (hval 1 3 v1 rfl rfl) h1
  exact ⟨rfl, walk lA ln lc l a W lh hg⟩

theorem kinPlace : (Rows.ramKeepsRow.inPlace == Tryd.pinned.checked.prog.inPlace 8) = true := by kernel_rfl
theorem kunfollowed : (Rows.ramKeepsRow.unfollowed == Tryd.pinned.checked.prog.unfollowed 8) = true := by kernel_rfl
theorem krecurses : (Rows.ramKeepsRow.recurses == Tryd.pinned.checked.prog.recurses 8) = true := by kernel_rfl
theorem knamed : (Rows.ramKeepsRow.named == Tryd.pinned.checked.prog.varsNamed 8) = true := by kernel_rfl
theorem closed : joinedFacts Tryd.pinned.checked.prog 8 Tryd.f8 Rows.ramKeepsSpec Rows.ramKeepsRow = true := by
  unfold joinedFacts
  simp only [Bool.and_eq_true]
  repeat' apply And.intro
  all_goals first | (with_reducible exact kinPlace) | (with_reducible exact kunfollowed) | (with_reducible exact krecurses) | (with_reducible exact knamed) | (with_reducible exact laidOutP) | (with_reducible exact mapsRowedP) | kernel_rfl
theorem goes : false = Rows.ramKeepsRow.goesBy Tryd.pinned.checked.prog := by kernel_rfl
theorem wfText : Rows.ramKeepsRow.wfByText (OpenSpec.ofChange Rows.ramKeepsSpec) = true := by kernel_rfl

theorem row : Rows.RamKeepsSaid :=
  OpenClaim.holds_of_wide 8 Tryd.f8 rfl rfl rfl rfl rfl rfl rfl ⟨rfl, rfl, rfl, rfl, rfl⟩ rfl rfl rfl rfl rfl (by kernel_rfl) Tryd.func8 closed
    (of_decide_eq_true (by kernel_rfl)) (by unfold Func.isWrapper; first | (rw [if_pos (by decide +kernel)]; kernel_rfl) | (rw [if_neg (by decide +kernel)]; exact ⟨rfl, rfl⟩))
    (fun os started H enc _ => lifted os started H enc)
theorem holds : Rows.RamKeepsCardSaid :=
  Claim7.holds_tied_plain_at .later [] [.handle] true Rows.ramKeepsCard.stood.harness true
    row (fun _ h => by cases h) wfText (fun _ h => by cases h) ramKeeps_row_tie rfl ⟨rfl, rfl⟩ (by kernel_rfl) rfl
    (fun f fn hf hfn => by
      obtain rfl : f = 8 := Option.some.inj ((show Tryd.prog.funcNamed Rows.ramKeepsRow.func = some 8 by kernel_rfl).symm.trans hf) |>.symm
      obtain rfl : fn = Tryd.f8 := (Option.some.inj (Tryd.func8.symm.trans hfn)).symm
      refine ⟨looksP, fun j t ht => ?_⟩
      have hall : (Tryd.f8.params.toList.all fun t => !(Tryd.prog.wantsStandIn t)) = true := by kernel_rfl
      have hm : t ∈ Tryd.f8.params.toList := List.mem_of_getElem? (by simpa using ht)
      have h := List.all_eq_true.1 hall t hm
      show Tryd.prog.wantsStandIn t = false
      simpa using h)
    goes
#print axioms holds
end Go.Proofs.YtiajglefmlfkfaaDoor.lawRamKeeps
