/-
  What judge.Fits returns: for up to sixty events and forty deeds.
-/
import Derived.Test.YtdogjdgfidbfhaaDoorJuF
namespace Go.Proofs.YtdogjdgfidbfhaaDoor
set_option linter.unusedSimpArgs false
set_option linter.unusedVariables false
set_option linter.unusedSectionVars false
open Go.RowKit Go.Maps
set_option linter.unusedSimpArgs false
set_option linter.unusedVariables false
attribute [local go_sem ↓] Go.wp_at_zero Go.wp_at_succ

abbrev KD6 : List IntKind := [.i64, .i64, .i64, .i64, .i64, .i64]
def FitsOut (e p : Int) (w : World) (en : Ending) (w' : World) : Prop := Below w.heap.size w w' ∧ ∃ err, en = .returned err ∧ PErr err e p w'
/-- Whose each deed is, in a block. -/
def JO (w : World) (g nl : Nat) (O : Nat → Nat) : Prop := ∃ D, Blk w g 3 D ∧ D.size = nl ∧ ∀ k, k < nl → D[k]? = some (.int .i64 (O k : Int))
theorem JO.kept {w w' : World} {g nl : Nat} {O : Nat → Nat} {S : Nat → Prop} (h : JO w g nl O) (hk : Keeps S w w') (hS : ¬ S g) : JO w' g nl O := by
  obtain ⟨D, h1, h2⟩ := h
  exact ⟨D, (hk.block g h1.lt hS).trans h1, h2⟩
theorem JO.lt {w : World} {g nl : Nat} {O : Nat → Nat} (h : JO w g nl O) : g < w.heap.size := by
  obtain ⟨D, h1, _⟩ := h
  exact h1.lt
theorem JO.cell {w : World} {g nl : Nat} {O : Nat → Nat} (h : JO w g nl O) {k : Nat} (hk : k < nl) : w.cell? ⟨g, k, none⟩ = some (.int .i64 (O k : Int)) := by
  obtain ⟨D, h1, _, h2⟩ := h
  exact (h1.cell k).trans (h2 k hk)
theorem JO.frozen {w : World} {g nl : Nat} {O : Nat → Nat} (h : JO w g nl O) (k : Nat) : w.frozen? ⟨g, k, none⟩ = false := by
  obtain ⟨D, h1, _⟩ := h
  exact h1.frozen k
theorem JO.set {w : World} {g nl : Nat} {O : Nat → Nat} (h : JO w g nl O) (k v : Nat) : JO (w.setCell ⟨g, k, none⟩ (.int .i64 (v : Int))) g nl (updO O k v) := by
  obtain ⟨D, h1, h2, h3⟩ := h
  refine ⟨_, h1.set_ k _, by simp [h2], fun j hj => ?_⟩
  unfold updO
  rw [Array.getElem?_setIfInBounds]
  by_cases e : k = j
  · subst e
    rw [if_pos rfl, if_pos (by omega), if_pos rfl]
  · rw [if_neg e, if_neg (fun x => e x.symm)]
    exact h3 j hj
theorem JO.sln {w : World} {g nl : Nat} {O : Nat → Nat} (h : JO w g nl O) (hn : nl ≤ 40) : SlN w (some ⟨g, 0, none⟩) nl nl O :=
  ⟨Nat.le_refl _, by omega, fun _ => ⟨g, 0, rfl, h.lt, fun i hi => by rw [Nat.zero_add]; exact h.cell hi⟩⟩
theorem infoI : (Tryd.prog.info? 3).map (fun i => (i.zero, i.size, i.bytes)) = some (some (.int .i64 0), 1, 8) := by kernel_rfl
theorem info_I : ∃ i0, Tryd.prog.info? 3 = some i0 ∧ i0.zero = some (.int .i64 0) ∧ i0.size = 1 ∧ i0.bytes = 8 := by
  have h := infoI
  cases hq : Tryd.prog.info? 3 with
  | none => simp [hq] at h
  | some i => simp [hq] at h; exact ⟨i, rfl, h.1, h.2.1, h.2.2⟩
theorem mkInts (n : Nat) (hn : n ≤ 1000) (w : World) : ∃ D : Array Value, (Instr.makeSlice 38 (.int .i64 (n : Int)) (.int .i64 (n : Int))).run Tryd.prog w = .ok (.slice (some ⟨w.heap.size, 0, none⟩) n n) (w.alloc (.cells D 3)) ∧ D.size = n ∧ ∀ k, k < n → D[k]? = some (.int .i64 0) := by
  obtain ⟨i0, h1, h2, h3, h4⟩ := info_I
  have hr := run_makeSlice (P := Tryd.prog) w 38 3 i0 (.int .i64 0) Tryd.underlying38 h1 h2 .i64 .i64 (n : Int) (n : Int) (by omega) (Int.le_refl _) (by rw [h3]; simp; omega) (by rw [h4]; omega) (by omega)
  simp only [Int.toNat_natCast] at hr
  refine ⟨_, hr, by rw [size_madeCells, h3]; omega, fun k hk => ?_⟩
  rw [h3, madeCells]
  simp [Value.cells, hk, Nat.mod_one]
section
variable {f g : Nat → Nat → Int} {nl m IA q : Nat} {C : CL} {e : Int}
theorem fitsStop {y x : Int} (hA : UptoP (fun i => errA f g nl C (OA f C i) i = 0) m IA) (hE : e = if IA = m then y else errA f g nl C (OA f C IA) IA) (hq : q ≤ IA) (hqm : q < m) (hx : x ≠ 0) (hv : errA f g nl C (OA f C q) q = x) : e = x := by
  rcases hA.at hq hqm with h | h
  · exact absurd (hv.symm.trans h.1) hx
  · obtain ⟨_, rfl⟩ := h
    rw [hE, if_neg (by omega), hv]
theorem fitsGo (hA : UptoP (fun i => errA f g nl C (OA f C i) i = 0) m IA) (hq : q ≤ IA) (hqm : q < m) (hv : errA f g nl C (OA f C q) q = 0) : q < IA := by
  rcases hA.at hq hqm with h | h
  · exact h.2
  · exact absurd hv h.1
end
set_option maxRecDepth 100000 in
set_option maxHeartbeats 40000000 in
theorem fits_any (f g : Nat → Nat → Int) (A : Option Addr) (n c : Nat) (A2 : Option Addr) (nl c2 K IA KB : Nat) (b : Bool) (e p : Int) (w : World) (h : SlF K9 w A n c f) (h2 : SlF KD6 w A2 nl c2 g) (hn : n ≤ 60) (hl : nl ≤ 40) (hj : JRes f g n nl K IA KB b e p) :
    Calls Tryd.prog 5 #[.slice A n c, .slice A2 nl c2] w (FitsOut e p w) := by
  have H2 := Lib.hid h2
  have HJ := Lib.hid hj
  have HCA := Lib.hid (calls_any f A n c K w h hn hj.hK)
  have hwf := h.wf
  have HWF : Hid (∀ i j, i < n → j < 9 → I64 (f i j)) := Lib.hid fun i j hi hj => i64_of_wf (by
    have := hwf i j hi (by simpa using hj)
    rcases (by omega : j = 0 ∨ j = 1 ∨ j = 2 ∨ j = 3 ∨ j = 4 ∨ j = 5 ∨ j = 6 ∨ j = 7 ∨ j = 8) with e | e | e | e | e | e | e | e | e <;> rw [e] at this ⊢ <;> exact this)
  clear h h2 hj hwf
  go_enter Tryd.func5, Tryd.ntmps5
  go_wp2_with fail
  refine HCA.out.mono ?_
  rintro e1 w1 ⟨hb1, hcase⟩
  clear HCA
  by_cases hKn : K = n
  · rw [if_pos hKn] at hcase
    obtain ⟨A1, c1, rfl, hown⟩ := hcase
    obtain ⟨D, hrun, hDs, hD0⟩ := mkInts nl (by omega) w1
    have HCI := Lib.hid (cinv_cs n (fun j hj => HJ.out.hK.2.1 j (by omega)))
    have HRA := Lib.hid (HJ.out.hA hKn)
    have HRB := Lib.hid (HJ.out.hB hKn)
    have HRC := Lib.hid (HJ.out.hC hKn)
    have hres := HJ.out.res
    rw [if_pos hKn, if_pos hKn] at hres
    have HP := Lib.hid hres.2
    have HE0 := Lib.hid hres.1
    clear HJ hres hKn
    generalize Cs f n = C at *
    have HM : Hid (C.length = C.length) := Lib.hid rfl
    generalize hm : C.length = m at HRA HRB HRC HE0 hown ⊢
    have hmn : m ≤ n := by rw [← hm]; exact HCI.out.len
    replace HM := Lib.hid hm
    have HOW := Lib.hid hown
    have hsl := hown.slr
    have hcp := hsl.cap
    have hcp63 := hsl.cap63
    have HSL := Lib.hid hsl
    have hb1z := hb1.size
    have HB1 := Lib.hid hb1
    have HJ0 : Hid (JO (w1.alloc (.cells D 3)) w1.heap.size nl (fun _ => 0)) := Lib.hid ⟨D, Blk.new _ _ _, hDs, hD0⟩
    clear hm hown hsl hD0 hDs hb1
    go_wp2
    clear hrun
    have hgo : w1.heap.size = w1.heap.size := rfl
    generalize hW2 : w1.alloc (.cells D 3) = W2 at *
    have hz2 : w1.heap.size < W2.heap.size := by rw [← hW2]; simp
    have HB2 : Hid (Below w.heap.size w W2) := Lib.hid (by rw [← hW2]; exact HB1.out.alloc hb1z _)
    have HK2 : Hid (Below w1.heap.size w1 W2) := Lib.hid (by rw [← hW2]; exact (Below.refl _ _).alloc (Nat.le_refl _) _)
    clear hW2 hgo
    have HS2 := Lib.hid (HSL.out.below HK2.out)
    have hA1 : ∀ a, A1 = some a → a.block ≠ w1.heap.size := fun a ha e => by have := (HOW.out.lt a ha).2; omega
    generalize w1.heap.size = gO at *
    have HA1 := Lib.hid hA1
    clear hA1 HSL HOW HB1 HK2
    go_loopw [31] (fun i wr => ∃ q : Nat, q ≤ IA ∧ i = .int .i64 q ∧ Below w.heap.size w wr ∧ Hid (Keeps (OneB gO) W2 wr) ∧ Hid (JO wr gO nl (OA f C q))) (fun i _ => m - (intOf i).toNat)
    case atStart => exact ⟨0, by omega, rfl, HB2.out, Lib.hid (Keeps.refl _ _), HJ0⟩
    case round =>
      obtain ⟨q, hq, rfl, hB, HK, HO⟩ := hrel
      have hbz := hB.size
      have hgl := HO.out.lt
      have hkz := HK.out.size
      by_cases hqm : q < m
      · obtain ⟨b0, off, rfl, hblt, hcell⟩ := HS2.out.at_ (by omega)
        have hbg : ¬ OneB gO b0 := fun e => HA1.out ⟨b0, off, none⟩ rfl e
        have hblt2 : b0 < wr.heap.size := Nat.lt_of_lt_of_le hblt hkz
        have q1 : (q : Int) < m := by omega
        obtain ⟨⟨a, bb⟩, hab⟩ : ∃ x, C[q]? = some x := ⟨C[q]'(by rw [HM.out]; exact hqm), List.getElem?_eq_getElem _⟩
        have hrow := rowsJ_get (f := f) hab
        obtain ⟨han, hbn⟩ := HCI.out.bd q a bb hab
        have HAB := Lib.hid hab
        cases bb with
        | zero =>
          have hgo := fitsGo HRA.out hq hqm (by unfold errA; rw [hab])
          have HNX : Hid (OA f C (q + 1) = OA f C q) := Lib.hid (by show nxA f C (OA f C q) q = _; unfold nxA; rw [hab])
          have c0 : wr.cell? ⟨b0, off + q * 9, none⟩ = some (.int .i64 (f a 1)) := (HK.out.cell (p := ⟨b0, off + q * 9, none⟩) hblt hbg).trans (by simpa using hcell q _ hrow 0 _ rfl)
          have c1 : wr.cell? ⟨b0, off + q * 9 + 1, none⟩ = some (.int .i64 (f a 2)) := (HK.out.cell (p := ⟨b0, off + q * 9 + 1, none⟩) hblt hbg).trans (by simpa using hcell q _ hrow 1 _ rfl)
          have c2 : wr.cell? ⟨b0, off + q * 9 + 2, none⟩ = some (.int .i64 (f a 3)) := (HK.out.cell (p := ⟨b0, off + q * 9 + 2, none⟩) hblt hbg).trans (by simpa using hcell q _ hrow 2 _ rfl)
          have c3 : wr.cell? ⟨b0, off + q * 9 + 3, none⟩ = some (.int .i64 (f a 4)) := (HK.out.cell (p := ⟨b0, off + q * 9 + 3, none⟩) hblt hbg).trans (by simpa using hcell q _ hrow 3 _ rfl)
          have c4 : wr.cell? ⟨b0, off + q * 9 + 4, none⟩ = some (.int .i64 ((a : Int) + 1)) := (HK.out.cell (p := ⟨b0, off + q * 9 + 4, none⟩) hblt hbg).trans (by simpa using hcell q _ hrow 4 _ rfl)
          have c5 : wr.cell? ⟨b0, off + q * 9 + 5, none⟩ = some (.int .i64 0) := (HK.out.cell (p := ⟨b0, off + q * 9 + 5, none⟩) hblt hbg).trans (by simpa using hcell q _ hrow 5 _ rfl)
          have c6 : wr.cell? ⟨b0, off + q * 9 + 6, none⟩ = some (.int .i64 0) := (HK.out.cell (p := ⟨b0, off + q * 9 + 6, none⟩) hblt hbg).trans (by simpa using hcell q _ hrow 6 _ rfl)
          have c7 : wr.cell? ⟨b0, off + q * 9 + 7, none⟩ = some (.int .i64 0) := (HK.out.cell (p := ⟨b0, off + q * 9 + 7, none⟩) hblt hbg).trans (by simpa using hcell q _ hrow 7 _ rfl)
          have c8 : wr.cell? ⟨b0, off + q * 9 + 8, none⟩ = some (.int .i64 0) := (HK.out.cell (p := ⟨b0, off + q * 9 + 8, none⟩) hblt hbg).trans (by simpa using hcell q _ hrow 8 _ rfl)
          clear hcell hrow hab
          go_wp2
          go_roundw
          case rel => exact ⟨q + 1, hgo, by go_num, by go_grown, Lib.hid (HK.out.alloc _), Lib.hid (by rw [HNX.out]; exact HO.out.kept (Keeps.of_same ((Below.refl _ _).alloc (Nat.le_refl _) _)) (fun h : nowhere _ => h))⟩
          case measure => simp [intOf]; omega
        | succ bb =>
          have HEA : Hid (errA f g nl C (OA f C q) q = if f bb 7 < 1 ∨ (nl : Int) < f bb 7 then 7 else if ¬ dEq f g (f bb 7 - 1).toNat a bb then 13 else if 0 < OA f C q (f bb 7 - 1).toNat then 9 else 0) := Lib.hid (by unfold errA; rw [hab])
          have HNX : Hid (OA f C (q + 1) = updO (OA f C q) (f bb 7 - 1).toNat (q + 1)) := Lib.hid (by show nxA f C (OA f C q) q = _; unfold nxA; rw [hab])
          have c0 : wr.cell? ⟨b0, off + q * 9, none⟩ = some (.int .i64 (f a 1)) := (HK.out.cell (p := ⟨b0, off + q * 9, none⟩) hblt hbg).trans (by simpa using hcell q _ hrow 0 _ rfl)
          have c1 : wr.cell? ⟨b0, off + q * 9 + 1, none⟩ = some (.int .i64 (f a 2)) := (HK.out.cell (p := ⟨b0, off + q * 9 + 1, none⟩) hblt hbg).trans (by simpa using hcell q _ hrow 1 _ rfl)
          have c2 : wr.cell? ⟨b0, off + q * 9 + 2, none⟩ = some (.int .i64 (f a 3)) := (HK.out.cell (p := ⟨b0, off + q * 9 + 2, none⟩) hblt hbg).trans (by simpa using hcell q _ hrow 2 _ rfl)
          have c3 : wr.cell? ⟨b0, off + q * 9 + 3, none⟩ = some (.int .i64 (f a 4)) := (HK.out.cell (p := ⟨b0, off + q * 9 + 3, none⟩) hblt hbg).trans (by simpa using hcell q _ hrow 3 _ rfl)
          have c4 : wr.cell? ⟨b0, off + q * 9 + 4, none⟩ = some (.int .i64 ((a : Int) + 1)) := (HK.out.cell (p := ⟨b0, off + q * 9 + 4, none⟩) hblt hbg).trans (by simpa using hcell q _ hrow 4 _ rfl)
          have c5 : wr.cell? ⟨b0, off + q * 9 + 5, none⟩ = some (.int .i64 ((bb : Int) + 1)) := (HK.out.cell (p := ⟨b0, off + q * 9 + 5, none⟩) hblt hbg).trans (by simpa using hcell q _ hrow 5 _ rfl)
          have c6 : wr.cell? ⟨b0, off + q * 9 + 6, none⟩ = some (.int .i64 (f bb 7)) := (HK.out.cell (p := ⟨b0, off + q * 9 + 6, none⟩) hblt hbg).trans (by simpa using hcell q _ hrow 6 _ rfl)
          have c7 : wr.cell? ⟨b0, off + q * 9 + 7, none⟩ = some (.int .i64 (f bb 5)) := (HK.out.cell (p := ⟨b0, off + q * 9 + 7, none⟩) hblt hbg).trans (by simpa using hcell q _ hrow 7 _ rfl)
          have c8 : wr.cell? ⟨b0, off + q * 9 + 8, none⟩ = some (.int .i64 (f bb 6)) := (HK.out.cell (p := ⟨b0, off + q * 9 + 8, none⟩) hblt hbg).trans (by simpa using hcell q _ hrow 8 _ rfl)
          clear hcell hrow hab
          have hiw := HWF.out bb 7 (by omega) (by decide)
          by_cases hw1 : f bb 7 < 1
          · have HE := Lib.hid (fitsStop HRA.out HE0.out hq hqm (x := 7) (by decide) (by rw [HEA.out, if_pos (.inl hw1)]))
            have dz : decide (f bb 7 < 1) = true := decide_eq_true hw1
            generalize f bb 7 = wn at *
            go_wp2
            go_ret
            exact ⟨by go_grown, _, rfl, .inl ⟨by rw [HE.out]; rfl, HP.out⟩⟩
          by_cases hw2 : (nl : Int) < f bb 7
          · have HE := Lib.hid (fitsStop HRA.out HE0.out hq hqm (x := 7) (by decide) (by rw [HEA.out, if_pos (.inr hw2)]))
            have dz : decide (f bb 7 < 1) = false := decide_eq_false hw1
            have dy : decide ((nl : Int) < f bb 7) = true := decide_eq_true hw2
            generalize f bb 7 = wn at *
            go_wp2
            go_ret
            exact ⟨by go_grown, _, rfl, .inl ⟨by rw [HE.out]; rfl, HP.out⟩⟩
          obtain ⟨k, hk⟩ : ∃ k : Nat, f bb 7 = (k : Int) + 1 := ⟨(f bb 7 - 1).toNat, by omega⟩
          have hkt : (f bb 7 - 1).toNat = k := by omega
          have hkl : k < nl := by omega
          rw [if_neg (by omega), hkt] at HEA
          rw [hkt] at HNX
          rw [hk] at c6
          have dz : decide ((k : Int) + 1 < 1) = false := by simp; omega
          have dy : decide ((nl : Int) < (k : Int) + 1) = false := by simp; omega
          clear hw1 hw2 hkt hk hiw
          obtain ⟨b2, off2, rfl, hb2lt, hcell2⟩ := H2.out.at_ (by omega)
          have hcap2 := H2.out.cap
          have hc632 := H2.out.cap63
          have hkl' : (k : Int) < nl := by omega
          have hb2w : b2 < wr.heap.size := by omega
          have y0 : wr.cell? ⟨b2, off2 + k * 6, none⟩ = some (.int .i64 (g k 0)) := (hB.cell (p := ⟨b2, off2 + k * 6, none⟩) hb2lt).trans (by simpa using hcell2 k 0 hkl (by decide))
          have y1 : wr.cell? ⟨b2, off2 + k * 6 + 1, none⟩ = some (.int .i64 (g k 1)) := (hB.cell (p := ⟨b2, off2 + k * 6 + 1, none⟩) hb2lt).trans (by simpa using hcell2 k 1 hkl (by decide))
          have y2 : wr.cell? ⟨b2, off2 + k * 6 + 2, none⟩ = some (.int .i64 (g k 2)) := (hB.cell (p := ⟨b2, off2 + k * 6 + 2, none⟩) hb2lt).trans (by simpa using hcell2 k 2 hkl (by decide))
          have y3 : wr.cell? ⟨b2, off2 + k * 6 + 3, none⟩ = some (.int .i64 (g k 3)) := (hB.cell (p := ⟨b2, off2 + k * 6 + 3, none⟩) hb2lt).trans (by simpa using hcell2 k 3 hkl (by decide))
          have y4 : wr.cell? ⟨b2, off2 + k * 6 + 4, none⟩ = some (.int .i64 (g k 4)) := (hB.cell (p := ⟨b2, off2 + k * 6 + 4, none⟩) hb2lt).trans (by simpa using hcell2 k 4 hkl (by decide))
          have y5 : wr.cell? ⟨b2, off2 + k * 6 + 5, none⟩ = some (.int .i64 (g k 5)) := (hB.cell (p := ⟨b2, off2 + k * 6 + 5, none⟩) hb2lt).trans (by simpa using hcell2 k 5 hkl (by decide))
          clear hcell2
          by_cases hde : dEq f g k a bb
          · obtain ⟨z0, z1, z2, z3, z4, z5⟩ := hde
            have heq := eqOp (g k 1) (g k 2) (g k 3) (f a 2) (f a 3) (f a 4)
            have heq2 := eqAns (g k 4) (g k 5) (f bb 5) (f bb 6)
            have hd1 : decide (g k 1 = f a 2 ∧ g k 2 = f a 3 ∧ g k 3 = f a 4) = true := decide_eq_true ⟨z1, z2, z3⟩
            have hd2 : decide (g k 4 = f bb 5 ∧ g k 5 = f bb 6) = true := decide_eq_true ⟨z4, z5⟩
            have d0 : decide (g k 0 = f a 1) = true := decide_eq_true z0
            have d0' : (g k 0 == f a 1) = true := by simp [z0]
            have d0n : (g k 0 != f a 1) = false := by simp [z0]
            simp only [hd1] at heq
            simp only [hd2] at heq2
            rw [if_neg (fun h => h ⟨z0, z1, z2, z3, z4, z5⟩)] at HEA
            have cO := HO.out.cell hkl
            have fO := HO.out.frozen k
            clear hd1 hd2 z0 z1 z2 z3 z4 z5
            by_cases hO : 0 < OA f C q k
            · have HE := Lib.hid (fitsStop HRA.out HE0.out hq hqm (x := 9) (by decide) (by rw [HEA.out, if_pos hO]))
              clear HEA HNX
              go_wp2
              go_ret
              exact ⟨by go_grown, _, rfl, .inl ⟨by rw [HE.out]; rfl, HP.out⟩⟩
            · have hgo := fitsGo HRA.out hq hqm (by rw [HEA.out, if_neg hO])
              have hO0 : OA f C q k = 0 := by omega
              rw [hO0] at cO
              clear HEA hO hO0
              go_wp2
              go_roundw
              case rel => exact ⟨q + 1, hgo, by go_num, by go_grown, Lib.hid (((Keeps.setCell (p := ⟨gO, k, none⟩) HK.out (.inl (show OneB gO gO from rfl)) _).alloc _).alloc _), Lib.hid (by
                rw [HNX.out]
                exact (show JO (wr.setCell ⟨gO, k, none⟩ (.int .i64 ((q : Int) + 1))) gO nl (updO (OA f C q) k (q + 1)) from by simpa using HO.out.set k (q + 1)).kept (((Keeps.refl nowhere _).alloc _).alloc _) (fun h => h))⟩
              case measure => simp [intOf]; omega
          · have HE := Lib.hid (fitsStop HRA.out HE0.out hq hqm (x := 13) (by decide) (by rw [HEA.out, if_pos hde]))
            clear HEA HNX
            by_cases z0 : g k 0 = f a 1
            · have d0 : decide (g k 0 = f a 1) = true := decide_eq_true z0
              have d0' : (g k 0 == f a 1) = true := by simp [z0]
              have d0n : (g k 0 != f a 1) = false := by simp [z0]
              have heq := eqOp (g k 1) (g k 2) (g k 3) (f a 2) (f a 3) (f a 4)
              have heq2 := eqAns (g k 4) (g k 5) (f bb 5) (f bb 6)
              by_cases z1 : g k 1 = f a 2 ∧ g k 2 = f a 3 ∧ g k 3 = f a 4
              · have hd1 : decide (g k 1 = f a 2 ∧ g k 2 = f a 3 ∧ g k 3 = f a 4) = true := decide_eq_true z1
                have hd2 : decide (g k 4 = f bb 5 ∧ g k 5 = f bb 6) = false := decide_eq_false fun h => hde ⟨z0, z1.1, z1.2.1, z1.2.2, h.1, h.2⟩
                simp only [hd1] at heq
                simp only [hd2] at heq2
                clear hd1 hd2 z0 z1 hde
                go_wp2
                go_ret
                exact ⟨by go_grown, _, rfl, .inl ⟨by rw [HE.out]; rfl, HP.out⟩⟩
              · have hd1 : decide (g k 1 = f a 2 ∧ g k 2 = f a 3 ∧ g k 3 = f a 4) = false := decide_eq_false z1
                simp only [hd1] at heq
                clear hd1 heq2 z0 z1 hde
                go_wp2
                go_ret
                exact ⟨by go_grown, _, rfl, .inl ⟨by rw [HE.out]; rfl, HP.out⟩⟩
            · have d0 : decide (g k 0 = f a 1) = false := decide_eq_false z0
              have d0' : (g k 0 == f a 1) = false := by simp [z0]
              have d0n : (g k 0 != f a 1) = true := by simp [z0]
              clear z0 hde
              go_wp2
              go_ret
              exact ⟨by go_grown, _, rfl, .inl ⟨by rw [HE.out]; rfl, HP.out⟩⟩
      · obtain rfl : m = q := by have := HRA.out.1; omega
        obtain rfl : m = IA := by have := HRA.out.1; omega
        have HRB2 := Lib.hid (HRB.out rfl)
        have HRC2 := Lib.hid (HRC.out rfl)
        rw [if_pos rfl] at HE0
        have HOB : Hid (∀ k, OBd m nl (OB f g C (OA f C m) k)) := Lib.hid (ob_bd HM.out (oa_bd (g := g) HM.out m))
        generalize OA f C m = O0 at *
        clear HRA HRB HRC hq hqm hkz hgl HJ0 HB2
        go_wp2
        go_loopw [94] (fun i wr => ∃ q : Nat, q ≤ KB ∧ i = .int .i64 q ∧ Below w.heap.size w wr ∧ Hid (Keeps (OneB gO) W2 wr) ∧ Hid (JO wr gO nl (OB f g C O0 q))) (fun i _ => nl - (intOf i).toNat)
        case atStart => exact ⟨0, by omega, rfl, hB, HK, HO⟩
        case round =>
          clear hB HK HO hbz
          obtain ⟨q, hq, rfl, hB, HK, HO⟩ := hrel
          have hbz := hB.size
          have hgl := HO.out.lt
          have hkz := HK.out.size
          by_cases hqm : q < nl
          · obtain ⟨b2, off2, rfl, hb2lt, hcell2⟩ := H2.out.at_ (by omega)
            have hcap2 := H2.out.cap
            have hc632 := H2.out.cap63
            have hql' : (q : Int) < nl := by omega
            have hb2w : b2 < wr.heap.size := by omega
            have y0 : wr.cell? ⟨b2, off2 + q * 6, none⟩ = some (.int .i64 (g q 0)) := (hB.cell (p := ⟨b2, off2 + q * 6, none⟩) hb2lt).trans (by simpa using hcell2 q 0 hqm (by decide))
            have y1 : wr.cell? ⟨b2, off2 + q * 6 + 1, none⟩ = some (.int .i64 (g q 1)) := (hB.cell (p := ⟨b2, off2 + q * 6 + 1, none⟩) hb2lt).trans (by simpa using hcell2 q 1 hqm (by decide))
            have y2 : wr.cell? ⟨b2, off2 + q * 6 + 2, none⟩ = some (.int .i64 (g q 2)) := (hB.cell (p := ⟨b2, off2 + q * 6 + 2, none⟩) hb2lt).trans (by simpa using hcell2 q 2 hqm (by decide))
            have y3 : wr.cell? ⟨b2, off2 + q * 6 + 3, none⟩ = some (.int .i64 (g q 3)) := (hB.cell (p := ⟨b2, off2 + q * 6 + 3, none⟩) hb2lt).trans (by simpa using hcell2 q 3 hqm (by decide))
            have y4 : wr.cell? ⟨b2, off2 + q * 6 + 4, none⟩ = some (.int .i64 (g q 4)) := (hB.cell (p := ⟨b2, off2 + q * 6 + 4, none⟩) hb2lt).trans (by simpa using hcell2 q 4 hqm (by decide))
            have y5 : wr.cell? ⟨b2, off2 + q * 6 + 5, none⟩ = some (.int .i64 (g q 5)) := (hB.cell (p := ⟨b2, off2 + q * 6 + 5, none⟩) hb2lt).trans (by simpa using hcell2 q 5 hqm (by decide))
            clear hcell2
            have cO := HO.out.cell hqm
            have fO := HO.out.frozen q
            have hat := HRB2.out.at hq hqm
            by_cases hO : 0 < OB f g C O0 q q
            · have hgo : q < KB := by
                rcases hat with x | x
                · exact x.2
                · exact absurd (.inl hO) x.1
              have HNX : Hid (OB f g C O0 (q + 1) = OB f g C O0 q) := Lib.hid (by show nxB f g C (OB f g C O0 q) q = _; unfold nxB; rw [if_pos hO])
              clear hat
              go_wp2
              go_roundw
              case rel => exact ⟨q + 1, hgo, by go_num, by go_grown, Lib.hid (HK.out.alloc _), Lib.hid (by rw [HNX.out]; exact HO.out.kept ((Keeps.refl nowhere _).alloc _) (fun h => h))⟩
              case measure => simp [intOf]; omega
            · have hO0 : OB f g C O0 q q = 0 := by omega
              rw [hO0] at cO
              have HSW := Lib.hid ((HS2.out.kept HK.out (fun a ha e => HA1.out a ha e)).below ((Below.refl _ wr).alloc (Nat.le_refl _) (.cells #[.int .i64 (g q 0), .int .i64 (g q 1), .int .i64 (g q 2), .int .i64 (g q 3), .int .i64 (g q 4), .int .i64 (g q 5)] 46)))
              rw [← HM.out] at HSW
              have HIX := Lib.hid (indexFunc_any f g n C q wr.heap.size A1 c1 (wr.alloc (.cells #[.int .i64 (g q 0), .int .i64 (g q 1), .int .i64 (g q 2), .int .i64 (g q 3), .int .i64 (g q 4), .int .i64 (g q 5)] 46)) HSW.out HCI.out hn (Blk.new _ _ _))
              rw [HM.out] at HIX
              clear HSW
              cases hf : fndB f g C q with
              | none =>
                have HFR : Hid (fndR f g C q = -1) := Lib.hid (by unfold fndR; rw [hf])
                rw [HFR.out] at HIX
                have HE : Hid (e = 8) := Lib.hid (by
                  rcases hat with x | x
                  · rcases x.1 with x | ⟨i, hi, _⟩
                    · exact absurd x hO
                    · rw [hf] at hi; cases hi
                  · rw [HE0.out, if_neg (by omega)])
                clear hat hf HFR hO hO0
                go_wp2_with (go_at_call 9; refine (HIX.out).mono ?_; rintro e5 w5 ⟨rfl, hb5⟩; have HB5 := Lib.hid (((Below.refl _ wr).alloc (Nat.le_refl _) _).trans (hb5.mono (by simp))); have hz5 := HB5.out.size; have cO5 := (HB5.out.cell (p := ⟨gO, q, none⟩) hgl).trans cO; have fO5 := (HB5.out.frozen (p := ⟨gO, q, none⟩) hgl).trans fO; have HS5 := Lib.hid ((HO.out.kept (Keeps.of_same (S := nowhere) HB5.out) (fun h => h)).sln hl))
                go_ret
                exact ⟨hB.trans (HB5.out.mono hbz), _, rfl, .inl ⟨by rw [HE.out]; rfl, HP.out⟩⟩
              | some i =>
                have HFR : Hid (fndR f g C q = (i : Int)) := Lib.hid (by unfold fndR; rw [hf])
                rw [HFR.out] at HIX
                obtain ⟨him, _⟩ := fndB_lt hf
                rw [HM.out] at him
                by_cases hu : used (OB f g C O0 q) nl i
                · have HE : Hid (e = 8) := Lib.hid (by
                    rcases hat with x | x
                    · rcases x.1 with x | ⟨i', hi, hn'⟩
                      · exact absurd x hO
                      · rw [hf] at hi; cases hi; exact absurd hu hn'
                    · rw [HE0.out, if_neg (by omega)])
                  have HCO : Hid (∀ W, SlN W (some ⟨gO, 0, none⟩) nl nl (OB f g C O0 q) → Calls Tryd.prog 11 #[.slice (some ⟨gO, 0, none⟩) nl nl, .int .i64 ((i : Int) + 1)] W fun e w' => e = .returned (.bool true) ∧ W = w') := Lib.hid fun W h => contains_any _ _ _ _ _ true W h (by
                    simp only [true_iff]
                    obtain ⟨k, h1, h2⟩ := hu
                    exact ⟨k, h1, by omega⟩)
                  clear hat hf HFR hO hO0 hu
                  go_wp2_with (first
                    | (go_at_call 9; refine (HIX.out).mono ?_; rintro e5 w5 ⟨rfl, hb5⟩; have HB5 := Lib.hid (((Below.refl _ wr).alloc (Nat.le_refl _) _).trans (hb5.mono (by simp))); have hz5 := HB5.out.size; have cO5 := (HB5.out.cell (p := ⟨gO, q, none⟩) hgl).trans cO; have fO5 := (HB5.out.frozen (p := ⟨gO, q, none⟩) hgl).trans fO; have HS5 := Lib.hid ((HO.out.kept (Keeps.of_same (S := nowhere) HB5.out) (fun h => h)).sln hl))
                    | (go_at_call 11; refine (HCO.out _ HS5.out).mono ?_; rintro e6 w6 ⟨rfl, rfl⟩))
                  go_ret
                  exact ⟨hB.trans (HB5.out.mono hbz), _, rfl, .inl ⟨by rw [HE.out]; rfl, HP.out⟩⟩
                · have hgo : q < KB := by
                    rcases hat with x | x
                    · exact x.2
                    · exact absurd (.inr ⟨i, hf, hu⟩) x.1
                  have HNX : Hid (OB f g C O0 (q + 1) = updO (OB f g C O0 q) q (i + 1)) := Lib.hid (by show nxB f g C (OB f g C O0 q) q = _; unfold nxB; rw [if_neg hO, hf])
                  have HCO : Hid (∀ W, SlN W (some ⟨gO, 0, none⟩) nl nl (OB f g C O0 q) → Calls Tryd.prog 11 #[.slice (some ⟨gO, 0, none⟩) nl nl, .int .i64 ((i : Int) + 1)] W fun e w' => e = .returned (.bool false) ∧ W = w') := Lib.hid fun W h => contains_any _ _ _ _ _ false W h (by
                    simp only [Bool.false_eq_true, false_iff]
                    rintro ⟨k, h1, h2⟩
                    exact hu ⟨k, h1, by omega⟩)
                  clear hat hf HFR hO hO0 hu
                  go_wp2_with (first
                    | (go_at_call 9; refine (HIX.out).mono ?_; rintro e5 w5 ⟨rfl, hb5⟩; have HB5 := Lib.hid (((Below.refl _ wr).alloc (Nat.le_refl _) _).trans (hb5.mono (by simp))); have hz5 := HB5.out.size; have cO5 := (HB5.out.cell (p := ⟨gO, q, none⟩) hgl).trans cO; have fO5 := (HB5.out.frozen (p := ⟨gO, q, none⟩) hgl).trans fO; have HS5 := Lib.hid ((HO.out.kept (Keeps.of_same (S := nowhere) HB5.out) (fun h => h)).sln hl))
                    | (go_at_call 11; refine (HCO.out _ HS5.out).mono ?_; rintro e6 w6 ⟨rfl, rfl⟩))
                  go_roundw
                  case rel => exact ⟨q + 1, hgo, by go_num, (hB.trans (HB5.out.mono hbz)).setCell (by show w.heap.size ≤ gO; omega) _, Lib.hid (Keeps.setCell (p := ⟨gO, q, none⟩) (HK.out.trans (Keeps.of_same HB5.out)) (.inl (show OneB gO gO from rfl)) _), Lib.hid (by
                    rw [HNX.out]
                    exact (show JO (w5.setCell ⟨gO, q, none⟩ (.int .i64 ((i : Int) + 1))) gO nl (updO (OB f g C O0 q) q (i + 1)) from by simpa using (HO.out.kept (Keeps.of_same (S := nowhere) HB5.out) (fun h => h)).set q (i + 1)))⟩
                  case measure => simp [intOf]; omega
          · obtain rfl : nl = q := by have := HRB2.out.1; omega
            obtain rfl : nl = KB := by have := HRB2.out.1; omega
            have HE1 : Hid (e = if b = true then 6 else 0) := Lib.hid (by rw [HE0.out, if_pos rfl])
            have HRC3 := Lib.hid (HRC2.out rfl)
            have HFU : Hid (∀ k, k < nl → 0 < OB f g C O0 nl k) := Lib.hid (ob_full nl HRB2.out.2.1)
            have HBD : Hid (∀ k, k < nl → OB f g C O0 nl k ≤ m) := Lib.hid (HOB.out nl)
            have HSL4 := Lib.hid (HS2.out.kept HK.out (fun a ha e => HA1.out a ha e))
            have HO4 := HO
            have HB4 := Lib.hid hB
            generalize OB f g C O0 nl = O at *
            clear HRB2 HRC2 HOB HE0 HK HO hq hqm hkz hgl hbz hB HS2
            obtain ⟨W4, hW4⟩ : ∃ x, x = wr := ⟨_, rfl⟩
            rw [← hW4] at HSL4 HO4 HB4
            have hz4 := HB4.out.size
            have hg4 := HO4.out.lt
            go_wp2
            go_loopw [124] (fun i wr => ∃ k : Nat, k ≤ nl ∧ i = .int .i64 k ∧ Below W4.heap.size W4 wr ∧ Hid (∀ j k', j < k' → k' < k → ¬ badC C O j k')) (fun i _ => nl - (intOf i).toNat)
            case atStart => exact ⟨0, by omega, rfl, by rw [hW4]; exact Below.refl _ _, Lib.hid fun j k' _ h => absurd h (by omega)⟩
            case round =>
              clear hW4
              obtain ⟨k, hk, rfl, hB, HNB⟩ := hrel
              have hbz := hB.size
              by_cases hkn : k < nl
              · have hkl' : (k : Int) < nl := by omega
                go_wp2
                go_loopw [128] (fun i wr => ∃ j : Nat, j ≤ k ∧ i = .int .i64 j ∧ Below W4.heap.size W4 wr ∧ Hid (∀ j', j' < j → ¬ badC C O j' k)) (fun i _ => k - (intOf i).toNat)
                case atStart => exact ⟨0, by omega, rfl, hB, Lib.hid fun j' h => absurd h (by omega)⟩
                case round =>
                  clear hB hbz
                  obtain ⟨j, hj, rfl, hB, HNJ⟩ := hrel
                  have hbz := hB.size
                  by_cases hjk : j < k
                  · have hjk' : (j : Int) < k := by omega
                    have hjl' : (j : Int) < nl := by omega
                    obtain ⟨u, hu⟩ : ∃ u, O j = u + 1 := ⟨O j - 1, by have := HFU.out j (by omega); omega⟩
                    obtain ⟨v, hv⟩ : ∃ v, O k = v + 1 := ⟨O k - 1, by have := HFU.out k (by omega); omega⟩
                    have hum : u < m := by have := HBD.out j (by omega); omega
                    have hvm : v < m := by have := HBD.out k (by omega); omega
                    have hum' : (u : Int) < m := by omega
                    have hvm' : (v : Int) < m := by omega
                    obtain ⟨b0, off, rfl, hblt, hcell⟩ := HSL4.out.at_ (by omega)
                    have hbw : b0 < wr.heap.size := by omega
                    have hgw : gO < wr.heap.size := by omega
                    obtain ⟨⟨a1, d1⟩, hab1⟩ : ∃ x, C[u]? = some x := ⟨C[u]'(by rw [HM.out]; exact hum), List.getElem?_eq_getElem _⟩
                    obtain ⟨⟨a2, d2⟩, hab2⟩ : ∃ x, C[v]? = some x := ⟨C[v]'(by rw [HM.out]; exact hvm), List.getElem?_eq_getElem _⟩
                    have hrow1 := rowsJ_get (f := f) hab1
                    have hrow2 := rowsJ_get (f := f) hab2
                    obtain ⟨s6, s7, s8, hx1⟩ := rowJ_eq f a1 d1
                    obtain ⟨t6, t7, t8, hx2⟩ := rowJ_eq f a2 d2
                    rw [hx1] at hrow1
                    rw [hx2] at hrow2
                    have cj : wr.cell? ⟨gO, j, none⟩ = some (.int .i64 ((u : Int) + 1)) := (hB.cell (p := ⟨gO, j, none⟩) hg4).trans (by have := HO4.out.cell (k := j) (by omega); rw [hu] at this; simpa using this)
                    have ck : wr.cell? ⟨gO, k, none⟩ = some (.int .i64 ((v : Int) + 1)) := (hB.cell (p := ⟨gO, k, none⟩) hg4).trans (by have := HO4.out.cell (k := k) (by omega); rw [hv] at this; simpa using this)
                    have r0 : wr.cell? ⟨b0, off + u * 9, none⟩ = some (.int .i64 (f a1 1)) := (hB.cell (p := ⟨b0, off + u * 9, none⟩) hblt).trans (by simpa using hcell u _ hrow1 0 _ rfl)
                    have r1 : wr.cell? ⟨b0, off + u * 9 + 1, none⟩ = some (.int .i64 (f a1 2)) := (hB.cell (p := ⟨b0, off + u * 9 + 1, none⟩) hblt).trans (by simpa using hcell u _ hrow1 1 _ rfl)
                    have r2 : wr.cell? ⟨b0, off + u * 9 + 2, none⟩ = some (.int .i64 (f a1 3)) := (hB.cell (p := ⟨b0, off + u * 9 + 2, none⟩) hblt).trans (by simpa using hcell u _ hrow1 2 _ rfl)
                    have r3 : wr.cell? ⟨b0, off + u * 9 + 3, none⟩ = some (.int .i64 (f a1 4)) := (hB.cell (p := ⟨b0, off + u * 9 + 3, none⟩) hblt).trans (by simpa using hcell u _ hrow1 3 _ rfl)
                    have r4 : wr.cell? ⟨b0, off + u * 9 + 4, none⟩ = some (.int .i64 ((a1 : Int) + 1)) := (hB.cell (p := ⟨b0, off + u * 9 + 4, none⟩) hblt).trans (by simpa using hcell u _ hrow1 4 _ rfl)
                    have r5 : wr.cell? ⟨b0, off + u * 9 + 5, none⟩ = some (.int .i64 (d1 : Int)) := (hB.cell (p := ⟨b0, off + u * 9 + 5, none⟩) hblt).trans (by simpa using hcell u _ hrow1 5 _ rfl)
                    have r6 : wr.cell? ⟨b0, off + u * 9 + 6, none⟩ = some (.int .i64 s6) := (hB.cell (p := ⟨b0, off + u * 9 + 6, none⟩) hblt).trans (by simpa using hcell u _ hrow1 6 _ rfl)
                    have r7 : wr.cell? ⟨b0, off + u * 9 + 7, none⟩ = some (.int .i64 s7) := (hB.cell (p := ⟨b0, off + u * 9 + 7, none⟩) hblt).trans (by simpa using hcell u _ hrow1 7 _ rfl)
                    have r8 : wr.cell? ⟨b0, off + u * 9 + 8, none⟩ = some (.int .i64 s8) := (hB.cell (p := ⟨b0, off + u * 9 + 8, none⟩) hblt).trans (by simpa using hcell u _ hrow1 8 _ rfl)
                    have q0 : wr.cell? ⟨b0, off + v * 9, none⟩ = some (.int .i64 (f a2 1)) := (hB.cell (p := ⟨b0, off + v * 9, none⟩) hblt).trans (by simpa using hcell v _ hrow2 0 _ rfl)
                    have q1 : wr.cell? ⟨b0, off + v * 9 + 1, none⟩ = some (.int .i64 (f a2 2)) := (hB.cell (p := ⟨b0, off + v * 9 + 1, none⟩) hblt).trans (by simpa using hcell v _ hrow2 1 _ rfl)
                    have q2 : wr.cell? ⟨b0, off + v * 9 + 2, none⟩ = some (.int .i64 (f a2 3)) := (hB.cell (p := ⟨b0, off + v * 9 + 2, none⟩) hblt).trans (by simpa using hcell v _ hrow2 2 _ rfl)
                    have q3 : wr.cell? ⟨b0, off + v * 9 + 3, none⟩ = some (.int .i64 (f a2 4)) := (hB.cell (p := ⟨b0, off + v * 9 + 3, none⟩) hblt).trans (by simpa using hcell v _ hrow2 3 _ rfl)
                    have q4 : wr.cell? ⟨b0, off + v * 9 + 4, none⟩ = some (.int .i64 ((a2 : Int) + 1)) := (hB.cell (p := ⟨b0, off + v * 9 + 4, none⟩) hblt).trans (by simpa using hcell v _ hrow2 4 _ rfl)
                    have q5 : wr.cell? ⟨b0, off + v * 9 + 5, none⟩ = some (.int .i64 (d2 : Int)) := (hB.cell (p := ⟨b0, off + v * 9 + 5, none⟩) hblt).trans (by simpa using hcell v _ hrow2 5 _ rfl)
                    have q6 : wr.cell? ⟨b0, off + v * 9 + 6, none⟩ = some (.int .i64 t6) := (hB.cell (p := ⟨b0, off + v * 9 + 6, none⟩) hblt).trans (by simpa using hcell v _ hrow2 6 _ rfl)
                    have q7 : wr.cell? ⟨b0, off + v * 9 + 7, none⟩ = some (.int .i64 t7) := (hB.cell (p := ⟨b0, off + v * 9 + 7, none⟩) hblt).trans (by simpa using hcell v _ hrow2 7 _ rfl)
                    have q8 : wr.cell? ⟨b0, off + v * 9 + 8, none⟩ = some (.int .i64 t8) := (hB.cell (p := ⟨b0, off + v * 9 + 8, none⟩) hblt).trans (by simpa using hcell v _ hrow2 8 _ rfl)
                    have HBC : Hid (badC C O j k ↔ 0 < d2 ∧ d2 < a1 + 1) := Lib.hid (by
                      unfold badC
                      rw [show O j - 1 = u by omega, show O k - 1 = v by omega]
                      exact ⟨fun ⟨c, d, h1, h2, h3⟩ => by rw [hab1] at h1; rw [hab2] at h2; cases h1; cases h2; exact h3, fun h => ⟨_, _, hab1, hab2, h⟩⟩)
                    have hwu : IntKind.i64.wrap ((u : Int) + 1 - 1) = u := by rw [IntWalk.i64_in _ (by omega)]; omega
                    have hwv : IntKind.i64.wrap ((v : Int) + 1 - 1) = v := by rw [IntWalk.i64_in _ (by omega)]; omega
                    clear hcell hrow1 hrow2 hx1 hx2 hab1 hab2 hu hv
                    have HB := Lib.hid hB
                    go_wp2
                    go_region
                    all_goals
                      by_cases h1 : 0 < d2
                      · by_cases h2 : d2 < a1 + 1
                        · have HE := HE1.out
                          rw [if_pos (HRC3.out.2 ⟨j, k, hjk, hkn, HBC.out.2 ⟨h1, h2⟩⟩)] at HE
                          have HE2 := Lib.hid HE
                          clear HE
                          have h3 : (d2 : Int) < (a1 : Int) + 1 := by omega
                          go_wp2
                          go_ret
                          exact ⟨HB4.out.trans ((hB.trans ((by go_grown : Below wr.heap.size wr _).mono hbz)).mono hz4), _, rfl, .inl ⟨by rw [HE2.out]; rfl, HP.out⟩⟩
                        · have HNO : Hid (¬ badC C O j k) := Lib.hid fun h => h2 (HBC.out.1 h).2
                          have h3 : ¬ (d2 : Int) < (a1 : Int) + 1 := by omega
                          have h4 : decide ((d2 : Int) < (a1 : Int) + 1) = false := decide_eq_false h3
                          go_wp2
                          go_roundw
                          case rel => exact ⟨j + 1, by omega, by go_num, hB.trans ((by go_grown : Below wr.heap.size wr _).mono hbz), Lib.hid fun j' hj' => by
                            rcases Nat.lt_or_ge j' j with z | z
                            · exact HNJ.out j' z
                            · obtain rfl : j' = j := by omega
                              exact HNO.out⟩
                          case measure => simp [intOf]; omega
                      · have HNO : Hid (¬ badC C O j k) := Lib.hid fun h => h1 (HBC.out.1 h).1
                        have h4 : d2 = 0 := by omega
                        subst h4
                        go_wp2
                        go_roundw
                        case rel => exact ⟨j + 1, by omega, by go_num, hB.trans ((by go_grown : Below wr.heap.size wr _).mono hbz), Lib.hid fun j' hj' => by
                          rcases Nat.lt_or_ge j' j with z | z
                          · exact HNJ.out j' z
                          · obtain rfl : j' = j := by omega
                            exact HNO.out⟩
                        case measure => simp [intOf]; omega
                  · obtain rfl : j = k := by omega
                    go_wp2
                    go_roundw
                    case rel => exact ⟨j + 1, by omega, by go_num, hB, Lib.hid fun j' k' h1 h2 => by
                      rcases Nat.lt_or_ge k' j with z | z
                      · exact HNB.out j' k' h1 z
                      · obtain rfl : k' = j := by omega
                        exact HNJ.out j' h1⟩
                    case measure => simp [intOf]; omega
              · obtain rfl : k = nl := by omega
                have hbf : b = false := by
                  rw [← Bool.not_eq_true, HRC3.out]
                  rintro ⟨j, k', h1, h2, h3⟩
                  exact HNB.out j k' h1 h2 h3
                have HE := HE1.out
                rw [hbf, if_neg (by decide)] at HE
                have HE2 := Lib.hid HE
                clear HE hbf
                go_wp2
                go_ret
                exact ⟨HB4.out.trans (hB.mono hz4), _, rfl, .inl ⟨by rw [HE2.out]; rfl, HP.out⟩⟩
  · rw [if_neg hKn] at hcase
    obtain ⟨ga, rfl, hblk⟩ := hcase
    have hres := HJ.out.res
    rw [if_neg hKn, if_neg hKn] at hres
    have HRS := Lib.hid hres
    have HBL := Lib.hid hblk
    have HB1 := Lib.hid hb1
    clear hres hblk hb1 HJ
    go_wp2
    go_ret
    exact ⟨HB1.out, _, rfl, .inr ⟨ga, rfl, by rw [HRS.out.1, HRS.out.2]; exact HBL.out⟩⟩
end Go.Proofs.YtdogjdgfidbfhaaDoor
