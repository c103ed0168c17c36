/-
  What shop.New returns: for every kind.
-/
import Derived.Test.YtkoflhjnpilchaaDoorShP
import Derived.Test.YtkoflhjnpilchaaDoorStW
import Derived.Test.YtkoflhjnpilchaaDoorNewsC
namespace Go.Proofs.YtkoflhjnpilchaaDoor
set_option linter.unusedSimpArgs false
set_option linter.unusedVariables false
set_option linter.unusedSectionVars false
open Go.RowKit
set_option linter.unusedSimpArgs false
set_option linter.unusedVariables false
attribute [local go_sem ↓] Go.wp_at_zero Go.wp_at_succ

theorem infoRecS : (Tryd.prog.info? 33).map (·.size) = some 32 := by kernel_rfl
def nz (kind : Int) (i : Nat) : Int := if i = 0 then kind else 0
def wkNew (t : Nat) : Array Value := #[.int .i64 t, .int .i64 0, .int .i64 0, .int .i64 0, .int .i64 0, .int .i64 0, .bool false, .int .i64 0, .int .u64 0, .int .u64 0, .int .u64 0, .int .u64 0, .int .u64 0, .int .u64 0, .int .u64 0, .int .u64 0, .int .u64 0, .int .u64 0, .int .u64 0, .int .u64 0, .int .u64 0, .int .u64 0, .int .u64 0, .int .u64 0, .int .u64 0, .int .u64 0, .int .u64 0, .int .u64 0, .int .u64 0, .int .u64 0, .int .u64 0, .int .u64 0, .int .u64 0, .int .u64 0, .int .u64 0, .int .u64 0, .int .u64 0, .int .u64 0, .int .u64 0, .int .u64 0, .int .u64 0, .slice none 0 0, .slice none 0 0, .int .u64 0, .int .u64 0, .int .u64 0, .int .i64 0, .int .i64 0, .int .i64 0]
theorem run_index_rec (C : Array Value) (z : Nat → Int) (h : U64s C 32 z) (k : Nat) (hk : k < 32) (w : World) : (Instr.index 33 (.agg C) (.int .i64 k)).run Tryd.prog w = .ok (.int .u64 (z k)) w := by
  have h32 : (k : Int) < 32 := by omega
  have hp := h.get k hk
  simp [Instr.index, asIntOf, run_underlying Tryd.underlying33, part, Tryd.underlying31, isAgg, Sem.run_bind, hk, h32, hp]
structure NSt (w : World) (gm gs g : Nat) (s : Sst) (pw : Nat → Value) (wr : World) : Prop where
  sh : Blk wr g 70 (shA gm gs pw (fun _ => 0) 0 (.slice none 0 0) (.slice none 0 0))
  ram : Blk wr gm 63 #[.int .u64 0, .int .u64 0, .int .u64 0, .int .u64 0, .int .u64 0, .int .u64 0, .int .u64 0, .int .u64 0, .int .u64 0, .int .u64 0, .int .u64 0, .int .u64 0, .int .u64 0, .int .u64 0, .int .u64 0, .int .u64 0]
  st : Blk wr gs 99 (stA s)
  below : Below w.heap.size w wr
structure WSt (w : World) (gm gs g : Nat) (k : Nat) (gw : Nat → Nat) (wr : World) : Prop where
  wk : ∀ t, t < k → Blk wr (gw t) 78 (wkNew t)
  low : ∀ t, t < k → w.heap.size ≤ gw t ∧ gw t ≠ gm ∧ gw t ≠ gs ∧ gw t ≠ g
  ne : ∀ t u, t < k → u < k → t ≠ u → gw t ≠ gw u
theorem nst_save {w wr : World} {gm gs g : Nat} {pw : Nat → Value} {z : Nat → Int} {k : Nat} (h : NSt w gm gs g (stK z k) pw wr) (hk : k < 32) (h1 : gm ≠ gs) (h2 : g ≠ gs) (hl : w.heap.size ≤ gs) : NSt w gm gs g (stK z (k + 1)) pw (wr.setCell ⟨gs, 8 + k, none⟩ (.int .u64 (z k))) :=
  ⟨h.sh.far h2 _, h.ram.far h1 _, by rw [← stK_succ, ← stA_save _ _ (by omega)]; exact h.st.set_ _ _, h.below.setCell hl _⟩
theorem nst_keep {w wr wr' : World} {gm gs g : Nat} {pw : Nat → Value} {s s' : Sst} (h : NSt w gm gs g s pw wr) (hs : Blk wr' gs 99 (stA s')) (hk : Keeps (Only gs) wr wr') (h1 : gm ≠ gs) (h2 : g ≠ gs) (hl : w.heap.size ≤ gs) : NSt w gm gs g s' pw wr' :=
  ⟨h.sh.kept hk h2, h.ram.kept hk h1, hs, h.below.trans (hk.below h.below.size (fun b hb e => by have e' : b = gs := e; omega))⟩
structure PNew (w w' : World) (kind : Int) (g gm gs : Nat) (gw : Nat → Nat) : Prop where
  sh : Blk w' g 70 (shA gm gs (fun t => ptr (gw t)) (fun _ => 0) 0 (.slice none 0 0) (.slice none 0 0))
  ram : Blk w' gm 63 #[.int .u64 0, .int .u64 0, .int .u64 0, .int .u64 0, .int .u64 0, .int .u64 0, .int .u64 0, .int .u64 0, .int .u64 0, .int .u64 0, .int .u64 0, .int .u64 0, .int .u64 0, .int .u64 0, .int .u64 0, .int .u64 0]
  st : Blk w' gs 99 (stA (stE (nz kind) 4))
  wk : ∀ t, t < 4 → Blk w' (gw t) 78 (wkNew t)
  low : w.heap.size ≤ gm ∧ w.heap.size ≤ gs ∧ w.heap.size ≤ g ∧ gm ≠ gs ∧ gm ≠ g ∧ gs ≠ g
  wlow : ∀ t, t < 4 → w.heap.size ≤ gw t ∧ gw t ≠ gm ∧ gw t ≠ gs ∧ gw t ≠ g
  wne : ∀ t u, t < 4 → u < 4 → t ≠ u → gw t ≠ gw u
  below : Below w.heap.size w w'
def NewOut (kind : Int) (w : World) (e : Ending) (w' : World) : Prop := ∃ g gm gs gw, e = .returned (.tuple #[.pointer (some ⟨g, 0, none⟩), .nilIface]) ∧ PNew w w' kind g gm gs gw

set_option maxRecDepth 100000 in
set_option maxHeartbeats 1000000 in
theorem shopNew_bad (kind : Int) (w : World) (hk : kindB kind = false) :
    Calls Tryd.prog 4 #[.int .i64 kind] w fun e w' => e = .returned (.tuple #[.pointer none, .iface 29 (.int .i64 1)]) ∧ Below w.heap.size w w' := by
  have HN := Lib.hid (fun W => recNew_bad kind W hk)
  obtain ⟨D, hD, hDU⟩ : ∃ D : Array Value, D = #[.int .u64 0, .int .u64 0, .int .u64 0, .int .u64 0, .int .u64 0, .int .u64 0, .int .u64 0, .int .u64 0, .int .u64 0, .int .u64 0, .int .u64 0, .int .u64 0, .int .u64 0, .int .u64 0, .int .u64 0, .int .u64 0, .int .u64 0, .int .u64 0, .int .u64 0, .int .u64 0, .int .u64 0, .int .u64 0, .int .u64 0, .int .u64 0, .int .u64 0, .int .u64 0, .int .u64 0, .int .u64 0, .int .u64 0, .int .u64 0, .int .u64 0, .int .u64 0] ∧ U64s D 32 (fun _ => 0) := ⟨_, rfl, U64s.zero 32⟩
  rw [← hD] at HN
  have HI : Hid ((Tryd.prog.info? 33).map (·.size) = some D.size) := by show _ = _; rw [infoRecS, hDU.size]
  have HS : Hid (D.size = 32) := Lib.hid hDU.size
  have H1 := Lib.hid hDU.one
  clear hk hD hDU
  go_enter Tryd.func4, Tryd.ntmps4
  go_wp2_with fail
  with_reducible refine (HN.out _).mono ?_
  rintro e w1 ⟨rfl, hb1⟩
  have HB := Lib.hid (below_setRow (hb1.alloc hb1.size (.cells #[.int .u64 0, .int .u64 0, .int .u64 0, .int .u64 0, .int .u64 0, .int .u64 0, .int .u64 0, .int .u64 0, .int .u64 0, .int .u64 0, .int .u64 0, .int .u64 0, .int .u64 0, .int .u64 0, .int .u64 0, .int .u64 0, .int .u64 0, .int .u64 0, .int .u64 0, .int .u64 0, .int .u64 0, .int .u64 0, .int .u64 0, .int .u64 0, .int .u64 0, .int .u64 0, .int .u64 0, .int .u64 0, .int .u64 0, .int .u64 0, .int .u64 0, .int .u64 0] 33)) hb1.size D)
  clear hb1
  go_wp2_with (with_reducible refine fStore 33 w1.heap.size D 33 #[.int .u64 0, .int .u64 0, .int .u64 0, .int .u64 0, .int .u64 0, .int .u64 0, .int .u64 0, .int .u64 0, .int .u64 0, .int .u64 0, .int .u64 0, .int .u64 0, .int .u64 0, .int .u64 0, .int .u64 0, .int .u64 0, .int .u64 0, .int .u64 0, .int .u64 0, .int .u64 0, .int .u64 0, .int .u64 0, .int .u64 0, .int .u64 0, .int .u64 0, .int .u64 0, .int .u64 0, .int .u64 0, .int .u64 0, .int .u64 0, .int .u64 0, .int .u64 0] (by kernel_rfl) (by kernel_rfl) (Blk.new _ _ _) HI.out (by rw [HS.out]; kernel_rfl) H1.out ?_)
  go_ret2
  exact ⟨rfl, HB.out⟩

theorem wst_add {w wr : World} {gm gs g k : Nat} {gw : Nat → Nat} {v : Value} (h : WSt w gm gs g k gw wr) (hk : k < 4) (hg : g < wr.heap.size) (h1 : gm < wr.heap.size) (h2 : gs < wr.heap.size) (hw : w.heap.size ≤ wr.heap.size) :
    WSt w gm gs g (k + 1) (fun t => if t = k then wr.heap.size else gw t) ((wr.setCell ⟨g, 2 + k, none⟩ v).alloc (.cells (wkNew k) 78)) := by
  refine ⟨fun t ht => ?_, fun t ht => ?_, fun t u ht hu hne => ?_⟩
  · by_cases e : t = k
    · subst e
      rw [if_pos rfl]
      exact Blk.newAt _ _ _ (by simp)
    · rw [if_neg e]
      exact ((h.wk t (by omega)).far (h.low t (by omega)).2.2.2 _).alloc _
  · by_cases e : t = k
    · subst e
      rw [if_pos rfl]
      omega
    · rw [if_neg e]
      exact h.low t (by omega)
  · by_cases e : t = k
    · subst e
      rw [if_pos rfl, if_neg (fun e => hne e.symm)]
      have := (h.wk u (by omega)).lt
      omega
    · rw [if_neg e]
      by_cases e2 : u = k
      · rw [if_pos e2]
        have := (h.wk t (by omega)).lt
        omega
      · rw [if_neg e2]
        exact h.ne t u (by omega) (by omega) hne
theorem nst_add {w wr : World} {gm gs g k : Nat} {gw : Nat → Nat} {s : Sst} (h : NSt w gm gs g s (fun t => if t < k then ptr (gw t) else .pointer none) wr) (hk : k < 4) (h1 : gm ≠ g) (h2 : gs ≠ g) (hl : w.heap.size ≤ g) :
    NSt w gm gs g s (fun t => if t < k + 1 then ptr (if t = k then wr.heap.size else gw t) else .pointer none) ((wr.setCell ⟨g, 2 + k, none⟩ (ptr wr.heap.size)).alloc (.cells (wkNew k) 78)) := by
  refine ⟨?_, (h.ram.far h1 _).alloc _, (h.st.far h2 _).alloc _, (h.below.setCell hl _).alloc (by simp [h.below.size]) _⟩
  have := (h.sh.set_ (2 + k) (ptr wr.heap.size)).alloc (.cells (wkNew k) 78)
  rw [shA_worker _ _ _ _ _ _ _ hk] at this
  have e : (fun i => if i = k then ptr wr.heap.size else (if i < k then ptr (gw i) else .pointer none)) = (fun t => if t < k + 1 then ptr (if t = k then wr.heap.size else gw t) else .pointer none) := by
    funext i
    by_cases e : i = k
    · rw [if_pos e, if_pos (by omega), if_pos e]
    · rw [if_neg e]
      by_cases h : i < k
      · rw [if_pos h, if_pos (by omega), if_neg e]
      · rw [if_neg h, if_neg (by omega)]
  rw [e] at this
  exact this

set_option maxRecDepth 100000 in
set_option maxHeartbeats 4000000 in
theorem shopNew_ok (kind : Int) (w : World) (hk : kindB kind = true) : Calls Tryd.prog 4 #[.int .i64 kind] w (NewOut kind w) := by
  have hq : 1 ≤ kind ∧ kind ≤ 6 := by simpa [kindB] using hk
  have hDU0 := newU kind hq.1 hq.2
  have HN := Lib.hid (fun W => recNew_ok kind W hk)
  obtain ⟨D, hD⟩ : ∃ D : Array Value, D = newRow kind := ⟨_, rfl⟩
  rw [← hD] at HN hDU0
  have hDU : U64s D 32 (nz kind) := hDU0
  have HU := Lib.hid hDU
  have HI : Hid ((Tryd.prog.info? 33).map (·.size) = some D.size) := by show _ = _; rw [infoRecS, hDU.size]
  have HS : Hid (D.size = 32) := Lib.hid hDU.size
  have H1 := Lib.hid hDU.one
  clear hk hD hDU hDU0 hq
  go_enter Tryd.func4, Tryd.ntmps4
  go_wp2_with fail
  with_reducible refine (HN.out _).mono ?_
  rintro e w1 ⟨rfl, hb1⟩
  have hz1 := hb1.size
  have HW2 := Lib.hid (below_setRow (hb1.alloc hb1.size (.cells #[.int .u64 0, .int .u64 0, .int .u64 0, .int .u64 0, .int .u64 0, .int .u64 0, .int .u64 0, .int .u64 0, .int .u64 0, .int .u64 0, .int .u64 0, .int .u64 0, .int .u64 0, .int .u64 0, .int .u64 0, .int .u64 0, .int .u64 0, .int .u64 0, .int .u64 0, .int .u64 0, .int .u64 0, .int .u64 0, .int .u64 0, .int .u64 0, .int .u64 0, .int .u64 0, .int .u64 0, .int .u64 0, .int .u64 0, .int .u64 0, .int .u64 0, .int .u64 0] 33)) hb1.size D)
  have HB2 := Lib.hid (Blk.setRow (Blk.new w1 33 #[.int .u64 0, .int .u64 0, .int .u64 0, .int .u64 0, .int .u64 0, .int .u64 0, .int .u64 0, .int .u64 0, .int .u64 0, .int .u64 0, .int .u64 0, .int .u64 0, .int .u64 0, .int .u64 0, .int .u64 0, .int .u64 0, .int .u64 0, .int .u64 0, .int .u64 0, .int .u64 0, .int .u64 0, .int .u64 0, .int .u64 0, .int .u64 0, .int .u64 0, .int .u64 0, .int .u64 0, .int .u64 0, .int .u64 0, .int .u64 0, .int .u64 0, .int .u64 0]) D)
  clear hb1
  have hs2 : ((w1.alloc (.cells #[.int .u64 0, .int .u64 0, .int .u64 0, .int .u64 0, .int .u64 0, .int .u64 0, .int .u64 0, .int .u64 0, .int .u64 0, .int .u64 0, .int .u64 0, .int .u64 0, .int .u64 0, .int .u64 0, .int .u64 0, .int .u64 0, .int .u64 0, .int .u64 0, .int .u64 0, .int .u64 0, .int .u64 0, .int .u64 0, .int .u64 0, .int .u64 0, .int .u64 0, .int .u64 0, .int .u64 0, .int .u64 0, .int .u64 0, .int .u64 0, .int .u64 0, .int .u64 0] 33)).setRow w1.heap.size D).heap.size = w1.heap.size + 1 := by simp [World.setRow]
  go_wp2_with (first
    | (with_reducible refine fStore 33 w1.heap.size D 33 #[.int .u64 0, .int .u64 0, .int .u64 0, .int .u64 0, .int .u64 0, .int .u64 0, .int .u64 0, .int .u64 0, .int .u64 0, .int .u64 0, .int .u64 0, .int .u64 0, .int .u64 0, .int .u64 0, .int .u64 0, .int .u64 0, .int .u64 0, .int .u64 0, .int .u64 0, .int .u64 0, .int .u64 0, .int .u64 0, .int .u64 0, .int .u64 0, .int .u64 0, .int .u64 0, .int .u64 0, .int .u64 0, .int .u64 0, .int .u64 0, .int .u64 0, .int .u64 0] (by kernel_rfl) (by kernel_rfl) (Blk.new _ _ _) HI.out (by rw [HS.out]; kernel_rfl) H1.out ?_)
    | fail)
  generalize (w1.alloc (.cells #[.int .u64 0, .int .u64 0, .int .u64 0, .int .u64 0, .int .u64 0, .int .u64 0, .int .u64 0, .int .u64 0, .int .u64 0, .int .u64 0, .int .u64 0, .int .u64 0, .int .u64 0, .int .u64 0, .int .u64 0, .int .u64 0, .int .u64 0, .int .u64 0, .int .u64 0, .int .u64 0, .int .u64 0, .int .u64 0, .int .u64 0, .int .u64 0, .int .u64 0, .int .u64 0, .int .u64 0, .int .u64 0, .int .u64 0, .int .u64 0, .int .u64 0, .int .u64 0] 33)).setRow w1.heap.size D = w2 at *
  generalize w1.heap.size = a0 at *
  with_reducible refine (stNew _).mono ?_
  rintro e w3 ⟨rfl, rfl⟩
  have hg1 : a0 + 1 = w2.heap.size := hs2.symm
  have HN0 : Hid (NSt w w2.heap.size (w2.heap.size + 1) (w2.heap.size + 1 + 1) (stK (nz kind) 0) (fun _ => .pointer none) (((w2.alloc (.cells #[.int .u64 0, .int .u64 0, .int .u64 0, .int .u64 0, .int .u64 0, .int .u64 0, .int .u64 0, .int .u64 0, .int .u64 0, .int .u64 0, .int .u64 0, .int .u64 0, .int .u64 0, .int .u64 0, .int .u64 0, .int .u64 0] 63)).alloc (.cells (stA Sst.new) 99)).alloc (.cells (shA w2.heap.size (w2.heap.size + 1) (fun _ => .pointer none) (fun _ => 0) 0 (.slice none 0 0) (.slice none 0 0)) 70))) := Lib.hid (by
    refine ⟨Blk.newAt _ _ _ (by simp), ((Blk.new _ _ _).alloc _).alloc _, by rw [stK_zero]; exact (Blk.newAt _ _ _ (by simp)).alloc _, ?_⟩
    have := HW2.out.size
    exact ((HW2.out.alloc this _).alloc (by simp; omega) _).alloc (by simp; omega) _)
  have HR3 := Lib.hid (((HB2.out.alloc (.cells #[.int .u64 0, .int .u64 0, .int .u64 0, .int .u64 0, .int .u64 0, .int .u64 0, .int .u64 0, .int .u64 0, .int .u64 0, .int .u64 0, .int .u64 0, .int .u64 0, .int .u64 0, .int .u64 0, .int .u64 0, .int .u64 0] 63)).alloc (.cells (stA Sst.new) 99)).alloc (.cells (shA w2.heap.size (w2.heap.size + 1) (fun _ => .pointer none) (fun _ => 0) 0 (.slice none 0 0) (.slice none 0 0)) 70))
  have hlw : w.heap.size ≤ w2.heap.size := HW2.out.size
  rw [shA_new] at HN0 HR3
  rw [hg1]
  clear hs2 HW2 HB2
  go_wp2_with (with_reducible refine fLoad 33 a0 33 D (by kernel_rfl) HR3.out Tryd.underlying33 (by kernel_rfl) HI.out ?_)
  rw [← shA_new] at HN0
  generalize hm0 : w2.heap.size = gm at *
  have HN0' : Hid (∃ wx : World, NSt w gm (gm + 1) (gm + 1 + 1) (stK (nz kind) 0) (fun _ => .pointer none) wx) := Lib.hid ⟨_, HN0.out⟩
  go_loopw [25] (fun i wr => ∃ k : Nat, k ≤ 32 ∧ i = .int .i64 k ∧ Hid (NSt w gm (gm + 1) (gm + 1 + 1) (stK (nz kind) k) (fun _ => .pointer none) wr)) (fun i _ => 32 - (intOf i).toNat)
  case atStart => exact ⟨0, by omega, rfl, HN0⟩
  case round =>
    clear HN0 HN0' HR3
    obtain ⟨k, hk, rfl, HS1⟩ := hrel
    by_cases hkn : k < 32
    · have q1 : (k : Int) < 32 := by omega
      have hix := run_index_rec D (nz kind) HU.out k hkn
      have c1 : wr.cell? ⟨gm + 1 + 1, 1, none⟩ = some (.pointer (some ⟨gm + 1, 0, none⟩)) := by rw [HS1.out.sh.cell]; rfl
      have HL := stSave_in (gm + 1) (8 + k) (nz kind k) _ wr HS1.out.st (by omega)
      rw [show ((8 + k : Nat) : Int) = 8 + (k : Int) by omega] at HL
      have HL' := Lib.hid HL
      have HNx := Lib.hid (nst_save HS1.out hkn (by omega) (by omega) (by omega))
      clear HL
      generalize nz kind k = zk at *
      go_wp2_with fail
      with_reducible refine HL'.out.mono ?_
      rintro e w1 ⟨rfl, rfl⟩
      go_wp2
      go_roundw
      case rel => exact ⟨k + 1, by omega, by go_num, HNx⟩
      case measure => simp [intOf]; omega
    · obtain rfl : k = 32 := by omega
      have q1 : ¬ ((32 : Nat) : Int) < 32 := by omega
      have HE0 : Hid (NSt w gm (gm + 1) (gm + 1 + 1) (stE (nz kind) 0) (fun _ => .pointer none) wr) := Lib.hid (by rw [stE_zero]; exact HS1.out)
      clear HS1
      go_wp2
      obtain ⟨wo, rfl⟩ : ∃ wo : World, wo = wr := ⟨_, rfl⟩
      go_loopw [38] (fun i wr => ∃ k : Nat, k ≤ 4 ∧ i = .int .i64 k ∧ Hid (NSt w gm (gm + 1) (gm + 1 + 1) (stE (nz kind) k) (fun _ => .pointer none) wr)) (fun i _ => 4 - (intOf i).toNat)
      case atStart => exact ⟨0, by omega, rfl, HE0⟩
      case round =>
        clear HE0
        obtain ⟨k, hk, rfl, HS1⟩ := hrel
        by_cases hkn : k < 4
        · have q1 : (k : Int) < 4 := by omega
          have c1 : wr.cell? ⟨gm + 1 + 1, 1, none⟩ = some (.pointer (some ⟨gm + 1, 0, none⟩)) := by rw [HS1.out.sh.cell]; rfl
          have HL := stEvict_in (gm + 1) (1 + k) _ wr HS1.out.st (by omega)
          rw [show ((1 + k : Nat) : Int) = 1 + (k : Int) by omega, stE_succ _ _ hkn] at HL
          have HL' := Lib.hid HL
          clear HL
          go_wp2_with fail
          with_reducible refine HL'.out.mono ?_
          rintro e w1 ⟨rfl, hst, hkp⟩
          have HNx := Lib.hid (nst_keep HS1.out hst hkp (by omega) (by omega) (by omega))
          clear hst hkp
          go_wp2
          go_roundw
          case rel => exact ⟨k + 1, by omega, by go_num, HNx⟩
          case measure => simp [intOf]; omega
        · obtain rfl : k = 4 := by omega
          have q1 : ¬ ((4 : Nat) : Int) < 4 := by omega
          have HF0 : Hid (∃ gw : Nat → Nat, NSt w gm (gm + 1) (gm + 1 + 1) (stE (nz kind) 4) (fun t => if t < 0 then ptr (gw t) else .pointer none) wr ∧ WSt w gm (gm + 1) (gm + 1 + 1) 0 gw wr) := Lib.hid ⟨fun _ => 0, HS1.out, ⟨fun t ht => absurd ht (by omega), fun t ht => absurd ht (by omega), fun t u ht => absurd ht (by omega)⟩⟩
          clear HS1
          go_wp2
          obtain ⟨wo2, rfl⟩ : ∃ wo2 : World, wo2 = wr := ⟨_, rfl⟩
          go_loopw [49] (fun i wr => ∃ k : Nat, k ≤ 4 ∧ i = .int .i64 k ∧ Hid (∃ gw : Nat → Nat, NSt w gm (gm + 1) (gm + 1 + 1) (stE (nz kind) 4) (fun t => if t < k then ptr (gw t) else .pointer none) wr ∧ WSt w gm (gm + 1) (gm + 1 + 1) k gw wr)) (fun i _ => 4 - (intOf i).toNat)
          case atStart => exact ⟨0, by omega, rfl, HF0⟩
          case round =>
            clear HF0
            obtain ⟨k, hk, rfl, hex⟩ := hrel
            obtain ⟨gw, hn, hws⟩ := hex.out
            have HS1 := Lib.hid hn
            have HW1 := Lib.hid hws
            clear hex hn hws
            by_cases hkn : k < 4
            · have q1 : (k : Int) < 4 := by omega
              have hlg := HS1.out.sh.lt
              have c1 : wr.cell? ⟨gm + 1 + 1, 2 + k, none⟩ = some (.pointer none) := by
                rw [HS1.out.sh.cell, shA, rowF_get (by omega)]
                unfold shV
                rw [if_neg (by omega), if_neg (by omega), if_pos (by omega)]
                dsimp only
                rw [if_neg (by omega)]
              have f1 := HS1.out.sh.frozen (2 + k)
              have HA := Lib.hid (nst_add HS1.out hkn (by omega) (by omega) (by omega))
              have HB := Lib.hid (wst_add (v := ptr wr.heap.size) HW1.out hkn hlg HS1.out.ram.lt HS1.out.st.lt HS1.out.below.size)
              go_wp2
              go_roundw
              case rel => exact ⟨k + 1, by omega, by go_num, Lib.hid ⟨_, HA.out, HB.out⟩⟩
              case measure => simp [intOf]; omega
            · obtain rfl : k = 4 := by omega
              have q1 : ¬ ((4 : Nat) : Int) < 4 := by omega
              go_wp2
              go_ret2
              refine ⟨gm + 1 + 1, gm, gm + 1, gw, rfl, ?_, HS1.out.ram, HS1.out.st, HW1.out.wk, by omega, HW1.out.low, HW1.out.ne, HS1.out.below⟩
              have := HS1.out.sh
              have e : shA gm (gm + 1) (fun t => if t < 4 then ptr (gw t) else .pointer none) (fun _ => 0) 0 (.slice none 0 0) (.slice none 0 0) = shA gm (gm + 1) (fun t => ptr (gw t)) (fun _ => 0) 0 (.slice none 0 0) (.slice none 0 0) := rowF_congr fun j hj => by
                unfold shV
                split
                · rfl
                split
                · rfl
                split
                · dsimp only
                  rw [if_pos (by omega)]
                · rfl
              rw [e] at this
              exact this
end Go.Proofs.YtkoflhjnpilchaaDoor
