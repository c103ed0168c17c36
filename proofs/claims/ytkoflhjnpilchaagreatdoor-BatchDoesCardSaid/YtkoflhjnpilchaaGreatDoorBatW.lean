/-
  What batch.Do returns: for every record and up to a thousand asks.
-/
import Derived.Test.YtkoflhjnpilchaaGreatDoorBaP
import Derived.Test.YtkoflhjnpilchaaGreatDoorBatA
import Derived.Test.YtkoflhjnpilchaaGreatDoorBOpen
import Derived.Test.YtkoflhjnpilchaaGreatDoorAns
import Derived.Test.YtkoflhjnpilchaaGreatDoorMAt
namespace Go.Proofs.YtkoflhjnpilchaaGreatDoor
set_option linter.unusedSimpArgs false
set_option linter.unusedVariables false
set_option linter.unusedSectionVars false
open Go.RowKit
set_option linter.unusedSimpArgs false
set_option linter.unusedVariables false
attribute [local go_sem ↓] Go.wp_at_zero Go.wp_at_succ

theorem results_rtt {P : Program} {fn : Func} {p q s : Tmp} {ty : TypeId} (h : fn.results = #[.cell p ty, .tmp q, .tmp s]) (tmps : Array Value) (w : World) (g : Nat) (t : TypeId) (cs : Array Value) (d : TypeDesc) (v u : Value)
    (hp : tmps.getD p undef = .pointer (some ⟨g, 0, none⟩)) (hq : tmps.getD q undef = v) (hs : tmps.getD s undef = u) (hg : Blk w g t cs)
    (hu : P.underlying ty = some d) (hd : (match d with | .struct _ | .array _ _ => true | _ => false) = true) (hi : (P.info? ty).map (·.size) = some cs.size) :
    (results fn tmps).run P w = .ok (.tuple #[.agg cs, v, u]) w := by
  have hp' : tmps[p]?.getD undef = .pointer (some ⟨g, 0, none⟩) := by simpa using hp
  have hq' : tmps[q]?.getD undef = v := by simpa using hq
  have hs' : tmps[s]?.getD undef = u := by simpa using hs
  simp [results, h, hp', hq', hs', asAddr, run_loadVar_row w g t ty cs (0, 0) d hg hu hd hi]

theorem infoDeedL : (Tryz.prog.info? 68).map (fun i => (i.zero, i.size, i.bytes)) = some (some (.agg #[.int .i64 0, .int .i64 0, .int .i64 0, .int .i64 0, .int .i64 0, .int .i64 0]), 6, 48) := by kernel_rfl
theorem info_deedL : ∃ i0, Tryz.prog.info? 68 = some i0 ∧ i0.zero = some (.agg #[.int .i64 0, .int .i64 0, .int .i64 0, .int .i64 0, .int .i64 0, .int .i64 0]) ∧ i0.size = 6 ∧ i0.bytes = 48 := by
  have h := infoDeedL
  cases hq : Tryz.prog.info? 68 with
  | none => simp [hq] at h
  | some i => simp [hq] at h; exact ⟨i, rfl, h.1, h.2.1, h.2.2⟩

/-- What Open says of an ask. -/
def openE (r0 r1 : Int) : Int := if r0 < 0 ∨ 4 ≤ r0 then 2 else if r1 ≠ 0 ∧ r1 ≠ 1 then 1 else 0
theorem openE_val (r0 r1 : Int) : openE r0 r1 = 0 ∨ openE r0 r1 = 1 ∨ openE r0 r1 = 2 := by
  unfold openE
  split
  · exact .inr (.inr rfl)
  split
  · exact .inr (.inl rfl)
  · exact .inl rfl
theorem askE_bad {z r : Nat → Int} (h : openE (r 0) (r 1) ≠ 0) : askE z r = openE (r 0) (r 1) := by
  unfold openE at *
  unfold askE
  split
  · rfl
  · rename_i h1
    rw [if_neg h1] at h
    split
    · rfl
    · rename_i h2
      rw [if_neg h2] at h
      exact absurd rfl h
theorem openE_ok {r0 r1 : Int} (h : openE r0 r1 = 0) : 0 ≤ r0 ∧ r0 < 4 ∧ (r1 = 0 ∨ r1 = 1) := by
  unfold openE at h
  split at h
  · omega
  · split at h
    · omega
    · omega
theorem bopen_bad (C : Array Value) (z : Nat → Int) (t g a k v : Int) (w : World) (h : U64s C 32 z) (he : openE t g ≠ 0) :
    Calls Tryz.prog 18 #[.agg C, .agg #[.int .i64 t, .int .i64 g, .int .i64 a, .int .i64 k, .int .i64 v]] w fun e w' => e = .returned (.tuple #[.bool false, .iface 28 (.int .i64 (openE t g))]) ∧ Below w.heap.size w w' := by
  by_cases h1 : t < 0 ∨ 4 ≤ t
  · have e2 : openE t g = 2 := by unfold openE; rw [if_pos h1]
    rw [e2]
    exact bopen_out C t g a k v w (by omega)
  · have e2 : openE t g = 1 := by
      unfold openE at he ⊢
      rw [if_neg h1] at he ⊢
      split at he
      · rename_i h2; rw [if_pos h2]
      · exact absurd rfl he
    rw [e2]
    unfold openE at e2
    rw [if_neg h1] at e2
    split at e2
    · rename_i h2; exact bopen_arg C t g a k v w (by omega) (by omega) h2
    · omega
theorem bopen_good (C : Array Value) (z r : Nat → Int) (t g a k v : Int) (w : World) (h : U64s C 32 z) (he : openE t g = 0) (h0 : r 0 = t) (h1 : r 1 = g) :
    Calls Tryz.prog 18 #[.agg C, .agg #[.int .i64 t, .int .i64 g, .int .i64 a, .int .i64 k, .int .i64 v]] w fun e w' => e = .returned (.tuple #[.bool (askO z r), .nilIface]) ∧ Below w.heap.size w w' := by
  obtain ⟨q0, q4, qg⟩ := openE_ok he
  have e : askO z r = (togN (z 26).toNat t != g) := by
    have e1 : togN (z 26).toNat t = tgZ z t.toNat := by
      unfold togN tgZ
      rw [show ((t.toNat : Nat) : Int) = t by omega]
      by_cases hb : bitB (z 26).toNat t = true
      · rw [if_pos ⟨q0, q4, hb⟩, if_pos hb]
      · rw [if_neg (fun h => hb h.2.2), if_neg hb]
    unfold askO
    rw [h0, h1, e1]
    by_cases hx : tgZ z t.toNat = g
    · simp [hx]
    · simp [hx]
  rw [e]
  exact bopen_in C z t g a k v w h q0 q4 qg
theorem rdone_no (C : Array Value) (z : Nat → Int) (t a k v : Int) (w : World) (h : U64s C 32 z) (h0 : 0 ≤ t) (h4 : t < 4) (hr : recL z) (hb : opRightB a k v = false ∨ 1099511627776 < z 28) :
    Calls Tryz.prog 20 #[.agg C, .int .i64 t, .agg #[.int .i64 a, .int .i64 k, .int .i64 v]] w (BadOut 1 w) := by
  by_cases hz : recOk z
  · rcases hb with hb | hb
    · exact rdone_op C z t a k v w h ⟨h0, h4⟩ hz hb
    · have := (recOk_iff.1 hz).2; omega
  · exact rdone_rec C z t a k v w h ⟨h0, h4⟩ hz
theorem rdone_yes (C : Array Value) (z : Nat → Int) (t a k v : Int) (w : World) (h : U64s C 32 z) (h0 : 0 ≤ t) (h4 : t < 4) (hr : recOk z) (ho : opRightB a k v = true) :
    Calls Tryz.prog 20 #[.agg C, .int .i64 t, .agg #[.int .i64 a, .int .i64 k, .int .i64 v]] w fun e w' => ∃ F, e = .returned (.tuple #[.agg F, .nilIface]) ∧ U64s F 32 (dZ z t.toNat a k v) ∧ Below w.heap.size w w' := by
  have e : ((t.toNat : Nat) : Int) = t := by omega
  have hx := rdone_ok C z t.toNat a k v (mO z a k) w h (by omega) hr (opRightB_iff.1 ho) (mO_ok hr a k)
  rw [e] at hx
  exact hx
theorem ansV_ok {co va : Int} (h : ansOk co va) : ∃ x p q : Nat, ansN co va = (x : Int) ∧ x / 4294967296 = p ∧ x % 4294967296 = q ∧ fitsB p q = true ∧ (p : Int) = co ∧ (q : Int) = va := by
  obtain ⟨h1, h2, ⟨h3, h4⟩, h5⟩ := h
  have hf : fitsB co va = true := by simp [fitsB]; omega
  have e : ansN co va = co * 4294967296 + va := by unfold ansN; rw [if_pos hf]
  refine ⟨(co * 4294967296 + va).toNat, co.toNat, va.toNat, by rw [e]; omega, by omega, by omega, ?_, by omega, by omega⟩
  rw [show ((co.toNat : Nat) : Int) = co by omega, show ((va.toNat : Nat) : Int) = va by omega]
  exact hf
theorem answer_done (F : Array Value) (z : Nat → Int) (t a k v : Int) (w : World) (hb : ∀ i, i < 32 → 0 ≤ z i ∧ z i < 18446744073709551616) (h : U64s F 32 (dZ z t.toNat a k v)) (h0 : 0 ≤ t) (h4 : t < 4) (hr : recOk z) (ho : opRightB a k v = true) :
    Calls Tryz.prog 21 #[.agg F, .int .i64 t] w fun e w' => ∃ y, e = .returned (.tuple #[.agg #[.int .i64 (dC z a k v), .int .i64 (dV z a k v)], .int .i64 y, .nilIface]) ∧ Below w.heap.size w w' := by
  have e : ((t.toNat : Nat) : Int) = t := by omega
  obtain ⟨_, _, ha⟩ := dY_ok hr hb (opRightB_iff.1 ho)
  obtain ⟨x, p, q, hx, hp, hq, hf, hpc, hqv⟩ := ansV_ok ha
  have b28 := hb 28 (by omega)
  have h28 := (recOk_iff.1 hr).2
  have hx2 : dZ z t.toNat a k v (18 + t.toNat) = (x : Int) := by
    unfold dZ
    rw [doneZ_ans _ _ _ _ _ (by omega), if_pos rfl]
    exact hx
  have hy2 : dZ z t.toNat a k v (22 + t.toNat) = z 28 + 1 := by
    unfold dZ
    rw [doneZ_when _ _ _ _ _ (by omega) (by omega), if_pos rfl]
  have := answer_yes F (dZ z t.toNat a k v) t.toNat x p q (z 28 + 1) (z 28 + 1) w h (by omega) hx2 hy2 hp hq hf (.inl ⟨by omega, rfl⟩)
  rw [e] at this
  rw [hpc, hqv] at this
  exact this.mono fun e' w' ⟨he, hB⟩ => ⟨_, he, hB⟩

def BatOut (f : Nat → Nat → Int) (z : Nat → Int) (n : Nat) (w : World) (e : Ending) (w' : World) : Prop :=
  Below w.heap.size w w' ∧ ((∃ k g, k < n ∧ (∀ j, j < k → askE (bz f z j) (f j) = 0) ∧ askE (bz f z k) (f k) ≠ 0 ∧ e = .returned (.tuple #[.agg #[.int .u64 0, .int .u64 0, .int .u64 0, .int .u64 0, .int .u64 0, .int .u64 0, .int .u64 0, .int .u64 0, .int .u64 0, .int .u64 0, .int .u64 0, .int .u64 0, .int .u64 0, .int .u64 0, .int .u64 0, .int .u64 0, .int .u64 0, .int .u64 0, .int .u64 0, .int .u64 0, .int .u64 0, .int .u64 0, .int .u64 0, .int .u64 0, .int .u64 0, .int .u64 0, .int .u64 0, .int .u64 0, .int .u64 0, .int .u64 0, .int .u64 0, .int .u64 0], .slice none 0 0, .iface 75 (.pointer (some ⟨g, 0, none⟩))]) ∧ Blk w' g 78 #[.int .i64 (askE (bz f z k) (f k)), .int .i64 k]) ∨
    ((∀ j, j < n → askE (bz f z j) (f j) = 0) ∧ ∃ D A c, e = .returned (.tuple #[.agg D, .slice A (bd f z n).length c, .nilIface]) ∧ U64s D 32 (nextV (bz f z n)) ∧ OwnR w' w.heap.size 68 6 A (bd f z n).length c (bd f z n)))
structure BdSt (w : World) (f : Nat → Nat → Int) (z : Nat → Int) (k : Nat) (A : Option Addr) (c : Nat) (D : Array Value) (wr : World) : Prop where
  rcd : Blk wr w.heap.size 24 D
  u : U64s D 32 (bz f z k)
  res : Blk wr (w.heap.size + 1) 24 #[.int .u64 0, .int .u64 0, .int .u64 0, .int .u64 0, .int .u64 0, .int .u64 0, .int .u64 0, .int .u64 0, .int .u64 0, .int .u64 0, .int .u64 0, .int .u64 0, .int .u64 0, .int .u64 0, .int .u64 0, .int .u64 0, .int .u64 0, .int .u64 0, .int .u64 0, .int .u64 0, .int .u64 0, .int .u64 0, .int .u64 0, .int .u64 0, .int .u64 0, .int .u64 0, .int .u64 0, .int .u64 0, .int .u64 0, .int .u64 0, .int .u64 0, .int .u64 0]
  own : OwnR wr (w.heap.size + 2) 68 6 A (bd f z k).length c (bd f z k)
  below : Below w.heap.size w wr
  right : recL (bz f z k)
  good : ∀ j, j < k → askE (bz f z j) (f j) = 0
def BdOk (w : World) (f : Nat → Nat → Int) (z : Nat → Int) (k : Nat) (d : Value) (wr : World) : Prop := ∃ D A c, d = .slice A (bd f z k).length c ∧ BdSt w f z k A c D wr
theorem bd_len (f : Nat → Nat → Int) (z : Nat → Int) : ∀ k, (bd f z k).length ≤ k
  | 0 => Nat.le_refl _
  | k + 1 => by
    have := bd_len f z k
    unfold bd
    split
    · simp; omega
    · omega
theorem infoRB : (Tryz.prog.info? 24).map (·.size) = some 32 := by kernel_rfl

set_option maxRecDepth 100000 in
set_option maxHeartbeats 4000000 in
theorem bdo_bad (C : Array Value) (z : Nat → Int) (A : Option Addr) (n c : Nat) (w : World) (h : U64s C 32 z) (hr : ¬ recOk z) :
    Calls Tryz.prog 5 #[.agg C, .slice A n c] w fun e w' => e = .returned (.tuple #[.agg #[.int .u64 0, .int .u64 0, .int .u64 0, .int .u64 0, .int .u64 0, .int .u64 0, .int .u64 0, .int .u64 0, .int .u64 0, .int .u64 0, .int .u64 0, .int .u64 0, .int .u64 0, .int .u64 0, .int .u64 0, .int .u64 0, .int .u64 0, .int .u64 0, .int .u64 0, .int .u64 0, .int .u64 0, .int .u64 0, .int .u64 0, .int .u64 0, .int .u64 0, .int .u64 0, .int .u64 0, .int .u64 0, .int .u64 0, .int .u64 0, .int .u64 0, .int .u64 0], .slice none 0 0, .iface 28 (.int .i64 1)]) ∧ Below w.heap.size w w' := by
  have HI : Hid ((Tryz.prog.info? 24).map (·.size) = some C.size) := by show _ = _; rw [infoRB, h.size]
  have HRR := Lib.hid (fun W => recRight_any C z false W h ⟨fun h => Bool.noConfusion h, fun h => absurd h hr⟩)
  have HB := Lib.hid ((Blk.new w 24 C).alloc (.cells #[.int .u64 0, .int .u64 0, .int .u64 0, .int .u64 0, .int .u64 0, .int .u64 0, .int .u64 0, .int .u64 0, .int .u64 0, .int .u64 0, .int .u64 0, .int .u64 0, .int .u64 0, .int .u64 0, .int .u64 0, .int .u64 0, .int .u64 0, .int .u64 0, .int .u64 0, .int .u64 0, .int .u64 0, .int .u64 0, .int .u64 0, .int .u64 0, .int .u64 0, .int .u64 0, .int .u64 0, .int .u64 0, .int .u64 0, .int .u64 0, .int .u64 0, .int .u64 0] 24))
  have HR := Lib.hid (Blk.newAt (w.alloc (.cells C 24)) 24 #[.int .u64 0, .int .u64 0, .int .u64 0, .int .u64 0, .int .u64 0, .int .u64 0, .int .u64 0, .int .u64 0, .int .u64 0, .int .u64 0, .int .u64 0, .int .u64 0, .int .u64 0, .int .u64 0, .int .u64 0, .int .u64 0, .int .u64 0, .int .u64 0, .int .u64 0, .int .u64 0, .int .u64 0, .int .u64 0, .int .u64 0, .int .u64 0, .int .u64 0, .int .u64 0, .int .u64 0, .int .u64 0, .int .u64 0, .int .u64 0, .int .u64 0, .int .u64 0] (n := w.heap.size + 1) (by simp))
  clear h hr
  go_enter Tryz.func5, Tryz.ntmps5
  generalize hQ : bodyPost Tryz.prog Tryz.f5 (fun e w' => e = .returned (.tuple #[.agg #[.int .u64 0, .int .u64 0, .int .u64 0, .int .u64 0, .int .u64 0, .int .u64 0, .int .u64 0, .int .u64 0, .int .u64 0, .int .u64 0, .int .u64 0, .int .u64 0, .int .u64 0, .int .u64 0, .int .u64 0, .int .u64 0, .int .u64 0, .int .u64 0, .int .u64 0, .int .u64 0, .int .u64 0, .int .u64 0, .int .u64 0, .int .u64 0, .int .u64 0, .int .u64 0, .int .u64 0, .int .u64 0, .int .u64 0, .int .u64 0, .int .u64 0, .int .u64 0], .slice none 0 0, .iface 28 (.int .i64 1)]) ∧ Below w.heap.size w w') = Q
  have HQ := Lib.hid hQ
  clear hQ
  go_wp2_with (with_reducible refine fLoad 24 w.heap.size 24 C (by kernel_rfl) HB.out Tryz.underlying24 (by kernel_rfl) HI.out ?_)
  with_reducible refine (HRR.out _).mono ?_
  rintro e w1 ⟨rfl, hb1⟩
  have HR1 := Lib.hid (HR.out.below hb1 HR.out.lt)
  have HW1 : Hid (Below w.heap.size w w1) := Lib.hid (Below.trans (by go_grown) (hb1.mono (by simp; omega)))
  clear hb1
  go_wp2_with (with_reducible refine fStore 24 (w.heap.size + 1) #[.int .u64 0, .int .u64 0, .int .u64 0, .int .u64 0, .int .u64 0, .int .u64 0, .int .u64 0, .int .u64 0, .int .u64 0, .int .u64 0, .int .u64 0, .int .u64 0, .int .u64 0, .int .u64 0, .int .u64 0, .int .u64 0, .int .u64 0, .int .u64 0, .int .u64 0, .int .u64 0, .int .u64 0, .int .u64 0, .int .u64 0, .int .u64 0, .int .u64 0, .int .u64 0, .int .u64 0, .int .u64 0, .int .u64 0, .int .u64 0, .int .u64 0, .int .u64 0] 24 #[.int .u64 0, .int .u64 0, .int .u64 0, .int .u64 0, .int .u64 0, .int .u64 0, .int .u64 0, .int .u64 0, .int .u64 0, .int .u64 0, .int .u64 0, .int .u64 0, .int .u64 0, .int .u64 0, .int .u64 0, .int .u64 0, .int .u64 0, .int .u64 0, .int .u64 0, .int .u64 0, .int .u64 0, .int .u64 0, .int .u64 0, .int .u64 0, .int .u64 0, .int .u64 0, .int .u64 0, .int .u64 0, .int .u64 0, .int .u64 0, .int .u64 0, .int .u64 0] (by kernel_rfl) (by kernel_rfl) HR1.out (by kernel_rfl) (by kernel_rfl) (by kernel_rfl) ?_)
  (try simp only [Exit.inBlock, Exit.then])
  rw [← HQ.out]
  with_reducible refine bodyPost_ret (results_rtt Tryz.results5 _ _ (w.heap.size + 1) 24 #[.int .u64 0, .int .u64 0, .int .u64 0, .int .u64 0, .int .u64 0, .int .u64 0, .int .u64 0, .int .u64 0, .int .u64 0, .int .u64 0, .int .u64 0, .int .u64 0, .int .u64 0, .int .u64 0, .int .u64 0, .int .u64 0, .int .u64 0, .int .u64 0, .int .u64 0, .int .u64 0, .int .u64 0, .int .u64 0, .int .u64 0, .int .u64 0, .int .u64 0, .int .u64 0, .int .u64 0, .int .u64 0, .int .u64 0, .int .u64 0, .int .u64 0, .int .u64 0] _ (.slice none 0 0) (.iface 28 (.int .i64 1)) (by kernel_rfl) (by kernel_rfl) (by kernel_rfl) (Blk.setRow HR1.out _) Tryz.underlying24 (by kernel_rfl) (by kernel_rfl)) (by kernel_rfl) ?_
  exact ⟨rfl, below_setRow HW1.out (by omega) _⟩

set_option maxRecDepth 100000 in
set_option maxHeartbeats 4000000 in
theorem bdo_ok (C : Array Value) (z : Nat → Int) (A : Option Addr) (n c : Nat) (f : Nat → Nat → Int) (w : World) (h : U64s C 32 z) (hr : recOk z) (hs : SlF KA5 w A n c f) (hn : n ≤ 1000) (hg : ErrT w) :
    Calls Tryz.prog 5 #[.agg C, .slice A n c] w (BatOut f z n w) := by
  have HI : Hid ((Tryz.prog.info? 24).map (·.size) = some C.size) := by show _ = _; rw [infoRB, h.size]
  have HRR := Lib.hid (fun W => recRight_any C z true W h ⟨fun _ => hr, fun _ => rfl⟩)
  have HB := Lib.hid ((Blk.new w 24 C).alloc (.cells #[.int .u64 0, .int .u64 0, .int .u64 0, .int .u64 0, .int .u64 0, .int .u64 0, .int .u64 0, .int .u64 0, .int .u64 0, .int .u64 0, .int .u64 0, .int .u64 0, .int .u64 0, .int .u64 0, .int .u64 0, .int .u64 0, .int .u64 0, .int .u64 0, .int .u64 0, .int .u64 0, .int .u64 0, .int .u64 0, .int .u64 0, .int .u64 0, .int .u64 0, .int .u64 0, .int .u64 0, .int .u64 0, .int .u64 0, .int .u64 0, .int .u64 0, .int .u64 0] 24))
  have HR := Lib.hid (Blk.newAt (w.alloc (.cells C 24)) 24 #[.int .u64 0, .int .u64 0, .int .u64 0, .int .u64 0, .int .u64 0, .int .u64 0, .int .u64 0, .int .u64 0, .int .u64 0, .int .u64 0, .int .u64 0, .int .u64 0, .int .u64 0, .int .u64 0, .int .u64 0, .int .u64 0, .int .u64 0, .int .u64 0, .int .u64 0, .int .u64 0, .int .u64 0, .int .u64 0, .int .u64 0, .int .u64 0, .int .u64 0, .int .u64 0, .int .u64 0, .int .u64 0, .int .u64 0, .int .u64 0, .int .u64 0, .int .u64 0] (n := w.heap.size + 1) (by simp))
  have HCU := Lib.hid h
  have HZ := Lib.hid hr
  have HSL := Lib.hid hs
  have HG := Lib.hid hg
  obtain ⟨i0, hi0, hz0, hz1, hz2⟩ := info_deedL
  have HDI := Lib.hid hi0
  have HDZ := Lib.hid hz0
  have HDS := Lib.hid hz1
  have HDY := Lib.hid hz2
  clear h hr hs hg hi0 hz0 hz1 hz2
  go_enter Tryz.func5, Tryz.ntmps5
  generalize hQ : bodyPost Tryz.prog Tryz.f5 (BatOut f z n w) = Q
  have HQ := Lib.hid hQ
  clear hQ
  go_wp2_with (with_reducible refine fLoad 24 w.heap.size 24 C (by kernel_rfl) HB.out Tryz.underlying24 (by kernel_rfl) HI.out ?_)
  with_reducible refine (HRR.out _).mono ?_
  rintro e w1 ⟨rfl, hb1⟩
  have HS1 : Hid (BdSt w f z 0 none 0 C w1) := Lib.hid ⟨HB.out.below hb1 HB.out.lt, HCU.out, HR.out.below hb1 HR.out.lt, OwnR.nil _ _ _ _, Below.trans (by go_grown) (hb1.mono (by simp; omega)), (recOk_iff.1 HZ.out).1, fun j hj => absurd hj (by omega)⟩
  clear hb1 HB HR HI HRR
  go_wp2
  go_loopw [7, 22] (fun d i wr => ∃ k : Nat, k ≤ n ∧ i = .int .i64 k ∧ Hid (BdOk w f z k d wr)) (fun _ i _ => n - (intOf i).toNat)
  case atStart => exact ⟨0, by omega, rfl, Lib.hid ⟨C, none, 0, rfl, HS1.out⟩⟩
  case round =>
    obtain ⟨k, hk, rfl, hst⟩ := hrel
    obtain ⟨D, A1, c1, rfl, hst1⟩ := hst.out
    have HS := Lib.hid hst1
    have HID : Hid ((Tryz.prog.info? 24).map (·.size) = some D.size) := by show _ = _; rw [infoRB, hst1.u.size]
    have HDz : Hid (D.size = 32) := Lib.hid hst1.u.size
    have hW := hst1.below
    have hl0 := hst1.res.lt
    have hdl := bd_len f z k
    clear hst hst1
    by_cases hkn : k < n
    · have q1 : (k : Int) < n := by omega
      obtain ⟨b, off, rfl, hblt, hcell⟩ := HSL.out.at_ (by omega)
      have hcap := HSL.out.cap
      have hc63 := HSL.out.cap63
      have c0 : wr.cell? ⟨b, off + k * 5, none⟩ = some (.int .i64 (f k 0)) := (hW.cell (p := ⟨b, off + k * 5, none⟩) hblt).trans (hcell k 0 hkn (by decide))
      have c1' : wr.cell? ⟨b, off + k * 5 + 1, none⟩ = some (.int .i64 (f k 1)) := (hW.cell (p := ⟨b, off + k * 5 + 1, none⟩) hblt).trans (hcell k 1 hkn (by decide))
      have c2 : wr.cell? ⟨b, off + k * 5 + 2, none⟩ = some (.int .i64 (f k 2)) := (hW.cell (p := ⟨b, off + k * 5 + 2, none⟩) hblt).trans (hcell k 2 hkn (by decide))
      have c3 : wr.cell? ⟨b, off + k * 5 + 3, none⟩ = some (.int .i64 (f k 3)) := (hW.cell (p := ⟨b, off + k * 5 + 3, none⟩) hblt).trans (hcell k 3 hkn (by decide))
      have c4 : wr.cell? ⟨b, off + k * 5 + 4, none⟩ = some (.int .i64 (f k 4)) := (hW.cell (p := ⟨b, off + k * 5 + 4, none⟩) hblt).trans (hcell k 4 hkn (by decide))
      clear hcell
      have HB0 := Lib.hid (HS.out.rcd.alloc (.cells #[.int .i64 (f k 0), .int .i64 (f k 1), .int .i64 (f k 2), .int .i64 (f k 3), .int .i64 (f k 4)] 72))
      have HR0 := Lib.hid (HS.out.res.alloc (.cells #[.int .i64 (f k 0), .int .i64 (f k 1), .int .i64 (f k 2), .int .i64 (f k 3), .int .i64 (f k 4)] 72))
      have HK0 := Lib.hid (Blk.new wr 72 #[.int .i64 (f k 0), .int .i64 (f k 1), .int .i64 (f k 2), .int .i64 (f k 3), .int .i64 (f k 4)])
      have HO0 := Lib.hid (HS.out.own.below (w' := wr.alloc (.cells #[.int .i64 (f k 0), .int .i64 (f k 1), .int .i64 (f k 2), .int .i64 (f k 3), .int .i64 (f k 4)] 72)) (by go_grown))
      have HW0 := Lib.hid (hW.alloc hW.size (.cells #[.int .i64 (f k 0), .int .i64 (f k 1), .int .i64 (f k 2), .int .i64 (f k 3), .int .i64 (f k 4)] 72))
      clear hW
      by_cases ho : openE (f k 0) (f k 1) = 0
      · obtain ⟨r0, r4, rg⟩ := openE_ok ho
        have HOP := Lib.hid (fun W => bopen_good D (bz f z k) (f k) (f k 0) (f k 1) (f k 2) (f k 3) (f k 4) W HS.out.u ho rfl rfl)
        cases hop : askO (bz f z k) (f k)
        · -- it is done already
          rw [hop] at HOP
          have HN : Hid (BdSt w f z (k + 1) A1 c1 D wr) := Lib.hid ⟨HS.out.rcd, by unfold bz askZ; rw [hop]; exact HS.out.u, HS.out.res, by unfold bd; rw [hop]; exact HS.out.own, HS.out.below, by unfold bz askZ; rw [hop]; exact HS.out.right, fun j hj => by
            rcases Nat.lt_or_ge j k with h | h
            · exact HS.out.good j h
            · obtain rfl : j = k := by omega
              have ho' := of_decide_eq_false hop
              unfold askE
              rw [if_neg (by omega), if_neg (by omega), if_pos (by simpa using ho')]⟩
          have HL : Hid ((bd f z (k + 1)).length = (bd f z k).length) := Lib.hid (by rw [bd, if_neg (by rw [hop]; exact Bool.false_ne_true)])
          clear hop ho r0 r4 rg
          generalize f k 0 = x0 at *
          generalize f k 1 = x1 at *
          generalize f k 2 = x2 at *
          generalize f k 3 = x3 at *
          generalize f k 4 = x4 at *
          generalize (bd f z k).length = dn at *
          go_wp2_with (with_reducible refine fLoad 24 w.heap.size 24 D (by kernel_rfl) HB0.out Tryz.underlying24 (by kernel_rfl) HID.out ?_)
          with_reducible refine (HOP.out _).mono ?_
          rintro e w1 ⟨rfl, hb1⟩
          have HN1 : Hid (BdSt w f z (k + 1) A1 c1 D w1) := Lib.hid (by
            have hb : Below wr.heap.size wr w1 := Below.trans (by go_grown) (hb1.mono (by simp))
            exact ⟨HN.out.rcd.below hb HN.out.rcd.lt, HN.out.u, HN.out.res.below hb HN.out.res.lt, HN.out.own.below hb, HN.out.below.trans (hb.mono HN.out.below.size), HN.out.right, HN.out.good⟩)
          clear hb1
          go_wp2
          go_roundw
          case rel => exact ⟨k + 1, by omega, by go_num, Lib.hid ⟨D, A1, c1, by rw [HL.out], HN1.out⟩⟩
          case measure => simp [intOf]; omega
        · rw [hop] at HOP
          by_cases hbad : opRightB (f k 2) (f k 3) (f k 4) = false ∨ 1099511627776 < bz f z k 28
          · -- Done says no
            have HE : Hid (askE (bz f z k) (f k) = 1) := Lib.hid (by
              unfold askE
              rw [if_neg (by omega), if_neg (by omega), if_neg (by simpa using of_decide_eq_true hop), if_pos hbad])
            have HE0 : Hid ((1 : Int) ≠ 0) := Lib.hid (by decide)
            have HDN := Lib.hid (fun W => rdone_no D (bz f z k) (f k 0) (f k 2) (f k 3) (f k 4) W HS.out.u r0 r4 HS.out.right hbad)
            clear hop ho r0 r4 rg hbad
            generalize f k 0 = x0 at *
            generalize f k 1 = x1 at *
            generalize f k 2 = x2 at *
            generalize f k 3 = x3 at *
            generalize f k 4 = x4 at *
            go_wp2_with (with_reducible refine fLoad 24 w.heap.size 24 D (by kernel_rfl) HB0.out Tryz.underlying24 (by kernel_rfl) HID.out ?_)
            with_reducible refine (HOP.out _).mono ?_
            rintro e w1 ⟨rfl, hb1⟩
            have HB1 := Lib.hid (HB0.out.below hb1 HB0.out.lt)
            have HR1 := Lib.hid (HR0.out.below hb1 HR0.out.lt)
            have HK1 := HK0.out.below hb1 HK0.out.lt
            have HW1 := Lib.hid (HW0.out.trans (hb1.mono HW0.out.size))
            have hlr : wr.heap.size < w1.heap.size := HK1.lt
            have k0 := HK1.cell 0
            have k2 := HK1.cell 2
            have k3 := HK1.cell 3
            have k4 := HK1.cell 4
            simp only [List.getElem?_toArray, List.getElem?_cons_zero, List.getElem?_cons_succ] at k0 k2 k3 k4
            clear hb1 HK1
            go_wp2_with (with_reducible refine fLoad 24 w.heap.size 24 D (by kernel_rfl) HB1.out Tryz.underlying24 (by kernel_rfl) HID.out ?_)
            with_reducible refine (HDN.out _).mono ?_
            rintro e w2 ⟨rfl, hb2⟩
            have HB2 := Lib.hid (HB1.out.below hb2 HB1.out.lt)
            have HR2 := Lib.hid (HR1.out.below hb2 HR1.out.lt)
            have HW2 := Lib.hid (HW1.out.trans (hb2.mono HW1.out.size))
            clear hb2
            have HR3 := Lib.hid (HR2.out.far_row (show w.heap.size + 1 ≠ w.heap.size by omega) #[.int .u64 0, .int .u64 0, .int .u64 0, .int .u64 0, .int .u64 0, .int .u64 0, .int .u64 0, .int .u64 0, .int .u64 0, .int .u64 0, .int .u64 0, .int .u64 0, .int .u64 0, .int .u64 0, .int .u64 0, .int .u64 0, .int .u64 0, .int .u64 0, .int .u64 0, .int .u64 0, .int .u64 0, .int .u64 0, .int .u64 0, .int .u64 0, .int .u64 0, .int .u64 0, .int .u64 0, .int .u64 0, .int .u64 0, .int .u64 0, .int .u64 0, .int .u64 0])
            have HW3 := Lib.hid (below_setRow HW2.out (Nat.le_refl _) #[.int .u64 0, .int .u64 0, .int .u64 0, .int .u64 0, .int .u64 0, .int .u64 0, .int .u64 0, .int .u64 0, .int .u64 0, .int .u64 0, .int .u64 0, .int .u64 0, .int .u64 0, .int .u64 0, .int .u64 0, .int .u64 0, .int .u64 0, .int .u64 0, .int .u64 0, .int .u64 0, .int .u64 0, .int .u64 0, .int .u64 0, .int .u64 0, .int .u64 0, .int .u64 0, .int .u64 0, .int .u64 0, .int .u64 0, .int .u64 0, .int .u64 0, .int .u64 0])
            go_wp2_with (with_reducible refine fStore 24 w.heap.size #[.int .u64 0, .int .u64 0, .int .u64 0, .int .u64 0, .int .u64 0, .int .u64 0, .int .u64 0, .int .u64 0, .int .u64 0, .int .u64 0, .int .u64 0, .int .u64 0, .int .u64 0, .int .u64 0, .int .u64 0, .int .u64 0, .int .u64 0, .int .u64 0, .int .u64 0, .int .u64 0, .int .u64 0, .int .u64 0, .int .u64 0, .int .u64 0, .int .u64 0, .int .u64 0, .int .u64 0, .int .u64 0, .int .u64 0, .int .u64 0, .int .u64 0, .int .u64 0] 24 D (by kernel_rfl) (by kernel_rfl) HB2.out (by kernel_rfl) (by rw [HDz.out]; kernel_rfl) (by kernel_rfl) ?_)
            go_wp2_with fail
            with_reducible refine (tell_errno 1 _ (HG.out.below HW3.out)).mono ?_
            rintro e w9 ⟨rfl, hb9⟩
            have HQ9 := Lib.hid (HR3.out.below hb9 HR3.out.lt)
            have HW9 := Lib.hid (HW3.out.trans (hb9.mono HW3.out.size))
            have hl9 : w.heap.size + 1 < w9.heap.size := HQ9.out.lt
            clear hb9
            go_wp2_with (with_reducible refine fStore 24 (w.heap.size + 1) #[.int .u64 0, .int .u64 0, .int .u64 0, .int .u64 0, .int .u64 0, .int .u64 0, .int .u64 0, .int .u64 0, .int .u64 0, .int .u64 0, .int .u64 0, .int .u64 0, .int .u64 0, .int .u64 0, .int .u64 0, .int .u64 0, .int .u64 0, .int .u64 0, .int .u64 0, .int .u64 0, .int .u64 0, .int .u64 0, .int .u64 0, .int .u64 0, .int .u64 0, .int .u64 0, .int .u64 0, .int .u64 0, .int .u64 0, .int .u64 0, .int .u64 0, .int .u64 0] 24 #[.int .u64 0, .int .u64 0, .int .u64 0, .int .u64 0, .int .u64 0, .int .u64 0, .int .u64 0, .int .u64 0, .int .u64 0, .int .u64 0, .int .u64 0, .int .u64 0, .int .u64 0, .int .u64 0, .int .u64 0, .int .u64 0, .int .u64 0, .int .u64 0, .int .u64 0, .int .u64 0, .int .u64 0, .int .u64 0, .int .u64 0, .int .u64 0, .int .u64 0, .int .u64 0, .int .u64 0, .int .u64 0, .int .u64 0, .int .u64 0, .int .u64 0, .int .u64 0] (by kernel_rfl) (by kernel_rfl) (HQ9.out.alloc _) (by kernel_rfl) (by kernel_rfl) (by kernel_rfl) ?_)
            (try simp only [Exit.inBlock, Exit.then])
            rw [← HQ.out]
            with_reducible refine bodyPost_ret (results_rtt Tryz.results5 _ _ (w.heap.size + 1) 24 #[.int .u64 0, .int .u64 0, .int .u64 0, .int .u64 0, .int .u64 0, .int .u64 0, .int .u64 0, .int .u64 0, .int .u64 0, .int .u64 0, .int .u64 0, .int .u64 0, .int .u64 0, .int .u64 0, .int .u64 0, .int .u64 0, .int .u64 0, .int .u64 0, .int .u64 0, .int .u64 0, .int .u64 0, .int .u64 0, .int .u64 0, .int .u64 0, .int .u64 0, .int .u64 0, .int .u64 0, .int .u64 0, .int .u64 0, .int .u64 0, .int .u64 0, .int .u64 0] _ (.slice none 0 0) (.iface 75 (.pointer (some ⟨w9.heap.size, 0, none⟩))) (by kernel_rfl) (by kernel_rfl) (by kernel_rfl) (Blk.setRow (HQ9.out.alloc _) _) Tryz.underlying24 (by kernel_rfl) (by kernel_rfl)) (by kernel_rfl) ?_
            refine ⟨below_setRow (HW9.out.alloc HW9.out.size _) (by omega) _, .inl ⟨k, w9.heap.size, hkn, HS.out.good, ?_, rfl, ?_⟩⟩
            · rw [HE.out]; exact HE0.out
            · rw [HE.out]
              exact Blk.far_row (Blk.new _ _ _) (by omega) _
          · -- it is done
            have hgood : opRightB (f k 2) (f k 3) (f k 4) = true ∧ bz f z k 28 ≤ 1099511627776 := by
              cases hx : opRightB (f k 2) (f k 3) (f k 4)
              · exact absurd (.inl hx) hbad
              · exact ⟨rfl, by omega⟩
            have hro : recOk (bz f z k) := recOk_iff.2 ⟨HS.out.right, hgood.2⟩
            have HDN := Lib.hid (fun W => rdone_yes D (bz f z k) (f k 0) (f k 2) (f k 3) (f k 4) W HS.out.u r0 r4 hro hgood.1)
            have HAN := Lib.hid (fun F W hF => answer_done F (bz f z k) (f k 0) (f k 2) (f k 3) (f k 4) W HS.out.u.bd hF r0 r4 hro hgood.1)
            have HZ1 : Hid (bz f z (k + 1) = dZ (bz f z k) (f k 0).toNat (f k 2) (f k 3) (f k 4)) := Lib.hid (by rw [bz, askZ, if_pos hop])
            have HD1 : Hid (bd f z (k + 1) = bd f z k ++ [deedV (bz f z k) (f k)]) := Lib.hid (by rw [bd, if_pos hop])
            have HV1 : Hid (deedV (bz f z k) (f k) = [.int .i64 (f k 0), .int .i64 (f k 2), .int .i64 (f k 3), .int .i64 (f k 4), .int .i64 (dC (bz f z k) (f k 2) (f k 3) (f k 4)), .int .i64 (dV (bz f z k) (f k 2) (f k 3) (f k 4))]) := Lib.hid rfl
            have HE1 : Hid (recL (bz f z (k + 1)) ∧ ∀ j, j < k + 1 → askE (bz f z j) (f j) = 0) := Lib.hid (by
              have he : askE (bz f z k) (f k) = 0 := by
                unfold askE
                rw [if_neg (by omega), if_neg (by omega)]
                split
                · rfl
                · first | rfl | rw [if_neg hbad]
              refine ⟨by rw [bz]; exact recL_ask HS.out.right HS.out.u.bd he, fun j hj => ?_⟩
              rcases Nat.lt_or_ge j k with h | h
              · exact HS.out.good j h
              · obtain rfl : j = k := by omega
                exact he)
            clear hop ho r0 r4 rg hbad hgood hro
            generalize dC (bz f z k) (f k 2) (f k 3) (f k 4) = co at *
            generalize dV (bz f z k) (f k 2) (f k 3) (f k 4) = va at *
            generalize dZ (bz f z k) (f k 0).toNat (f k 2) (f k 3) (f k 4) = z' at *
            generalize f k 0 = x0 at *
            generalize f k 1 = x1 at *
            generalize f k 2 = x2 at *
            generalize f k 3 = x3 at *
            generalize f k 4 = x4 at *
            have HLn : Hid ((bd f z (k + 1)).length = (bd f z k).length + 1) := Lib.hid (by rw [HD1.out]; simp)
            generalize hdn : (bd f z k).length = dn at *
            clear hdn
            go_wp2_with (with_reducible refine fLoad 24 w.heap.size 24 D (by kernel_rfl) HB0.out Tryz.underlying24 (by kernel_rfl) HID.out ?_)
            with_reducible refine (HOP.out _).mono ?_
            rintro e w1 ⟨rfl, hb1⟩
            have HB1 := Lib.hid (HB0.out.below hb1 HB0.out.lt)
            have HR1 := Lib.hid (HR0.out.below hb1 HR0.out.lt)
            have HO1 := Lib.hid (HO0.out.below hb1)
            have HK1 := Lib.hid (HK0.out.below hb1 HK0.out.lt)
            have HW1 := Lib.hid (HW0.out.trans (hb1.mono HW0.out.size))
            have hlr : wr.heap.size < w1.heap.size := HK1.out.lt
            have k0 := HK1.out.cell 0
            have k2 := HK1.out.cell 2
            have k3 := HK1.out.cell 3
            have k4 := HK1.out.cell 4
            simp only [List.getElem?_toArray, List.getElem?_cons_zero, List.getElem?_cons_succ] at k0 k2 k3 k4
            clear hb1
            go_wp2_with (with_reducible refine fLoad 24 w.heap.size 24 D (by kernel_rfl) HB1.out Tryz.underlying24 (by kernel_rfl) HID.out ?_)
            with_reducible refine (HDN.out _).mono ?_
            rintro e w2 ⟨F, rfl, hF, hb2⟩
            have HF := Lib.hid hF
            have HIF : Hid ((Tryz.prog.info? 24).map (·.size) = some F.size) := by show _ = _; rw [infoRB, hF.size]
            have HFz : Hid (F.size = 32) := Lib.hid hF.size
            have HF1 := Lib.hid hF.one
            have HB2 := Lib.hid (HB1.out.below hb2 HB1.out.lt)
            have hK2 := (HK1.out.below hb2 HK1.out.lt).far_row (show wr.heap.size ≠ w.heap.size by omega) F
            have HK2 := Lib.hid hK2
            have HR2 := Lib.hid ((HR1.out.below hb2 HR1.out.lt).far_row (show w.heap.size + 1 ≠ w.heap.size by omega) F)
            have HW2 := Lib.hid (below_setRow (HW1.out.trans (hb2.mono HW1.out.size)) (Nat.le_refl _) F)
            have HO2 : Hid (OwnR (w2.setRow w.heap.size F) (w.heap.size + 2) 68 6 A1 dn c1 (bd f z k)) := Lib.hid ((HO1.out.below hb2).kept (S := OneB w.heap.size) (keepsRow w2 w.heap.size F) (fun a ha he => by have := (HO1.out.lt a ha).1; unfold OneB at he; omega))
            have HC2 := Lib.hid (Blk.setRow HB2.out F)
            have l0 := hK2.cell 0
            simp only [List.getElem?_toArray, List.getElem?_cons_zero, List.getElem?_cons_succ] at l0
            have hl2 : wr.heap.size < (w2.setRow w.heap.size F).heap.size := hK2.lt
            clear hb2 hF hK2 k0 k2 k3 k4
            go_wp2_with (first
              | (with_reducible refine fStore 24 w.heap.size F 24 D (by kernel_rfl) (by kernel_rfl) HB2.out HIF.out (by rw [HDz.out, HFz.out]) HF1.out ?_)
              | (with_reducible refine fLoad 24 w.heap.size 24 F (by kernel_rfl) HC2.out Tryz.underlying24 (by kernel_rfl) HIF.out ?_))
            generalize hw3 : w2.setRow w.heap.size F = w3 at *
            clear hw3
            with_reducible refine (HAN.out F _ HF.out).mono ?_
            rintro e w4 ⟨y, rfl, hb4⟩
            have hK4 := HK2.out.below hb4 HK2.out.lt
            have HC4 := Lib.hid (HC2.out.below hb4 HC2.out.lt)
            have HR4 := Lib.hid (HR2.out.below hb4 HR2.out.lt)
            have HO4 := Lib.hid (HO2.out.below hb4)
            have HW4 := Lib.hid (HW2.out.trans (hb4.mono HW2.out.size))
            have k0 := hK4.cell 0
            have k2 := hK4.cell 2
            have k3 := hK4.cell 3
            have k4 := hK4.cell 4
            simp only [List.getElem?_toArray, List.getElem?_cons_zero, List.getElem?_cons_succ] at k0 k2 k3 k4
            have hl4 : wr.heap.size < w4.heap.size := hK4.lt
            have hl5 : w.heap.size + 1 < w4.heap.size := HR4.out.lt
            clear hb4 hK4 l0
            go_wp2_with (refine wpList_appendR (.tmp 70) (.tmp 77) rfl rfl Tryz.underlying27 HDI.out HDZ.out HDS.out HDY.out rfl (by decide) (by decide) (B := w.heap.size + 2) (A := A1) (n := dn) (c := c1) (rows := bd f z k) rfl ?own (g := w4.heap.size + 1) (c' := 1) rfl (ys := deedV (bz f z k) (f k)) rfl ?cells ?ones ?small ?base ?_)
            case own => exact (HO4.out.below (by go_grown))
            case cells =>
              intro j hj
              rw [HV1.out]
              rcases (by omega : j = 0 ∨ j = 1 ∨ j = 2 ∨ j = 3 ∨ j = 4 ∨ j = 5) with rfl | rfl | rfl | rfl | rfl | rfl
              all_goals (go_simp; done)
            case ones =>
              intro u hu
              rw [HV1.out] at hu
              simp only [List.mem_cons, List.not_mem_nil, or_false] at hu
              rcases hu with rfl | rfl | rfl | rfl | rfl | rfl <;> rfl
            case small => omega
            case base => simp; omega
            intro g9 cap9 w9 hown9 hk9 hat9
            have hn0 : ¬ SlB A1 w.heap.size := fun ⟨a, ha, hq⟩ => by have := (HS.out.own.lt a ha).1; omega
            have hn1 : ¬ SlB A1 (w.heap.size + 1) := fun ⟨a, ha, hq⟩ => by have := (HS.out.own.lt a ha).1; omega
            have HN1 : Hid (BdSt w f z (k + 1) (some ⟨g9, 0, none⟩) cap9 F w9) := Lib.hid (by
              refine ⟨(hk9.block _ ((HC4.out.alloc _).alloc _).lt hn0).trans ((HC4.out.alloc _).alloc _), by rw [HZ1.out]; exact HF.out, (hk9.block _ ((HR4.out.alloc _).alloc _).lt hn1).trans ((HR4.out.alloc _).alloc _), by rw [HLn.out, HD1.out]; exact hown9, ?_, HE1.out.1, HE1.out.2⟩
              exact ((HW4.out.alloc HW4.out.size _).alloc (by have := HW4.out.size; simp; omega) _).trans (hk9.below (by have := HW4.out.size; simp; omega) (fun b hb ⟨a, ha, hq⟩ => by have := (HS.out.own.lt a ha).1; omega)))
            clear hown9 hk9 hat9 hn0 hn1
            go_wp2
            go_roundw
            case rel => exact ⟨k + 1, by omega, by go_num, Lib.hid ⟨F, _, cap9, by rw [HLn.out], HN1.out⟩⟩
            case measure => simp [intOf]; omega
      · -- Open says no
        have HE : Hid (askE (bz f z k) (f k) = openE (f k 0) (f k 1)) := Lib.hid (askE_bad ho)
        have HE0 : Hid (openE (f k 0) (f k 1) ≠ 0) := Lib.hid ho
        have HOP := Lib.hid (fun W => bopen_bad D (bz f z k) (f k 0) (f k 1) (f k 2) (f k 3) (f k 4) W HS.out.u ho)
        clear ho
        generalize openE (f k 0) (f k 1) = e0 at *
        generalize f k 0 = x0 at *
        generalize f k 1 = x1 at *
        generalize f k 2 = x2 at *
        generalize f k 3 = x3 at *
        generalize f k 4 = x4 at *
        go_wp2_with (with_reducible refine fLoad 24 w.heap.size 24 D (by kernel_rfl) HB0.out Tryz.underlying24 (by kernel_rfl) HID.out ?_)
        with_reducible refine (HOP.out _).mono ?_
        rintro e w1 ⟨rfl, hb1⟩
        have HR3 := Lib.hid (HR0.out.below hb1 HR0.out.lt)
        have HW3 := Lib.hid (HW0.out.trans (hb1.mono HW0.out.size))
        clear hb1
        go_wp2_with fail
        with_reducible refine (tell_errno e0 _ (HG.out.below HW3.out)).mono ?_
        rintro e w9 ⟨rfl, hb9⟩
        have HQ9 := Lib.hid (HR3.out.below hb9 HR3.out.lt)
        have HW9 := Lib.hid (HW3.out.trans (hb9.mono HW3.out.size))
        have hl9 : w.heap.size + 1 < w9.heap.size := HQ9.out.lt
        clear hb9
        go_wp2_with (with_reducible refine fStore 24 (w.heap.size + 1) #[.int .u64 0, .int .u64 0, .int .u64 0, .int .u64 0, .int .u64 0, .int .u64 0, .int .u64 0, .int .u64 0, .int .u64 0, .int .u64 0, .int .u64 0, .int .u64 0, .int .u64 0, .int .u64 0, .int .u64 0, .int .u64 0, .int .u64 0, .int .u64 0, .int .u64 0, .int .u64 0, .int .u64 0, .int .u64 0, .int .u64 0, .int .u64 0, .int .u64 0, .int .u64 0, .int .u64 0, .int .u64 0, .int .u64 0, .int .u64 0, .int .u64 0, .int .u64 0] 24 #[.int .u64 0, .int .u64 0, .int .u64 0, .int .u64 0, .int .u64 0, .int .u64 0, .int .u64 0, .int .u64 0, .int .u64 0, .int .u64 0, .int .u64 0, .int .u64 0, .int .u64 0, .int .u64 0, .int .u64 0, .int .u64 0, .int .u64 0, .int .u64 0, .int .u64 0, .int .u64 0, .int .u64 0, .int .u64 0, .int .u64 0, .int .u64 0, .int .u64 0, .int .u64 0, .int .u64 0, .int .u64 0, .int .u64 0, .int .u64 0, .int .u64 0, .int .u64 0] (by kernel_rfl) (by kernel_rfl) (HQ9.out.alloc _) (by kernel_rfl) (by kernel_rfl) (by kernel_rfl) ?_)
        (try simp only [Exit.inBlock, Exit.then])
        rw [← HQ.out]
        with_reducible refine bodyPost_ret (results_rtt Tryz.results5 _ _ (w.heap.size + 1) 24 #[.int .u64 0, .int .u64 0, .int .u64 0, .int .u64 0, .int .u64 0, .int .u64 0, .int .u64 0, .int .u64 0, .int .u64 0, .int .u64 0, .int .u64 0, .int .u64 0, .int .u64 0, .int .u64 0, .int .u64 0, .int .u64 0, .int .u64 0, .int .u64 0, .int .u64 0, .int .u64 0, .int .u64 0, .int .u64 0, .int .u64 0, .int .u64 0, .int .u64 0, .int .u64 0, .int .u64 0, .int .u64 0, .int .u64 0, .int .u64 0, .int .u64 0, .int .u64 0] _ (.slice none 0 0) (.iface 75 (.pointer (some ⟨w9.heap.size, 0, none⟩))) (by kernel_rfl) (by kernel_rfl) (by kernel_rfl) (Blk.setRow (HQ9.out.alloc _) _) Tryz.underlying24 (by kernel_rfl) (by kernel_rfl)) (by kernel_rfl) ?_
        refine ⟨below_setRow (HW9.out.alloc HW9.out.size _) (by omega) _, .inl ⟨k, w9.heap.size, hkn, HS.out.good, ?_, rfl, ?_⟩⟩
        · rw [HE.out]; exact HE0.out
        · rw [HE.out]
          exact Blk.far_row (Blk.new _ _ _) (by omega) _
    · obtain rfl : k = n := by omega
      have q1 : ¬ (k : Int) < k := by omega
      have b27 := HS.out.u.bd 27 (by omega)
      have h27 := HS.out.right.2.2.2.1
      have c27 := (HS.out.rcd.cell 27).trans (HS.out.u.get 27 (by omega))
      have f27 := HS.out.rcd.frozen 27
      have hUN : U64s (D.setIfInBounds 27 (.int .u64 (bz f z k 27 + 1))) 32 (nextV (bz f z k)) := (HS.out.u.set_ (k := 27) (v := bz f z k 27 + 1) (by omega)).congr (fun i hi => by unfold nextV; by_cases e : i = 27 <;> simp [e])
      obtain ⟨D2, hD2⟩ : ∃ D2, D2 = D.setIfInBounds 27 (.int .u64 (bz f z k 27 + 1)) := ⟨_, rfl⟩
      rw [← hD2] at hUN
      have HU2 := Lib.hid hUN
      have HI2 : Hid ((Tryz.prog.info? 24).map (·.size) = some D2.size) := by show _ = _; rw [infoRB, hUN.size]
      have HS2 : Hid (D2.size = 32) := Lib.hid hUN.size
      have HB2 : Hid (Blk (wr.setCell ⟨w.heap.size, 27, none⟩ (.int .u64 (bz f z k 27 + 1))) w.heap.size 24 D2) := Lib.hid (by rw [hD2]; exact HS.out.rcd.set_ 27 _)
      have HR2 := Lib.hid (Blk.far HS.out.res (p := ⟨w.heap.size, 27, none⟩) (show w.heap.size + 1 ≠ w.heap.size by omega) (.int .u64 (bz f z k 27 + 1)))
      have HO2 := Lib.hid (HS.out.own.kept (keepsCell wr w.heap.size 27 (.int .u64 (bz f z k 27 + 1))) (fun a ha he => by have := (HS.out.own.lt a ha).1; have he' : a.block = w.heap.size := he; omega))
      have HW2 : Hid (Below w.heap.size w (wr.setCell ⟨w.heap.size, 27, none⟩ (.int .u64 (bz f z k 27 + 1)))) := Lib.hid (hW.setCell (p := ⟨w.heap.size, 27, none⟩) (Nat.le_refl _) _)
      have u1 : (bz f z k 27 + 1) % 18446744073709551616 = bz f z k 27 + 1 := by omega
      have u2 : IntKind.u64.wrap (bz f z k 27 + 1) = bz f z k 27 + 1 := IntWalk.u64_in _ (by omega)
      clear hUN hD2
      generalize bz f z k 27 = v27 at *
      generalize hdn : (bd f z k).length = dn at *
      go_wp2_with (first
        | (with_reducible refine fLoad 24 w.heap.size 24 D2 (by kernel_rfl) HB2.out Tryz.underlying24 (by kernel_rfl) HI2.out ?_)
        | (with_reducible refine fStore 24 (w.heap.size + 1) D2 24 #[.int .u64 0, .int .u64 0, .int .u64 0, .int .u64 0, .int .u64 0, .int .u64 0, .int .u64 0, .int .u64 0, .int .u64 0, .int .u64 0, .int .u64 0, .int .u64 0, .int .u64 0, .int .u64 0, .int .u64 0, .int .u64 0, .int .u64 0, .int .u64 0, .int .u64 0, .int .u64 0, .int .u64 0, .int .u64 0, .int .u64 0, .int .u64 0, .int .u64 0, .int .u64 0, .int .u64 0, .int .u64 0, .int .u64 0, .int .u64 0, .int .u64 0, .int .u64 0] (by kernel_rfl) (by kernel_rfl) HR2.out HI2.out (by rw [HS2.out]; kernel_rfl) HU2.out.one ?_))
      (try simp only [Exit.inBlock, Exit.then])
      rw [← HQ.out]
      with_reducible refine bodyPost_ret (results_rtt Tryz.results5 _ _ (w.heap.size + 1) 24 D2 _ (.slice A1 dn c1) .nilIface (by kernel_rfl) (by kernel_rfl) (by kernel_rfl) (Blk.setRow HR2.out _) Tryz.underlying24 (by kernel_rfl) HI2.out) (by kernel_rfl) ?_
      refine ⟨below_setRow HW2.out (by omega) _, .inr ⟨HS.out.good, D2, A1, c1, by rw [hdn], HU2.out, ?_⟩⟩
      rw [hdn]
      exact (HO2.out.kept (keepsRow _ _ _) (fun a ha he => by have := (HO2.out.lt a ha).1; have he' : a.block = w.heap.size + 1 := he; omega)).mono (by omega)
end Go.Proofs.YtkoflhjnpilchaaGreatDoor
