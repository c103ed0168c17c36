/-
  What gristmillref.same returns: for any two lists of words.
  What gristmillref.ThingOf returns: for any kind and any seventeen words.
  What gristmillref.ThingOf, Thing.Cells and object.Right return, at any kind.
-/
import Derived.Test.YtkoflhjnpilchaaGreatDoorProg
import Derived.Test.YtkoflhjnpilchaaGreatDoorMBase
import Derived.Test.YtkoflhjnpilchaaGreatDoorMThing
import Derived.Test.YtkoflhjnpilchaaGreatDoorMObjR
import Derived.Test.YtkoflhjnpilchaaGreatDoorMWord
namespace Go.Proofs.YtkoflhjnpilchaaGreatDoor
set_option linter.unusedSimpArgs false
set_option linter.unusedVariables false
set_option linter.unusedSectionVars false
open Go.RowKit
set_option linter.unusedSimpArgs false
set_option linter.unusedVariables false
attribute [local go_sem ↓] Go.wp_at_zero Go.wp_at_succ

theorem same_any (A B : Option Addr) (n c m d : Nat) (z y : Nat → Int) (w : World) (h : SlU w A n c z) (k : SlU w B m d y) :
    Calls Tryz.prog 26 #[.slice A n c, .slice B m d] w fun e w' => ∃ b, e = .returned (.bool b) ∧ (b = true ↔ n = m ∧ ∀ i, i < n → z i = y i) ∧ Below w.heap.size w w' := by
  have h63 := h.cap63
  have k63 := k.cap63
  have hnc := h.cap
  have kmc := k.cap
  have HX := Lib.hid h
  have HY := Lib.hid k
  clear h k
  go_enter Tryz.func26, Tryz.ntmps26
  go_wp2
  go_loopw [8] (fun i wr => ∃ k : Nat, k ≤ n ∧ k ≤ m ∧ i = .int .i64 k ∧ Below w.heap.size w wr ∧ Hid (∀ j, j < k → z j = y j)) (fun i _ => n - (intOf i).toNat)
  case atStart => exact ⟨0, by omega, by omega, rfl, Below.refl _ _, fun j hj => absurd hj (by omega)⟩
  case round =>
    obtain ⟨k, hk, hkm, rfl, hb, hall⟩ := hrel
    by_cases hkn : k < n
    · have b1 : (k : Int) < n := by omega
      obtain ⟨b, off, rfl, hblt, hcell⟩ := HX.out.at_ (by omega)
      have hc1 : wr.cell? ⟨b, off + k, none⟩ = some (.int .u64 (z k)) := (hb.cell (p := ⟨b, off + k, none⟩) hblt).trans (hcell k hkn)
      clear hcell
      by_cases hk2 : k < m
      · have b2 : (k : Int) < m := by omega
        have d2 : decide ((m : Int) ≤ k) = false := by simp; omega
        obtain ⟨b', off', rfl, hblt', hcell'⟩ := HY.out.at_ (by omega)
        have hc2 : wr.cell? ⟨b', off' + k, none⟩ = some (.int .u64 (y k)) := (hb.cell (p := ⟨b', off' + k, none⟩) hblt').trans (hcell' k hk2)
        clear hcell'
        go_wp2
        go_quiet (fail)
        go_wp2
        · go_ret
          refine ⟨_, rfl, ?_, below_drewN hb _⟩
          constructor
          · intro h; cases h
          · intro h
            have := h.2 k hkn
            simp_all <;> omega
        · go_roundw
          case rel => exact ⟨k + 1, by omega, by omega, by go_num, below_drewN hb _, Lib.hid fun j hj => by
            rcases Nat.lt_or_ge j k with h | h
            · exact hall.out j h
            · obtain rfl : j = k := by omega
              simp_all <;> omega⟩
          case measure => simp [intOf]; omega
      · have d2 : decide ((m : Int) ≤ k) = true := by simp; omega
        go_wp2
        go_quiet (fail)
        go_wp2
        go_ret
        refine ⟨_, rfl, ?_, below_drewN hb _⟩
        constructor
        · intro h; cases h
        · intro h
          exact absurd h.1 (by omega)
    · obtain rfl : k = n := by omega
      go_wp2
      go_ret
      refine ⟨_, rfl, ?_, hb⟩
      constructor
      · intro h
        have h := of_decide_eq_true h
        exact ⟨by omega, hall.out⟩
      · rintro ⟨h, _⟩
        exact decide_eq_true (by omega)
end Go.Proofs.YtkoflhjnpilchaaGreatDoor

namespace Go.Proofs.YtkoflhjnpilchaaGreatDoor
set_option linter.unusedSimpArgs false
set_option linter.unusedVariables false
set_option linter.unusedSectionVars false
open Go.RowKit
set_option linter.unusedSimpArgs false
set_option linter.unusedVariables false
attribute [local go_sem ↓] Go.wp_at_zero Go.wp_at_succ

def tz (kind : Int) : Array Value := #[.int .i64 kind, .slice none 0 0, .int .i64 0, .int .i64 0, .int .i64 0, .int .i64 0, .int .i64 0, .int .i64 0, .int .i64 0, .int .i64 0, .int .i64 0, .int .i64 0, .int .i64 0, .int .i64 0, .int .i64 0, .int .i64 0, .int .i64 0, .int .i64 0, .int .i64 0]
theorem tz_build (kind : Int) (w : World) : (Instr.build 49 #[(0, .int .i64 kind)]).run Tryz.prog w = .ok (.agg (tz kind)) w := by kernel_rfl
theorem tz_thr (kind : Int) : ThR (tz kind) kind none 0 0 (fun _ => 0) 0 := ⟨rfl, rfl, rfl, fun i hi => by
  match i, hi with
  | 0, _ | 1, _ | 2, _ | 3, _ | 4, _ | 5, _ | 6, _ | 7, _ | 8, _ | 9, _ | 10, _ | 11, _ | 12, _ | 13, _ | 14, _ | 15, _ => rfl
  | i + 16, h => omega, rfl⟩
theorem infoTh : (Tryz.prog.info? 49).map (·.size) = some 19 := by kernel_rfl
/-- A thing's cells are each one cell. -/
theorem thr_one {C : Array Value} {kind : Int} {A : Option Addr} {n c : Nat} {d : Nat → Int} {N : Int} (h : ThR C kind A n c d N) : C.all (·.oneCell') = true := by
  rw [Array.all_eq_true]
  intro i hi
  have hs := h.size
  have key : ∀ v, C[i]? = some v → v.oneCell' = true → C[i].oneCell' = true := fun v e hv => by
    rw [Array.getElem?_eq_getElem hi] at e
    rw [Option.some.inj e]; exact hv
  by_cases h0 : i = 0
  · subst h0; exact key _ h.kind_ rfl
  by_cases h1 : i = 1
  · subst h1; exact key _ h.list rfl
  by_cases h2 : i < 18
  · have := h.slot (i - 2) (by omega)
    rw [show 2 + (i - 2) = i by omega] at this
    exact key _ this rfl
  · obtain rfl : i = 18 := by omega
    exact key _ h.num rfl

theorem ThR.setN {C : Array Value} {kind : Int} {A : Option Addr} {n c : Nat} {d : Nat → Int} {N : Int} (h : ThR C kind A n c d N) (N' : Int) : ThR (C.setIfInBounds 18 (.int .i64 N')) kind A n c d N' := by
  have hs := h.size
  refine ⟨by simp [hs], ?_, ?_, fun i hi => ?_, ?_⟩
  · rw [Array.getElem?_setIfInBounds, if_neg (by omega)]; exact h.kind_
  · rw [Array.getElem?_setIfInBounds, if_neg (by omega)]; exact h.list
  · rw [Array.getElem?_setIfInBounds, if_neg (by omega)]; exact h.slot i hi
  · rw [Array.getElem?_setIfInBounds, if_pos rfl, if_pos (by omega)]
theorem ThR.setL {C : Array Value} {kind : Int} {A : Option Addr} {n c : Nat} {d : Nat → Int} {N : Int} (h : ThR C kind A n c d N) (A' : Option Addr) (n' c' : Nat) : ThR (C.setIfInBounds 1 (.slice A' n' c')) kind A' n' c' d N := by
  have hs := h.size
  refine ⟨by simp [hs], ?_, ?_, fun i hi => ?_, ?_⟩
  · rw [Array.getElem?_setIfInBounds, if_neg (by omega)]; exact h.kind_
  · rw [Array.getElem?_setIfInBounds, if_pos rfl, if_pos (by omega)]
  · rw [Array.getElem?_setIfInBounds, if_neg (by omega)]; exact h.slot i hi
  · rw [Array.getElem?_setIfInBounds, if_neg (by omega)]; exact h.num
theorem ThR.setD {C : Array Value} {kind : Int} {A : Option Addr} {n c : Nat} {d : Nat → Int} {N : Int} (h : ThR C kind A n c d N) (j : Nat) (hj : j < 16) (x : Int) : ThR (C.setIfInBounds (2 + j) (.int .i64 x)) kind A n c (fun i => if i = j then x else d i) N := by
  have hs := h.size
  refine ⟨by simp [hs], ?_, ?_, fun i hi => ?_, ?_⟩
  · rw [Array.getElem?_setIfInBounds, if_neg (by omega)]; exact h.kind_
  · rw [Array.getElem?_setIfInBounds, if_neg (by omega)]; exact h.list
  · rw [Array.getElem?_setIfInBounds]
    by_cases e : i = j
    · subst e
      rw [if_pos rfl, if_pos (by omega), if_pos rfl]
    · rw [if_neg (by omega), if_neg e]
      exact h.slot i hi
  · rw [Array.getElem?_setIfInBounds, if_neg (by omega)]; exact h.num
theorem SlU.blk_lt {w : World} {A : Option Addr} {n c : Nat} {z : Nat → Int} (h : SlU w A n c z) (hn : 0 < n) : ∀ a, A = some a → a.block < w.heap.size := fun a ha => by
  obtain ⟨b, off, hA, hlt, _⟩ := h.at_ hn
  rw [ha] at hA
  cases hA
  exact hlt
/-- A slice whose cells another block's write does not touch. -/
theorem SlU.set_far {w : World} {A : Option Addr} {n c : Nat} {z : Nat → Int} (h : SlU w A n c z) {p : Addr} (hp : ∀ a, A = some a → a.block ≠ p.block) (u : Value) : SlU (w.setCell p u) A n c z :=
  ⟨h.cap, h.cap63, h.bd, fun hn => by
    obtain ⟨b, off, rfl, hlt, hc⟩ := h.at_ hn
    refine ⟨b, off, rfl, by simpa using hlt, fun i hi => ?_⟩
    rw [World.cell?_setCell_far _ _ _ _ (show p.block ≠ b from fun e => hp _ rfl e.symm)]
    exact hc i hi⟩
theorem tally_iff {z : Nat → Int} (h : ∀ i, i < 17 → z i ≤ 4294967295) : (∀ i, i < 17 → (if i = 0 then z 0 else 0) = z i) ↔ tallyOk z :=
  ⟨fun h1 => ⟨h 0 (by omega), fun i hi => (h1 i hi).symm⟩, fun h1 i hi => (h1.2 i hi).symm⟩
theorem slots_num {z : Nat → Int} (h0 : ∀ i, i < 17 → 0 ≤ z i) (h : slotsOk z) : ∀ i, i < 17 → z i ≤ 4294967295 := fun i hi => by
  obtain ⟨h1, h2, _⟩ := h
  rcases Nat.lt_or_ge i 16 with h16 | h16
  · have := h1 (i / 2) (by omega)
    unfold pairOk at this
    rcases Nat.mod_two_eq_zero_or_one i with e | e
    · rw [show 2 * (i / 2) = i by omega] at this; omega
    · rw [show 2 * (i / 2) + 1 = i by omega] at this; omega
  · obtain rfl : i = 16 := by omega
    omega
theorem slots_iff {z : Nat → Int} (h : ∀ i, i < 17 → z i ≤ 4294967295) (h0 : ∀ i, i < 17 → 0 ≤ z i) (hr : rightT z = true) : (∀ i, i < 17 → slotK 8 z i = z i) ↔ slotsOk z := by
  constructor
  · intro h1
    refine ⟨fun i hi => ?_, ?_, hr⟩
    · have := slot_bd hr hi
      unfold pairOk
      omega
    · have := h1 16 (by omega)
      unfold slotK at this
      rw [if_neg (by omega)] at this
      exact this.symm
  · rintro ⟨_, h16, _⟩ i hi
    unfold slotK
    by_cases e : i < 2 * 8
    · rw [if_pos e]
    · obtain rfl : i = 16 := by omega
      rw [if_neg e, h16]
theorem ThR.congr {C : Array Value} {kind : Int} {A : Option Addr} {n c : Nat} {d d' : Nat → Int} {N : Int} (h : ThR C kind A n c d N) (e : ∀ i, i < 16 → d' i = d i) : ThR C kind A n c d' N :=
  ⟨h.size, h.kind_, h.list, fun i hi => by rw [e i hi]; exact h.slot i hi, h.num⟩
theorem list_num {z : Nat → Int} (h0 : ∀ i, i < 17 → 0 ≤ z i) (h : listOk z) : ∀ i, i < 17 → z i ≤ 4294967295 := fun i hi => by
  rcases Nat.eq_zero_or_pos i with e | e
  · subst e; have := h.1; omega
  · have := (h.2 (i - 1) (by omega)).1
    rw [Nat.sub_add_cancel e] at this
    exact this
theorem list_iff {z : Nat → Int} {n : Nat} (h : ∀ i, i < 17 → z i ≤ 4294967295) (h0 : ∀ i, i < 17 → 0 ≤ z i) (hn : (z 0).toNat = n) (h6 : n ≤ 6) : (∀ i, i < 17 → listW n (zL z) i = z i) ↔ listOk z := by
  have hz0 : z 0 = n := by have := h0 0 (by omega); omega
  have e : ∀ i, i ≠ 0 → i ≤ n → listW n (zL z) i = z i := fun i h1 h2 => by
    unfold listW zL
    rw [if_neg h1, if_pos h2, hn, upL_get _ _ _ (by omega), Nat.sub_add_cancel (by omega)]
  have e2 : ∀ i, i ≠ 0 → ¬ i ≤ n → listW n (zL z) i = 0 := fun i h1 h2 => by unfold listW; rw [if_neg h1, if_neg h2]
  constructor
  · intro h1
    refine ⟨by omega, fun i hi => ⟨h _ (by omega), fun hni => ?_⟩⟩
    rw [hn] at hni
    rw [← h1 (i + 1) (by omega), e2 _ (by omega) (by omega)]
  · intro h1 i hi
    by_cases hi0 : i = 0
    · subst hi0; rw [hz0]; rfl
    · by_cases hin : i ≤ n
      · exact e i hi0 hin
      · rw [e2 i hi0 hin]
        have := (h1.2 (i - 1) (by omega)).2 (by rw [hn]; omega)
        rw [Nat.sub_add_cancel (by omega)] at this
        exact this.symm
theorem Own.lt' {w : World} {B : Nat} {A : Option Addr} {n c : Nat} {xs : List Int} (h : Own w B A n c xs) (hn : 0 < n) : ∀ a, A = some a → B ≤ a.block ∧ a.block < w.heap.size := fun a ha => by
  obtain ⟨g, hA, h1, h2, _⟩ := h.at_ hn
  rw [ha] at hA
  cases hA
  exact ⟨h1, h2⟩
theorem SlI.setRow {w : World} {A : Option Addr} {n c : Nat} {xs : List Int} (h : SlI w A n c xs) {g : Nat} (hp : 0 < n → ∀ a, A = some a → a.block ≠ g) (cs : Array Value) : SlI (w.setRow g cs) A n c xs :=
  ⟨h.len, h.cap, h.cap63, h.bd, fun hn => by
    obtain ⟨b, off, rfl, hlt, hc⟩ := h.at_ hn
    refine ⟨b, off, rfl, by simpa [World.setRow] using hlt, fun i hi => ?_⟩
    rw [← hc i hi]
    exact World.cell?_of_block (setRow_other w g b cs (by have h9 : b ≠ g := hp hn _ rfl; omega))⟩
/-- One number in a block of its own. -/
def IsS1 (x : Value) : Prop := ∃ g, x = .slice (some ⟨g, 0, none⟩) 1 1
def Is1 (t : TypeId) (v : Int) (x : Value) (w : World) : Prop := ∃ g, x = .slice (some ⟨g, 0, none⟩) 1 1 ∧ Blk w g t #[.int .i64 v]
theorem own_keeps {S : Nat → Prop} {w w' : World} {B : Nat} {A : Option Addr} {n c : Nat} {xs : List Int} (h : Own w B A n c xs) (hk : Keeps S w w') (hS : ∀ b, ¬ S b) : Own w' B A n c xs :=
  World.ownsRow.kept (row := none) h ⟨hk.os, hk.tape, hk.output, hk.size, fun k hlt _ => hk.block k hlt (hS k)⟩ (by
    by_cases ho : (Value.slice A n c).ownBlock = none
    · exact .inl ho
    · exact .inr ho)
def IsSn (n : Nat) (x : Value) : Prop := ∃ A c, x = .slice A n c
def IsOwn (B n : Nat) (xs : List Int) (x : Value) (w : World) : Prop := ∃ A c, x = .slice A n c ∧ Own w B A n c xs
/-- Seventeen words, wherever they lie. -/
def IsS17 (x : Value) : Prop := ∃ g, x = .slice (some ⟨g, 0, none⟩) 17 17
def Is17 (z : Nat → Int) (x : Value) (w : World) : Prop := ∃ g D, x = .slice (some ⟨g, 0, none⟩) 17 17 ∧ Blk w g 22 D ∧ U64s D 17 z
/-- A thing and whether it is one. -/
def ThingOut (b : Bool) (T : Array Value → World → Prop) (w : World) (e : Ending) (w' : World) : Prop :=
  Below w.heap.size w w' ∧ ∃ C, C.size = 19 ∧ C.all (·.oneCell') = true ∧ e = .returned (.tuple #[.agg C, .bool b]) ∧ (b = true → T C w')

set_option maxRecDepth 100000 in
set_option maxHeartbeats 2000000 in
theorem thing_none (A : Option Addr) (c : Nat) (z : Nat → Int) (kind : Int) (w : World) (h : SlU w A 17 c z) (hk : kind < 1 ∨ 6 < kind) :
    Calls Tryz.prog 23 #[.int .i64 kind, .slice A 17 c] w (ThingOut false (fun _ _ => True) w) := by
  have d1 : withinB kind 1 6 = false := by simp [withinB]; omega
  have HW := Lib.hid d1
  have hbu := tz_build
  have HT := Lib.hid (tz_thr kind)
  have HI : Hid ((Tryz.prog.info? 49).map (·.size) = some (tz kind).size) := infoTh
  have HO := Lib.hid (thr_one HT.out)
  clear h d1
  go_enter Tryz.func23, Tryz.ntmps23
  go_wp2_with (refine wpList_store_row rfl 49 _ _ rfl (w.heap.size + 1) (tz kind) rfl rfl 49 (tz 0) ((Blk.newAt _ _ _ (by simp))) HI.out rfl HO.out ?_)
  refine (within_any _ _ _ _).mono ?_
  rintro e W1 ⟨rfl, hW⟩
  rw [HW.out]
  have hB0 : Blk W1 w.heap.size 49 (tz 0) := by
    rw [← hW]
    exact (setRow_other _ _ _ _ (by omega)).trans ((Blk.new _ _ _).alloc _)
  have hB1 : Blk W1 (w.heap.size + 1) 49 (tz kind) := by rw [← hW]; exact Blk.setRow (Blk.newAt _ _ _ (by simp)) _
  have hW1 : Below w.heap.size w W1 := by rw [← hW]; exact below_setRow (by go_grown) (by omega) _
  clear hW HW hbu
  go_wp2_with (first
    | (refine wpList_load_row rfl 49 _ rfl (w.heap.size + 1) rfl 49 (tz kind) (0, 0) _ hB1 Tryz.underlying49 rfl HI.out ?_)
    | (refine wpList_store_row rfl 49 _ _ rfl w.heap.size (tz kind) rfl rfl 49 (tz 0) hB0 HI.out rfl HO.out ?_))
  refine bodyPost_ret (results_row_tmp Tryz.results23 _ _ w.heap.size 49 (tz kind) _ _ rfl rfl (Blk.setRow hB0 (tz kind)) Tryz.underlying49 rfl HI.out) rfl ⟨below_setRow hW1 (Nat.le_refl _) _, (tz kind), HT.out.size, HO.out, rfl, fun h => Bool.noConfusion h⟩

set_option maxRecDepth 100000 in
set_option maxHeartbeats 4000000 in
theorem thing_tally (A : Option Addr) (c : Nat) (z : Nat → Int) (b : Bool) (w : World) (h : SlU w A 17 c z) (hb : b = true ↔ tallyOk z) :
    Calls Tryz.prog 23 #[.int .i64 6, .slice A 17 c] w (ThingOut b (fun C _ => ThR C 6 none 0 0 (fun _ => 0) (z 0)) w) := by
  have d1 : withinB 6 1 6 = true := by simp [withinB]
  have HW := Lib.hid d1
  have hbu := tz_build
  have HT := Lib.hid (tz_thr 6)
  have HI : Hid ((Tryz.prog.info? 49).map (·.size) = some (tz 6).size) := infoTh
  have HO := Lib.hid (thr_one HT.out)
  have H := Lib.hid h
  have HB := Lib.hid hb
  clear h d1 hb
  go_enter Tryz.func23, Tryz.ntmps23
  go_wp2_with (refine wpList_store_row rfl 49 _ _ rfl (w.heap.size + 1) (tz 6) rfl rfl 49 (tz 0) ((Blk.newAt _ _ _ (by simp))) HI.out rfl HO.out ?_)
  refine (within_any _ _ _ _).mono ?_
  rintro e W1 ⟨rfl, hW⟩
  rw [HW.out]
  have hB0 : Blk W1 w.heap.size 49 (tz 0) := by
    rw [← hW]
    exact (setRow_other _ _ _ _ (by omega)).trans ((Blk.new _ _ _).alloc _)
  have hB1 : Blk W1 (w.heap.size + 1) 49 (tz 6) := by rw [← hW]; exact Blk.setRow (Blk.newAt _ _ _ (by simp)) _
  have hW1 : Below w.heap.size w W1 := by rw [← hW]; exact below_setRow (by go_grown) (by omega) _
  clear hW HW hbu
  have hz1 := hB1.lt
  have HS1 := Lib.hid (H.out.below hW1)
  have HG := Lib.hid (H.out.blk_lt (by omega))
  go_wp2
  go_loop [19] (fun i => ∃ k : Nat, k ≤ 17 ∧ i = .int .i64 k ∧ Hid (∀ j, j < k → z j ≤ 4294967295)) (fun i => 17 - (intOf i).toNat)
  case atStart => exact ⟨0, by omega, rfl, Lib.hid fun j hj => absurd hj (by omega)⟩
  case round =>
    obtain ⟨k, hk, rfl, hall⟩ := hrel
    by_cases hk17 : k < 17
    · have q1 : (k : Int) < 17 := by omega
      obtain ⟨g, off, rfl, hglt, hcell⟩ := HS1.out.at_ (by omega)
      have c0 := hcell k hk17
      have bd := HS1.out.bd k hk17
      clear hcell
      generalize hv : z k = v at c0 bd
      have HV := Lib.hid hv
      clear hv
      by_cases hM : v ≤ 4294967295
      · have d2 : decide (4294967295 < v) = false := by simp; omega
        go_wp2
        go_round
        case rel => exact ⟨k + 1, by omega, by go_num, Lib.hid fun j hj => by
          rcases Nat.lt_or_ge j k with h | h
          · exact hall.out j h
          · obtain rfl : j = k := by omega
            rw [HV.out]; exact hM⟩
        case measure => simp [intOf]; omega
      · have d2 : decide (4294967295 < v) = true := by simp; omega
        obtain rfl : b = false := by
          rw [Bool.eq_false_iff]
          intro ht
          have h9 := HB.out.1 ht
          have hv9 := HV.out
          have hlt9 : 4294967295 < z k := by omega
          exact absurd hlt9 (by unfold tallyOk at h9; have a1 := h9.1; have a2 := h9.2 k hk17; split at a2 <;> omega)
        go_wp2_with (first
          | (refine wpList_load_row rfl 49 _ rfl (w.heap.size + 1) rfl 49 (tz 6) (0, 0) _ hB1 Tryz.underlying49 rfl HI.out ?_)
          | (refine wpList_store_row rfl 49 _ _ rfl w.heap.size (tz 6) rfl rfl 49 (tz 0) hB0 HI.out rfl HO.out ?_))
        refine bodyPost_ret (results_row_tmp Tryz.results23 _ _ w.heap.size 49 (tz 6) _ _ rfl rfl (Blk.setRow hB0 (tz 6)) Tryz.underlying49 rfl HI.out) rfl ⟨below_setRow hW1 (Nat.le_refl _) _, (tz 6), HT.out.size, HO.out, rfl, fun h => Bool.noConfusion h⟩
    · obtain rfl : k = 17 := by omega
      have HALL := Lib.hid hall.out
      clear hall
      obtain ⟨g, off, rfl, hglt, hcell⟩ := HS1.out.at_ (by omega)
      have c0 := hcell 0 (by omega)
      have bd := HS1.out.bd 0 (by omega)
      have hM := HALL.out 0 (by omega)
      have hthr := (HT.out.setN (z 0))
      simp only [Nat.add_zero] at c0
      clear hcell
      generalize hv : z 0 = v at c0 bd hM hthr
      have HV := Lib.hid hv
      clear hv
      have hq := hB1.cell 18
      rw [HT.out.num] at hq
      have hf := hB1.frozen 18
      have HC := Lib.hid hthr
      clear hthr
      have HIC : Hid ((Tryz.prog.info? 49).map (·.size) = some ((tz 6).setIfInBounds 18 (.int .i64 v)).size) := infoTh
      have HOC := Lib.hid (thr_one HC.out)
      have HB2 := Lib.hid (hB1.set_ 18 (.int .i64 v))
      have HB20 := Lib.hid (hB0.far (p := ⟨w.heap.size + 1, 18, none⟩) (by simp) (.int .i64 v))
      have HW2 := Lib.hid (hW1.setCell (p := ⟨w.heap.size + 1, 18, none⟩) (by show w.heap.size ≤ w.heap.size + 1; omega) (.int .i64 v))
      have HS2 : Hid (SlU (W1.setCell ⟨w.heap.size + 1, 18, none⟩ (.int .i64 v)) (some ⟨g, off, none⟩) 17 c z) := Lib.hid (HS1.out.set_far (fun a ha => by have := HG.out a ha; show a.block ≠ w.heap.size + 1; omega) _)
      clear hB0 hB1 hW1
      go_wp2_with fail
      generalize W1.setCell ⟨w.heap.size + 1, 18, none⟩ (.int .i64 v) = W2 at *
      refine wp_region_rely 5 nowhere [] (by kernel_rfl) (by kernel_rfl) ?_
      iterate 2
        refine wpRely_step (fun K hK => ?_)
        refine .inl ?_
        apply Exists.intro
        refine ⟨Any, ?_, hK _ _ _ _ ?_⟩
        · simp only [RelyOp, fillE]
          refine ⟨rfl, fun w9 hw9 _ => ?_⟩
          exact relyAt_load_row 49 _ rfl (w.heap.size + 1) rfl 49 ((tz 6).setIfInBounds 18 (.int .i64 v)) _ (HB2.out.below hw9.same HB2.out.lt) Tryz.underlying49 rfl HIC.out ⟨⟨rfl, trivial⟩, Keeps.refl _ _⟩
        clear hK K
        try simp only [Act.put, List.setIfInBounds_toArray, List.set_cons_zero, List.set_cons_succ]
      refine wpRely_step (fun K hK => ?_)
      refine .inr (.inr ⟨IsS17, Is17 (fun i => if i = 0 then v else 0), ⟨_, 0, rfl⟩, ?_, hK _ _ _ _ ?_⟩)
      · simp only [RelyOp, fillE]
        refine ⟨rfl, fun w9 hw9 _ => ?_⟩
        go_simp
        go_at_call 28
        refine (cells_tally _ none 0 0 (fun _ => 0) v _ HC.out (by omega)).mono ?_
        rintro e w10 ⟨g, D, rfl, hb1, hu, hg, hbl⟩
        exact ⟨_, rfl, ⟨⟨g, rfl⟩, ⟨g, D, rfl, hb1, hu⟩⟩, Keeps.of_same hbl⟩
      clear hK K
      try simp only [Act.put, List.setIfInBounds_toArray, List.set_cons_zero, List.set_cons_succ]
      refine wpRely_step (fun K hK => ?_)
      refine .inl ?_
      apply Exists.intro
      refine ⟨Any, ?_, hK _ _ _ _ ?_⟩
      · simp only [RelyOp, fillE]
        rintro _ ⟨g, rfl⟩
        refine ⟨rfl, fun w9 hw9 _ => ?_⟩
        go_simp
        exact ⟨⟨rfl, trivial⟩, Keeps.refl _ _⟩
      clear hK K
      try simp only [Act.put, List.setIfInBounds_toArray, List.set_cons_zero, List.set_cons_succ]
      refine wpRely_step (fun K hK => ?_)
      refine .inl ⟨.bool b, Any, ?_, hK _ _ _ _ ?_⟩
      · simp only [RelyOp, fillE]
        rintro _ ⟨g, rfl⟩
        refine ⟨rfl, fun w9 hw9 hmet => ?_⟩
        obtain ⟨w0, k0, k1, g', D, hv, hblk, hu⟩ := (hmet.2.1 (by kernel_rfl)).out
        cases hv
        go_simp
        go_at_call 26
        refine (same_any _ _ 17 17 17 _ (fun i => if i = 0 then v else 0) z _ (by simpa using SlU.of_blk (n := 17) (c := 17) (o := 0) (hblk.below k1 hblk.lt) hu (by omega) (by omega) (by omega)) (HS2.out.below hw9.same)).mono ?_
        rintro e w10 ⟨b', rfl, hb', hbl⟩
        obtain rfl : b' = b := by
          rw [Bool.eq_iff_iff, hb', HB.out]
          rw [← HV.out]
          exact ⟨fun h => (tally_iff HALL.out).1 h.2, fun h => ⟨rfl, (tally_iff HALL.out).2 h⟩⟩
        exact ⟨_, rfl, ⟨rfl, trivial⟩, Keeps.of_same hbl⟩
      clear hK K
      try simp only [Act.put, List.setIfInBounds_toArray, List.set_cons_zero, List.set_cons_succ]
      refine wpRely_nil ?_
      simp only [fillE]
      rintro _ ⟨g9, rfl⟩ w9 hw9 hmet
      clear hmet
      have HB9 := Lib.hid (HB20.out.below hw9.same HB20.out.lt)
      have HW9 := Lib.hid ((HW2.out).trans (hw9.same.mono (HW2.out).size))
      simp only [List.drop_succ_cons, List.drop_zero]
      go_wp2_with (refine wpList_store_row rfl 49 _ _ rfl w.heap.size ((tz 6).setIfInBounds 18 (.int .i64 v)) rfl rfl 49 (tz 0) HB9.out HIC.out rfl HOC.out ?_)
      refine bodyPost_ret (results_row_tmp Tryz.results23 _ _ w.heap.size 49 ((tz 6).setIfInBounds 18 (.int .i64 v)) _ _ rfl rfl (Blk.setRow HB9.out ((tz 6).setIfInBounds 18 (.int .i64 v))) Tryz.underlying49 rfl HIC.out) rfl ⟨below_setRow HW9.out (Nat.le_refl _) _, ((tz 6).setIfInBounds 18 (.int .i64 v)), HC.out.size, HOC.out, rfl, fun _ => by rw [HV.out]; exact HC.out⟩

set_option maxRecDepth 100000 in
set_option maxHeartbeats 4000000 in
theorem thing_table (A : Option Addr) (c : Nat) (z : Nat → Int) (b : Bool) (w : World) (h : SlU w A 17 c z) (hb : b = true ↔ slotsOk z) :
    Calls Tryz.prog 23 #[.int .i64 5, .slice A 17 c] w (ThingOut b (fun C _ => ThR C 5 none 0 0 z 0) w) := by
  have d1 : withinB 5 1 6 = true := by simp [withinB]
  have HW := Lib.hid d1
  have hbu := tz_build
  have HT := Lib.hid (tz_thr 5)
  have HI : Hid ((Tryz.prog.info? 49).map (·.size) = some (tz 5).size) := infoTh
  have HO := Lib.hid (thr_one HT.out)
  have H := Lib.hid h
  have HB := Lib.hid hb
  clear h d1 hb
  go_enter Tryz.func23, Tryz.ntmps23
  go_wp2_with (refine wpList_store_row rfl 49 _ _ rfl (w.heap.size + 1) (tz 5) rfl rfl 49 (tz 0) ((Blk.newAt _ _ _ (by simp))) HI.out rfl HO.out ?_)
  refine (within_any _ _ _ _).mono ?_
  rintro e W1 ⟨rfl, hW⟩
  rw [HW.out]
  have hB0 : Blk W1 w.heap.size 49 (tz 0) := by
    rw [← hW]
    exact (setRow_other _ _ _ _ (by omega)).trans ((Blk.new _ _ _).alloc _)
  have hB1 : Blk W1 (w.heap.size + 1) 49 (tz 5) := by rw [← hW]; exact Blk.setRow (Blk.newAt _ _ _ (by simp)) _
  have hW1 : Below w.heap.size w W1 := by rw [← hW]; exact below_setRow (by go_grown) (by omega) _
  clear hW HW hbu
  have hz1 := hB1.lt
  have HS1 := Lib.hid (H.out.below hW1)
  have HG := Lib.hid (H.out.blk_lt (by omega))
  go_wp2
  go_loop [19] (fun i => ∃ k : Nat, k ≤ 17 ∧ i = .int .i64 k ∧ Hid (∀ j, j < k → z j ≤ 4294967295)) (fun i => 17 - (intOf i).toNat)
  case atStart => exact ⟨0, by omega, rfl, Lib.hid fun j hj => absurd hj (by omega)⟩
  case round =>
    obtain ⟨k, hk, rfl, hall⟩ := hrel
    by_cases hk17 : k < 17
    · have q1 : (k : Int) < 17 := by omega
      obtain ⟨g, off, rfl, hglt, hcell⟩ := HS1.out.at_ (by omega)
      have c0 := hcell k hk17
      have bd := HS1.out.bd k hk17
      clear hcell
      generalize hv : z k = v at c0 bd
      have HV := Lib.hid hv
      clear hv
      by_cases hM : v ≤ 4294967295
      · have d2 : decide (4294967295 < v) = false := by simp; omega
        go_wp2
        go_round
        case rel => exact ⟨k + 1, by omega, by go_num, Lib.hid fun j hj => by
          rcases Nat.lt_or_ge j k with h | h
          · exact hall.out j h
          · obtain rfl : j = k := by omega
            rw [HV.out]; exact hM⟩
        case measure => simp [intOf]; omega
      · have d2 : decide (4294967295 < v) = true := by simp; omega
        obtain rfl : b = false := by
          rw [Bool.eq_false_iff]
          intro ht
          have h9 := HB.out.1 ht
          have hv9 := HV.out
          have hlt9 : 4294967295 < z k := by omega
          exact absurd hlt9 (by have a1 := slots_num (fun i hi => (H.out.bd i hi).1) h9 k hk17; omega)
        go_wp2_with (first
          | (refine wpList_load_row rfl 49 _ rfl (w.heap.size + 1) rfl 49 (tz 5) (0, 0) _ hB1 Tryz.underlying49 rfl HI.out ?_)
          | (refine wpList_store_row rfl 49 _ _ rfl w.heap.size (tz 5) rfl rfl 49 (tz 0) hB0 HI.out rfl HO.out ?_))
        refine bodyPost_ret (results_row_tmp Tryz.results23 _ _ w.heap.size 49 (tz 5) _ _ rfl rfl (Blk.setRow hB0 (tz 5)) Tryz.underlying49 rfl HI.out) rfl ⟨below_setRow hW1 (Nat.le_refl _) _, (tz 5), HT.out.size, HO.out, rfl, fun h => Bool.noConfusion h⟩
    · obtain rfl : k = 17 := by omega
      have HALL := Lib.hid hall.out
      clear hall
      have HB0 := Lib.hid hB0
      have HZ0 : Hid (ThR (tz 5) 5 none 0 0 (slotK 0 z) 0) := Lib.hid (HT.out.congr fun i hi => by unfold slotK; rw [if_neg (by omega)])
      have HB1 := Lib.hid hB1
      have HWW := Lib.hid hW1
      clear hB0 hB1 hW1
      go_wp2
      go_loopw [63] (fun i wr => ∃ k : Nat, k ≤ 8 ∧ i = .int .i64 k ∧ Hid (∃ C, Blk wr (w.heap.size + 1) 49 C ∧ ThR C 5 none 0 0 (slotK k z) 0) ∧ Hid (Blk wr w.heap.size 49 (tz 0)) ∧ Hid (Below w.heap.size w wr)) (fun i _ => 8 - (intOf i).toNat)
      case atStart => exact ⟨0, by omega, rfl, Lib.hid ⟨_, HB1.out, HZ0.out⟩, HB0, HWW⟩
      case round =>
        obtain ⟨k, hk, rfl, hC, HB0', HWW'⟩ := hrel
        obtain ⟨C, hBC, hTC⟩ := hC.out
        clear hC
        have HBC := Lib.hid hBC
        have HTC := Lib.hid hTC
        clear hBC hTC
        have HSW := Lib.hid (H.out.below HWW'.out)
        by_cases hk8 : k < 8
        · have q1 : (k : Int) < 8 := by omega
          obtain ⟨g, off, rfl, hglt, hcell⟩ := HSW.out.at_ (by omega)
          have c0 : wr.cell? ⟨g, off + 2 * k, none⟩ = some (.int .u64 (z (2 * k))) := hcell (2 * k) (by omega)
          have c1 : wr.cell? ⟨g, off + (2 * k + 1), none⟩ = some (.int .u64 (z (2 * k + 1))) := hcell (2 * k + 1) (by omega)
          have bd0 := HSW.out.bd (2 * k) (by omega)
          have bd1 := HSW.out.bd (2 * k + 1) (by omega)
          have m0 := HALL.out (2 * k) (by omega)
          have m1 := HALL.out (2 * k + 1) (by omega)
          have c63 := HSW.out.cap63
          have hcp := HSW.out.cap
          have s0 : wr.cell? ⟨w.heap.size + 1, 2 + k * 2, none⟩ = some (.int .i64 (slotK k z (2 * k))) := by rw [Nat.mul_comm k 2]; exact (HBC.out.cell _).trans (HTC.out.slot (2 * k) (by omega))
          have s1 : wr.cell? ⟨w.heap.size + 1, 2 + k * 2 + 1, none⟩ = some (.int .i64 (slotK k z (2 * k + 1))) := by rw [Nat.mul_comm k 2, Nat.add_assoc]; exact (HBC.out.cell _).trans (HTC.out.slot (2 * k + 1) (by omega))
          have f0 := HBC.out.frozen (2 + k * 2)
          have f1 := HBC.out.frozen (2 + k * 2 + 1)
          have hlt1 := HBC.out.lt
          have HK : Hid (∀ i, slotK (k + 1) z i = if i = 2 * k + 1 then z (2 * k + 1) else if i = 2 * k then z (2 * k) else slotK k z i) := Lib.hid fun i => by
            rw [slotK_put, Nat.mul_comm k 2]
          clear hcell
          generalize hx : z (2 * k) = x at c0 bd0 m0 HK
          generalize hy : z (2 * k + 1) = y at c1 bd1 m1 HK
          have HX := Lib.hid hx
          have HY := Lib.hid hy
          clear hx hy HB0 HB1 HZ0 HWW HS1
          go_wp2
          go_region
          apply_assumption
          go_wp2
          go_roundw
          case rel => exact ⟨k + 1, by omega, by go_num, Lib.hid ⟨_, (HBC.out.set_ (2 + k * 2) _).set_ (2 + k * 2 + 1) _, by
              have h5 := ((HTC.out.setD (2 * k) (by omega) x).setD (2 * k + 1) (by omega) y).congr (fun i hi => HK.out i)
              rw [show 2 + k * 2 = 2 + 2 * k by omega, show 2 + 2 * k + 1 = 2 + (2 * k + 1) by omega]
              exact h5⟩,
            Lib.hid ((HB0'.out.far (p := ⟨w.heap.size + 1, 2 + k * 2, none⟩) (by simp) _).far (p := ⟨w.heap.size + 1, 2 + k * 2 + 1, none⟩) (by simp) _),
            Lib.hid ((HWW'.out.setCell (p := ⟨w.heap.size + 1, 2 + k * 2, none⟩) (by show w.heap.size ≤ w.heap.size + 1; omega) _).setCell (p := ⟨w.heap.size + 1, 2 + k * 2 + 1, none⟩) (by show w.heap.size ≤ w.heap.size + 1; omega) _).drew⟩
          case measure => simp [intOf]; omega
        · obtain rfl : k = 8 := by omega
          have HC : Hid (ThR C 5 none 0 0 z 0) := Lib.hid (HTC.out.congr fun i hi => by unfold slotK; rw [if_pos (by omega)])
          have HIC : Hid ((Tryz.prog.info? 49).map (·.size) = some C.size) := by show _ = _; rw [infoTh, HC.out.size]
          have HOC := Lib.hid (thr_one HC.out)
          obtain ⟨D, hD⟩ : ∃ D, D = C.extract 2 18 := ⟨_, rfl⟩
          have hI : I64s D 16 z := by
            have hs := HC.out.size
            refine ⟨by rw [hD]; simp; omega, fun i hi => ?_, fun i hi => by have := HALL.out i (by omega); have := H.out.bd i (by omega); omega⟩
            rw [hD, Array.getElem?_extract, if_pos (by omega)]
            exact HC.out.slot i hi
          have HD := Lib.hid hD
          have HDI := Lib.hid hI
          have HDS := Lib.hid hI.size
          clear hD hI HB0 HB1 HZ0 HWW HS1
          obtain ⟨r, hr⟩ : ∃ r, rightT z = r := ⟨_, rfl⟩
          have HR := Lib.hid hr
          clear hr
          go_wp2_with (refine wpList_load_mid rfl 47 _ rfl (w.heap.size + 1) 2 rfl D.toList _ ?hc Tryz.underlying47 rfl ?hi ?_)
          case hc =>
            rw [HD.out]
            exact World.rangeAt_of_block (t := 49) (fr := (0, 0)) HBC.out 2 16
          case hi => rw [info52, Array.length_toList, HDS.out]
          refine (refRight_any D z _ HDI.out).mono ?_
          rintro e W2 ⟨rfl, hb2⟩
          rw [HR.out]
          have HB2 := Lib.hid (HBC.out.below hb2 HBC.out.lt)
          have HB20 := Lib.hid (HB0'.out.below hb2 HB0'.out.lt)
          have HW2 := Lib.hid (HWW'.out.trans (hb2.mono HWW'.out.size))
          have HS2 := Lib.hid (HSW.out.below hb2)
          clear hb2
          cases r
          · obtain rfl : b = false := by
              rw [Bool.eq_false_iff]
              intro ht
              have h9 := (HB.out.1 ht).2.2
              rw [HR.out] at h9
              cases h9
            go_wp2_with (first
              | (refine wpList_load_row rfl 49 _ rfl (w.heap.size + 1) rfl 49 C (0, 0) _ HB2.out Tryz.underlying49 rfl HIC.out ?_)
              | (refine wpList_store_row rfl 49 _ _ rfl w.heap.size C rfl rfl 49 (tz 0) HB20.out HIC.out (by rw [HC.out.size]; rfl) HOC.out ?_))
            refine bodyPost_ret (results_row_tmp Tryz.results23 _ _ w.heap.size 49 C _ _ rfl rfl (Blk.setRow HB20.out C) Tryz.underlying49 rfl HIC.out) rfl ⟨below_setRow HW2.out (Nat.le_refl _) _, C, HC.out.size, HOC.out, rfl, fun h => Bool.noConfusion h⟩
          · go_wp2_with fail
            refine wp_region_rely 5 nowhere [] (by kernel_rfl) (by kernel_rfl) ?_
            iterate 2
              refine wpRely_step (fun K hK => ?_)
              refine .inl ?_
              apply Exists.intro
              refine ⟨Any, ?_, hK _ _ _ _ ?_⟩
              · simp only [RelyOp, fillE]
                refine ⟨rfl, fun w9 hw9 _ => ?_⟩
                exact relyAt_load_row 49 _ rfl (w.heap.size + 1) rfl 49 C _ (HB2.out.below hw9.same HB2.out.lt) Tryz.underlying49 rfl HIC.out ⟨⟨rfl, trivial⟩, Keeps.refl _ _⟩
              clear hK K
              try simp only [Act.put, List.setIfInBounds_toArray, List.set_cons_zero, List.set_cons_succ]
            refine wpRely_step (fun K hK => ?_)
            refine .inr (.inr ⟨IsS17, Is17 (slotK 8 z), ⟨_, 0, rfl⟩, ?_, hK _ _ _ _ ?_⟩)
            · simp only [RelyOp, fillE]
              refine ⟨rfl, fun w9 hw9 _ => ?_⟩
              go_simp
              go_at_call 28
              refine (cells_table _ none 0 0 z 0 _ HC.out (fun i hi => by have := HALL.out i (by omega); have := H.out.bd i (by omega); omega)).mono ?_
              rintro e w10 ⟨g, D, rfl, hb1, hu, hg, hbl⟩
              exact ⟨_, rfl, ⟨⟨g, rfl⟩, ⟨g, D, rfl, hb1, hu⟩⟩, Keeps.of_same hbl⟩
            clear hK K
            try simp only [Act.put, List.setIfInBounds_toArray, List.set_cons_zero, List.set_cons_succ]
            refine wpRely_step (fun K hK => ?_)
            refine .inl ?_
            apply Exists.intro
            refine ⟨Any, ?_, hK _ _ _ _ ?_⟩
            · simp only [RelyOp, fillE]
              rintro _ ⟨g, rfl⟩
              refine ⟨rfl, fun w9 hw9 _ => ?_⟩
              go_simp
              exact ⟨⟨rfl, trivial⟩, Keeps.refl _ _⟩
            clear hK K
            try simp only [Act.put, List.setIfInBounds_toArray, List.set_cons_zero, List.set_cons_succ]
            refine wpRely_step (fun K hK => ?_)
            refine .inl ⟨.bool b, Any, ?_, hK _ _ _ _ ?_⟩
            · simp only [RelyOp, fillE]
              rintro _ ⟨g, rfl⟩
              refine ⟨rfl, fun w9 hw9 hmet => ?_⟩
              obtain ⟨w0, k0, k1, g', D, hv, hblk, hu⟩ := (hmet.2.1 (by kernel_rfl)).out
              cases hv
              go_simp
              go_at_call 26
              refine (same_any _ _ 17 17 17 _ (slotK 8 z) z _ (by simpa using SlU.of_blk (n := 17) (c := 17) (o := 0) (hblk.below k1 hblk.lt) hu (by omega) (by omega) (by omega)) (HS2.out.below hw9.same)).mono ?_
              rintro e w10 ⟨b', rfl, hb', hbl⟩
              obtain rfl : b' = b := by
                rw [Bool.eq_iff_iff, hb', HB.out]
                exact ⟨fun h => (slots_iff HALL.out (fun i hi => (H.out.bd i hi).1) HR.out).1 h.2, fun h => ⟨rfl, (slots_iff HALL.out (fun i hi => (H.out.bd i hi).1) HR.out).2 h⟩⟩
              exact ⟨_, rfl, ⟨rfl, trivial⟩, Keeps.of_same hbl⟩
            clear hK K
            try simp only [Act.put, List.setIfInBounds_toArray, List.set_cons_zero, List.set_cons_succ]
            refine wpRely_nil ?_
            simp only [fillE]
            rintro _ ⟨g9, rfl⟩ w9 hw9 hmet
            clear hmet
            have HB9 := Lib.hid (HB20.out.below hw9.same HB20.out.lt)
            have HW9 := Lib.hid ((HW2.out).trans (hw9.same.mono (HW2.out).size))
            simp only [List.drop_succ_cons, List.drop_zero]
            go_wp2_with (refine wpList_store_row rfl 49 _ _ rfl w.heap.size C rfl rfl 49 (tz 0) HB9.out HIC.out (by rw [HC.out.size]; rfl) HOC.out ?_)
            refine bodyPost_ret (results_row_tmp Tryz.results23 _ _ w.heap.size 49 C _ _ rfl rfl (Blk.setRow HB9.out C) Tryz.underlying49 rfl HIC.out) rfl ⟨below_setRow HW9.out (Nat.le_refl _) _, C, HC.out.size, HOC.out, rfl, fun _ => HC.out⟩

set_option maxRecDepth 100000 in
set_option maxHeartbeats 4000000 in
theorem thing_heap (A : Option Addr) (c : Nat) (z : Nat → Int) (b : Bool) (w : World) (h : SlU w A 17 c z) (hb : b = true ↔ listOk z ∧ heapR (zL z) = true) :
    Calls Tryz.prog 23 #[.int .i64 4, .slice A 17 c] w (ThingOut b (fun C w' => ∃ A c, ThR C 4 A (z 0).toNat c (fun _ => 0) 0 ∧ SlO w' w.heap.size A (z 0).toNat c (zL z)) w) := by
  have d1 : withinB 4 1 6 = true := by simp [withinB]
  have HW := Lib.hid d1
  have hbu := tz_build
  have HT := Lib.hid (tz_thr 4)
  have HI : Hid ((Tryz.prog.info? 49).map (·.size) = some (tz 4).size) := infoTh
  have HO := Lib.hid (thr_one HT.out)
  have H := Lib.hid h
  have HB := Lib.hid hb
  clear h d1 hb
  go_enter Tryz.func23, Tryz.ntmps23
  go_wp2_with (refine wpList_store_row rfl 49 _ _ rfl (w.heap.size + 1) (tz 4) rfl rfl 49 (tz 0) ((Blk.newAt _ _ _ (by simp))) HI.out rfl HO.out ?_)
  refine (within_any _ _ _ _).mono ?_
  rintro e W1 ⟨rfl, hW⟩
  rw [HW.out]
  have hB0 : Blk W1 w.heap.size 49 (tz 0) := by
    rw [← hW]
    exact (setRow_other _ _ _ _ (by omega)).trans ((Blk.new _ _ _).alloc _)
  have hB1 : Blk W1 (w.heap.size + 1) 49 (tz 4) := by rw [← hW]; exact Blk.setRow (Blk.newAt _ _ _ (by simp)) _
  have hW1 : Below w.heap.size w W1 := by rw [← hW]; exact below_setRow (by go_grown) (by omega) _
  clear hW HW hbu
  have hz1 := hB1.lt
  have HS1 := Lib.hid (H.out.below hW1)
  have HG := Lib.hid (H.out.blk_lt (by omega))
  go_wp2
  go_loop [19] (fun i => ∃ k : Nat, k ≤ 17 ∧ i = .int .i64 k ∧ Hid (∀ j, j < k → z j ≤ 4294967295)) (fun i => 17 - (intOf i).toNat)
  case atStart => exact ⟨0, by omega, rfl, Lib.hid fun j hj => absurd hj (by omega)⟩
  case round =>
    obtain ⟨k, hk, rfl, hall⟩ := hrel
    by_cases hk17 : k < 17
    · have q1 : (k : Int) < 17 := by omega
      obtain ⟨g, off, rfl, hglt, hcell⟩ := HS1.out.at_ (by omega)
      have c0 := hcell k hk17
      have bd := HS1.out.bd k hk17
      clear hcell
      generalize hv : z k = v at c0 bd
      have HV := Lib.hid hv
      clear hv
      by_cases hM : v ≤ 4294967295
      · have d2 : decide (4294967295 < v) = false := by simp; omega
        go_wp2
        go_round
        case rel => exact ⟨k + 1, by omega, by go_num, Lib.hid fun j hj => by
          rcases Nat.lt_or_ge j k with h | h
          · exact hall.out j h
          · obtain rfl : j = k := by omega
            rw [HV.out]; exact hM⟩
        case measure => simp [intOf]; omega
      · have d2 : decide (4294967295 < v) = true := by simp; omega
        obtain rfl : b = false := by
          rw [Bool.eq_false_iff]
          intro ht
          have h9 := HB.out.1 ht
          have hv9 := HV.out
          have hlt9 : 4294967295 < z k := by omega
          exact absurd hlt9 (by have a1 := list_num (fun i hi => (H.out.bd i hi).1) h9.1 k hk17; omega)
        go_wp2_with (first
          | (refine wpList_load_row rfl 49 _ rfl (w.heap.size + 1) rfl 49 (tz 4) (0, 0) _ hB1 Tryz.underlying49 rfl HI.out ?_)
          | (refine wpList_store_row rfl 49 _ _ rfl w.heap.size (tz 4) rfl rfl 49 (tz 0) hB0 HI.out rfl HO.out ?_))
        refine bodyPost_ret (results_row_tmp Tryz.results23 _ _ w.heap.size 49 (tz 4) _ _ rfl rfl (Blk.setRow hB0 (tz 4)) Tryz.underlying49 rfl HI.out) rfl ⟨below_setRow hW1 (Nat.le_refl _) _, (tz 4), HT.out.size, HO.out, rfl, fun h => Bool.noConfusion h⟩
    · obtain rfl : k = 17 := by omega
      have HALL := Lib.hid hall.out
      clear hall
      have HB0 := Lib.hid hB0
      have HB1 := Lib.hid hB1
      have HWW := Lib.hid hW1
      clear hB0 hB1 hW1
      obtain ⟨n0, hn0⟩ := Int.eq_ofNat_of_zero_le (H.out.bd 0 (by omega)).1
      have HN := Lib.hid hn0
      clear hn0
      obtain ⟨gA, oA, rfl, hglt, hcell⟩ := HS1.out.at_ (by omega)
      have c0 : W1.cell? ⟨gA, oA, none⟩ = some (.int .u64 (n0 : Int)) := by rw [← HN.out]; exact hcell 0 (by omega)
      clear hcell
      have hgA : gA < w.heap.size := HG.out _ rfl
      by_cases h6 : n0 ≤ 6
      · have d6 : decide (6 < (n0 : Int)) = false := by simp; omega
        go_wp2
        clear c0
        go_loopw [37] (fun i wr => ∃ k : Nat, k ≤ n0 ∧ i = .int .i64 k ∧ Hid (∃ C A' c', Blk wr (w.heap.size + 1) 49 C ∧ ThR C 4 A' k c' (fun _ => 0) 0 ∧ Own wr (w.heap.size + 2) A' k c' (upL z k)) ∧ Hid (Blk wr w.heap.size 49 (tz 0)) ∧ Hid (Below w.heap.size w wr)) (fun i _ => n0 - (intOf i).toNat)
        case atStart => exact ⟨0, by omega, rfl, Lib.hid ⟨_, none, 0, HB1.out, HT.out, Own.nil _ _⟩, HB0, HWW⟩
        case round =>
          obtain ⟨k, hk, rfl, hC, HB0', HWW'⟩ := hrel
          obtain ⟨C, A', c', hBC, hTC, hown⟩ := hC.out
          clear hC
          have HBC := Lib.hid hBC
          have HTC := Lib.hid hTC
          have HO' := Lib.hid hown
          clear hBC hTC hown
          have HSW := Lib.hid (H.out.below HWW'.out)
          by_cases hkn : k < n0
          · have q1 : (k : Int) < n0 := by omega
            have hglt' : gA < wr.heap.size := by have := HWW'.out.size; omega
            have c1 : wr.cell? ⟨gA, oA + (k + 1), none⟩ = some (.int .u64 (z (k + 1))) := by
              obtain ⟨g2, o2, he, _, hc⟩ := HSW.out.at_ (by omega)
              cases he
              exact hc (k + 1) (by omega)
            have l1 : wr.cell? ⟨w.heap.size + 1, 1, none⟩ = some (.slice A' k c') := (HBC.out.cell 1).trans HTC.out.list
            have f1 := HBC.out.frozen 1
            have bd := HSW.out.bd (k + 1) (by omega)
            have m1 := HALL.out (k + 1) (by omega)
            have hlt1 := HBC.out.lt
            have hsz2 : w.heap.size + 2 ≤ wr.heap.size := by omega
            have c63 := HSW.out.cap63
            have hcp := HSW.out.cap
            have e0 : (0 : Int) ≤ (k : Int) + 1 := by omega
            have e1 : (k : Int) + 1 < 17 := by omega
            have ew : IntKind.i64.wrap ((k : Int) + 1) = ((k + 1 : Nat) : Int) := by rw [IntWalk.i64_in _ (by omega)]; omega
            generalize hv : z (k + 1) = v at c1 bd m1
            have HV := Lib.hid hv
            have ev : IntKind.i64.wrap v = v := IntWalk.i64_in _ (by omega)
            clear hv HB0 HB1 HWW HS1
            go_wp2
            refine wp_region_rely 11 (fun b => w.heap.size + 2 ≤ b) [9] (by kernel_rfl) (by kernel_rfl) ?_
            iterate 8
              refine wpRely_step (fun K hK => ?_)
              refine .inl ?_
              apply Exists.intro
              refine ⟨Any, ?_, hK _ _ _ _ ?_⟩
              · simp only [RelyOp, fillE]
                refine ⟨rfl, fun w9 hw9 _ => ?_⟩
                have l9 := (hw9.cell (p := ⟨w.heap.size + 1, 1, none⟩) hlt1 (by show ¬ (w.heap.size + 2 ≤ w.heap.size + 1); omega)).trans l1
                have c9 := (hw9.cell (p := ⟨gA, oA + (k + 1), none⟩) hglt' (by show ¬ (w.heap.size + 2 ≤ gA); omega)).trans c1
                go_simp
                exact ⟨⟨rfl, trivial⟩, Keeps.refl _ _⟩
              clear hK K
              try simp only [Act.put, List.setIfInBounds_toArray, List.set_cons_zero, List.set_cons_succ]
            refine wpRely_step (fun K hK => ?_)
            refine .inr (.inr ⟨IsS1, Is1 3 v, ⟨_, 0, rfl⟩, ?_, hK _ _ _ _ ?_⟩)
            · simp only [RelyOp, fillE]
              refine ⟨rfl, fun w9 hw9 _ => ?_⟩
              go_simp
              exact ⟨⟨⟨_, rfl⟩, _, rfl, by simpa only [ev] using Blk.new w9 3 #[.int .i64 (IntKind.i64.wrap v)]⟩, Keeps.of_same ((Below.refl _ _).alloc (Nat.le_refl _) _)⟩
            clear hK K
            try simp only [Act.put, List.setIfInBounds_toArray, List.set_cons_zero, List.set_cons_succ]
            refine wpRely_step (fun K hK => ?_)
            refine .inr (.inr ⟨IsSn (k + 1), IsOwn (w.heap.size + 2) (k + 1) (upL z (k + 1)), ⟨_, none, 0, rfl⟩, ?_, hK _ _ _ _ ?_⟩)
            · simp only [RelyOp, fillE]
              rintro _ ⟨g, rfl⟩
              refine ⟨rfl, fun w9 hw9 hmet => ?_⟩
              obtain ⟨w0, k0, k1, g', hv, hblk⟩ := hmet.2.1 (by kernel_rfl)
              cases hv
              have hs9 := hw9.size
              refine relyAt_append1 (.tmp 41) (.tmp 48) rfl (A := A') (n := k) (c := c') rfl (own_keeps HO'.out hmet.1 (fun b h => calm_out h (by kernel_rfl))) rfl ((k1.cell (p := ⟨g, 0, none⟩) hblk.lt (fun h => calm_out h (by kernel_rfl))).trans (hblk.cell 0)) (by omega) (by omega) ?_
              intro g' cap w' ho hb
              refine ⟨⟨⟨_, _, rfl⟩, _, _, rfl, ?_⟩, (Keeps.of_below hb).mono fun b h => ⟨rfl, h⟩⟩
              rw [upL_succ, HV.out]
              exact ho
            clear hK K
            try simp only [Act.put, List.setIfInBounds_toArray, List.set_cons_zero, List.set_cons_succ]
            refine wpRely_step (fun K hK => ?_)
            refine .inl ?_
            apply Exists.intro
            refine ⟨Any, ?_, hK _ _ _ _ ?_⟩
            · simp only [RelyOp, fillE]
              rintro _ ⟨A2, c2, rfl⟩ _ ⟨g2, rfl⟩
              refine ⟨rfl, fun w9 hw9 _ => ?_⟩
              go_simp
              exact ⟨⟨rfl, trivial⟩, Keeps.refl _ _⟩
            clear hK K
            try simp only [Act.put, List.setIfInBounds_toArray, List.set_cons_zero, List.set_cons_succ]
            refine wpRely_nil ?_
            simp only [fillE]
            rintro _ ⟨A2, c2, rfl⟩ _ ⟨g2, rfl⟩ w9 hw9 hmet
            obtain ⟨w0, k0, k1, A8, c8, hv8, hown⟩ := hmet.2.1 rfl
            cases hv8
            have HO2 := Lib.hid (own_keeps hown k1 (fun b h => calm_out h (by kernel_rfl)))
            have hB9 : Blk w9 (w.heap.size + 1) 49 C := (hw9.block _ hlt1 (by show ¬ (w.heap.size + 2 ≤ w.heap.size + 1); omega)).trans HBC.out
            have HB90 : Hid (Blk w9 w.heap.size 49 (tz 0)) := Lib.hid ((hw9.block _ HB0'.out.lt (by show ¬ (w.heap.size + 2 ≤ w.heap.size); omega)).trans HB0'.out)
            have HW9 := Lib.hid (HWW'.out.trans (hw9.below HWW'.out.size (fun b hb h => by omega)))
            have l9 : w9.cell? ⟨w.heap.size + 1, 1, none⟩ = some (.slice A' k c') := (hB9.cell 1).trans HTC.out.list
            have f9 := hB9.frozen 1
            have HB9 := Lib.hid hB9
            clear hmet hown k0 k1 hB9 l1 f1 c1 ew ev
            go_wp2
            go_roundw
            case rel => exact ⟨k + 1, by omega, by go_num, Lib.hid ⟨_, A2, c2, HB9.out.set_ 1 _, HTC.out.setL A2 (k + 1) c2, HO2.out.far (p := ⟨w.heap.size + 1, 1, none⟩) (by show w.heap.size + 1 < w.heap.size + 2; omega) _⟩,
              Lib.hid (HB90.out.far (p := ⟨w.heap.size + 1, 1, none⟩) (by simp) _), Lib.hid (HW9.out.setCell (p := ⟨w.heap.size + 1, 1, none⟩) (by show w.heap.size ≤ w.heap.size + 1; omega) _)⟩
            case measure => simp [intOf]; omega
          · obtain rfl : k = n0 := by omega
            have HXS : Hid (upL z k = zL z) := Lib.hid (by unfold zL; rw [HN.out]; rfl)
            have HNN : Hid ((z 0).toNat = k) := Lib.hid (by rw [HN.out]; rfl)
            have HSL : Hid (SlI wr A' k c' (zL z)) := Lib.hid (by
              have h5 := HO'.out
              rw [HXS.out] at h5
              exact SlI.of_own h5 (fun i => by
                rw [← HXS.out]
                by_cases hi : i < k
                · rw [upL_get z _ i hi]
                  have a1 := HALL.out (i + 1) (by omega)
                  have a2 := H.out.bd (i + 1) (by omega)
                  omega
                · rw [List.getElem?_eq_none (by rw [upL_len]; omega)]
                  decide))
            have HIC : Hid ((Tryz.prog.info? 49).map (·.size) = some C.size) := by show _ = _; rw [infoTh, HTC.out.size]
            have HOC := Lib.hid (thr_one HTC.out)
            have l1 : wr.cell? ⟨w.heap.size + 1, 1, none⟩ = some (.slice A' k c') := (HBC.out.cell 1).trans HTC.out.list
            clear HB0 HB1 HWW HS1
            obtain ⟨r, hr⟩ : ∃ r, heapR (zL z) = r := ⟨_, rfl⟩
            have HR := Lib.hid hr
            clear hr
            go_wp2_with fail
            refine (refHeapRight_any A' k c' (zL z) _ HSL.out (by omega)).mono ?_
            rintro e W2 ⟨rfl, hb2⟩
            rw [HR.out]
            have HB2 := Lib.hid (HBC.out.below hb2 HBC.out.lt)
            have HB20 := Lib.hid (HB0'.out.below hb2 HB0'.out.lt)
            have HW2 := Lib.hid (HWW'.out.trans (hb2.mono HWW'.out.size))
            have HS2 := Lib.hid (HSW.out.below hb2)
            have HSL2 := Lib.hid (HSL.out.below hb2)
            clear hb2 l1
            cases r
            · obtain rfl : b = false := by
                rw [Bool.eq_false_iff]
                intro ht
                have h9 := (HB.out.1 ht).2
                rw [HR.out] at h9
                cases h9
              go_wp2_with (first
                | (refine wpList_load_row rfl 49 _ rfl (w.heap.size + 1) rfl 49 C (0, 0) _ HB2.out Tryz.underlying49 rfl HIC.out ?_)
                | (refine wpList_store_row rfl 49 _ _ rfl w.heap.size C rfl rfl 49 (tz 0) HB20.out HIC.out (by rw [HTC.out.size]; rfl) HOC.out ?_))
              refine bodyPost_ret (results_row_tmp Tryz.results23 _ _ w.heap.size 49 C _ _ rfl rfl (Blk.setRow HB20.out C) Tryz.underlying49 rfl HIC.out) rfl ⟨below_setRow HW2.out (Nat.le_refl _) _, C, HTC.out.size, HOC.out, rfl, fun h => Bool.noConfusion h⟩
            · go_wp2_with fail
              refine wp_region_rely 5 nowhere [] (by kernel_rfl) (by kernel_rfl) ?_
              iterate 2
                refine wpRely_step (fun K hK => ?_)
                refine .inl ?_
                apply Exists.intro
                refine ⟨Any, ?_, hK _ _ _ _ ?_⟩
                · simp only [RelyOp, fillE]
                  refine ⟨rfl, fun w9 hw9 _ => ?_⟩
                  exact relyAt_load_row 49 _ rfl (w.heap.size + 1) rfl 49 C _ (HB2.out.below hw9.same HB2.out.lt) Tryz.underlying49 rfl HIC.out ⟨⟨rfl, trivial⟩, Keeps.refl _ _⟩
                clear hK K
                try simp only [Act.put, List.setIfInBounds_toArray, List.set_cons_zero, List.set_cons_succ]
              refine wpRely_step (fun K hK => ?_)
              refine .inr (.inr ⟨IsS17, Is17 (listW k (zL z)), ⟨_, 0, rfl⟩, ?_, hK _ _ _ _ ?_⟩)
              · simp only [RelyOp, fillE]
                refine ⟨rfl, fun w9 hw9 _ => ?_⟩
                go_simp
                go_at_call 28
                refine (cells_list _ 4 A' k c' (zL z) (fun _ => 0) 0 _ HTC.out (HSL2.out.below hw9.same) (by omega) (fun i hi => by rw [← HXS.out, upL_get z _ i hi]; exact (H.out.bd (i + 1) (by omega)).1) (by decide) (by decide)).mono ?_
                rintro e w10 ⟨g, D, rfl, hb1, hu, hg, hbl⟩
                exact ⟨_, rfl, ⟨⟨g, rfl⟩, ⟨g, D, rfl, hb1, hu⟩⟩, Keeps.of_same hbl⟩
              clear hK K
              try simp only [Act.put, List.setIfInBounds_toArray, List.set_cons_zero, List.set_cons_succ]
              refine wpRely_step (fun K hK => ?_)
              refine .inl ?_
              apply Exists.intro
              refine ⟨Any, ?_, hK _ _ _ _ ?_⟩
              · simp only [RelyOp, fillE]
                rintro _ ⟨g, rfl⟩
                refine ⟨rfl, fun w9 hw9 _ => ?_⟩
                go_simp
                exact ⟨⟨rfl, trivial⟩, Keeps.refl _ _⟩
              clear hK K
              try simp only [Act.put, List.setIfInBounds_toArray, List.set_cons_zero, List.set_cons_succ]
              refine wpRely_step (fun K hK => ?_)
              refine .inl ⟨.bool b, Any, ?_, hK _ _ _ _ ?_⟩
              · simp only [RelyOp, fillE]
                rintro _ ⟨g, rfl⟩
                refine ⟨rfl, fun w9 hw9 hmet => ?_⟩
                obtain ⟨w0, k0, k1, g', D, hv, hblk, hu⟩ := (hmet.2.1 (by kernel_rfl)).out
                cases hv
                go_simp
                go_at_call 26
                refine (same_any _ _ 17 17 17 _ (listW k (zL z)) z _ (by simpa using SlU.of_blk (n := 17) (c := 17) (o := 0) (hblk.below k1 hblk.lt) hu (by omega) (by omega) (by omega)) (HS2.out.below hw9.same)).mono ?_
                rintro e w10 ⟨b', rfl, hb', hbl⟩
                obtain rfl : b' = b := by
                  rw [Bool.eq_iff_iff, hb', HB.out]
                  exact ⟨fun h => ⟨(list_iff HALL.out (fun i hi => (H.out.bd i hi).1) HNN.out (by omega)).1 h.2, HR.out⟩, fun h => ⟨rfl, (list_iff HALL.out (fun i hi => (H.out.bd i hi).1) HNN.out (by omega)).2 h.1⟩⟩
                exact ⟨_, rfl, ⟨rfl, trivial⟩, Keeps.of_same hbl⟩
              clear hK K
              try simp only [Act.put, List.setIfInBounds_toArray, List.set_cons_zero, List.set_cons_succ]
              refine wpRely_nil ?_
              simp only [fillE]
              rintro _ ⟨g9, rfl⟩ w9 hw9 hmet
              clear hmet
              have HB9 := Lib.hid (HB20.out.below hw9.same HB20.out.lt)
              have HW9 := Lib.hid ((HW2.out).trans (hw9.same.mono (HW2.out).size))
              simp only [List.drop_succ_cons, List.drop_zero]
              go_wp2_with (refine wpList_store_row rfl 49 _ _ rfl w.heap.size C rfl rfl 49 (tz 0) HB9.out HIC.out (by rw [HTC.out.size]; rfl) HOC.out ?_)
              refine bodyPost_ret (results_row_tmp Tryz.results23 _ _ w.heap.size 49 C _ _ rfl rfl (Blk.setRow HB9.out C) Tryz.underlying49 rfl HIC.out) rfl ⟨below_setRow HW9.out (Nat.le_refl _) _, C, HTC.out.size, HOC.out, rfl, fun _ => by
                  rw [HNN.out]
                  exact ⟨A', c', HTC.out, (HSL2.out.below hw9.same).setRow (fun hn a ha => by have := HO'.out.lt' hn a ha; omega) _, fun hn a ha => by have := HO'.out.lt' hn a ha; omega⟩⟩
      · have d6 : decide (6 < (n0 : Int)) = true := by simp; omega
        obtain rfl : b = false := by
          rw [Bool.eq_false_iff]
          intro ht
          have h9 := ((HB.out.1 ht).1).1
          rw [HN.out] at h9
          omega
        go_wp2_with (first
          | (refine wpList_load_row rfl 49 _ rfl (w.heap.size + 1) rfl 49 (tz 4) (0, 0) _ HB1.out Tryz.underlying49 rfl HI.out ?_)
          | (refine wpList_store_row rfl 49 _ _ rfl w.heap.size (tz 4) rfl rfl 49 (tz 0) HB0.out HI.out rfl HO.out ?_))
        refine bodyPost_ret (results_row_tmp Tryz.results23 _ _ w.heap.size 49 (tz 4) _ _ rfl rfl (Blk.setRow HB0.out (tz 4)) Tryz.underlying49 rfl HI.out) rfl ⟨below_setRow HWW.out (Nat.le_refl _) _, (tz 4), HT.out.size, HO.out, rfl, fun h => Bool.noConfusion h⟩

set_option maxRecDepth 100000 in
set_option maxHeartbeats 4000000 in
theorem thing_list (A : Option Addr) (c : Nat) (z : Nat → Int) (kind : Int) (hk3 : kind = 1 ∨ kind = 2 ∨ kind = 3) (b : Bool) (w : World) (h : SlU w A 17 c z) (hb : b = true ↔ listOk z) :
    Calls Tryz.prog 23 #[.int .i64 kind, .slice A 17 c] w (ThingOut b (fun C w' => ∃ A c, ThR C kind A (z 0).toNat c (fun _ => 0) 0 ∧ SlO w' w.heap.size A (z 0).toNat c (zL z)) w) := by
  have e4 : (kind == 4) = false := by simp; omega
  have e5 : (kind == 5) = false := by simp; omega
  have e6 : (kind == 6) = false := by simp; omega
  have HK3 := Lib.hid hk3
  have d1 : withinB kind 1 6 = true := by simp [withinB]; omega
  have HW := Lib.hid d1
  have hbu := tz_build
  have HT := Lib.hid (tz_thr kind)
  have HI : Hid ((Tryz.prog.info? 49).map (·.size) = some (tz kind).size) := infoTh
  have HO := Lib.hid (thr_one HT.out)
  have H := Lib.hid h
  have HB := Lib.hid hb
  clear h d1 hb hk3
  go_enter Tryz.func23, Tryz.ntmps23
  go_wp2_with (refine wpList_store_row rfl 49 _ _ rfl (w.heap.size + 1) (tz kind) rfl rfl 49 (tz 0) ((Blk.newAt _ _ _ (by simp))) HI.out rfl HO.out ?_)
  refine (within_any _ _ _ _).mono ?_
  rintro e W1 ⟨rfl, hW⟩
  rw [HW.out]
  have hB0 : Blk W1 w.heap.size 49 (tz 0) := by
    rw [← hW]
    exact (setRow_other _ _ _ _ (by omega)).trans ((Blk.new _ _ _).alloc _)
  have hB1 : Blk W1 (w.heap.size + 1) 49 (tz kind) := by rw [← hW]; exact Blk.setRow (Blk.newAt _ _ _ (by simp)) _
  have hW1 : Below w.heap.size w W1 := by rw [← hW]; exact below_setRow (by go_grown) (by omega) _
  clear hW HW hbu
  have hz1 := hB1.lt
  have HS1 := Lib.hid (H.out.below hW1)
  have HG := Lib.hid (H.out.blk_lt (by omega))
  go_wp2
  go_loop [19] (fun i => ∃ k : Nat, k ≤ 17 ∧ i = .int .i64 k ∧ Hid (∀ j, j < k → z j ≤ 4294967295)) (fun i => 17 - (intOf i).toNat)
  case atStart => exact ⟨0, by omega, rfl, Lib.hid fun j hj => absurd hj (by omega)⟩
  case round =>
    obtain ⟨k, hk, rfl, hall⟩ := hrel
    by_cases hk17 : k < 17
    · have q1 : (k : Int) < 17 := by omega
      obtain ⟨g, off, rfl, hglt, hcell⟩ := HS1.out.at_ (by omega)
      have c0 := hcell k hk17
      have bd := HS1.out.bd k hk17
      clear hcell
      generalize hv : z k = v at c0 bd
      have HV := Lib.hid hv
      clear hv
      by_cases hM : v ≤ 4294967295
      · have d2 : decide (4294967295 < v) = false := by simp; omega
        go_wp2
        go_round
        case rel => exact ⟨k + 1, by omega, by go_num, Lib.hid fun j hj => by
          rcases Nat.lt_or_ge j k with h | h
          · exact hall.out j h
          · obtain rfl : j = k := by omega
            rw [HV.out]; exact hM⟩
        case measure => simp [intOf]; omega
      · have d2 : decide (4294967295 < v) = true := by simp; omega
        obtain rfl : b = false := by
          rw [Bool.eq_false_iff]
          intro ht
          have h9 := HB.out.1 ht
          have hv9 := HV.out
          have hlt9 : 4294967295 < z k := by omega
          exact absurd hlt9 (by have a1 := list_num (fun i hi => (H.out.bd i hi).1) h9 k hk17; omega)
        go_wp2_with (first
          | (refine wpList_load_row rfl 49 _ rfl (w.heap.size + 1) rfl 49 (tz kind) (0, 0) _ hB1 Tryz.underlying49 rfl HI.out ?_)
          | (refine wpList_store_row rfl 49 _ _ rfl w.heap.size (tz kind) rfl rfl 49 (tz 0) hB0 HI.out rfl HO.out ?_))
        refine bodyPost_ret (results_row_tmp Tryz.results23 _ _ w.heap.size 49 (tz kind) _ _ rfl rfl (Blk.setRow hB0 (tz kind)) Tryz.underlying49 rfl HI.out) rfl ⟨below_setRow hW1 (Nat.le_refl _) _, (tz kind), HT.out.size, HO.out, rfl, fun h => Bool.noConfusion h⟩
    · obtain rfl : k = 17 := by omega
      have HALL := Lib.hid hall.out
      clear hall
      have HB0 := Lib.hid hB0
      have HB1 := Lib.hid hB1
      have HWW := Lib.hid hW1
      clear hB0 hB1 hW1
      obtain ⟨n0, hn0⟩ := Int.eq_ofNat_of_zero_le (H.out.bd 0 (by omega)).1
      have HN := Lib.hid hn0
      clear hn0
      obtain ⟨gA, oA, rfl, hglt, hcell⟩ := HS1.out.at_ (by omega)
      have c0 : W1.cell? ⟨gA, oA, none⟩ = some (.int .u64 (n0 : Int)) := by rw [← HN.out]; exact hcell 0 (by omega)
      clear hcell
      have hgA : gA < w.heap.size := HG.out _ rfl
      by_cases h6 : n0 ≤ 6
      · have d6 : decide (6 < (n0 : Int)) = false := by simp; omega
        go_wp2
        clear c0
        go_loopw [37] (fun i wr => ∃ k : Nat, k ≤ n0 ∧ i = .int .i64 k ∧ Hid (∃ C A' c', Blk wr (w.heap.size + 1) 49 C ∧ ThR C kind A' k c' (fun _ => 0) 0 ∧ Own wr (w.heap.size + 2) A' k c' (upL z k)) ∧ Hid (Blk wr w.heap.size 49 (tz 0)) ∧ Hid (Below w.heap.size w wr)) (fun i _ => n0 - (intOf i).toNat)
        case atStart => exact ⟨0, by omega, rfl, Lib.hid ⟨_, none, 0, HB1.out, HT.out, Own.nil _ _⟩, HB0, HWW⟩
        case round =>
          obtain ⟨k, hk, rfl, hC, HB0', HWW'⟩ := hrel
          obtain ⟨C, A', c', hBC, hTC, hown⟩ := hC.out
          clear hC
          have HBC := Lib.hid hBC
          have HTC := Lib.hid hTC
          have HO' := Lib.hid hown
          clear hBC hTC hown
          have HSW := Lib.hid (H.out.below HWW'.out)
          by_cases hkn : k < n0
          · have q1 : (k : Int) < n0 := by omega
            have hglt' : gA < wr.heap.size := by have := HWW'.out.size; omega
            have c1 : wr.cell? ⟨gA, oA + (k + 1), none⟩ = some (.int .u64 (z (k + 1))) := by
              obtain ⟨g2, o2, he, _, hc⟩ := HSW.out.at_ (by omega)
              cases he
              exact hc (k + 1) (by omega)
            have l1 : wr.cell? ⟨w.heap.size + 1, 1, none⟩ = some (.slice A' k c') := (HBC.out.cell 1).trans HTC.out.list
            have f1 := HBC.out.frozen 1
            have bd := HSW.out.bd (k + 1) (by omega)
            have m1 := HALL.out (k + 1) (by omega)
            have hlt1 := HBC.out.lt
            have hsz2 : w.heap.size + 2 ≤ wr.heap.size := by omega
            have c63 := HSW.out.cap63
            have hcp := HSW.out.cap
            have e0 : (0 : Int) ≤ (k : Int) + 1 := by omega
            have e1 : (k : Int) + 1 < 17 := by omega
            have ew : IntKind.i64.wrap ((k : Int) + 1) = ((k + 1 : Nat) : Int) := by rw [IntWalk.i64_in _ (by omega)]; omega
            generalize hv : z (k + 1) = v at c1 bd m1
            have HV := Lib.hid hv
            have ev : IntKind.i64.wrap v = v := IntWalk.i64_in _ (by omega)
            clear hv HB0 HB1 HWW HS1
            go_wp2
            refine wp_region_rely 11 (fun b => w.heap.size + 2 ≤ b) [9] (by kernel_rfl) (by kernel_rfl) ?_
            iterate 8
              refine wpRely_step (fun K hK => ?_)
              refine .inl ?_
              apply Exists.intro
              refine ⟨Any, ?_, hK _ _ _ _ ?_⟩
              · simp only [RelyOp, fillE]
                refine ⟨rfl, fun w9 hw9 _ => ?_⟩
                have l9 := (hw9.cell (p := ⟨w.heap.size + 1, 1, none⟩) hlt1 (by show ¬ (w.heap.size + 2 ≤ w.heap.size + 1); omega)).trans l1
                have c9 := (hw9.cell (p := ⟨gA, oA + (k + 1), none⟩) hglt' (by show ¬ (w.heap.size + 2 ≤ gA); omega)).trans c1
                go_simp
                exact ⟨⟨rfl, trivial⟩, Keeps.refl _ _⟩
              clear hK K
              try simp only [Act.put, List.setIfInBounds_toArray, List.set_cons_zero, List.set_cons_succ]
            refine wpRely_step (fun K hK => ?_)
            refine .inr (.inr ⟨IsS1, Is1 3 v, ⟨_, 0, rfl⟩, ?_, hK _ _ _ _ ?_⟩)
            · simp only [RelyOp, fillE]
              refine ⟨rfl, fun w9 hw9 _ => ?_⟩
              go_simp
              exact ⟨⟨⟨_, rfl⟩, _, rfl, by simpa only [ev] using Blk.new w9 3 #[.int .i64 (IntKind.i64.wrap v)]⟩, Keeps.of_same ((Below.refl _ _).alloc (Nat.le_refl _) _)⟩
            clear hK K
            try simp only [Act.put, List.setIfInBounds_toArray, List.set_cons_zero, List.set_cons_succ]
            refine wpRely_step (fun K hK => ?_)
            refine .inr (.inr ⟨IsSn (k + 1), IsOwn (w.heap.size + 2) (k + 1) (upL z (k + 1)), ⟨_, none, 0, rfl⟩, ?_, hK _ _ _ _ ?_⟩)
            · simp only [RelyOp, fillE]
              rintro _ ⟨g, rfl⟩
              refine ⟨rfl, fun w9 hw9 hmet => ?_⟩
              obtain ⟨w0, k0, k1, g', hv, hblk⟩ := hmet.2.1 (by kernel_rfl)
              cases hv
              have hs9 := hw9.size
              refine relyAt_append1 (.tmp 41) (.tmp 48) rfl (A := A') (n := k) (c := c') rfl (own_keeps HO'.out hmet.1 (fun b h => calm_out h (by kernel_rfl))) rfl ((k1.cell (p := ⟨g, 0, none⟩) hblk.lt (fun h => calm_out h (by kernel_rfl))).trans (hblk.cell 0)) (by omega) (by omega) ?_
              intro g' cap w' ho hb
              refine ⟨⟨⟨_, _, rfl⟩, _, _, rfl, ?_⟩, (Keeps.of_below hb).mono fun b h => ⟨rfl, h⟩⟩
              rw [upL_succ, HV.out]
              exact ho
            clear hK K
            try simp only [Act.put, List.setIfInBounds_toArray, List.set_cons_zero, List.set_cons_succ]
            refine wpRely_step (fun K hK => ?_)
            refine .inl ?_
            apply Exists.intro
            refine ⟨Any, ?_, hK _ _ _ _ ?_⟩
            · simp only [RelyOp, fillE]
              rintro _ ⟨A2, c2, rfl⟩ _ ⟨g2, rfl⟩
              refine ⟨rfl, fun w9 hw9 _ => ?_⟩
              go_simp
              exact ⟨⟨rfl, trivial⟩, Keeps.refl _ _⟩
            clear hK K
            try simp only [Act.put, List.setIfInBounds_toArray, List.set_cons_zero, List.set_cons_succ]
            refine wpRely_nil ?_
            simp only [fillE]
            rintro _ ⟨A2, c2, rfl⟩ _ ⟨g2, rfl⟩ w9 hw9 hmet
            obtain ⟨w0, k0, k1, A8, c8, hv8, hown⟩ := hmet.2.1 rfl
            cases hv8
            have HO2 := Lib.hid (own_keeps hown k1 (fun b h => calm_out h (by kernel_rfl)))
            have hB9 : Blk w9 (w.heap.size + 1) 49 C := (hw9.block _ hlt1 (by show ¬ (w.heap.size + 2 ≤ w.heap.size + 1); omega)).trans HBC.out
            have HB90 : Hid (Blk w9 w.heap.size 49 (tz 0)) := Lib.hid ((hw9.block _ HB0'.out.lt (by show ¬ (w.heap.size + 2 ≤ w.heap.size); omega)).trans HB0'.out)
            have HW9 := Lib.hid (HWW'.out.trans (hw9.below HWW'.out.size (fun b hb h => by omega)))
            have l9 : w9.cell? ⟨w.heap.size + 1, 1, none⟩ = some (.slice A' k c') := (hB9.cell 1).trans HTC.out.list
            have f9 := hB9.frozen 1
            have HB9 := Lib.hid hB9
            clear hmet hown k0 k1 hB9 l1 f1 c1 ew ev
            go_wp2
            go_roundw
            case rel => exact ⟨k + 1, by omega, by go_num, Lib.hid ⟨_, A2, c2, HB9.out.set_ 1 _, HTC.out.setL A2 (k + 1) c2, HO2.out.far (p := ⟨w.heap.size + 1, 1, none⟩) (by show w.heap.size + 1 < w.heap.size + 2; omega) _⟩,
              Lib.hid (HB90.out.far (p := ⟨w.heap.size + 1, 1, none⟩) (by simp) _), Lib.hid (HW9.out.setCell (p := ⟨w.heap.size + 1, 1, none⟩) (by show w.heap.size ≤ w.heap.size + 1; omega) _)⟩
            case measure => simp [intOf]; omega
          · obtain rfl : k = n0 := by omega
            have HXS : Hid (upL z k = zL z) := Lib.hid (by unfold zL; rw [HN.out]; rfl)
            have HNN : Hid ((z 0).toNat = k) := Lib.hid (by rw [HN.out]; rfl)
            have HSL : Hid (SlI wr A' k c' (zL z)) := Lib.hid (by
              have h5 := HO'.out
              rw [HXS.out] at h5
              exact SlI.of_own h5 (fun i => by
                rw [← HXS.out]
                by_cases hi : i < k
                · rw [upL_get z _ i hi]
                  have a1 := HALL.out (i + 1) (by omega)
                  have a2 := H.out.bd (i + 1) (by omega)
                  omega
                · rw [List.getElem?_eq_none (by rw [upL_len]; omega)]
                  decide))
            have HIC : Hid ((Tryz.prog.info? 49).map (·.size) = some C.size) := by show _ = _; rw [infoTh, HTC.out.size]
            have HOC := Lib.hid (thr_one HTC.out)
            have l1 : wr.cell? ⟨w.heap.size + 1, 1, none⟩ = some (.slice A' k c') := (HBC.out.cell 1).trans HTC.out.list
            clear HB0 HB1 HWW HS1
            have HB2 := HBC
            have HB20 := HB0'
            have HW2 := HWW'
            have HS2 := HSW
            have HSL2 := HSL
            clear l1
            go_wp2_with fail
            refine wp_region_rely 5 nowhere [] (by kernel_rfl) (by kernel_rfl) ?_
            iterate 2
              refine wpRely_step (fun K hK => ?_)
              refine .inl ?_
              apply Exists.intro
              refine ⟨Any, ?_, hK _ _ _ _ ?_⟩
              · simp only [RelyOp, fillE]
                refine ⟨rfl, fun w9 hw9 _ => ?_⟩
                exact relyAt_load_row 49 _ rfl (w.heap.size + 1) rfl 49 C _ (HB2.out.below hw9.same HB2.out.lt) Tryz.underlying49 rfl HIC.out ⟨⟨rfl, trivial⟩, Keeps.refl _ _⟩
              clear hK K
              try simp only [Act.put, List.setIfInBounds_toArray, List.set_cons_zero, List.set_cons_succ]
            refine wpRely_step (fun K hK => ?_)
            refine .inr (.inr ⟨IsS17, Is17 (listW k (zL z)), ⟨_, 0, rfl⟩, ?_, hK _ _ _ _ ?_⟩)
            · simp only [RelyOp, fillE]
              refine ⟨rfl, fun w9 hw9 _ => ?_⟩
              go_simp
              go_at_call 28
              refine (cells_list _ kind A' k c' (zL z) (fun _ => 0) 0 _ HTC.out (HSL2.out.below hw9.same) (by omega) (fun i hi => by rw [← HXS.out, upL_get z _ i hi]; exact (H.out.bd (i + 1) (by omega)).1) (by have := HK3.out; omega) (by have := HK3.out; omega)).mono ?_
              rintro e w10 ⟨g, D, rfl, hb1, hu, hg, hbl⟩
              exact ⟨_, rfl, ⟨⟨g, rfl⟩, ⟨g, D, rfl, hb1, hu⟩⟩, Keeps.of_same hbl⟩
            clear hK K
            try simp only [Act.put, List.setIfInBounds_toArray, List.set_cons_zero, List.set_cons_succ]
            refine wpRely_step (fun K hK => ?_)
            refine .inl ?_
            apply Exists.intro
            refine ⟨Any, ?_, hK _ _ _ _ ?_⟩
            · simp only [RelyOp, fillE]
              rintro _ ⟨g, rfl⟩
              refine ⟨rfl, fun w9 hw9 _ => ?_⟩
              go_simp
              exact ⟨⟨rfl, trivial⟩, Keeps.refl _ _⟩
            clear hK K
            try simp only [Act.put, List.setIfInBounds_toArray, List.set_cons_zero, List.set_cons_succ]
            refine wpRely_step (fun K hK => ?_)
            refine .inl ⟨.bool b, Any, ?_, hK _ _ _ _ ?_⟩
            · simp only [RelyOp, fillE]
              rintro _ ⟨g, rfl⟩
              refine ⟨rfl, fun w9 hw9 hmet => ?_⟩
              obtain ⟨w0, k0, k1, g', D, hv, hblk, hu⟩ := (hmet.2.1 (by kernel_rfl)).out
              cases hv
              go_simp
              go_at_call 26
              refine (same_any _ _ 17 17 17 _ (listW k (zL z)) z _ (by simpa using SlU.of_blk (n := 17) (c := 17) (o := 0) (hblk.below k1 hblk.lt) hu (by omega) (by omega) (by omega)) (HS2.out.below hw9.same)).mono ?_
              rintro e w10 ⟨b', rfl, hb', hbl⟩
              obtain rfl : b' = b := by
                rw [Bool.eq_iff_iff, hb', HB.out]
                exact ⟨fun h => (list_iff HALL.out (fun i hi => (H.out.bd i hi).1) HNN.out (by omega)).1 h.2, fun h => ⟨rfl, (list_iff HALL.out (fun i hi => (H.out.bd i hi).1) HNN.out (by omega)).2 h⟩⟩
              exact ⟨_, rfl, ⟨rfl, trivial⟩, Keeps.of_same hbl⟩
            clear hK K
            try simp only [Act.put, List.setIfInBounds_toArray, List.set_cons_zero, List.set_cons_succ]
            refine wpRely_nil ?_
            simp only [fillE]
            rintro _ ⟨g9, rfl⟩ w9 hw9 hmet
            clear hmet
            have HB9 := Lib.hid (HB20.out.below hw9.same HB20.out.lt)
            have HW9 := Lib.hid ((HW2.out).trans (hw9.same.mono (HW2.out).size))
            simp only [List.drop_succ_cons, List.drop_zero]
            go_wp2_with (refine wpList_store_row rfl 49 _ _ rfl w.heap.size C rfl rfl 49 (tz 0) HB9.out HIC.out (by rw [HTC.out.size]; rfl) HOC.out ?_)
            refine bodyPost_ret (results_row_tmp Tryz.results23 _ _ w.heap.size 49 C _ _ rfl rfl (Blk.setRow HB9.out C) Tryz.underlying49 rfl HIC.out) rfl ⟨below_setRow HW9.out (Nat.le_refl _) _, C, HTC.out.size, HOC.out, rfl, fun _ => by
                rw [HNN.out]
                exact ⟨A', c', HTC.out, (HSL2.out.below hw9.same).setRow (fun hn a ha => by have := HO'.out.lt' hn a ha; omega) _, fun hn a ha => by have := HO'.out.lt' hn a ha; omega⟩⟩
      · have d6 : decide (6 < (n0 : Int)) = true := by simp; omega
        obtain rfl : b = false := by
          rw [Bool.eq_false_iff]
          intro ht
          have h9 := (HB.out.1 ht).1
          rw [HN.out] at h9
          omega
        go_wp2_with (first
          | (refine wpList_load_row rfl 49 _ rfl (w.heap.size + 1) rfl 49 (tz kind) (0, 0) _ HB1.out Tryz.underlying49 rfl HI.out ?_)
          | (refine wpList_store_row rfl 49 _ _ rfl w.heap.size (tz kind) rfl rfl 49 (tz 0) HB0.out HI.out rfl HO.out ?_))
        refine bodyPost_ret (results_row_tmp Tryz.results23 _ _ w.heap.size 49 (tz kind) _ _ rfl rfl (Blk.setRow HB0.out (tz kind)) Tryz.underlying49 rfl HI.out) rfl ⟨below_setRow HWW.out (Nat.le_refl _) _, (tz kind), HT.out.size, HO.out, rfl, fun h => Bool.noConfusion h⟩
end Go.Proofs.YtkoflhjnpilchaaGreatDoor

namespace Go.Proofs.YtkoflhjnpilchaaGreatDoor
set_option linter.unusedSimpArgs false
set_option linter.unusedVariables false
set_option linter.unusedSectionVars false
open Go.RowKit

/-- A thing's cells are the thing that the words z are. -/
def ThOk (kind : Int) (z : Nat → Int) (C : Array Value) (w : World) : Prop :=
  if kind = 5 then ThR C 5 none 0 0 z 0 else if kind = 6 then ThR C 6 none 0 0 (fun _ => 0) (z 0) else ∃ A c, ThR C kind A (z 0).toNat c (fun _ => 0) 0 ∧ SlI w A (z 0).toNat c (zL z)
theorem ThOk.below {kind : Int} {z : Nat → Int} {C : Array Value} {w w' : World} (h : ThOk kind z C w) (hb : Below w.heap.size w w') : ThOk kind z C w' := by
  unfold ThOk at h ⊢
  split
  · rename_i e; rwa [if_pos e] at h
  · rename_i e
    rw [if_neg e] at h
    split
    · rename_i e6; rwa [if_pos e6] at h
    · rename_i e6
      rw [if_neg e6] at h
      obtain ⟨A, c, h1, h2⟩ := h
      exact ⟨A, c, h1, h2.below hb⟩
theorem ThOk.size {kind : Int} {z : Nat → Int} {C : Array Value} {w : World} (h : ThOk kind z C w) : C.size = 19 := by
  unfold ThOk at h
  split at h
  · exact ThR.size h
  · split at h
    · exact ThR.size h
    · obtain ⟨A, c, h1, h2⟩ := h; exact h1.size
theorem ThOk.kind_ {kind : Int} {z : Nat → Int} {C : Array Value} {w : World} (h : ThOk kind z C w) : C[0]? = some (.int .i64 kind) := by
  unfold ThOk at h
  split at h
  · rename_i e; rw [e]; exact ThR.kind_ h
  · split at h
    · rename_i e; rw [e]; exact ThR.kind_ h
    · obtain ⟨A, c, h1, h2⟩ := h; exact h1.kind_
theorem ThOk.one {kind : Int} {z : Nat → Int} {C : Array Value} {w : World} (h : ThOk kind z C w) : C.all (·.oneCell') = true := by
  unfold ThOk at h
  split at h
  · exact thr_one h
  · split at h
    · exact thr_one h
    · obtain ⟨A, c, h1, h2⟩ := h; exact thr_one h1

/-- The same, and its list lies in block G or later. -/
def ThOkO (G : Nat) (kind : Int) (z : Nat → Int) (C : Array Value) (w : World) : Prop :=
  if kind = 5 then ThR C 5 none 0 0 z 0 else if kind = 6 then ThR C 6 none 0 0 (fun _ => 0) (z 0) else ∃ A c, ThR C kind A (z 0).toNat c (fun _ => 0) 0 ∧ SlO w G A (z 0).toNat c (zL z)
theorem ThOkO.weak {G : Nat} {kind : Int} {z : Nat → Int} {C : Array Value} {w : World} (h : ThOkO G kind z C w) : ThOk kind z C w := by
  unfold ThOkO at h
  unfold ThOk
  split
  · rename_i e; rwa [if_pos e] at h
  · rename_i e
    rw [if_neg e] at h
    split
    · rename_i e6; rwa [if_pos e6] at h
    · rename_i e6
      rw [if_neg e6] at h
      obtain ⟨A, c, h1, h2⟩ := h
      exact ⟨A, c, h1, h2.sli⟩
theorem ThOkO.keeps {G : Nat} {kind : Int} {z : Nat → Int} {C : Array Value} {w w' : World} {S : Nat → Prop} (h : ThOkO G kind z C w) (hk : Keeps S w w') (hS : ∀ b, G ≤ b → ¬ S b) : ThOkO G kind z C w' := by
  unfold ThOkO at h ⊢
  split
  · rename_i e; rwa [if_pos e] at h
  · rename_i e
    rw [if_neg e] at h
    split
    · rename_i e6; rwa [if_pos e6] at h
    · rename_i e6
      rw [if_neg e6] at h
      obtain ⟨A, c, h1, h2⟩ := h
      exact ⟨A, c, h1, h2.of_keeps hk hS⟩
theorem ThOkO.mono {G G' : Nat} {kind : Int} {z : Nat → Int} {C : Array Value} {w : World} (h : ThOkO G kind z C w) (hG : G' ≤ G) : ThOkO G' kind z C w := by
  unfold ThOkO at h ⊢
  split
  · rename_i e; rwa [if_pos e] at h
  · rename_i e
    rw [if_neg e] at h
    split
    · rename_i e6; rwa [if_pos e6] at h
    · rename_i e6
      rw [if_neg e6] at h
      obtain ⟨A, c, h1, h2⟩ := h
      exact ⟨A, c, h1, h2.mono hG⟩

theorem thing_any (A : Option Addr) (c : Nat) (z : Nat → Int) (kind : Int) (b : Bool) (w : World) (h : SlU w A 17 c z) (hb : b = true ↔ thingOk kind z) :
    Calls Tryz.prog 23 #[.int .i64 kind, .slice A 17 c] w (ThingOut b (ThOkO w.heap.size kind z) w) := by
  unfold thingOk at hb
  by_cases h5 : kind = 5
  · subst h5
    rw [if_pos rfl] at hb
    exact (thing_table A c z b w h hb).mono fun e w' ⟨hB, C, a1, a2, a3, a4⟩ => ⟨hB, C, a1, a2, a3, fun ht => by unfold ThOkO; rw [if_pos rfl]; exact a4 ht⟩
  rw [if_neg h5] at hb
  by_cases h6 : kind = 6
  · subst h6
    rw [if_pos rfl] at hb
    exact (thing_tally A c z b w h hb).mono fun e w' ⟨hB, C, a1, a2, a3, a4⟩ => ⟨hB, C, a1, a2, a3, fun ht => by unfold ThOkO; rw [if_neg (by decide), if_pos rfl]; exact a4 ht⟩
  rw [if_neg h6] at hb
  by_cases h4 : kind = 4
  · subst h4
    rw [if_pos rfl] at hb
    exact (thing_heap A c z b w h hb).mono fun e w' ⟨hB, C, a1, a2, a3, a4⟩ => ⟨hB, C, a1, a2, a3, fun ht => by unfold ThOkO; rw [if_neg (by decide), if_neg (by decide)]; exact a4 ht⟩
  rw [if_neg h4] at hb
  by_cases hk : 1 ≤ kind ∧ kind ≤ 3
  · have hb' : b = true ↔ listOk z := hb.trans ⟨fun h => h.2.2, fun h => ⟨hk.1, hk.2, h⟩⟩
    exact (thing_list A c z kind (by omega) b w h hb').mono fun e w' ⟨hB, C, a1, a2, a3, a4⟩ => ⟨hB, C, a1, a2, a3, fun ht => by unfold ThOkO; rw [if_neg h5, if_neg h6]; exact a4 ht⟩
  · obtain rfl : b = false := by
      rw [Bool.eq_false_iff]
      intro ht
      have := hb.1 ht
      exact hk ⟨this.1, this.2.1⟩
    exact (thing_none A c z kind w h (by omega)).mono fun e w' ⟨hB, C, a1, a2, a3, a4⟩ => ⟨hB, C, a1, a2, a3, fun ht => Bool.noConfusion ht⟩

theorem objRight_any (C : Array Value) (z : Nat → Int) (kind : Int) (r : Bool) (w : World) (h : U64s C 17 z) (hr : r = true ↔ thingOk kind z) :
    Calls Tryz.prog 31 #[.int .i64 kind, .agg C] w fun e w' => e = .returned (.bool r) ∧ Below w.heap.size w w' := by
  unfold thingOk at hr
  have fit : ∀ {P : Prop} {e : Ending} {w' : World}, (r = true ↔ P) → (∃ b, e = .returned (.bool b) ∧ (b = true ↔ P) ∧ Below w.heap.size w w') → e = .returned (.bool r) ∧ Below w.heap.size w w' := by
    rintro P e w' hP ⟨b, rfl, hb, hB⟩
    obtain rfl : b = r := by rw [Bool.eq_iff_iff, hb, hP]
    exact ⟨rfl, hB⟩
  by_cases h5 : kind = 5
  · subst h5
    rw [if_pos rfl] at hr
    exact (right_table C z w h).mono fun e w' h' => fit hr h'
  rw [if_neg h5] at hr
  by_cases h6 : kind = 6
  · subst h6
    rw [if_pos rfl] at hr
    exact right_tally C z r w h hr
  rw [if_neg h6] at hr
  by_cases h4 : kind = 4
  · subst h4
    rw [if_pos rfl] at hr
    exact (right_heap C z w h).mono fun e w' h' => fit hr h'
  rw [if_neg h4] at hr
  by_cases hk : 1 ≤ kind ∧ kind ≤ 3
  · have hr' : r = true ↔ listOk z := hr.trans ⟨fun h => h.2.2, fun h => ⟨hk.1, hk.2, h⟩⟩
    exact (right_list C z kind w h (by omega)).mono fun e w' h' => fit hr' h'
  · obtain rfl : r = false := by
      rw [Bool.eq_false_iff]
      intro ht
      have := hr.1 ht
      exact hk ⟨this.1, this.2.1⟩
    exact right_none C kind w (by omega)

/-- A right thing's words are those that it is of. -/
theorem cells_any (C : Array Value) (z : Nat → Int) (kind : Int) (w : World) (hw : ∀ i, i < 17 → 0 ≤ z i) (hz : thingOk kind z) (h : ThOk kind z C w) :
    Calls Tryz.prog 28 #[.agg C] w (CellsOut z w) := by
  have fit : ∀ {y : Nat → Int} {e : Ending} {w' : World}, (∀ i, i < 17 → y i = z i) → CellsOut y w e w' → CellsOut z w e w' := by
    rintro y e w' hy ⟨g, D, a1, a2, a3, a4, a5⟩
    exact ⟨g, D, a1, a2, a3.congr (fun i hi => (hy i hi).symm), a4, a5⟩
  unfold thingOk ThOk at *
  by_cases h5 : kind = 5
  · subst h5
    rw [if_pos rfl] at hz h
    have hn := slots_num hw hz
    exact (cells_table C none 0 0 z 0 w h (fun i hi => by have := hn i (by omega); have := hw i (by omega); omega)).mono fun e w' h' => fit ((slots_iff hn hw hz.2.2).2 hz) h'
  rw [if_neg h5] at hz h
  by_cases h6 : kind = 6
  · subst h6
    rw [if_pos rfl] at hz h
    have h1 := hz.1
    have h0 := hw 0 (by omega)
    exact (cells_tally C none 0 0 (fun _ => 0) (z 0) w h (by omega)).mono fun e w' h' => fit (fun i hi => (hz.2 i hi).symm) h'
  rw [if_neg h6] at hz h
  obtain ⟨A, c, hT, hS⟩ := h
  have hl : listOk z := by
    by_cases h4 : kind = 4
    · rw [if_pos h4] at hz; exact hz.1
    · rw [if_neg h4] at hz; exact hz.2.2
  have hn := list_num hw hl
  have h0 := hl.1
  have h00 := hw 0 (by omega)
  exact (cells_list C kind A (z 0).toNat c (zL z) (fun _ => 0) 0 w hT hS (by omega) (fun i hi => by unfold zL; rw [upL_get _ _ _ hi]; exact hw (i + 1) (by omega)) h5 h6).mono fun e w' h' => fit ((list_iff hn hw rfl (by omega)).2 hl) h'
end Go.Proofs.YtkoflhjnpilchaaGreatDoor
