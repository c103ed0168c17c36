/-
  What gristmillref.row, TableLen and TableRight return. For every table.
  What gristmilllaw.slotsOf returns: the same slots. For every table.
  What table.closed returns: a table out of which a key is taken. For every table.
  What gristmillref.Thing's Cells return.
-/
import Derived.Test.YtkoflhjnpilchaaDoorMTabA
import Derived.Test.YtkoflhjnpilchaaDoorMWord
import Derived.Test.YtkoflhjnpilchaaDoorMBase
import Derived.Test.YtkoflhjnpilchaaDoorProg
namespace Go.Proofs.YtkoflhjnpilchaaDoor
set_option linter.unusedSimpArgs false
set_option linter.unusedVariables false
set_option linter.unusedSectionVars false
open Go.RowKit
attribute [local go_sem ↓] Go.wp_at_zero Go.wp_at_succ

def rowL (key n : Nat) : List Int := (List.range n).map fun k => (rowP key k : Int)
theorem rowL_succ (key n : Nat) : rowL key (n + 1) = rowL key n ++ [(rowP key n : Int)] := by
  unfold rowL
  rw [List.range_succ, List.map_append]
  rfl
theorem rowL_get (key n j : Nat) (hj : j < n) : (rowL key n)[j]?.getD 0 = rowP key j := by
  unfold rowL
  rw [List.getElem?_map, List.getElem?_range hj]
  rfl
theorem rowL_bd (key n : Nat) : IBd (rowL key n) := fun i => by
  rcases Nat.lt_or_ge i n with h | h
  · rw [rowL_get key n i h]
    have := rowP_lt key i
    omega
  · rw [List.getElem?_eq_none (by simp [rowL]; omega)]
    decide
theorem rowP_surj (key i : Nat) (hi : i < 8) : ∃ j, j < 8 ∧ rowP key j = i := by
  refine ⟨(i + 8 - key * 5 % 8) % 8, Nat.mod_lt _ (by decide), ?_⟩
  unfold rowP
  omega

theorem run_index_slotR {C : Array Value} {z : Nat → Int} (h : I64s C 16 z) (k : Nat) (hk : k < 8) (w : World) : (Instr.index 41 (.agg C) (.int .i64 k)).run Tryd.prog w = .ok (.agg #[.int .i64 (z (2 * k)), .int .i64 (z (2 * k + 1))]) w := by
  have hp := h.pair (2 * k) (by omega)
  have h8 : (k : Int) < 8 := by omega
  have s2 : ∀ w, (sizeOf 39).run Tryd.prog w = .ok 2 w := fun w => by kernel_rfl
  have a2 : ∀ w, (isAgg 39).run Tryd.prog w = .ok true w := fun w => by kernel_rfl
  simp [Instr.index, asIntOf, run_underlying Tryd.underlying41, part, a2, s2]
  rw [if_pos hk, Nat.mul_comm k 2, hp]

/-- The row of a key is searched for place i, which bears the key. -/
theorem inner_hit {z : Nat → Int} {key i j : Nat} (hj : j < 8) (hi : i < 8) (hz : z (2 * i) = key) (hno : ∀ j', j' < j → hitB z key j' = false) (h : rowP key j = i) : atT z key = i := by
  have hh : hitB z key j = true := by unfold hitB; rw [h]; simp [hz]
  unfold atT
  rw [find_range hj hh hno]
  show (rowP key j : Int) = i
  rw [h]
theorem inner_miss {z : Nat → Int} {key i j : Nat} (hj : j < 8) (hno : ∀ j', j' < j → hitB z key j' = false) (hh : hitB z key j = true) (h : rowP key j ≠ i) : atT z key ≠ i := by
  unfold atT
  rw [find_range hj hh hno]
  simp only [ne_eq]
  omega
theorem inner_end {z : Nat → Int} {key i : Nat} (hi : i < 8) (hz : z (2 * i) = key) (hno : ∀ j', j' < 8 → hitB z key j' = false) : False := by
  obtain ⟨j, hj, hr⟩ := rowP_surj key i hi
  have := hno j hj
  unfold hitB at this
  rw [hr] at this
  simp [hz] at this

end Go.Proofs.YtkoflhjnpilchaaDoor

namespace Go.Proofs.YtkoflhjnpilchaaDoor
set_option linter.unusedSimpArgs false
set_option linter.unusedVariables false
set_option linter.unusedSectionVars false
open Go.RowKit
attribute [local go_sem ↓] Go.wp_at_zero Go.wp_at_succ

theorem relyAt_load_row {P : Program} {o : Oper} {a : Act} {w : World} {T : Value → World → Prop} (ty : TypeId) (x : Operand) (ho : o.op = .load ty x) (g : Nat) (hx : a.eval x = .pointer (some ⟨g, 0, none⟩))
    (t : TypeId) (cs : Array Value) (d : TypeDesc) (hg : Blk w g t cs) (hu : P.underlying ty = some d) (hd : (match d with | .struct _ | .array _ _ => true | _ => false) = true) (hi : (P.info? ty).map (·.size) = some cs.size)
    (hT : T (.agg cs) w) : relyAt P o a w T := by
  refine relyAt_value (u := .agg cs) ?_ hT
  unfold execOp
  simp only [ho, hx, Instr.loadAt, Instr.sureAddr, Sem.run_bind, Sem.run_pure, Result.andThen_ok, run_loadVar_row w g t ty cs (0, 0) d hg hu hd hi]

theorem I64s.congr {C : Array Value} {n : Nat} {z z' : Nat → Int} (h : I64s C n z) (e : ∀ i, i < n → z' i = z i) : I64s C n z' :=
  ⟨h.size, fun i hi => by rw [e i hi]; exact h.get i hi, fun i hi => by rw [e i hi]; exact h.bd i hi⟩
theorem I64s.set_ {C : Array Value} {n k : Nat} {z : Nat → Int} (h : I64s C n z) {v : Int} (hv : -9223372036854775808 ≤ v ∧ v ≤ 9223372036854775807) : I64s (C.setIfInBounds k (.int .i64 v)) n (fun i => if i = k then v else z i) :=
  ⟨by simp [h.size], fun i hi => by
    rw [Array.getElem?_setIfInBounds]
    by_cases hk : k = i
    · subst hk
      rw [if_pos rfl, if_pos (by rw [h.size]; exact hi), if_pos rfl]
    · rw [if_neg hk, if_neg (fun e => hk e.symm)]
      exact h.get i hi, fun i hi => by
    by_cases hk : i = k
    · rw [if_pos hk]; exact hv
    · rw [if_neg hk]; exact h.bd i hi⟩
theorem I64s.zero (n : Nat) : I64s (Array.replicate n (.int .i64 0)) n (fun _ => 0) :=
  ⟨by simp, fun i hi => by simp [hi], fun _ _ => by decide⟩
theorem I64s.ext {C D : Array Value} {n : Nat} {z : Nat → Int} (h : I64s C n z) (k : I64s D n z) : C = D := by
  apply Array.ext_getElem?
  intro i
  by_cases hi : i < n
  · rw [h.get i hi, k.get i hi]
  · rw [Array.getElem?_eq_none (by rw [h.size]; omega), Array.getElem?_eq_none (by rw [k.size]; omega)]

theorem flatI (n : Nat) {z : Nat → Int} (h : ∀ i, i < (List.replicate n IntKind.i64).length → (Lit.int ((List.replicate n IntKind.i64).getD i .i64) (z i)).wf = true) :
    I64s (cellsK (List.replicate n .i64) z).toArray n z := by
  have hk : ∀ i, i < n → (List.replicate n IntKind.i64).getD i .i64 = .i64 := fun i hi => by simp [hi]
  refine ⟨by simp [cellsK], fun i hi => ?_, fun i hi => ?_⟩
  · simp [cellsK, hi]
  · have h1 := h i (by simpa using hi)
    rw [hk i hi] at h1
    exact bounds_i64 h1

end Go.Proofs.YtkoflhjnpilchaaDoor

namespace Go.Proofs.YtkoflhjnpilchaaDoor
set_option linter.unusedSimpArgs false
set_option linter.unusedVariables false
set_option linter.unusedSectionVars false
open Go.RowKit
attribute [local go_sem ↓] Go.wp_at_zero Go.wp_at_succ

/-- Block g is a table with the numbers z. -/
structure TabAt (w : World) (g : Nat) (t : TypeId) (z : Nat → Int) : Prop where
  ex : ∃ C, Blk w g t C ∧ I64s C 16 z
section
variable {w w' : World} {g : Nat} {t : TypeId} {z : Nat → Int}
theorem TabAt.mk' {C : Array Value} (h : Blk w g t C) (k : I64s C 16 z) : TabAt w g t z := ⟨C, h, k⟩
theorem TabAt.lt (h : TabAt w g t z) : g < w.heap.size := by obtain ⟨C, hb, _⟩ := h.ex; exact hb.lt
theorem TabAt.cell (h : TabAt w g t z) {i : Nat} (hi : i < 16) : w.cell? ⟨g, i, none⟩ = some (.int .i64 (z i)) := by
  obtain ⟨C, hb, hc⟩ := h.ex; rw [hb.cell]; exact hc.get i hi
theorem TabAt.key (h : TabAt w g t z) {i : Nat} (hi : i < 8) : w.cell? ⟨g, i * 2, none⟩ = some (.int .i64 (z (2 * i))) := by rw [Nat.mul_comm]; exact h.cell (by omega)
theorem TabAt.val (h : TabAt w g t z) {i : Nat} (hi : i < 8) : w.cell? ⟨g, i * 2 + 1, none⟩ = some (.int .i64 (z (2 * i + 1))) := by rw [Nat.mul_comm]; exact h.cell (by omega)
theorem TabAt.frozen (h : TabAt w g t z) (i : Nat) : w.frozen? ⟨g, i, none⟩ = false := by obtain ⟨C, hb, _⟩ := h.ex; exact hb.frozen i
theorem TabAt.bd (h : TabAt w g t z) {i : Nat} (hi : i < 16) : -9223372036854775808 ≤ z i ∧ z i ≤ 9223372036854775807 := by obtain ⟨C, _, hc⟩ := h.ex; exact hc.bd i hi
theorem TabAt.below {B : Nat} (h : TabAt w g t z) (hb : Below B w w') (hg : g < B) : TabAt w' g t z := by obtain ⟨C, h1, h2⟩ := h.ex; exact ⟨C, h1.below hb hg, h2⟩
theorem TabAt.alloc (h : TabAt w g t z) (o : Obj) : TabAt (w.alloc o) g t z := by obtain ⟨C, h1, h2⟩ := h.ex; exact ⟨C, h1.alloc o, h2⟩
theorem TabAt.far (h : TabAt w g t z) {p : Addr} (hp : g ≠ p.block) (u : Value) : TabAt (w.setCell p u) g t z := by obtain ⟨C, h1, h2⟩ := h.ex; exact ⟨C, h1.far hp u, h2⟩
theorem TabAt.setS (h : TabAt w g t z) (i : Nat) {k v : Int} (hk : -9223372036854775808 ≤ k ∧ k ≤ 9223372036854775807) (hv : -9223372036854775808 ≤ v ∧ v ≤ 9223372036854775807) :
    TabAt ((w.setCell ⟨g, i * 2, none⟩ (.int .i64 k)).setCell ⟨g, i * 2 + 1, none⟩ (.int .i64 v)) g t (setS z i k v) := by
  obtain ⟨C, h1, h2⟩ := h.ex
  refine ⟨_, (h1.set_ _ _).set_ _ _, ((h2.set_ hk).set_ hv).congr (fun j _ => ?_)⟩
  unfold Proofs.YtkoflhjnpilchaaDoor.setS
  by_cases e1 : j = i * 2 + 1
  · subst e1; rw [if_neg (by omega), if_pos (by omega), if_pos rfl]
  · by_cases e2 : j = i * 2
    · subst e2; rw [if_pos (by omega), if_neg e1, if_pos rfl]
    · rw [if_neg (by omega), if_neg (by omega), if_neg e1, if_neg e2]
end

theorem setS_bd {z : Nat → Int} {i : Nat} {k v : Int} (hz : ∀ j, j < 16 → -9223372036854775808 ≤ z j ∧ z j ≤ 9223372036854775807) (hk : -9223372036854775808 ≤ k ∧ k ≤ 9223372036854775807) (hv : -9223372036854775808 ≤ v ∧ v ≤ 9223372036854775807) :
    ∀ j, j < 16 → -9223372036854775808 ≤ setS z i k v j ∧ setS z i k v j ≤ 9223372036854775807 := fun j hj => by
  unfold setS
  split
  · exact hk
  · split
    · exact hv
    · exact hz j hj

end Go.Proofs.YtkoflhjnpilchaaDoor

namespace Go.Proofs.YtkoflhjnpilchaaDoor
set_option linter.unusedSimpArgs false
set_option linter.unusedVariables false
set_option linter.unusedSectionVars false
open Go.RowKit
set_option linter.unusedSimpArgs false
set_option linter.unusedVariables false
attribute [local go_sem ↓] Go.wp_at_zero Go.wp_at_succ

theorem thing_mk (w : World) : (Instr.makeSlice 36 (.int .i64 17) (.int .i64 17)).run Tryd.prog w = .ok (.slice (some ⟨w.heap.size, 0, none⟩) 17 17) (w.alloc (.cells (Array.replicate 17 (.int .u64 0)) 31)) := by kernel_rfl

/-- A thing's cells. -/
structure ThR (C : Array Value) (kind : Int) (A : Option Addr) (n c : Nat) (d : Nat → Int) (N : Int) : Prop where
  size : C.size = 19
  kind_ : C[0]? = some (.int .i64 kind)
  list : C[1]? = some (.slice A n c)
  slot : ∀ i, i < 16 → C[2 + i]? = some (.int .i64 (d i))
  num : C[18]? = some (.int .i64 N)
/-- A list's words. -/
def listW (n : Nat) (xs : List Int) (i : Nat) : Int := if i = 0 then n else if i ≤ n then xs[i - 1]?.getD 0 else 0
/-- The words so far: k of them. -/
def listK (n k : Nat) (xs : List Int) (i : Nat) : Int := if i = 0 then n else if i ≤ k then xs[i - 1]?.getD 0 else 0

def CellsOut (z : Nat → Int) (w : World) (e : Ending) (w' : World) : Prop :=
  ∃ g D, e = .returned (.slice (some ⟨g, 0, none⟩) 17 17) ∧ Blk w' g 31 D ∧ U64s D 17 z ∧ w.heap.size ≤ g ∧ Below w.heap.size w w'

set_option maxHeartbeats 1000000 in
theorem cells_tally (C : Array Value) (A : Option Addr) (n c : Nat) (d : Nat → Int) (N : Int) (w : World) (h : ThR C 6 A n c d N) (hN : 0 ≤ N ∧ N ≤ 9223372036854775807) :
    Calls Tryd.prog 22 #[.agg C] w (CellsOut (fun i => if i = 0 then N else 0) w) := by
  have k0 := h.kind_
  have k18 := h.num
  have hmk := thing_mk
  have hw : N % 18446744073709551616 = N := by omega
  have HU : Hid (U64s ((Array.replicate 17 (.int .u64 0)).setIfInBounds 0 (.int .u64 N)) 17 (fun i => if i = 0 then N else 0)) := Lib.hid ((U64s.zero 17).set_ (k := 0) (by omega))
  clear h
  go_enter Tryd.func22, Tryd.ntmps22
  go_wp2
  go_ret
  exact ⟨w.heap.size + 1, _, rfl, Blk.newAt _ _ _ (by simp), HU.out, by omega, by go_grown⟩

set_option maxHeartbeats 1000000 in
theorem cells_list (C : Array Value) (kind : Int) (A : Option Addr) (n c : Nat) (xs : List Int) (d : Nat → Int) (N : Int) (w : World) (h : ThR C kind A n c d N) (hl : SlI w A n c xs) (hn : n ≤ 16) (hx : ∀ i : Nat, i < n → 0 ≤ xs[i]?.getD 0)
    (h5 : kind ≠ 5) (h6 : kind ≠ 6) :
    Calls Tryd.prog 22 #[.agg C] w (CellsOut (listW n xs) w) := by
  have k0 := h.kind_
  have k1 := h.list
  have hmk := thing_mk
  have hw : (n : Int) % 18446744073709551616 = n := by omega
  have e5 : (kind == 5) = false := by simpa using h5
  have e6 : (kind == 6) = false := by simpa using h6
  have HU : Hid (U64s ((Array.replicate 17 (.int .u64 0)).setIfInBounds 0 (.int .u64 n)) 17 (listK n 0 xs)) := Lib.hid (((U64s.zero 17).set_ (k := 0) (v := n) (by omega)).congr (fun i hi => by
    unfold listK
    by_cases h0 : i = 0
    · rw [if_pos h0, if_pos h0]
    · rw [if_neg h0, if_neg h0, if_neg (by omega)]))
  have HX := Lib.hid hx
  have HL := Lib.hid hl
  clear h h5 h6 hx hl
  go_enter Tryd.func22, Tryd.ntmps22
  go_wp2
  go_loopw [20] (fun i wr => ∃ k : Nat, k ≤ n ∧ i = .int .i64 k ∧ Hid (∃ D, Blk wr (w.heap.size + 1) 31 D ∧ U64s D 17 (listK n k xs)) ∧ Below w.heap.size w wr) (fun i _ => n - (intOf i).toNat)
  case atStart => exact ⟨0, by omega, rfl, Lib.hid ⟨_, Blk.newAt _ _ _ (by simp), HU.out⟩, by go_grown⟩
  case round =>
    obtain ⟨k, hk, rfl, hD, hb⟩ := hrel
    by_cases hkn : k < n
    · have b1 : (k : Int) < n := by omega
      obtain ⟨D, hB, hU⟩ := hD.out
      clear hD
      obtain ⟨b, off, rfl, hblt, hcell⟩ := HL.out.at_ (by omega)
      have hc1 : wr.cell? ⟨b, off + k, none⟩ = some (.int .i64 (xs[k]?.getD 0)) := (hb.cell (p := ⟨b, off + k, none⟩) hblt).trans (hcell k hkn)
      have bd1 := HL.out.bd k
      have bd0 := HX.out k hkn
      have hnc := HL.out.cap
      have c63 := HL.out.cap63
      clear hcell
      have hq := hB.cell (k + 1)
      rw [hU.get (k + 1) (by omega)] at hq
      have hf := hB.frozen (k + 1)
      have HB := Lib.hid hB
      have HU2 := Lib.hid hU
      generalize hv : xs[k]?.getD 0 = v at hc1 bd1 bd0
      have HV := Lib.hid hv
      clear hB hU hv
      have hw2 : v % 18446744073709551616 = v := by omega
      go_wp2
      go_roundw
      case rel => exact ⟨k + 1, by omega, by go_num, Lib.hid ⟨_, HB.out.set_ (k + 1) _, (HU2.out.set_ (k := k + 1) (v := v) (by omega)).congr (fun i hi => by
        have hv := HV.out
        unfold listK
        by_cases h0 : i = k + 1
        · subst h0
          rw [if_pos rfl, if_neg (by omega), if_pos (by omega), Nat.add_sub_cancel, hv]
        · rw [if_neg h0]
          by_cases h1 : i = 0
          · rw [if_pos h1, if_pos h1]
          · rw [if_neg h1, if_neg h1]
            by_cases h2 : i ≤ k
            · rw [if_pos h2, if_pos (by omega)]
            · rw [if_neg h2, if_neg (by omega)])⟩, hb.setCell (by show w.heap.size ≤ w.heap.size + 1; omega) _⟩
      case measure => simp [intOf]; omega
    · obtain rfl : k = n := by omega
      go_wp2
      go_ret
      obtain ⟨D, hB, hU⟩ := hD.out
      exact ⟨w.heap.size + 1, D, rfl, hB, hU, by omega, hb⟩

/-- A table's words so far: k slots of them. -/
def slotK (k : Nat) (d : Nat → Int) (i : Nat) : Int := if i < 2 * k then d i else 0
theorem info52 : (Tryd.prog.info? 41).map (·.size) = some 16 := by kernel_rfl

set_option maxRecDepth 100000 in
set_option maxHeartbeats 2000000 in
theorem cells_table (C : Array Value) (A : Option Addr) (n c : Nat) (d : Nat → Int) (N : Int) (w : World) (h : ThR C 5 A n c d N) (hd : ∀ i, i < 16 → 0 ≤ d i ∧ d i ≤ 9223372036854775807) :
    Calls Tryd.prog 22 #[.agg C] w (CellsOut (slotK 8 d) w) := by
  have k0 := h.kind_
  have hmk := thing_mk
  obtain ⟨D, hD⟩ : ∃ D, D = C.extract 2 18 := ⟨_, rfl⟩
  have hI : I64s D 16 d := by
    have hs := h.size
    refine ⟨by rw [hD]; simp; omega, fun i hi => ?_, fun i hi => by have := hd i hi; omega⟩
    rw [hD, Array.getElem?_extract, if_pos (by omega)]
    exact h.slot i hi
  have HI := Lib.hid hI
  have HS := Lib.hid hI.size
  have HD := Lib.hid hD
  have HB := Lib.hid hd
  have HU : Hid (U64s (Array.replicate 17 (.int .u64 0)) 17 (slotK 0 d)) := Lib.hid ((U64s.zero 17).congr (fun i hi => by unfold slotK; rw [if_neg (by omega)]))
  clear h hd hD hI
  go_enter Tryd.func22, Tryd.ntmps22
  go_wp2_with (refine wpList_load_mid rfl 41 _ rfl w.heap.size 2 rfl D.toList _ ?hc Tryd.underlying41 rfl ?hi ?_)
  case hc =>
    rw [HD.out]
    exact World.rangeAt_of_block (t := 43) (fr := (0, 0)) (((Blk.new w 43 C).alloc _)) 2 16
  case hi => rw [info52, Array.length_toList, HS.out]
  go_wp2
  go_loopw [36] (fun i wr => ∃ k : Nat, k ≤ 8 ∧ i = .int .i64 k ∧ Hid (∃ E, Blk wr (w.heap.size + 1) 31 E ∧ U64s E 17 (slotK k d)) ∧ Below w.heap.size w wr) (fun i _ => 8 - (intOf i).toNat)
  case atStart => exact ⟨0, by omega, rfl, Lib.hid ⟨_, Blk.newAt _ _ _ (by simp), HU.out⟩, by go_grown⟩
  case round =>
    obtain ⟨k, hk, rfl, hE, hb⟩ := hrel
    by_cases hk8 : k < 8
    · have b1 : (k : Int) < 8 := by omega
      obtain ⟨E, hB, hU⟩ := hE.out
      clear hE
      have hix := run_index_slotR HI.out k hk8
      have hx := HB.out (2 * k) (by omega)
      have hy := HB.out (2 * k + 1) (by omega)
      have HK : Hid (∀ i, slotK (k + 1) d i = if i = 2 * k + 1 then d (2 * k + 1) else if i = 2 * k then d (2 * k) else slotK k d i) := Lib.hid fun i => by
        unfold slotK
        by_cases h1 : i = 2 * k + 1
        · subst h1
          rw [if_pos (by omega), if_pos rfl]
        · rw [if_neg h1]
          by_cases h2 : i = 2 * k
          · subst h2
            rw [if_pos (by omega), if_pos rfl]
          · rw [if_neg h2]
            by_cases h3 : i < 2 * k
            · rw [if_pos h3, if_pos (by omega)]
            · rw [if_neg h3, if_neg (by omega)]
      generalize hdx : d (2 * k) = x at hx hix HK
      generalize hdy : d (2 * k + 1) = y at hy hix HK
      have HDX := Lib.hid hdx
      have HDY := Lib.hid hdy
      clear hdx hdy
      have hwx : x % 18446744073709551616 = x := by omega
      have hwy : y % 18446744073709551616 = y := by omega
      have q0 := (hB.alloc (.cells #[.int .i64 x, .int .i64 y] 39)).cell (2 * k)
      rw [hU.get (2 * k) (by omega)] at q0
      have q1 := (hB.alloc (.cells #[.int .i64 x, .int .i64 y] 39)).cell (2 * k + 1)
      rw [hU.get (2 * k + 1) (by omega)] at q1
      have f0 := (hB.alloc (.cells #[.int .i64 x, .int .i64 y] 39)).frozen (2 * k)
      have f1 := (hB.alloc (.cells #[.int .i64 x, .int .i64 y] 39)).frozen (2 * k + 1)
      have s0 := (Blk.new wr 39 #[.int .i64 x, .int .i64 y]).cell 0
      have s1 := (Blk.new wr 39 #[.int .i64 x, .int .i64 y]).cell 1
      simp only [List.getElem?_toArray, List.getElem?_cons_zero, List.getElem?_cons_succ] at s0 s1
      have hne : w.heap.size + 1 ≠ wr.heap.size := by have := hB.lt; omega
      have HB5 := Lib.hid (hB.alloc (.cells #[.int .i64 x, .int .i64 y] 39))
      have HBB := Lib.hid (hb.alloc hb.size (.cells #[.int .i64 x, .int .i64 y] 39))
      have HUU := Lib.hid hU
      clear hB hU hb
      go_wp2
      generalize wr.alloc (.cells #[.int .i64 x, .int .i64 y] 39) = w5 at *
      generalize wr.heap.size = gs at *
      go_region
      apply_assumption
      go_wp2
      go_roundw
      case rel => exact ⟨k + 1, by omega, by go_num, Lib.hid ⟨_, (HB5.out.set_ (2 * k) _).set_ (2 * k + 1) _, ((HUU.out.set_ (k := 2 * k) (v := x) (by omega)).set_ (k := 2 * k + 1) (v := y) (by omega)).congr (fun i hi => HK.out i)⟩,
        ((HBB.out.setCell (p := ⟨w.heap.size + 1, 2 * k, none⟩) (by show w.heap.size ≤ w.heap.size + 1; omega) _).setCell (p := ⟨w.heap.size + 1, 2 * k + 1, none⟩) (by show w.heap.size ≤ w.heap.size + 1; omega) _).drew⟩
      case measure => simp [intOf]; omega
    · obtain rfl : k = 8 := by omega
      go_wp2
      go_ret
      obtain ⟨E, hB, hU⟩ := hE.out
      exact ⟨w.heap.size + 1, E, rfl, hB, hU, by omega, hb⟩
end Go.Proofs.YtkoflhjnpilchaaDoor
