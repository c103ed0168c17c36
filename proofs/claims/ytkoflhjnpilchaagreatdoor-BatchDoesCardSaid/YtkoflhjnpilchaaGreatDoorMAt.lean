/-
  api.Tell, plain.Place and the laws' test of errors with a place: of an error at a place.
-/
import Derived.Test.YtkoflhjnpilchaaGreatDoorMErr
namespace Go.Proofs.YtkoflhjnpilchaaGreatDoor
set_option linter.unusedSimpArgs false
set_option linter.unusedVariables false
set_option linter.unusedSectionVars false
open Go.RowKit Go.Extern.Stop Go.Stop Go.Extern
attribute [local go_sem ↓] Go.wp_at_zero Go.wp_at_succ

theorem unwrap_at (g : Nat) (e p : Int) (w : World) (h : Blk w g 78 #[.int .i64 e, .int .i64 p]) : Calls Tryz.prog 113 #[.pointer (some ⟨g, 0, none⟩)] w fun ev w' => ev = .returned (.iface 28 (.int .i64 e)) ∧ w' = w := by
  have c0 := h.cell 0
  simp only [List.getElem?_toArray, List.getElem?_cons_zero, List.getElem?_cons_succ] at c0
  go_enter Tryz.func113, Tryz.ntmps113
  go_wp2
  go_ret
  exact ⟨rfl, rfl⟩
theorem at_As (v : Value) (w : World) : (Instr.typeAssert (.iface 75 v) 34 165 true).run Tryz.prog w = .ok (.tuple #[.nilIface, .bool false]) w :=
  run_typeAssert_lacksB Tryz.underlying165 (by kernel_rfl) (by kernel_rfl) v 34 w
theorem at_Unwrap (v : Value) (w : World) : (Instr.typeAssert (.iface 75 v) 34 113 true).run Tryz.prog w = .ok (.tuple #[.iface 75 v, .bool true]) w := by kernel_rfl
theorem at_At (v : Value) (w : World) : (Instr.typeAssert (.iface 75 v) 34 75 true).run Tryz.prog w = .ok (.tuple #[v, .bool true]) w := by kernel_rfl
theorem at_mUnwrap (h : Value) (w : World) : (Go.method 310 75 h "Unwrap").run Tryz.prog w = .ok (113, h) w := by kernel_rfl
set_option maxHeartbeats 4000000 in
theorem as_at (g : Nat) (e p : Int) (t : Addr) (old : Value) (w : World) (hb : Blk w g 78 #[.int .i64 e, .int .i64 p]) (hg : ErrT w) (ht0 : w.cell? t = some old) (hf0 : w.frozen? t = false) :
    Calls Tryz.prog 36 #[.iface 75 (.pointer (some ⟨g, 0, none⟩)), .iface 107 (.pointer (some t))] w fun ev w' => ev = .returned (.bool true) ∧ w' = ((((w.alloc (.cells #[.pointer (some t)] 107)).alloc (.cells #[.pointer (some ⟨1, 107, none⟩), .pointer (some ⟨w.heap.size, 0, none⟩), .int .u64 150] 138)).alloc (.cells #[.pointer (some ⟨1, 107, none⟩), .pointer (some ⟨w.heap.size, 0, none⟩), .int .u64 150] 138)).alloc (.cells #[.int .i64 e] 28)).setCell t (.int .i64 e) := by
  have h6 := @run_callFunc_extern Tryz.prog 57 _ (fun args => ReflectliteValue.unpack (args.getD 0 (.tuple #[]))) Tryz.func57 (by kernel_rfl) (by kernel_rfl) (by kernel_rfl) (by kernel_rfl)
  have h7 := @run_callFunc_extern Tryz.prog 58 _ (ReflectliteValue.methodAny (ReflectliteValue.valueError "reflectlite.Value.Type" 0) (fun t _ _ _ => ReflectliteType.toType t)) Tryz.func58 (by kernel_rfl) (by kernel_rfl) (by kernel_rfl) (by kernel_rfl)
  have h8 := @run_callFunc_extern Tryz.prog 59 _ (ReflectliteValue.method (ReflectliteValue.valueError "reflectlite.Value.IsNil" 0) ReflectliteValue.isNil) Tryz.func59 (by kernel_rfl) (by kernel_rfl) (by kernel_rfl) (by kernel_rfl)
  have h27 := @run_callFunc_extern Tryz.prog 107 _ (ReflectliteType.abiMethod fun t => do pure (.int .u8 (← Rtype.kind t))) Tryz.func107 (by kernel_rfl) (by kernel_rfl) (by kernel_rfl) (by kernel_rfl)
  have h37 := @run_callFunc_extern Tryz.prog 120 _ (ReflectliteType.method ReflectliteType.elem) Tryz.func120 (by kernel_rfl) (by kernel_rfl) (by kernel_rfl) (by kernel_rfl)
  have h38 := @run_callFunc_extern Tryz.prog 121 _ (ReflectliteType.relation "Implements" ReflectliteType.implements_) Tryz.func121 (by kernel_rfl) (by kernel_rfl) (by kernel_rfl) (by kernel_rfl)
  have h10 := @run_callFunc_extern Tryz.prog 77 _ ReflectliteType.typeOf Tryz.func77 (by kernel_rfl) (by kernel_rfl) (by kernel_rfl) (by kernel_rfl)
  have h35 := @run_callFunc_extern Tryz.prog 118 _ (ReflectliteType.relation "AssignableTo" ReflectliteType.assignableTo) Tryz.func118 (by kernel_rfl) (by kernel_rfl) (by kernel_rfl) (by kernel_rfl)
  have h11 := @run_callFunc_extern Tryz.prog 78 _ (ReflectliteValue.method (ReflectliteValue.valueError "reflectlite.Value.Elem" 0) ReflectliteValue.elem) Tryz.func78 (by kernel_rfl) (by kernel_rfl) (by kernel_rfl) (by kernel_rfl)
  have h12 := @run_callFunc_extern Tryz.prog 79 _ ReflectliteValue.set Tryz.func79 (by kernel_rfl) (by kernel_rfl) (by kernel_rfl) (by kernel_rfl)
  have tO := rl_typeOfE
  have tA := rl_typeOfA
  have aA := rl_assignableA
  have uA := at_As
  have uU := at_Unwrap
  have mU := at_mUnwrap
  have HBK := Lib.hid hb
  clear hb
  have mA := rl_mAssignableTo
  have a25 := rl_assignableE
  have v25 := rl_valueOfE
  have f6 := rl_valueOfP
  have f7 := rl_typeP
  have mK := rl_mKind
  have mE := rl_mElem
  have mI := rl_mImplements
  have k27 := rl_kindP
  have k25 := rl_kindE
  have e27 := rl_elemP
  have i25 := rl_implementsE
  have n8 := rl_isNilP ⟨w.heap.size, 0, none⟩ t ((w.alloc (.cells #[.pointer (some t)] 107)).alloc (.cells #[.pointer (some ⟨1, 107, none⟩), .pointer (some ⟨w.heap.size, 0, none⟩), .int .u64 150] 138)) (by simp)
  have hlt := hg.pos
  have hg2 : ((w.alloc (.cells #[.pointer (some t)] 107)).alloc (.cells #[.pointer (some ⟨1, 107, none⟩), .pointer (some ⟨w.heap.size, 0, none⟩), .int .u64 150] 138)).cell? ⟨0, 0, none⟩ = some (.iface 160 (.agg #[.pointer (some ⟨1, 34, none⟩)])) := by
    rw [World.cell?_alloc_lt _ _ ⟨0, 0, none⟩ (by simp only [World.size_alloc]; omega), World.cell?_alloc_lt _ _ ⟨0, 0, none⟩ hlt]; exact hg
  have htl : t.block < w.heap.size := by
    rcases Nat.lt_or_ge t.block w.heap.size with h | h
    · exact h
    · simp [World.cell?, Array.getElem?_eq_none h] at ht0
  have el := rl_elemVP ⟨w.heap.size, 0, none⟩ t (((w.alloc (.cells #[.pointer (some t)] 107)).alloc (.cells #[.pointer (some ⟨1, 107, none⟩), .pointer (some ⟨w.heap.size, 0, none⟩), .int .u64 150] 138)).alloc (.cells #[.pointer (some ⟨1, 107, none⟩), .pointer (some ⟨w.heap.size, 0, none⟩), .int .u64 150] 138)) (by rw [World.cell?_alloc_lt _ _ ⟨w.heap.size, 0, none⟩ (by simp; omega)]; simp)
  have st := rl_setE t ⟨w.heap.size + 1 + 1 + 1, 0, none⟩ e old ((((w.alloc (.cells #[.pointer (some t)] 107)).alloc (.cells #[.pointer (some ⟨1, 107, none⟩), .pointer (some ⟨w.heap.size, 0, none⟩), .int .u64 150] 138)).alloc (.cells #[.pointer (some ⟨1, 107, none⟩), .pointer (some ⟨w.heap.size, 0, none⟩), .int .u64 150] 138)).alloc (.cells #[.int .i64 e] 28))
    (by rw [World.cell?_alloc_at _ _ _ _ (by simp)]; rfl)
    (by rw [World.cell?_alloc_lt _ _ t (by simp; omega), World.cell?_alloc_lt _ _ t (by simp; omega), World.cell?_alloc_lt _ _ t (by simp; omega), World.cell?_alloc_lt _ _ t htl]; exact ht0)
    (by rw [World.frozen?_alloc_old _ _ t (by simp; omega), World.frozen?_alloc_old _ _ t (by simp; omega), World.frozen?_alloc_old _ _ t (by simp; omega), World.frozen?_alloc_old _ _ t (Nat.ne_of_lt htl)]; exact hf0)
  clear hg
  go_enter Tryz.func36, Tryz.ntmps36
  go_wp2
  refine wp_loop_rounds 2 ?_
  rw [rounds_succ]
  go_wp2_with (go_at_call 113; refine (unwrap_at g e p _ (HBK.out.below ?_ HBK.out.lt)).mono ?_; (go_grown); rintro ev w' ⟨rfl, rfl⟩)
  rw [rounds_succ]
  go_wp2
  go_ret
  exact ⟨rfl, rfl⟩
set_option maxHeartbeats 1000000 in
theorem tell_at (g : Nat) (e p : Int) (w : World) (hb : Blk w g 78 #[.int .i64 e, .int .i64 p]) (hg : ErrT w) : Calls Tryz.prog 19 #[.iface 75 (.pointer (some ⟨g, 0, none⟩))] w fun e' w' => e' = .returned (.int .i64 e) ∧ Below w.heap.size w w' := by
  have hg1 : ErrT (w.alloc (.cells #[.int .i64 0] 28)) := hg.below ((Below.refl _ _).alloc (Nat.le_refl _) _)
  have HG := Lib.hid hg1
  have HB := Lib.hid (hb.alloc (.cells #[.int .i64 0] 28))
  clear hg1 hg hb
  go_enter Tryz.func19, Tryz.ntmps19
  go_wp2_with (go_at_call 36; refine (as_at g e p ⟨w.heap.size, 0, none⟩ (.int .i64 0) _ HB.out HG.out (by simp) (by simp)).mono ?_; rintro ev w' ⟨rfl, rfl⟩)
  go_ret
  exact ⟨rfl, by go_grown⟩
set_option maxRecDepth 100000 in
set_option maxHeartbeats 1000000 in
theorem place_at (g : Nat) (e p : Int) (w : World) (hb : Blk w g 78 #[.int .i64 e, .int .i64 p]) (hg : ErrT w) : Calls Tryz.prog 22 #[.iface 75 (.pointer (some ⟨g, 0, none⟩))] w fun e' w' => e' = .returned (.tuple #[.int .i64 e, .int .i64 p]) ∧ Below w.heap.size w w' := by
  have HG := Lib.hid hg
  have HB := Lib.hid hb
  clear hg hb
  have t1 := at_At
  go_enter Tryz.func22, Tryz.ntmps22
  go_wp2_with fail
  refine (tell_at g e p _ HB.out HG.out).mono ?_
  rintro ev w1 ⟨rfl, hb1⟩
  have c1 := (HB.out.below hb1 HB.out.lt).cell 1
  simp only [List.getElem?_toArray, List.getElem?_cons_zero, List.getElem?_cons_succ] at c1
  have HB1 := Lib.hid hb1
  clear hb1
  go_wp2
  refine wp_loop_rounds 1 ?_
  rw [rounds_succ]
  go_wp2
  go_region
  apply_assumption
  go_wp2
  go_ret2
  exact ⟨rfl, HB1.out.drew⟩
/-- An error that Legal, Fits, Do may hand back, and what it is. -/
def PErr (v : Value) (e p : Int) (w : World) : Prop := (v = errV e ∧ p = -1) ∨ ∃ g, v = .iface 75 (.pointer (some ⟨g, 0, none⟩)) ∧ Blk w g 78 #[.int .i64 e, .int .i64 p]
theorem PErr.below {v : Value} {e p : Int} {w w' : World} (h : PErr v e p w) (hb : Below w.heap.size w w') : PErr v e p w' := by
  rcases h with h | ⟨g, h1, h2⟩
  · exact .inl h
  · exact .inr ⟨g, h1, h2.below hb h2.lt⟩
theorem pplace_any (v : Value) (e p : Int) (w : World) (h : PErr v e p w) (hg : ErrT w) : Calls Tryz.prog 22 #[v] w fun e' w' => e' = .returned (.tuple #[.int .i64 e, .int .i64 p]) ∧ Below w.heap.size w w' := by
  rcases h with ⟨rfl, rfl⟩ | ⟨g, rfl, hb⟩
  · exact eplace_any e w hg
  · exact place_at g e p w hb hg
theorem placed_any (v : Value) (e p : Int) (w : World) (h : PErr v e p w) (hg : ErrT w) : Calls Tryz.prog 7 #[v, .agg #[.int .i64 e, .int .i64 p]] w fun e' w' => e' = .returned (.bool true) ∧ Below w.heap.size w w' := by
  have HP := Lib.hid (h.below ((Below.refl _ _).alloc (Nat.le_refl _) (.cells #[.int .i64 e, .int .i64 p] 30)))
  have HG := Lib.hid (hg.below ((Below.refl _ _).alloc (Nat.le_refl _) (.cells #[.int .i64 e, .int .i64 p] 30)))
  clear h hg
  go_enter Tryz.func7, Tryz.ntmps7
  go_wp2_with fail
  refine (pplace_any v e p _ HP.out HG.out).mono ?_
  rintro ev w1 ⟨rfl, hb1⟩
  have hB := (Blk.new w 30 #[.int .i64 e, .int .i64 p]).below hb1 (Blk.new _ _ _).lt
  have c0 := hB.cell 0
  have c1 := hB.cell 1
  simp only [List.getElem?_toArray, List.getElem?_cons_zero, List.getElem?_cons_succ] at c0 c1
  have HW : Hid (Below w.heap.size w w1) := Lib.hid (Below.trans (by go_grown) (hb1.mono (by simp)))
  clear hb1 hB
  go_wp2
  go_ret
  exact ⟨rfl, HW.out⟩
end Go.Proofs.YtkoflhjnpilchaaGreatDoor
