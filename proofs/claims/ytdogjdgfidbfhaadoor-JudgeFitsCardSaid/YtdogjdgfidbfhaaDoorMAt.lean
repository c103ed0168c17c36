/-
  api.Tell, plain.Place and the laws' test of errors with a place: of an error at a place.
-/
import Derived.Test.YtdogjdgfidbfhaaDoorMErr
namespace Go.Proofs.YtdogjdgfidbfhaaDoor
set_option linter.unusedSimpArgs false
set_option linter.unusedVariables false
set_option linter.unusedSectionVars false
open Go.RowKit Go.Extern.Stop Go.Stop Go.Extern
attribute [local go_sem ↓] Go.wp_at_zero Go.wp_at_succ

theorem unwrap_at (g : Nat) (e p : Int) (w : World) (h : Blk w g 64 #[.int .i64 e, .int .i64 p]) : Calls Tryd.prog 46 #[.pointer (some ⟨g, 0, none⟩)] w fun ev w' => ev = .returned (.iface 28 (.int .i64 e)) ∧ w' = w := by
  have c0 := h.cell 0
  simp only [List.getElem?_toArray, List.getElem?_cons_zero, List.getElem?_cons_succ] at c0
  go_enter Tryd.func46, Tryd.ntmps46
  go_wp2
  go_ret
  exact ⟨rfl, rfl⟩
theorem at_As (v : Value) (w : World) : (Instr.typeAssert (.iface 61 v) 26 92 true).run Tryd.prog w = .ok (.tuple #[.nilIface, .bool false]) w :=
  run_typeAssert_lacksB Tryd.underlying92 (by kernel_rfl) (by kernel_rfl) v 26 w
theorem at_Unwrap (v : Value) (w : World) : (Instr.typeAssert (.iface 61 v) 26 65 true).run Tryd.prog w = .ok (.tuple #[.iface 61 v, .bool true]) w := by kernel_rfl
theorem at_At (v : Value) (w : World) : (Instr.typeAssert (.iface 61 v) 26 61 true).run Tryd.prog w = .ok (.tuple #[v, .bool true]) w := by kernel_rfl
theorem at_mUnwrap (h : Value) (w : World) : (Go.method 228 61 h "Unwrap").run Tryd.prog w = .ok (46, h) w := by kernel_rfl
set_option maxHeartbeats 4000000 in
theorem as_at (g : Nat) (e p : Int) (t : Addr) (old : Value) (w : World) (hb : Blk w g 64 #[.int .i64 e, .int .i64 p]) (hg : ErrT w) (ht0 : w.cell? t = some old) (hf0 : w.frozen? t = false) :
    Calls Tryd.prog 18 #[.iface 61 (.pointer (some ⟨g, 0, none⟩)), .iface 72 (.pointer (some t))] w fun ev w' => ev = .returned (.bool true) ∧ w' = ((((w.alloc (.cells #[.pointer (some t)] 72)).alloc (.cells #[.pointer (some ⟨1, 72, none⟩), .pointer (some ⟨w.heap.size, 0, none⟩), .int .u64 150] 76)).alloc (.cells #[.pointer (some ⟨1, 72, none⟩), .pointer (some ⟨w.heap.size, 0, none⟩), .int .u64 150] 76)).alloc (.cells #[.int .i64 e] 28)).setCell t (.int .i64 e) := by
  have h6 := @run_callFunc_extern Tryd.prog 19 _ (fun args => ReflectliteValue.unpack (args.getD 0 (.tuple #[]))) Tryd.func19 (by kernel_rfl) (by kernel_rfl) (by kernel_rfl) (by kernel_rfl)
  have h7 := @run_callFunc_extern Tryd.prog 20 _ (ReflectliteValue.methodAny (ReflectliteValue.valueError "reflectlite.Value.Type" 0) (fun t _ _ _ => ReflectliteType.toType t)) Tryd.func20 (by kernel_rfl) (by kernel_rfl) (by kernel_rfl) (by kernel_rfl)
  have h8 := @run_callFunc_extern Tryd.prog 21 _ (ReflectliteValue.method (ReflectliteValue.valueError "reflectlite.Value.IsNil" 0) ReflectliteValue.isNil) Tryd.func21 (by kernel_rfl) (by kernel_rfl) (by kernel_rfl) (by kernel_rfl)
  have h27 := @run_callFunc_extern Tryd.prog 40 _ (ReflectliteType.abiMethod fun t => do pure (.int .u8 (← Rtype.kind t))) Tryd.func40 (by kernel_rfl) (by kernel_rfl) (by kernel_rfl) (by kernel_rfl)
  have h37 := @run_callFunc_extern Tryd.prog 53 _ (ReflectliteType.method ReflectliteType.elem) Tryd.func53 (by kernel_rfl) (by kernel_rfl) (by kernel_rfl) (by kernel_rfl)
  have h38 := @run_callFunc_extern Tryd.prog 54 _ (ReflectliteType.relation "Implements" ReflectliteType.implements_) Tryd.func54 (by kernel_rfl) (by kernel_rfl) (by kernel_rfl) (by kernel_rfl)
  have h10 := @run_callFunc_extern Tryd.prog 23 _ ReflectliteType.typeOf Tryd.func23 (by kernel_rfl) (by kernel_rfl) (by kernel_rfl) (by kernel_rfl)
  have h35 := @run_callFunc_extern Tryd.prog 51 _ (ReflectliteType.relation "AssignableTo" ReflectliteType.assignableTo) Tryd.func51 (by kernel_rfl) (by kernel_rfl) (by kernel_rfl) (by kernel_rfl)
  have h11 := @run_callFunc_extern Tryd.prog 24 _ (ReflectliteValue.method (ReflectliteValue.valueError "reflectlite.Value.Elem" 0) ReflectliteValue.elem) Tryd.func24 (by kernel_rfl) (by kernel_rfl) (by kernel_rfl) (by kernel_rfl)
  have h12 := @run_callFunc_extern Tryd.prog 25 _ ReflectliteValue.set Tryd.func25 (by kernel_rfl) (by kernel_rfl) (by kernel_rfl) (by kernel_rfl)
  have tO := rl_typeOfE
  have tA := rl_typeOfA
  have aA := rl_assignableA
  have uA := at_As
  have uU := at_Unwrap
  have mU := at_mUnwrap
  have HBK := Lib.hid hb
  clear hb
  have mA := rl_mAssignableTo
  have a25 := rl_assignableE
  have v25 := rl_valueOfE
  have f6 := rl_valueOfP
  have f7 := rl_typeP
  have mK := rl_mKind
  have mE := rl_mElem
  have mI := rl_mImplements
  have k27 := rl_kindP
  have k25 := rl_kindE
  have e27 := rl_elemP
  have i25 := rl_implementsE
  have n8 := rl_isNilP ⟨w.heap.size, 0, none⟩ t ((w.alloc (.cells #[.pointer (some t)] 72)).alloc (.cells #[.pointer (some ⟨1, 72, none⟩), .pointer (some ⟨w.heap.size, 0, none⟩), .int .u64 150] 76)) (by simp)
  have hlt := hg.pos
  have hg2 : ((w.alloc (.cells #[.pointer (some t)] 72)).alloc (.cells #[.pointer (some ⟨1, 72, none⟩), .pointer (some ⟨w.heap.size, 0, none⟩), .int .u64 150] 76)).cell? ⟨0, 0, none⟩ = some (.iface 87 (.agg #[.pointer (some ⟨1, 26, none⟩)])) := by
    rw [World.cell?_alloc_lt _ _ ⟨0, 0, none⟩ (by simp only [World.size_alloc]; omega), World.cell?_alloc_lt _ _ ⟨0, 0, none⟩ hlt]; exact hg
  have htl : t.block < w.heap.size := by
    rcases Nat.lt_or_ge t.block w.heap.size with h | h
    · exact h
    · simp [World.cell?, Array.getElem?_eq_none h] at ht0
  have el := rl_elemVP ⟨w.heap.size, 0, none⟩ t (((w.alloc (.cells #[.pointer (some t)] 72)).alloc (.cells #[.pointer (some ⟨1, 72, none⟩), .pointer (some ⟨w.heap.size, 0, none⟩), .int .u64 150] 76)).alloc (.cells #[.pointer (some ⟨1, 72, none⟩), .pointer (some ⟨w.heap.size, 0, none⟩), .int .u64 150] 76)) (by rw [World.cell?_alloc_lt _ _ ⟨w.heap.size, 0, none⟩ (by simp; omega)]; simp)
  have st := rl_setE t ⟨w.heap.size + 1 + 1 + 1, 0, none⟩ e old ((((w.alloc (.cells #[.pointer (some t)] 72)).alloc (.cells #[.pointer (some ⟨1, 72, none⟩), .pointer (some ⟨w.heap.size, 0, none⟩), .int .u64 150] 76)).alloc (.cells #[.pointer (some ⟨1, 72, none⟩), .pointer (some ⟨w.heap.size, 0, none⟩), .int .u64 150] 76)).alloc (.cells #[.int .i64 e] 28))
    (by rw [World.cell?_alloc_at _ _ _ _ (by simp)]; rfl)
    (by rw [World.cell?_alloc_lt _ _ t (by simp; omega), World.cell?_alloc_lt _ _ t (by simp; omega), World.cell?_alloc_lt _ _ t (by simp; omega), World.cell?_alloc_lt _ _ t htl]; exact ht0)
    (by rw [World.frozen?_alloc_old _ _ t (by simp; omega), World.frozen?_alloc_old _ _ t (by simp; omega), World.frozen?_alloc_old _ _ t (by simp; omega), World.frozen?_alloc_old _ _ t (Nat.ne_of_lt htl)]; exact hf0)
  clear hg
  go_enter Tryd.func18, Tryd.ntmps18
  go_wp2
  refine wp_loop_rounds 2 ?_
  rw [rounds_succ]
  go_wp2_with (go_at_call 46; refine (unwrap_at g e p _ (HBK.out.below ?_ HBK.out.lt)).mono ?_; (go_grown); rintro ev w' ⟨rfl, rfl⟩)
  rw [rounds_succ]
  go_wp2
  go_ret
  exact ⟨rfl, rfl⟩
set_option maxHeartbeats 1000000 in
theorem tell_at (g : Nat) (e p : Int) (w : World) (hb : Blk w g 64 #[.int .i64 e, .int .i64 p]) (hg : ErrT w) : Calls Tryd.prog 16 #[.iface 61 (.pointer (some ⟨g, 0, none⟩))] w fun e' w' => e' = .returned (.int .i64 e) ∧ Below w.heap.size w w' := by
  have hg1 : ErrT (w.alloc (.cells #[.int .i64 0] 28)) := hg.below ((Below.refl _ _).alloc (Nat.le_refl _) _)
  have HG := Lib.hid hg1
  have HB := Lib.hid (hb.alloc (.cells #[.int .i64 0] 28))
  clear hg1 hg hb
  go_enter Tryd.func16, Tryd.ntmps16
  go_wp2_with (go_at_call 18; refine (as_at g e p ⟨w.heap.size, 0, none⟩ (.int .i64 0) _ HB.out HG.out (by simp) (by simp)).mono ?_; rintro ev w' ⟨rfl, rfl⟩)
  go_ret
  exact ⟨rfl, by go_grown⟩
set_option maxRecDepth 100000 in
set_option maxHeartbeats 1000000 in
theorem place_at (g : Nat) (e p : Int) (w : World) (hb : Blk w g 64 #[.int .i64 e, .int .i64 p]) (hg : ErrT w) : Calls Tryd.prog 7 #[.iface 61 (.pointer (some ⟨g, 0, none⟩))] w fun e' w' => e' = .returned (.tuple #[.int .i64 e, .int .i64 p]) ∧ Below w.heap.size w w' := by
  have HG := Lib.hid hg
  have HB := Lib.hid hb
  clear hg hb
  have t1 := at_At
  go_enter Tryd.func7, Tryd.ntmps7
  go_wp2_with fail
  refine (tell_at g e p _ HB.out HG.out).mono ?_
  rintro ev w1 ⟨rfl, hb1⟩
  have c1 := (HB.out.below hb1 HB.out.lt).cell 1
  simp only [List.getElem?_toArray, List.getElem?_cons_zero, List.getElem?_cons_succ] at c1
  have HB1 := Lib.hid hb1
  clear hb1
  go_wp2
  refine wp_loop_rounds 1 ?_
  rw [rounds_succ]
  go_wp2
  go_region
  apply_assumption
  go_wp2
  go_ret2
  exact ⟨rfl, HB1.out.drew⟩
/-- An error that Legal, Fits, Do may hand back, and what it is. -/
def PErr (v : Value) (e p : Int) (w : World) : Prop := (v = errV e ∧ p = -1) ∨ ∃ g, v = .iface 61 (.pointer (some ⟨g, 0, none⟩)) ∧ Blk w g 64 #[.int .i64 e, .int .i64 p]
theorem PErr.below {v : Value} {e p : Int} {w w' : World} (h : PErr v e p w) (hb : Below w.heap.size w w') : PErr v e p w' := by
  rcases h with h | ⟨g, h1, h2⟩
  · exact .inl h
  · exact .inr ⟨g, h1, h2.below hb h2.lt⟩
theorem pplace_any (v : Value) (e p : Int) (w : World) (h : PErr v e p w) (hg : ErrT w) : Calls Tryd.prog 7 #[v] w fun e' w' => e' = .returned (.tuple #[.int .i64 e, .int .i64 p]) ∧ Below w.heap.size w w' := by
  rcases h with ⟨rfl, rfl⟩ | ⟨g, rfl, hb⟩
  · exact eplace_any e w hg
  · exact place_at g e p w hb hg
theorem placed_any (v : Value) (e p : Int) (w : World) (h : PErr v e p w) (hg : ErrT w) : Calls Tryd.prog 4 #[v, .agg #[.int .i64 e, .int .i64 p]] w fun e' w' => e' = .returned (.bool true) ∧ Below w.heap.size w w' := by
  have HP := Lib.hid (h.below ((Below.refl _ _).alloc (Nat.le_refl _) (.cells #[.int .i64 e, .int .i64 p] 30)))
  have HG := Lib.hid (hg.below ((Below.refl _ _).alloc (Nat.le_refl _) (.cells #[.int .i64 e, .int .i64 p] 30)))
  clear h hg
  go_enter Tryd.func4, Tryd.ntmps4
  go_wp2_with fail
  refine (pplace_any v e p _ HP.out HG.out).mono ?_
  rintro ev w1 ⟨rfl, hb1⟩
  have hB := (Blk.new w 30 #[.int .i64 e, .int .i64 p]).below hb1 (Blk.new _ _ _).lt
  have c0 := hB.cell 0
  have c1 := hB.cell 1
  simp only [List.getElem?_toArray, List.getElem?_cons_zero, List.getElem?_cons_succ] at c0 c1
  have HW : Hid (Below w.heap.size w w1) := Lib.hid (Below.trans (by go_grown) (hb1.mono (by simp)))
  clear hb1 hB
  go_wp2
  go_ret
  exact ⟨rfl, HW.out⟩
end Go.Proofs.YtdogjdgfidbfhaaDoor
