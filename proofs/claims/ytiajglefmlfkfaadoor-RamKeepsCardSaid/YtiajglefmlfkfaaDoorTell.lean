/-
  What errors.As at a target of type pointer to Errno, api.Tell and plain.Place hand back: of no error, of a bare Errno, of an Errno at a place. The variable errors.errorType holds the type of error (a premise on its cell).
-/
import Derived.Test.YtiajglefmlfkfaaDoorProg
import Derived.Test.YtiajglefmlfkfaaDoorKit
import Derived.LaidEql
import Derived.Stop.Asserts
import Derived.RowKitTokens
namespace Go.Proofs.YtiajglefmlfkfaaDoor
open Go.RowKit Go.Extern.Stop Go.Stop Go.Extern
attribute [local go_sem ↓] Go.wp_at_zero Go.wp_at_succ

/-- The variable's cell. -/
def ErrT (w : World) : Prop := w.cell? ⟨0, 0, none⟩ = some (.iface 252 (.agg #[.pointer (some ⟨1, 29, none⟩)]))
theorem ErrT.pos {w : World} (h : ErrT w) : 0 < w.heap.size := by
  rcases Nat.eq_zero_or_pos w.heap.size with h0 | h1
  · unfold ErrT at h; simp [World.cell?, h0] at h
  · exact h1
theorem ErrT.below {w w' : World} (h : ErrT w) (hb : Below w.heap.size w w') : ErrT w' := (hb.cell (p := ⟨0, 0, none⟩) h.pos).trans h

theorem as_nil (t : Value) (w : World) : Calls Tryd.prog 140 #[.nilIface, t] w fun e w' => e = .returned (.bool false) ∧ w' = w := by
  go_enter Tryd.func140, Tryd.ntmps140
  go_wp2
  go_ret
  exact ⟨rfl, rfl⟩

theorem rl_valueOfP (t : Addr) (w : World) : (ReflectliteValue.unpack (.iface 236 (.pointer (some t)))).run Tryd.prog w
    = .ok (.agg #[.pointer (some ⟨1, 236, none⟩), .pointer (some ⟨w.heap.size, 0, none⟩), .int .u64 150]) (w.alloc (.cells #[.pointer (some t)] 236)) := by kernel_rfl
theorem rl_typeP (a : Addr) (w : World) : (ReflectliteValue.methodAny (ReflectliteValue.valueError "reflectlite.Value.Type" 0) (fun t _ _ _ => ReflectliteType.toType t) #[.agg #[.pointer (some ⟨1, 236, none⟩), .pointer (some a), .int .u64 150]]).run Tryd.prog w
    = .ok (.iface 252 (.agg #[.pointer (some ⟨1, 236, none⟩)])) w := by kernel_rfl
theorem rl_mKind (h : Value) (w : World) : (Go.method 393 252 (.agg #[h]) "Kind").run Tryd.prog w = .ok (167, h) w := by kernel_rfl
theorem rl_kindP (w : World) : ((ReflectliteType.abiMethod fun t => (fun a : Nat => Value.int IntKind.u8 (a : Int)) <$> Rtype.kind t) #[.pointer (some ⟨1, 236, none⟩)]).run Tryd.prog w = .ok (.int .u8 22) w := by kernel_rfl
theorem rl_kindE (w : World) : ((ReflectliteType.abiMethod fun t => (fun a : Nat => Value.int IntKind.u8 (a : Int)) <$> Rtype.kind t) #[.pointer (some ⟨1, 25, none⟩)]).run Tryd.prog w = .ok (.int .u8 2) w := by kernel_rfl
theorem rlm (z : Sem Value) (f : TypeId → Addr → Nat → Nat → Sem Value) (v : Value) :
    ReflectliteValue.method z f #[v] = (do match ← ReflectliteValue.parts v with | none => z | some (t, a, fl) => f t a fl (fl % 32)) := rfl
theorem rl_partsP (a : Addr) (w : World) : (ReflectliteValue.parts (.agg #[.pointer (some ⟨1, 236, none⟩), .pointer (some a), .int .u64 150])).run Tryd.prog w = .ok (some (236, a, 150)) w := by kernel_rfl
theorem rl_isNilP (a p : Addr) (W : World) (ha : W.cell? a = some (.pointer (some p))) :
    (ReflectliteValue.method (ReflectliteValue.valueError "reflectlite.Value.IsNil" 0) ReflectliteValue.isNil #[.agg #[.pointer (some ⟨1, 236, none⟩), .pointer (some a), .int .u64 150]]).run Tryd.prog W = .ok (.bool false) W := by
  rw [rlm]
  simp only [Sem.run_bind, rl_partsP, Result.andThen]
  simp [ReflectliteValue.isNil, loadVar, isAgg, underlying, Tryd.underlying236, ha, Result.andThen]
theorem rl_mElem (h : Value) (w : World) : (Go.method 393 252 (.agg #[h]) "Elem").run Tryd.prog w = .ok (180, .agg #[h]) w := by kernel_rfl
theorem rl_mImplements (h : Value) (w : World) : (Go.method 393 252 (.agg #[h]) "Implements").run Tryd.prog w = .ok (181, .agg #[h]) w := by kernel_rfl
theorem rl_mAssignableTo (h : Value) (w : World) : (Go.method 393 252 (.agg #[h]) "AssignableTo").run Tryd.prog w = .ok (178, .agg #[h]) w := by kernel_rfl
theorem rl_elemP (w : World) : (ReflectliteType.method ReflectliteType.elem #[.agg #[.pointer (some ⟨1, 236, none⟩)]]).run Tryd.prog w = .ok (.iface 252 (.agg #[.pointer (some ⟨1, 25, none⟩)])) w := by kernel_rfl
theorem rl_implementsE (w : World) : (ReflectliteType.relation "Implements" ReflectliteType.implements_ #[.agg #[.pointer (some ⟨1, 25, none⟩)], .iface 252 (.agg #[.pointer (some ⟨1, 29, none⟩)])]).run Tryd.prog w = .ok (.bool true) w := by kernel_rfl
theorem rl_typeOfE (v : Value) (w : World) : (ReflectliteType.typeOf #[.iface 25 v]).run Tryd.prog w = .ok (.iface 252 (.agg #[.pointer (some ⟨1, 25, none⟩)])) w := by kernel_rfl
theorem rl_typeOfA (v : Value) (w : World) : (ReflectliteType.typeOf #[.iface 205 v]).run Tryd.prog w = .ok (.iface 252 (.agg #[.pointer (some ⟨1, 205, none⟩)])) w := by kernel_rfl
theorem rl_assignableE (w : World) : (ReflectliteType.relation "AssignableTo" ReflectliteType.assignableTo #[.agg #[.pointer (some ⟨1, 25, none⟩)], .iface 252 (.agg #[.pointer (some ⟨1, 25, none⟩)])]).run Tryd.prog w = .ok (.bool true) w := by kernel_rfl
theorem rl_assignableA (w : World) : (ReflectliteType.relation "AssignableTo" ReflectliteType.assignableTo #[.agg #[.pointer (some ⟨1, 205, none⟩)], .iface 252 (.agg #[.pointer (some ⟨1, 25, none⟩)])]).run Tryd.prog w = .ok (.bool false) w := by kernel_rfl
theorem rl_valueOfE (e : Int) (w : World) : (ReflectliteValue.unpack (.iface 25 (.int .i64 e))).run Tryd.prog w
    = .ok (.agg #[.pointer (some ⟨1, 25, none⟩), .pointer (some ⟨w.heap.size, 0, none⟩), .int .u64 130]) (w.alloc (.cells #[.int .i64 e] 25)) := by kernel_rfl
theorem rl_elemOfP (w : World) : (Rtype.elem? 236).run Tryd.prog w = .ok (some 25) w := by kernel_rfl
theorem rl_mkE (p : Addr) (w : World) : (ReflectliteValue.mk 25 p ReflectliteValue.flagAddr).run Tryd.prog w = .ok (.agg #[.pointer (some ⟨1, 25, none⟩), .pointer (some p), .int .u64 386]) w := by kernel_rfl
theorem rl_elemVP (a p : Addr) (W : World) (ha : W.cell? a = some (.pointer (some p))) :
    (ReflectliteValue.method (ReflectliteValue.valueError "reflectlite.Value.Elem" 0) ReflectliteValue.elem #[.agg #[.pointer (some ⟨1, 236, none⟩), .pointer (some a), .int .u64 150]]).run Tryd.prog W
      = .ok (.agg #[.pointer (some ⟨1, 25, none⟩), .pointer (some p), .int .u64 386]) W := by
  rw [rlm]
  simp only [Sem.run_bind, rl_partsP, Result.andThen]
  simp [ReflectliteValue.elem, loadVar, isAgg, underlying, Tryd.underlying236, ha, Result.andThen, rl_elemOfP, rl_mkE]
theorem rls : ∃ s1 s2 s3 s4 s5 : String, ∀ v x : Value, ReflectliteValue.set #[v, x] = (do
    let (some (dst, a, fl), some (src, b, _)) := (← ReflectliteValue.parts v, ← ReflectliteValue.parts x)
      | unsupported (.noEntry s1)
    if fl / ReflectliteValue.flagAddr % 2 == 0 then unsupported (.noEntry s2)
    let val ← loadVar src b
    if ← Rtype.directlyAssignable dst src then storeVar dst a val
    else if ← Rtype.implements dst src then
      if (← Rtype.kind src) == 20 then
        match val with
        | .nilIface => unsupported (.noEntry s3)
        | _ => storeVar dst a val
      else storeVar dst a (.iface src val)
    else panicString (s4 ++ (← Rtype.spelt src) ++ s5 ++ (← Rtype.spelt dst))
    pure (.tuple #[])) := ⟨_, _, _, _, _, fun _ _ => rfl⟩
theorem rl_partsE (a : Addr) (w : World) : (ReflectliteValue.parts (.agg #[.pointer (some ⟨1, 25, none⟩), .pointer (some a), .int .u64 386])).run Tryd.prog w = .ok (some (25, a, 386)) w := by kernel_rfl
theorem rl_partsE' (a : Addr) (w : World) : (ReflectliteValue.parts (.agg #[.pointer (some ⟨1, 25, none⟩), .pointer (some a), .int .u64 130])).run Tryd.prog w = .ok (some (25, a, 130)) w := by kernel_rfl
theorem rl_directE (w : World) : (Rtype.directlyAssignable 25 25).run Tryd.prog w = .ok true w := by kernel_rfl
theorem rl_setE (ta b : Addr) (e : Int) (old : Value) (W : World) (hb : W.cell? b = some (.int .i64 e)) (ht : W.cell? ta = some old) (hf : W.frozen? ta = false) :
    (ReflectliteValue.set #[.agg #[.pointer (some ⟨1, 25, none⟩), .pointer (some ta), .int .u64 386], .agg #[.pointer (some ⟨1, 25, none⟩), .pointer (some b), .int .u64 130]]).run Tryd.prog W
      = .ok (.tuple #[]) (W.setCell ta (.int .i64 e)) := by
  obtain ⟨s1, s2, s3, s4, s5, hs⟩ := rls
  rw [hs]
  simp only [Sem.run_bind, rl_partsE, rl_partsE', Result.andThen]
  simp [ReflectliteValue.flagAddr, loadVar, isAgg, underlying, Tryd.underlying25, hb, Result.andThen, rl_directE, storeVar, Value.cells, storeCells, Addr.add]
  rw [run_store Tryd.prog W ta _ _ (by rfl)]
  simp [ht, hf]

end Go.Proofs.YtiajglefmlfkfaaDoor
