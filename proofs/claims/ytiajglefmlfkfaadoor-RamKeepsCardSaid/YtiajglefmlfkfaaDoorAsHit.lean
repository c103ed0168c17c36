/-
  errors.As at a target of type pointer to Errno, api.Tell, plain.Place and the laws' two tests of errors: of no error, of a bare Errno.
-/
import Derived.Test.YtiajglefmlfkfaaDoorTell
namespace Go.Proofs.YtiajglefmlfkfaaDoor
open Go.RowKit Go.Extern.Stop Go.Stop Go.Extern
attribute [local go_sem ↓] Go.wp_at_zero Go.wp_at_succ

set_option maxHeartbeats 4000000 in
theorem as_hit (e : Int) (t : Addr) (old : Value) (w : World) (hg : ErrT w) (ht0 : w.cell? t = some old) (hf0 : w.frozen? t = false) :
    Calls Tryd.prog 140 #[.iface 25 (.int .i64 e), .iface 236 (.pointer (some t))] w fun ev w' => ev = .returned (.bool true) ∧ w' = ((((w.alloc (.cells #[.pointer (some t)] 236)).alloc (.cells #[.pointer (some ⟨1, 236, none⟩), .pointer (some ⟨w.heap.size, 0, none⟩), .int .u64 150] 242)).alloc (.cells #[.pointer (some ⟨1, 236, none⟩), .pointer (some ⟨w.heap.size, 0, none⟩), .int .u64 150] 242)).alloc (.cells #[.int .i64 e] 25)).setCell t (.int .i64 e) := by
  have h6 := @run_callFunc_extern Tryd.prog 144 _ (fun args => ReflectliteValue.unpack (args.getD 0 (.tuple #[]))) Tryd.func144 (by kernel_rfl) (by kernel_rfl) (by kernel_rfl) (by kernel_rfl)
  have h7 := @run_callFunc_extern Tryd.prog 145 _ (ReflectliteValue.methodAny (ReflectliteValue.valueError "reflectlite.Value.Type" 0) (fun t _ _ _ => ReflectliteType.toType t)) Tryd.func145 (by kernel_rfl) (by kernel_rfl) (by kernel_rfl) (by kernel_rfl)
  have h8 := @run_callFunc_extern Tryd.prog 146 _ (ReflectliteValue.method (ReflectliteValue.valueError "reflectlite.Value.IsNil" 0) ReflectliteValue.isNil) Tryd.func146 (by kernel_rfl) (by kernel_rfl) (by kernel_rfl) (by kernel_rfl)
  have h27 := @run_callFunc_extern Tryd.prog 167 _ (ReflectliteType.abiMethod fun t => do pure (.int .u8 (← Rtype.kind t))) Tryd.func167 (by kernel_rfl) (by kernel_rfl) (by kernel_rfl) (by kernel_rfl)
  have h37 := @run_callFunc_extern Tryd.prog 180 _ (ReflectliteType.method ReflectliteType.elem) Tryd.func180 (by kernel_rfl) (by kernel_rfl) (by kernel_rfl) (by kernel_rfl)
  have h38 := @run_callFunc_extern Tryd.prog 181 _ (ReflectliteType.relation "Implements" ReflectliteType.implements_) Tryd.func181 (by kernel_rfl) (by kernel_rfl) (by kernel_rfl) (by kernel_rfl)
  have h10 := @run_callFunc_extern Tryd.prog 149 _ ReflectliteType.typeOf Tryd.func149 (by kernel_rfl) (by kernel_rfl) (by kernel_rfl) (by kernel_rfl)
  have h35 := @run_callFunc_extern Tryd.prog 178 _ (ReflectliteType.relation "AssignableTo" ReflectliteType.assignableTo) Tryd.func178 (by kernel_rfl) (by kernel_rfl) (by kernel_rfl) (by kernel_rfl)
  have h11 := @run_callFunc_extern Tryd.prog 150 _ (ReflectliteValue.method (ReflectliteValue.valueError "reflectlite.Value.Elem" 0) ReflectliteValue.elem) Tryd.func150 (by kernel_rfl) (by kernel_rfl) (by kernel_rfl) (by kernel_rfl)
  have h12 := @run_callFunc_extern Tryd.prog 151 _ ReflectliteValue.set Tryd.func151 (by kernel_rfl) (by kernel_rfl) (by kernel_rfl) (by kernel_rfl)
  have tO := rl_typeOfE
  have mA := rl_mAssignableTo
  have a25 := rl_assignableE
  have v25 := rl_valueOfE
  have f6 := rl_valueOfP
  have f7 := rl_typeP
  have mK := rl_mKind
  have mE := rl_mElem
  have mI := rl_mImplements
  have k27 := rl_kindP
  have k25 := rl_kindE
  have e27 := rl_elemP
  have i25 := rl_implementsE
  have n8 := rl_isNilP ⟨w.heap.size, 0, none⟩ t ((w.alloc (.cells #[.pointer (some t)] 236)).alloc (.cells #[.pointer (some ⟨1, 236, none⟩), .pointer (some ⟨w.heap.size, 0, none⟩), .int .u64 150] 242)) (by simp)
  have hlt := hg.pos
  have hg2 : ((w.alloc (.cells #[.pointer (some t)] 236)).alloc (.cells #[.pointer (some ⟨1, 236, none⟩), .pointer (some ⟨w.heap.size, 0, none⟩), .int .u64 150] 242)).cell? ⟨0, 0, none⟩ = some (.iface 252 (.agg #[.pointer (some ⟨1, 29, none⟩)])) := by
    rw [World.cell?_alloc_lt _ _ ⟨0, 0, none⟩ (by simp), World.cell?_alloc_lt _ _ ⟨0, 0, none⟩ hlt]; exact hg
  have htl : t.block < w.heap.size := by
    rcases Nat.lt_or_ge t.block w.heap.size with h | h
    · exact h
    · simp [World.cell?, Array.getElem?_eq_none h] at ht0
  have el := rl_elemVP ⟨w.heap.size, 0, none⟩ t (((w.alloc (.cells #[.pointer (some t)] 236)).alloc (.cells #[.pointer (some ⟨1, 236, none⟩), .pointer (some ⟨w.heap.size, 0, none⟩), .int .u64 150] 242)).alloc (.cells #[.pointer (some ⟨1, 236, none⟩), .pointer (some ⟨w.heap.size, 0, none⟩), .int .u64 150] 242)) (by rw [World.cell?_alloc_lt _ _ ⟨w.heap.size, 0, none⟩ (by simp; omega)]; simp)
  have st := rl_setE t ⟨w.heap.size + 1 + 1 + 1, 0, none⟩ e old ((((w.alloc (.cells #[.pointer (some t)] 236)).alloc (.cells #[.pointer (some ⟨1, 236, none⟩), .pointer (some ⟨w.heap.size, 0, none⟩), .int .u64 150] 242)).alloc (.cells #[.pointer (some ⟨1, 236, none⟩), .pointer (some ⟨w.heap.size, 0, none⟩), .int .u64 150] 242)).alloc (.cells #[.int .i64 e] 25))
    (by rw [World.cell?_alloc_at _ _ _ _ (by simp)]; rfl)
    (by rw [World.cell?_alloc_lt _ _ t (by simp; omega), World.cell?_alloc_lt _ _ t (by simp; omega), World.cell?_alloc_lt _ _ t (by simp; omega), World.cell?_alloc_lt _ _ t htl]; exact ht0)
    (by rw [World.frozen?_alloc_old _ _ t (by simp; omega), World.frozen?_alloc_old _ _ t (by simp; omega), World.frozen?_alloc_old _ _ t (by simp; omega), World.frozen?_alloc_old _ _ t (Nat.ne_of_lt htl)]; exact hf0)
  clear hg
  go_enter Tryd.func140, Tryd.ntmps140
  go_wp2
  refine wp_loop_rounds 1 ?_
  rw [rounds_succ]
  go_wp2
  go_ret
  exact ⟨rfl, rfl⟩
end Go.Proofs.YtiajglefmlfkfaaDoor
