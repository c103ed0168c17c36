/-
  append of one element of more than one cell onto a slice of the call's own.
-/
import Derived.Test.YtkoflhjnpilchaaGreatDoorMBase
import Derived.Deep.AppendLies
namespace Go.Proofs.YtkoflhjnpilchaaGreatDoor
set_option linter.unusedSimpArgs false
set_option linter.unusedVariables false
set_option linter.unusedSectionVars false
open Go.RowKit

theorem ownV_append {P : Program} {w : World} {B : Nat} {t e : TypeId} {m bytes : Nat} {i0 : TypeInfo} {zv : Value} (hu : P.underlying t = some (.slice e)) (hi : P.info? e = some i0) (hz : i0.zero = some zv) (hs : i0.size = m) (hby : i0.bytes = bytes)
    (hzs : zv.cells.size = m) (hm : 0 < m) (hbb : bytes ≤ 1000) {A : Option Addr} {n c : Nat} {xs : List Value} (hown : w.ownsRow B e m (.slice A n c) n xs) {g : Nat} {ys : List Value} (hl : ys.length = m)
    (hv : ∀ j, j < m → w.cell? ⟨g, j, none⟩ = ys[j]?) (h1 : ∀ u ∈ ys, u.oneCell' = true) (hn : n ≤ 1000) (hB : B ≤ w.heap.size) (ty : TypeId) (c' : Nat) :
    ∃ g' cap w', (Builtin.append_ #[t, t] ty #[.slice A n c, .slice (some ⟨g, 0, none⟩) 1 c']).run P w = .ok (.slice (some ⟨g', 0, none⟩) (n + 1) cap) w' ∧ w'.ownsRow B e m (.slice (some ⟨g', 0, none⟩) (n + 1) cap) (n + 1) (xs ++ ys) ∧ Below B w w' := by
  obtain ⟨g', cap, w', hr, ho, hg, hat, hlt⟩ := run_append_lies (P := P) w t ty B e i0 zv m bytes hu hi hz hs hby hzs hm (.slice A n c) n _ hown ⟨g, 0, none⟩ 1 c' ys (by omega)
    (by intro j u hj
        have hj0 : j < m := by have := (List.getElem?_eq_some_iff.1 hj).1; omega
        have := hv j hj0
        rw [hj] at this
        simpa [Addr.add_lit] using this) h1 (by decide) (by unfold maxLen; omega) (by
          have : (n + 1) * bytes ≤ 1001 * 1000 := Nat.mul_le_mul (by omega) hbb
          omega) hB _ rfl
  refine ⟨g', cap, w', hr, ho, ⟨hg.os, hg.tape, hg.output, hg.size, fun k hk => hg.block k (by omega) ?_⟩⟩
  intro e
  have := (World.ownsRow.lt hown k e.symm).1
  omega

theorem relyAt_appendV {P : Program} {o : Oper} {a : Act} {w : World} {T : Value → World → Prop} (s x : Operand) {B : Nat} {t e : TypeId} {m bytes : Nat} {i0 : TypeInfo} {zv : Value}
    (ho : o.op = .call { callee := .builtin .append, args := #[s, x], argTypes := #[t, t] }) (hu : P.underlying t = some (.slice e)) (hi : P.info? e = some i0) (hz : i0.zero = some zv) (hs : i0.size = m) (hby : i0.bytes = bytes)
    (hzs : zv.cells.size = m) (hm : 0 < m) (hbb : bytes ≤ 1000) {A : Option Addr} {n c : Nat} {xs : List Value} (hse : a.eval s = .slice A n c) (hown : w.ownsRow B e m (.slice A n c) n xs) {g c' : Nat} (hx : a.eval x = .slice (some ⟨g, 0, none⟩) 1 c') {ys : List Value} (hl : ys.length = m)
    (hv : ∀ j, j < m → w.cell? ⟨g, j, none⟩ = ys[j]?) (h1 : ∀ u ∈ ys, u.oneCell' = true) (hn : n ≤ 1000) (hB : B ≤ w.heap.size)
    (hK : ∀ g' cap w', w'.ownsRow B e m (.slice (some ⟨g', 0, none⟩) (n + 1) cap) (n + 1) (xs ++ ys) → Below B w w' → T (.slice (some ⟨g', 0, none⟩) (n + 1) cap) w') : relyAt P o a w T := by
  obtain ⟨g', cap, w', hr, h2, h3⟩ := ownV_append hu hi hz hs hby hzs hm hbb hown hl hv h1 hn hB o.type c'
  unfold relyAt execOp
  simp only [ho, resolve, invoke, builtin, Sem.run_bind, Sem.run_pure, Result.andThen_ok, List.map_toArray, List.map_cons, List.map_nil, hse, hx, hr]
  exact hK g' cap w' h2 h3

theorem ownV_below {w w' : World} {B e m : Nat} {A : Option Addr} {n c : Nat} {xs : List Value} (h : w.ownsRow B e m (.slice A n c) n xs) (hb : Below w.heap.size w w') : w'.ownsRow B e m (.slice A n c) n xs := by
  refine World.ownsRow.kept (row := none) h ⟨hb.os, hb.tape, hb.output, hb.size, fun k hk _ => hb.block k hk⟩ ?_
  cases ho : (Value.slice A n c).ownBlock with
  | none => exact .inl rfl
  | some k => exact .inr (by simp)
end Go.Proofs.YtkoflhjnpilchaaGreatDoor
