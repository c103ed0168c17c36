/-
  strconv.Itoa and op.Say, op.Print with the reference's answers. The tables of strings and strconv hold what they hold (premises on variables).
-/
import Derived.Test.YtagdjpcbgnppnaaDoorStrC
import Derived.Test.YtagdjpcbgnppnaaDoorOpW
import Derived.Lib.ItoaLen
namespace Go.Proofs.YtagdjpcbgnppnaaDoor
set_option linter.unusedSimpArgs false
set_option linter.unusedVariables false
set_option linter.unusedSectionVars false
open Go.RowKit
attribute [local go_sem ↓] Go.wp_at_zero Go.wp_at_succ

theorem tab_up {w w' : World} {n : String} {k : IntKind} {zs : List Int} (h : Lib.TabBelow Tryd.prog w.heap.size w n k zs) (hb : Below w.heap.size w w') : Lib.TabBelow Tryd.prog w'.heap.size w' n k zs := fun w'' h'' => h.on hb w'' (h''.mono hb.size)
/-- What Print reads. -/
structure PrintT (w : World) : Prop where
  sp : SpT w.heap.size w
  ten : TenT w.heap.size w
  names : StrT w 0 opL
theorem PrintT.below {w w' : World} (h : PrintT w) (hb : Below w.heap.size w w') : PrintT w' := ⟨tab_up h.sp hb, tab_up h.ten hb, h.names.below (by decide) hb⟩

/-- strconv.Itoa, where the table of tens is held. -/
def itoaB (n : Int) : ByteArray := ⟨(Lib.itoa n).toArray⟩
theorem itoa_any (n : Int) (h0 : -9223372036854775808 ≤ n) (h1 : n ≤ 9223372036854775807) {B : Nat} {w : World} (hT : TenT B w) : Calls Tryd.prog 20 #[.int .i64 n] w fun e w' => e = .returned (.string (itoaB n)) ∧ Below w.heap.size w w' := by
  refine (Tryd.strconv_Itoa n h0 h1 w hT.here).mono ?_
  rintro e w' ⟨rfl, k, os, rfl⟩
  exact ⟨rfl, Lib.below_grow _ w (Nat.le_refl _) k os⟩

theorem itoaB_size (n : Int) (h0 : -9223372036854775808 ≤ n) (h1 : n ≤ 9223372036854775807) : (itoaB n).size ≤ 21 := by
  have := Lib.itoa_length_le n h0 h1
  simpa [itoaB, ByteArray.size] using this
theorem code_size (c : Int) : (nameOf codeL c).size ≤ 6 := by
  unfold nameOf
  generalize (c - 1).toNat = k
  rcases (by omega : k = 0 ∨ k = 1 ∨ k = 2 ∨ k = 3 ∨ k = 4 ∨ 5 ≤ k) with rfl | rfl | rfl | rfl | rfl | h
  all_goals first | decide | (rw [List.getD_eq_getElem?_getD, List.getElem?_eq_none (by simpa [codeL] using h)]; decide)
theorem op_size (c : Int) : (nameOf opL c).size ≤ 6 := by
  unfold nameOf
  generalize (c - 1).toNat = k
  rcases (by omega : k = 0 ∨ k = 1 ∨ k = 2 ∨ k = 3 ∨ k = 4 ∨ k = 5 ∨ 6 ≤ k) with rfl | rfl | rfl | rfl | rfl | rfl | h
  all_goals first | decide | (rw [List.getD_eq_getElem?_getD, List.getElem?_eq_none (by simpa [opL] using h)]; decide)

/-- What Say says. -/
def sayZ (c v : Int) : ByteArray := if fitsB c v then (if 0 < v then nameOf codeL c ++ ((⟨#[32]⟩ : ByteArray) ++ itoaB v) else nameOf codeL c) else ⟨#[63]⟩

def IsSl (n : Nat) (v : Value) : Prop := ∃ g, v = .slice (some ⟨g, 0, none⟩) n n
def SlAt (n : Nat) (C : Array Value) (v : Value) (w' : World) : Prop := ∃ g, v = .slice (some ⟨g, 0, none⟩) n n ∧ Blk w' g 9 C
def IsPt (k : Nat) (v : Value) : Prop := ∃ g, v = .pointer (some ⟨g, k, none⟩)
def PtAt (k : Nat) (C : Array Value) (v : Value) (w' : World) : Prop := ∃ g, v = .pointer (some ⟨g, k, none⟩) ∧ Blk w' g 9 C

theorem code_row (c : Int) (h1 : 1 ≤ c) (h2 : c ≤ 5) : (#[.string ⟨#[100, 111, 110, 101]⟩, .string ⟨#[101, 109, 112, 116, 121]⟩, .string ⟨#[102, 117, 108, 108]⟩, .string ⟨#[97, 98, 115, 101, 110, 116]⟩, .string ⟨#[119, 114, 111, 110, 103]⟩] : Array Value)[(c - 1).toNat]? = some (.string (nameOf codeL c)) := by
  rcases (by omega : c = 1 ∨ c = 2 ∨ c = 3 ∨ c = 4 ∨ c = 5) with rfl | rfl | rfl | rfl | rfl <;> rfl
theorem op_row (c : Int) (h1 : 1 ≤ c) (h2 : c ≤ 6) : (#[.string ⟨#[112, 117, 116]⟩, .string ⟨#[116, 97, 107, 101]⟩, .string ⟨#[102, 114, 111, 110, 116]⟩, .string ⟨#[98, 97, 99, 107]⟩, .string ⟨#[112, 101, 101, 107]⟩, .string ⟨#[99, 111, 117, 110, 116]⟩] : Array Value)[(c - 1).toNat]? = some (.string (nameOf opL c)) := by
  rcases (by omega : c = 1 ∨ c = 2 ∨ c = 3 ∨ c = 4 ∨ c = 5 ∨ c = 6) with rfl | rfl | rfl | rfl | rfl | rfl <;> rfl

end Go.Proofs.YtagdjpcbgnppnaaDoor
