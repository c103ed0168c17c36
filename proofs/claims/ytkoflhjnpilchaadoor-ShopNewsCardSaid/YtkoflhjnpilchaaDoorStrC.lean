/-
  The names of kinds, operations and answers as text: object.Is, object.Name, ref.KindName, strconv.Itoa, op.Say, ref.Say. The tables of strings and strconv hold what they hold (premises on variables).
-/
import Derived.Test.YtkoflhjnpilchaaDoorCardC
import Derived.Test.YtkoflhjnpilchaaDoorShelf
import Derived.Test.YtkoflhjnpilchaaDoorMBase
namespace Go.Proofs.YtkoflhjnpilchaaDoor
set_option linter.unusedSimpArgs false
set_option linter.unusedVariables false
set_option linter.unusedSectionVars false
open Go.RowKit
attribute [local go_sem ↓] Go.wp_at_zero Go.wp_at_succ

theorem fields_any (s : ByteArray) (L : List (List UInt8)) (hs : s.size < 4294967281) (ha : ∀ (j : Nat) b, s.data.toList[j]? = some b → b.toNat < 128) (hL : Lib.fields s.data.toList = L) {B : Nat} {w : World} (hT : SpT B w) :
    Calls Tryd.prog 19 #[.string s] w fun e w' => e = .returned (.slice (some ⟨w.heap.size, 0, none⟩) L.length L.length) ∧ w' = w.alloc (.cells (L.map fun l => Value.string ⟨l.toArray⟩).toArray 9) := by
  subst hL
  exact Tryd.strings_Fields_laid s w hs ha hT.here
theorem ascii_of (l : List UInt8) (h : (l.all fun b => decide (b.toNat < 128)) = true) (j : Nat) (b : UInt8) (hj : l[j]? = some b) : b.toNat < 128 := by
  have := List.all_eq_true.1 h b (List.mem_of_getElem? hj)
  simpa using this

def kindL : List (List UInt8) := [[113, 117, 101, 117, 101], [115, 116, 97, 99, 107], [100, 101, 113, 117, 101], [104, 101, 97, 112], [116, 97, 98, 108, 101], [116, 97, 108, 108, 121]]
def kindT : ByteArray := ⟨#[113, 117, 101, 117, 101, 32, 115, 116, 97, 99, 107, 32, 100, 101, 113, 117, 101, 32, 104, 101, 97, 112, 32, 116, 97, 98, 108, 101, 32, 116, 97, 108, 108, 121]⟩
def opT : ByteArray := ⟨#[112, 117, 116, 32, 116, 97, 107, 101, 32, 102, 114, 111, 110, 116, 32, 98, 97, 99, 107, 32, 112, 101, 101, 107, 32, 99, 111, 117, 110, 116]⟩
def codeT : ByteArray := ⟨#[100, 111, 110, 101, 32, 101, 109, 112, 116, 121, 32, 102, 117, 108, 108, 32, 97, 98, 115, 101, 110, 116, 32, 119, 114, 111, 110, 103]⟩
theorem kindF : Lib.fields kindT.data.toList = kindL := by kernel_rfl
theorem opF : Lib.fields opT.data.toList = opL := by kernel_rfl
theorem codeF : Lib.fields codeT.data.toList = codeL := by kernel_rfl

theorem kindFields {B : Nat} {w : World} (hT : SpT B w) : Calls Tryd.prog 19 #[.string ⟨#[113, 117, 101, 117, 101, 32, 115, 116, 97, 99, 107, 32, 100, 101, 113, 117, 101, 32, 104, 101, 97, 112, 32, 116, 97, 98, 108, 101, 32, 116, 97, 108, 108, 121]⟩] w fun e w' =>
    e = .returned (.slice (some ⟨w.heap.size, 0, none⟩) 6 6) ∧ w' = w.alloc (.cells #[.string ⟨#[113, 117, 101, 117, 101]⟩, .string ⟨#[115, 116, 97, 99, 107]⟩, .string ⟨#[100, 101, 113, 117, 101]⟩, .string ⟨#[104, 101, 97, 112]⟩, .string ⟨#[116, 97, 98, 108, 101]⟩, .string ⟨#[116, 97, 108, 108, 121]⟩] 9) :=
  fields_any kindT kindL (by decide) (ascii_of _ (by decide)) kindF hT
theorem opFields {B : Nat} {w : World} (hT : SpT B w) : Calls Tryd.prog 19 #[.string ⟨#[112, 117, 116, 32, 116, 97, 107, 101, 32, 102, 114, 111, 110, 116, 32, 98, 97, 99, 107, 32, 112, 101, 101, 107, 32, 99, 111, 117, 110, 116]⟩] w fun e w' =>
    e = .returned (.slice (some ⟨w.heap.size, 0, none⟩) 6 6) ∧ w' = w.alloc (.cells #[.string ⟨#[112, 117, 116]⟩, .string ⟨#[116, 97, 107, 101]⟩, .string ⟨#[102, 114, 111, 110, 116]⟩, .string ⟨#[98, 97, 99, 107]⟩, .string ⟨#[112, 101, 101, 107]⟩, .string ⟨#[99, 111, 117, 110, 116]⟩] 9) :=
  fields_any opT opL (by decide) (ascii_of _ (by decide)) opF hT
theorem codeFields {B : Nat} {w : World} (hT : SpT B w) : Calls Tryd.prog 19 #[.string ⟨#[100, 111, 110, 101, 32, 101, 109, 112, 116, 121, 32, 102, 117, 108, 108, 32, 97, 98, 115, 101, 110, 116, 32, 119, 114, 111, 110, 103]⟩] w fun e w' =>
    e = .returned (.slice (some ⟨w.heap.size, 0, none⟩) 5 5) ∧ w' = w.alloc (.cells #[.string ⟨#[100, 111, 110, 101]⟩, .string ⟨#[101, 109, 112, 116, 121]⟩, .string ⟨#[102, 117, 108, 108]⟩, .string ⟨#[97, 98, 115, 101, 110, 116]⟩, .string ⟨#[119, 114, 111, 110, 103]⟩] 9) :=
  fields_any codeT codeL (by decide) (ascii_of _ (by decide)) codeF hT

/-- A name out of a list, counted from 1; else a question mark. -/
def nameOf (L : List (List UInt8)) (k : Int) : ByteArray := ⟨(L.getD (k - 1).toNat []).toArray⟩
def kindB (k : Int) : Bool := decide (1 ≤ k) && decide (k ≤ 6)
def kindZ (k : Int) : ByteArray := if kindB k then nameOf kindL k else ⟨#[63]⟩

theorem is_any (k : Int) (w : World) : Calls Tryd.prog 25 #[.int .i64 k] w fun e w' => e = .returned (.bool (kindB k)) ∧ w = w' := by
  go_enter Tryd.func25, Tryd.ntmps25
  go_wp2
  all_goals (go_ret; refine ⟨ret_bool ?_, rfl⟩; simp [kindB]; try omega)

theorem kindName_any (k : Int) {B : Nat} {w : World} (hT : SpT B w) : Calls Tryd.prog 5 #[.int .i64 k] w fun e w' => e = .returned (.string (kindZ k)) ∧ Below w.heap.size w w' := by
  have HT := Lib.hid hT
  clear hT
  by_cases h : 1 ≤ k ∧ k ≤ 6
  · obtain ⟨h1, h2⟩ := h
    rcases (by omega : k = 1 ∨ k = 2 ∨ k = 3 ∨ k = 4 ∨ k = 5 ∨ k = 6) with rfl | rfl | rfl | rfl | rfl | rfl
    all_goals
      go_enter Tryd.func5, Tryd.ntmps5
      go_wp2_with (first | (go_at_call 18; refine (within_any _ _ _ _).mono ?_; rintro e w1 ⟨rfl, rfl⟩; simp only [show withinB 1 1 6 = true from rfl, show withinB 2 1 6 = true from rfl, show withinB 3 1 6 = true from rfl, show withinB 4 1 6 = true from rfl, show withinB 5 1 6 = true from rfl, show withinB 6 1 6 = true from rfl]) | (go_at_call 19; refine (kindFields HT.out).mono ?_; rintro e w1 ⟨rfl, rfl⟩))
      go_ret
      exact ⟨rfl, by go_grown⟩
  · have hb : withinB k 1 6 = false := by simp [withinB]; omega
    have hz : kindZ k = ⟨#[63]⟩ := by simp [kindZ, show kindB k = false by simp [kindB]; omega]
    rw [hz]
    go_enter Tryd.func5, Tryd.ntmps5
    go_wp2_with (go_at_call 18; refine (within_any _ _ _ _).mono ?_; rintro e w1 ⟨rfl, rfl⟩; rw [hb])
    go_ret
    exact ⟨rfl, Below.refl _ _⟩
end Go.Proofs.YtkoflhjnpilchaaDoor
