/-
  story.Print: events, a line each, for up to 1000 events. The tables of strings, strconv and op hold what they hold (premises on variables).
-/
import Derived.Test.YtncgpaajbflaeaaDoorLineC
import Derived.Test.YtncgpaajbflaeaaDoorBuildC
namespace Go.Proofs.YtncgpaajbflaeaaDoor
set_option linter.unusedSimpArgs false
set_option linter.unusedVariables false
set_option linter.unusedSectionVars false
open Go.RowKit
attribute [local go_sem ↓] Go.wp_at_zero Go.wp_at_succ

abbrev nineK : List IntKind := [.i64, .i64, .i64, .i64, .i64, .i64, .i64, .i64, .i64]
def lz (f : Nat → Nat → Int) (i : Nat) : ByteArray := lineZ (f i 0) (f i 1) (f i 2) (f i 3) (f i 4) (f i 5) (f i 6) (f i 7) (f i 8)
/-- The bytes of n lines. -/
def linesZ (f : Nat → Nat → Int) : Nat → List UInt8
  | 0 => []
  | k + 1 => linesZ f k ++ (lz f k ++ (⟨#[10]⟩ : ByteArray)).data.toList
theorem lineZ_size (q t a k v c x n s : Int) (ht : -9223372036854775808 ≤ t ∧ t ≤ 9223372036854775807) (hn : -9223372036854775808 ≤ n ∧ n ≤ 9223372036854775807) (hs : -9223372036854775808 ≤ s ∧ s ≤ 9223372036854775807) : (lineZ q t a k v c x n s).size ≤ 200 := by
  have z1 := itoaB_size s hs.1 hs.2
  have z2 := itoaB_size t ht.1 ht.2
  have z3 := nameZ_size a k v
  have z4 := sayZ_size c x
  have z5 := itoaB_size n hn.1 hn.2
  unfold lineZ
  (repeat' split) <;> simp only [ByteArray.size_append, show (⟨#[32, 116, 104, 114, 101, 97, 100, 32]⟩ : ByteArray).size = 8 from rfl, show (⟨#[32, 99, 97, 108, 108, 115, 32]⟩ : ByteArray).size = 7 from rfl, show (⟨#[32, 104, 97, 115, 32]⟩ : ByteArray).size = 5 from rfl, show (⟨#[58, 32]⟩ : ByteArray).size = 2 from rfl, show (⟨#[44, 32, 100, 101, 101, 100, 32]⟩ : ByteArray).size = 7 from rfl, show (⟨#[32, 99, 114, 97, 115, 104]⟩ : ByteArray).size = 6 from rfl, show (⟨#[32, 63]⟩ : ByteArray).size = 2 from rfl] <;> omega
theorem linesZ_len (f : Nat → Nat → Int) : ∀ (k : Nat), (∀ i j, i < k → j < 9 → -9223372036854775808 ≤ f i j ∧ f i j ≤ 9223372036854775807) → (linesZ f k).length ≤ 201 * k
  | 0, _ => by simp [linesZ]
  | k + 1, h => by
    have ih := linesZ_len f k (fun i j hi hj => h i j (by omega) hj)
    have hd := lineZ_size (f k 0) (f k 1) (f k 2) (f k 3) (f k 4) (f k 5) (f k 6) (f k 7) (f k 8) (h k 1 (by omega) (by omega)) (h k 7 (by omega) (by omega)) (h k 8 (by omega) (by omega))
    have e : (lz f k ++ (⟨#[10]⟩ : ByteArray)).data.toList.length = (lz f k).size + 1 := by
      rw [Array.length_toList]
      exact ByteArray.size_append
    unfold linesZ
    rw [List.length_append, e]
    unfold lz
    omega

theorem builder_below {T e : TypeId} {B b : Nat} {bs : List Value} {w w' : World} (h : Lib.IsBuilder T e B b bs w) (hb : Below w.heap.size w w') : Lib.IsBuilder T e B b bs w' := by
  have one : ∀ p, Lib.BuilderAt T e B b p bs w → Lib.BuilderAt T e B b p bs w' := by
    rintro p ⟨hB, v, hbk, hown, hne⟩
    refine ⟨hB, v, (hb.block b (Array.getElem?_eq_some_iff.1 hbk).1).trans hbk, ?_, hne⟩
    refine World.ownsRow.kept (row := none) hown ⟨hb.os, hb.tape, hb.output, hb.size, fun k hk _ => hb.block k hk⟩ ?_
    cases v.ownBlock with
    | none => exact .inl rfl
    | some k => exact .inr (by simp)
  rcases h with h | h
  · exact .inl (one _ h)
  · exact .inr (one _ h)

set_option maxRecDepth 100000 in
theorem print_lines (A : Option Addr) (n c : Nat) (f : Nat → Nat → Int) (w : World) (h : SlF nineK w A n c f) (hn : n ≤ 1000) (hg : DeedT w) :
    Calls Tryd.prog 21 #[.slice A n c] w fun e w' => e = .returned (.string ⟨(linesZ f n).toArray⟩) ∧ Below w.heap.size w w' := by
  have H := Lib.hid h
  have HG := Lib.hid hg
  clear h hg
  go_enter Tryd.func21, Tryd.ntmps21
  go_wp2
  go_loopw [8] (fun i wr => ∃ k : Nat, k ≤ n ∧ i = .int .i64 k ∧ Below w.heap.size w wr ∧ w.heap.size < wr.heap.size ∧ Hid (Lib.IsBuilder 83 5 w.heap.size w.heap.size (Lib.byteCells (linesZ f k)) wr)) (fun i _ => n - (intOf i).toNat)
  case atStart => exact ⟨0, by omega, rfl, by go_grown, by simp, Lib.hid (Lib.fresh_isBuilder _ _ w)⟩
  case round =>
    obtain ⟨k, hk, rfl, hB, hlt, HI⟩ := hrel
    have hbz := hB.size
    by_cases hkn : k < n
    · obtain ⟨b, off, rfl, hblt, hcell⟩ := H.out.at_ (by omega)
      have hw : ∀ i j, i < k + 1 → j < 9 → -9223372036854775808 ≤ f i j ∧ f i j ≤ 9223372036854775807 := fun i j hi hj => bounds_i64 (by
        have := H.out.wf i j (by omega) hj
        rcases (by omega : j = 0 ∨ j = 1 ∨ j = 2 ∨ j = 3 ∨ j = 4 ∨ j = 5 ∨ j = 6 ∨ j = 7 ∨ j = 8) with rfl | rfl | rfl | rfl | rfl | rfl | rfl | rfl | rfl <;> exact this)
      have hlen := linesZ_len f k (fun i j hi hj => hw i j (by omega) hj)
      have w1 := hw k 1 (by omega) (by omega)
      have w7 := hw k 7 (by omega) (by omega)
      have w8 := hw k 8 (by omega) (by omega)
      have c0 : wr.cell? ⟨b, off + k * 9, none⟩ = some (.int .i64 (f k 0)) := (hB.cell (p := ⟨b, off + k * 9, none⟩) hblt).trans (by simpa using hcell k 0 hkn (by decide))
      have c1 : wr.cell? ⟨b, off + k * 9 + 1, none⟩ = some (.int .i64 (f k 1)) := (hB.cell (p := ⟨b, off + k * 9 + 1, none⟩) hblt).trans (by simpa using hcell k 1 hkn (by decide))
      have c2 : wr.cell? ⟨b, off + k * 9 + 2, none⟩ = some (.int .i64 (f k 2)) := (hB.cell (p := ⟨b, off + k * 9 + 2, none⟩) hblt).trans (by simpa using hcell k 2 hkn (by decide))
      have c3 : wr.cell? ⟨b, off + k * 9 + 3, none⟩ = some (.int .i64 (f k 3)) := (hB.cell (p := ⟨b, off + k * 9 + 3, none⟩) hblt).trans (by simpa using hcell k 3 hkn (by decide))
      have c4 : wr.cell? ⟨b, off + k * 9 + 4, none⟩ = some (.int .i64 (f k 4)) := (hB.cell (p := ⟨b, off + k * 9 + 4, none⟩) hblt).trans (by simpa using hcell k 4 hkn (by decide))
      have c5 : wr.cell? ⟨b, off + k * 9 + 5, none⟩ = some (.int .i64 (f k 5)) := (hB.cell (p := ⟨b, off + k * 9 + 5, none⟩) hblt).trans (by simpa using hcell k 5 hkn (by decide))
      have c6 : wr.cell? ⟨b, off + k * 9 + 6, none⟩ = some (.int .i64 (f k 6)) := (hB.cell (p := ⟨b, off + k * 9 + 6, none⟩) hblt).trans (by simpa using hcell k 6 hkn (by decide))
      have c7 : wr.cell? ⟨b, off + k * 9 + 7, none⟩ = some (.int .i64 (f k 7)) := (hB.cell (p := ⟨b, off + k * 9 + 7, none⟩) hblt).trans (by simpa using hcell k 7 hkn (by decide))
      have c8 : wr.cell? ⟨b, off + k * 9 + 8, none⟩ = some (.int .i64 (f k 8)) := (hB.cell (p := ⟨b, off + k * 9 + 8, none⟩) hblt).trans (by simpa using hcell k 8 hkn (by decide))
      have HL : Hid (linesZ f (k + 1) = linesZ f k ++ (lz f k ++ (⟨#[10]⟩ : ByteArray)).data.toList) := Lib.hid rfl
      have HD : Hid (lz f k = lineZ (f k 0) (f k 1) (f k 2) (f k 3) (f k 4) (f k 5) (f k 6) (f k 7) (f k 8)) := Lib.hid rfl
      have hbr : b < wr.heap.size := by omega
      clear hcell hw
      generalize f k 0 = x0 at *
      generalize f k 1 = x1 at *
      generalize f k 2 = x2 at *
      generalize f k 3 = x3 at *
      generalize f k 4 = x4 at *
      generalize f k 5 = x5 at *
      generalize f k 6 = x6 at *
      generalize f k 7 = x7 at *
      generalize f k 8 = x8 at *
      have zl := lineZ_size x0 x1 x2 x3 x4 x5 x6 x7 x8 w1 w7 w8
      have hA : Below wr.heap.size wr (wr.alloc (.cells #[.int .i64 x0, .int .i64 x1, .int .i64 x2, .int .i64 x3, .int .i64 x4, .int .i64 x5, .int .i64 x6, .int .i64 x7, .int .i64 x8] 56)) := (Below.refl _ _).alloc (Nat.le_refl _) _
      have HI1 := Lib.hid (builder_below HI.out hA)
      have HB1 := Lib.hid (hB.trans (hA.mono hbz))
      have HG1 := Lib.hid (HG.out.below HB1.out)
      have hL := fun w' (h : DeedT w') => line_any x0 x1 x2 x3 x4 x5 x6 x7 x8 h w1 w7 w8
      generalize lineZ x0 x1 x2 x3 x4 x5 x6 x7 x8 = y at *
      have HLn := Lib.hid hL
      have m0 : ¬ 9223372036854775807 < y.size + 1 := by omega
      clear hL hA w1 w7 w8
      go_wp2_with fail
      refine (HLn.out _ HG1.out).mono ?_
      rintro e w2 ⟨rfl, hb2⟩
      have HI2 := Lib.hid (builder_below HI1.out hb2)
      have HB2 := Lib.hid (HB1.out.trans (hb2.mono HB1.out.size))
      have hz2 := hb2.size
      simp only [World.size_alloc] at hz2
      clear hb2
      go_wp2_with fail
      refine (write_any w.heap.size w.heap.size _ _ _ HI2.out (by rw [Lib.byteCells_length]; have := @ByteArray.size_append y ⟨#[10]⟩; have e10 : (⟨#[10]⟩ : ByteArray).size = 1 := rfl; omega) HB2.out.size).mono ?_
      rintro e w3 ⟨rfl, hbd, hb3⟩
      have hz3 := hb3.size
      go_wp2
      refine ⟨⟨k + 1, by omega, by go_num, HB2.out.trans hb3, by omega, Lib.hid (.inr ?_)⟩, by simp [intOf]; omega⟩
      rw [HL.out, HD.out, Lib.byteCells_append]
      exact hbd
    · obtain rfl : k = n := by omega
      go_wp2_with fail
      refine (Tryd.Builder_String_any w.heap.size w.heap.size _ _ HI.out hbz).mono ?_
      rintro e w2 ⟨rfl, hb2⟩
      go_wp2
      go_ret
      exact ⟨rfl, hB.trans hb2⟩
end Go.Proofs.YtncgpaajbflaeaaDoor
