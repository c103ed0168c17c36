/-
  Bit and Flip return what the reference returns, for every word and every place. No condition.
-/
import Derived.Test.YtfpfhiogfjlpaaaRows
import Derived.Test.YtfpfhiogfjlpaaaFrame
import Derived.Test.YtfpfhiogfjlpaaaOpen
import Derived.Test.YtfpfhiogfjlpaaaWordB
namespace Go.Proofs.Ytfpfhiogfjlpaaa.lawWordBits
open Go.RowKit Go.ChangeShapes Go.WideShapes Go.ChangeAt Go.Joins

attribute [local go_sem ↓] Go.wp_at_zero Go.wp_at_succ

theorem walk (x : Nat) (a : Int) (w : World) (hx : x < 18446744073709551616) :
    Calls Try.prog 4 #[.int .u64 (x : Int), .int .i64 a] w fun e w' => e = .returned (.bool true) ∧ Below w.heap.size w w' := by
  go_enter Try.func4, Try.ntmps4
  go_wp2_with (first | (go_at_call 19; refine (bit_any _ _ _ hx).mono ?_; rintro e w1 ⟨rfl, rfl⟩) | (go_at_call 20; refine (refBit_any _ _ _ hx).mono ?_; rintro e w1 ⟨rfl, hb1⟩) | (go_at_call 21; refine (flip_any _ _ _ hx).mono ?_; rintro e w1 ⟨rfl, rfl⟩) | (go_at_call 22; refine (refFlip_any _ _ _ hx).mono ?_; rintro e w2 ⟨rfl, hb2⟩; have hB := hb1.trans (hb2.mono hb1.size)))
  go_ret
  exact ⟨rfl, by assumption⟩

theorem own : ownKnob Try.prog.godebug = none := by kernel_rfl

set_option maxRecDepth 100000 in
theorem lifted (os : Os) (started : os.Started) (H : Type) (enc : TypeId × Value → H) :
    ReturnsInHanded {} Try.checked os 4 .any (Rows.wordBitsSpec.pre6 enc Try.prog Try.f4 Rows.wordBitsRow.domain false) (Rows.wordBitsSpec.post enc Try.prog Try.f4 false true false false) := by
  refine law_lifted (C := Try.checked) own started (by kernel_rfl) Try.func4
    (ChangeSpec.witness6 (enc := enc) (C := Try.checked) false ⟨#[], #[.int .u64 0, .int .i64 0], []⟩ 8 (by kernel_rfl) (by kernel_rfl) (by kernel_rfl) (by kernel_rfl))
    (by kernel_rfl) (by kernel_rfl) rfl rfl Try.underlying4 ?_
  intro W base args ds ps hval0 hA0 hsz0
  have hval : ∀ (j : Nat) t v, Try.f4.params[j]? = some t → args[j]? = some v → Value.okWide Try.prog W .any base t v := hval0
  have hA : DataW.TrodAll enc Try.prog W 0 (fun _ => true) true Try.f4.params.toList args.toList ds ps := hA0
  rw [Try.params4] at hA hval
  obtain ⟨v0, v1, d0, d1, p0, p1, rfl, rfl, rfl, h0, h1⟩ := trodAll_two hA
  obtain ⟨x, rfl, rfl, rfl, wx⟩ := open_int Try.underlying25 (hval 0 25 v0 rfl rfl) h0
  obtain ⟨a, rfl, rfl, rfl, wa⟩ := open_int Try.underlying3 (hval 1 3 v1 rfl rfl) h1
  obtain ⟨y, rfl⟩ := Int.eq_ofNat_of_zero_le (bounds_u64 wx).1
  exact ⟨rfl, walk y a W (by have := (bounds_u64 wx).2; omega)⟩

theorem holds : Rows.WordBitsSaid :=
  OpenClaim.holds_of_wide 4 Try.f4 rfl rfl rfl rfl rfl rfl rfl ⟨rfl, rfl, rfl, rfl, rfl⟩ rfl rfl rfl rfl rfl (by kernel_rfl) Try.func4 (by kernel_rfl)
    (of_decide_eq_true (by kernel_rfl)) (by unfold Func.isWrapper; first | (rw [if_pos (by decide +kernel)]; kernel_rfl) | (rw [if_neg (by decide +kernel)]; exact ⟨rfl, rfl⟩))
    (fun os started H enc _ => lifted os started H enc)
#print axioms holds
end Go.Proofs.Ytfpfhiogfjlpaaa.lawWordBits
