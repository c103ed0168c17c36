/-
  For any text the two readers of moves return the same moves. No condition.
-/
import Derived.Test.YtfpfhiogfjlpaaaRows
import Derived.Test.YtfpfhiogfjlpaaaFrame
import Derived.Test.YtfpfhiogfjlpaaaOpen
import Derived.Test.YtfpfhiogfjlpaaaDecR
namespace Go.Proofs.Ytfpfhiogfjlpaaa.lawScriptDecodes
open Go.RowKit Go.ChangeShapes Go.WideShapes Go.ChangeAt Go.Joins
open Go.ChangeMaps (open_string)
attribute [local go_sem ↓] Go.wp_at_zero Go.wp_at_succ
set_option linter.unusedSimpArgs false
set_option linter.unusedVariables false

theorem mvsC_at (s : ByteArray) (f k : Nat) (hf : f < 7) : ∀ j, k < j → (mvsC s j)[k * 7 + f]? = (mvV (mvL s (posA s k)))[f]?
  | 0, h => absurd h (by omega)
  | j + 1, h => by
    rw [mvsC_succ]
    rcases Nat.lt_or_ge k j with h1 | h1
    · rw [List.getElem?_append_left (by rw [mvsC_len]; omega), mvsC_at s f k hf j h1]
    · obtain rfl : k = j := by omega
      rw [List.getElem?_append_right (by rw [mvsC_len]; omega), mvsC_len, show k * 7 + f - k * 7 = f by omega]
theorem row_at {w : World} {B : Nat} {e : TypeId} {g j c : Nat} {s : ByteArray} (h : w.ownsRow B e 7 (.slice (some ⟨g, 0, none⟩) j c) j (mvsC s j)) (k f : Nat) (hk : k < j) (hf : f < 7) : w.cell? ⟨g, k * 7 + f, none⟩ = (mvV (mvL s (posA s k)))[f]? := by
  rw [World.ownsRow.cellAt h (k * 7 + f) (by omega), mvsC_at s f k hf j hk]

set_option maxHeartbeats 4000000 in
theorem walk (s : ByteArray) (w : World) :
    Calls Try.prog 11 #[.string s] w fun e w' => e = .returned (.bool true) ∧ Below w.heap.size w w' := by
  by_cases hs : s.size ≤ 4000
  · have hd : decide (4000 < (s.size : Int)) = false := by simp; omega
    go_enter Try.func11, Try.ntmps11
    go_wp2_with fail
    refine (rdecode_any s _ hs).mono ?_
    rintro e w1 ⟨A, j, c, rfl, hJ, ho, hb1⟩
    have HO := Lib.hid ho
    clear ho
    go_wp2_with fail
    refine (decode_any s _ hs).mono ?_
    rintro e w2 ⟨A', j', c', rfl, hJ', ho', hb2⟩
    obtain rfl := DecJ.unique hJ hJ'
    have HO' := Lib.hid ho'
    clear ho' hJ hJ'
    have hB := hb1.trans (hb2.mono hb1.size)
    have HB := Lib.hid hb2
    clear hb2 hb1
    have hj63 : j ≤ 9223372036854775807 := by
      obtain ⟨A0, c0, hv, hc, hm, hp⟩ := own_form7 HO.out
      unfold maxLen at hm
      omega
    go_wp2
    go_loopw [5] (fun i wr => ∃ k : Nat, k ≤ j ∧ i = .int .i64 k ∧ Below w.heap.size w wr ∧ Below w2.heap.size w2 wr) (fun i _ => j - (intOf i).toNat)
    case atStart => exact ⟨0, by omega, rfl, hB, Below.refl _ _⟩
    case round =>
      obtain ⟨k, hk, rfl, hb, hw⟩ := hrel
      by_cases hkj : k < j
      · obtain ⟨A0, c0, hv, hc, hm, hp⟩ := own_form7 HO.out
        simp only [Value.slice.injEq, true_and] at hv
        obtain ⟨rfl, rfl⟩ := hv
        obtain ⟨g, rfl, _, hlt⟩ := hp (by omega)
        obtain ⟨A1, c1, hv, hc', hm', hp'⟩ := own_form7 HO'.out
        simp only [Value.slice.injEq, true_and] at hv
        obtain ⟨rfl, rfl⟩ := hv
        obtain ⟨g', rfl, _, hlt'⟩ := hp' (by omega)
        unfold maxLen at hm hm'
        have hx : ∀ f, f < 7 → wr.cell? ⟨g, k * 7 + f, none⟩ = (mvV (mvL s (posA s k)))[f]? := fun f hf => (hw.cell (p := ⟨g, k * 7 + f, none⟩) (Nat.lt_of_lt_of_le hlt HB.out.size)).trans ((HB.out.cell (p := ⟨g, k * 7 + f, none⟩) hlt).trans (row_at HO.out k f hkj hf))
        have hy : ∀ f, f < 7 → wr.cell? ⟨g', k * 7 + f, none⟩ = (mvV (mvL s (posA s k)))[f]? := fun f hf => (hw.cell (p := ⟨g', k * 7 + f, none⟩) hlt').trans (row_at HO'.out k f hkj hf)
        generalize mvL s (posA s k) = l at hx hy
        have x0 := hx 0 (by omega)
        have x1 := hx 1 (by omega)
        have x2 := hx 2 (by omega)
        have x3 := hx 3 (by omega)
        have x4 := hx 4 (by omega)
        have x5 := hx 5 (by omega)
        have x6 := hx 6 (by omega)
        have y0 := hy 0 (by omega)
        have y1 := hy 1 (by omega)
        have y2 := hy 2 (by omega)
        have y3 := hy 3 (by omega)
        have y4 := hy 4 (by omega)
        have y5 := hy 5 (by omega)
        have y6 := hy 6 (by omega)
        clear hx hy
        simp only [mvV, List.getElem?_cons_zero, List.getElem?_cons_succ, Nat.add_zero] at x0 x1 x2 x3 x4 x5 x6 y0 y1 y2 y3 y4 y5 y6
        generalize l.getD 0 0 = z0 at *
        generalize l.getD 1 0 = z1 at *
        generalize l.getD 2 0 = z2 at *
        generalize l.getD 3 0 = z3 at *
        generalize l.getD 4 0 = z4 at *
        generalize l.getD 5 0 = z5 at *
        generalize l.getD 6 0 = z6 at *
        have b1 : (k : Int) < j := by omega
        go_wp2
        go_quiet (fail)
        go_wp2
        go_roundw
        case rel => exact ⟨k + 1, by omega, by go_num, below_drewN hb _, below_drewN hw _⟩
        case measure => simp [intOf]; omega
      · obtain rfl : k = j := by omega
        go_wp2
        go_ret
        exact ⟨rfl, hb⟩
  · have hd : decide (4000 < (s.size : Int)) = true := by simp; omega
    go_enter Try.func11, Try.ntmps11
    go_wp2
    go_ret
    exact ⟨rfl, by go_grown⟩

theorem own : ownKnob Try.prog.godebug = none := by kernel_rfl

set_option maxRecDepth 100000 in
theorem lifted (os : Os) (started : os.Started) (H : Type) (enc : TypeId × Value → H) :
    ReturnsInHanded {} Try.checked os 11 .any (Rows.scriptDecodesSpec.pre6 enc Try.prog Try.f11 Rows.scriptDecodesRow.domain false) (Rows.scriptDecodesSpec.post enc Try.prog Try.f11 false true false false) := by
  refine law_lifted (C := Try.checked) own started (by kernel_rfl) Try.func11
    (ChangeSpec.witness6 (enc := enc) (C := Try.checked) false ⟨#[], #[.string ByteArray.empty], []⟩ 8 (by kernel_rfl) (by kernel_rfl) (by kernel_rfl) (by kernel_rfl))
    (by kernel_rfl) (by kernel_rfl) rfl rfl Try.underlying4 ?_
  intro W base args ds ps hval0 hA0 hsz0
  have hval : ∀ (j : Nat) t v, Try.f11.params[j]? = some t → args[j]? = some v → Value.okWide Try.prog W .any base t v := hval0
  have hA : DataW.TrodAll enc Try.prog W 0 (fun _ => true) true Try.f11.params.toList args.toList ds ps := hA0
  rw [Try.params11] at hA hval
  obtain ⟨v0, d0, rfl, rfl, h0⟩ := trodAll_one hA
  obtain ⟨s, rfl, rfl, rfl, ws⟩ := open_string Try.underlying9 (hval 0 9 v0 rfl rfl) h0
  exact ⟨rfl, walk s W⟩

theorem holds : Rows.ScriptDecodesSaid :=
  OpenClaim.holds_of_wide 11 Try.f11 rfl rfl rfl rfl rfl rfl rfl ⟨rfl, rfl, rfl, rfl, rfl⟩ rfl rfl rfl rfl rfl (by kernel_rfl) Try.func11 (by kernel_rfl)
    (of_decide_eq_true (by kernel_rfl)) (by unfold Func.isWrapper; first | (rw [if_pos (by decide +kernel)]; kernel_rfl) | (rw [if_neg (by decide +kernel)]; exact ⟨rfl, rfl⟩))
    (fun os started H enc _ => lifted os started H enc)
#print axioms holds
end Go.Proofs.Ytfpfhiogfjlpaaa.lawScriptDecodes
