/-
  table.Right and table.Len return what the reference returns, for every slots. No condition.
-/
import Derived.Test.YtfpfhiogfjlpaaaRows
import Derived.Test.YtfpfhiogfjlpaaaFrame
import Derived.Test.YtfpfhiogfjlpaaaOpen
import Derived.Test.YtfpfhiogfjlpaaaSlots
namespace Go.Proofs.Ytfpfhiogfjlpaaa.lawTableRights
open Go.RowKit Go.ChangeShapes Go.WideShapes Go.ChangeAt Go.Joins

attribute [local go_sem ↓] Go.wp_at_zero Go.wp_at_succ

set_option maxRecDepth 100000 in
set_option maxHeartbeats 2000000 in
theorem walk (C : Array Value) (z : Nat → Int) (w : World) (h : I64s C 16 z) :
    Calls Try.prog 10 #[.agg C] w fun e w' => e = .returned (.bool true) ∧ Below w.heap.size w w' := by
  have hi : (Try.prog.info? 52).map (·.size) = some C.size := by rw [h.size]; kernel_rfl
  have HI := Lib.hid hi
  clear hi
  have H := Lib.hid h
  clear h
  have HBK : Hid (Blk (w.alloc (.cells C 52)) w.heap.size 52 C) := Blk.new _ _ _
  have hR1 := right_any C z
  have hR2 := refRight_any C z
  have hL1 := len_any C z
  have hL2 := refLen_any C z
  generalize rightT z = b at hR1 hR2
  have hlb := lenT_bd z 8
  generalize lenT z 8 = l at hL1 hL2 hlb
  have HR1 := Lib.hid hR1
  have HR2 := Lib.hid hR2
  have HL1 := Lib.hid hL1
  have HL2 := Lib.hid hL2
  clear hR1 hR2 hL1 hL2
  have hW0 : Below w.heap.size w (w.alloc (.cells C 52)) := by go_grown
  have hlt : w.heap.size < (w.alloc (.cells C 52)).heap.size := by simp
  go_enter Try.func10, Try.ntmps10
  go_wp2_with fail
  generalize w.alloc (.cells C 52) = W0 at *
  refine wp_region_rely 14 nowhere [] (by kernel_rfl) (by kernel_rfl) ?_
  iterate 14
    refine wpRely_step (fun K hK => ?_)
    first
    | (refine .inl ?_
       apply Exists.intro
       refine ⟨Any, ?_, hK _ _ _ ?_⟩
       · simp only [RelyOp, fillE]
         refine ⟨?_, fun w9 hw9 _ => ?_⟩
         · first | rfl | (go_simp; done)
         obtain ⟨hc9, hf9⟩ := hw9.all
         first
         | (exact relyAt_load_row 52 _ rfl w.heap.size rfl 52 C _ (HBK.out.below hw9.same hlt) Try.underlying52 rfl HI.out ⟨⟨rfl, trivial⟩, Keeps.refl _ _⟩)
         | (go_simp
            first
            | exact ⟨⟨rfl, trivial⟩, Keeps.refl _ _⟩
            | (go_at_call 37; exact rely_det (slotsOf_any C z _ H.out)) | (go_at_call 36; exact rely_det (HR1.out _ H.out)) | (go_at_call 39; exact rely_det (HL1.out _ H.out)) | (go_at_call 38; exact rely_det (HR2.out _ H.out)) | (go_at_call 40; exact rely_det (HL2.out _ H.out)))
       clear hK K
       try simp only [Act.put, List.setIfInBounds_toArray, List.set_cons_zero, List.set_cons_succ])
    | (refine .inr (.inl ⟨?_, hK _ _ _ ?_⟩)
       · simp only [fillE]
         first | rfl | (go_simp; done)
       clear hK K
       try simp only [Act.put, List.setIfInBounds_toArray, List.set_cons_zero, List.set_cons_succ])
  refine wpRely_nil ?_
  simp only [fillE]
  intro w9 hw9 _
  obtain ⟨hc9, hf9⟩ := hw9.all
  go_wp2
  go_ret
  exact ⟨rfl, hW0.trans (hw9.same.mono hW0.size)⟩

theorem own : ownKnob Try.prog.godebug = none := by kernel_rfl

set_option maxRecDepth 100000 in
theorem lifted (os : Os) (started : os.Started) (H : Type) (enc : TypeId × Value → H) :
    ReturnsInHanded {} Try.checked os 10 .any (Rows.tableRightsSpec.pre6 enc Try.prog Try.f10 Rows.tableRightsRow.domain false) (Rows.tableRightsSpec.post enc Try.prog Try.f10 false true false false) := by
  refine law_lifted (C := Try.checked) own started (by kernel_rfl) Try.func10
    (ChangeSpec.witness6 (enc := enc) (C := Try.checked) false ⟨#[], #[.agg #[.int .i64 0, .int .i64 0, .int .i64 0, .int .i64 0, .int .i64 0, .int .i64 0, .int .i64 0, .int .i64 0, .int .i64 0, .int .i64 0, .int .i64 0, .int .i64 0, .int .i64 0, .int .i64 0, .int .i64 0, .int .i64 0]], []⟩ 8 (by kernel_rfl) (by kernel_rfl) (by kernel_rfl) (by kernel_rfl))
    (by kernel_rfl) (by kernel_rfl) rfl rfl Try.underlying4 ?_
  intro W base args ds ps hval0 hA0 hsz0
  have hval : ∀ (j : Nat) t v, Try.f10.params[j]? = some t → args[j]? = some v → Value.okWide Try.prog W .any base t v := hval0
  have hA : DataW.TrodAll enc Try.prog W 0 (fun _ => true) true Try.f10.params.toList args.toList ds ps := hA0
  rw [Try.params10] at hA hval
  obtain ⟨v0, d0, rfl, rfl, h0⟩ := trodAll_one hA
  obtain ⟨t, rfl, wt⟩ := open_flat 4 (K := List.replicate 16 .i64) (by kernel_rfl) (by kernel_rfl) (by kernel_rfl) (hval 0 52 v0 rfl rfl) h0
  have hI := flatI 16 wt
  exact ⟨rfl, walk _ t W hI⟩

theorem holds : Rows.TableRightsSaid :=
  OpenClaim.holds_of_wide 10 Try.f10 rfl rfl rfl rfl rfl rfl rfl ⟨rfl, rfl, rfl, rfl, rfl⟩ rfl rfl rfl rfl rfl (by kernel_rfl) Try.func10 (by kernel_rfl)
    (of_decide_eq_true (by kernel_rfl)) (by unfold Func.isWrapper; first | (rw [if_pos (by decide +kernel)]; kernel_rfl) | (rw [if_neg (by decide +kernel)]; exact ⟨rfl, rfl⟩))
    (fun os started H enc _ => lifted os started H enc)
#print axioms holds
end Go.Proofs.Ytfpfhiogfjlpaaa.lawTableRights
