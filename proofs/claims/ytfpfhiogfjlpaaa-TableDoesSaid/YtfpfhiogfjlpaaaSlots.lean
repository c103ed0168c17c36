/-
  What gristmilllaw.slotsOf returns: the same slots. For every table.
-/
import Derived.Test.YtfpfhiogfjlpaaaRTab
import Derived.Test.YtfpfhiogfjlpaaaOpen
namespace Go.Proofs.Ytfpfhiogfjlpaaa
open Go.RowKit
attribute [local go_sem ↓] Go.wp_at_zero Go.wp_at_succ

theorem relyAt_load_row {P : Program} {o : Oper} {a : Act} {w : World} {T : Value → World → Prop} (ty : TypeId) (x : Operand) (ho : o.op = .load ty x) (g : Nat) (hx : a.eval x = .pointer (some ⟨g, 0, none⟩))
    (t : TypeId) (cs : Array Value) (d : TypeDesc) (hg : Blk w g t cs) (hu : P.underlying ty = some d) (hd : (match d with | .struct _ | .array _ _ => true | _ => false) = true) (hi : (P.info? ty).map (·.size) = some cs.size)
    (hT : T (.agg cs) w) : relyAt P o a w T := by
  refine relyAt_value (u := .agg cs) ?_ hT
  unfold execOp
  simp only [ho, hx, Instr.loadAt, Instr.sureAddr, Sem.run_bind, Sem.run_pure, Result.andThen_ok, run_loadVar_row w g t ty cs (0, 0) d hg hu hd hi]

theorem I64s.congr {C : Array Value} {n : Nat} {z z' : Nat → Int} (h : I64s C n z) (e : ∀ i, i < n → z' i = z i) : I64s C n z' :=
  ⟨h.size, fun i hi => by rw [e i hi]; exact h.get i hi, fun i hi => by rw [e i hi]; exact h.bd i hi⟩
theorem I64s.set_ {C : Array Value} {n k : Nat} {z : Nat → Int} (h : I64s C n z) {v : Int} (hv : -9223372036854775808 ≤ v ∧ v ≤ 9223372036854775807) : I64s (C.setIfInBounds k (.int .i64 v)) n (fun i => if i = k then v else z i) :=
  ⟨by simp [h.size], fun i hi => by
    rw [Array.getElem?_setIfInBounds]
    by_cases hk : k = i
    · subst hk
      rw [if_pos rfl, if_pos (by rw [h.size]; exact hi), if_pos rfl]
    · rw [if_neg hk, if_neg (fun e => hk e.symm)]
      exact h.get i hi, fun i hi => by
    by_cases hk : i = k
    · rw [if_pos hk]; exact hv
    · rw [if_neg hk]; exact h.bd i hi⟩
theorem I64s.zero (n : Nat) : I64s (Array.replicate n (.int .i64 0)) n (fun _ => 0) :=
  ⟨by simp, fun i hi => by simp [hi], fun _ _ => by decide⟩
theorem I64s.ext {C D : Array Value} {n : Nat} {z : Nat → Int} (h : I64s C n z) (k : I64s D n z) : C = D := by
  apply Array.ext_getElem?
  intro i
  by_cases hi : i < n
  · rw [h.get i hi, k.get i hi]
  · rw [Array.getElem?_eq_none (by rw [h.size]; omega), Array.getElem?_eq_none (by rw [k.size]; omega)]

theorem flatI (n : Nat) {z : Nat → Int} (h : ∀ i, i < (List.replicate n IntKind.i64).length → (Lit.int ((List.replicate n IntKind.i64).getD i .i64) (z i)).wf = true) :
    I64s (cellsK (List.replicate n .i64) z).toArray n z := by
  have hk : ∀ i, i < n → (List.replicate n IntKind.i64).getD i .i64 = .i64 := fun i hi => by simp [hi]
  refine ⟨by simp [cellsK], fun i hi => ?_, fun i hi => ?_⟩
  · simp [cellsK, hi]
  · have h1 := h i (by simpa using hi)
    rw [hk i hi] at h1
    exact bounds_i64 h1

theorem infoT : (Try.prog.info? 56).map (·.size) = some 16 := by kernel_rfl

set_option maxRecDepth 100000 in
set_option maxHeartbeats 2000000 in
theorem slotsOf_any (C : Array Value) (z : Nat → Int) (w : World) (h : I64s C 16 z) :
    Calls Try.prog 37 #[.agg C] w fun e w' => e = .returned (.agg C) ∧ Below w.heap.size w w' := by
  have H := Lib.hid h
  have h1 := h.one
  have hDs := Lib.hid h.size
  clear h
  have HBK : Hid (Blk (w.alloc (.cells C 52)) w.heap.size 52 C) := Blk.new _ _ _
  go_enter Try.func37, Try.ntmps37
  go_wp2
  go_loopw [4] (fun i wr => ∃ k : Nat, k ≤ 8 ∧ i = .int .i64 k ∧ Hid (∃ E, Blk wr (w.heap.size + 2) 56 E ∧ I64s E 16 (fun i => if i < 2 * k then z i else 0)) ∧ Hid (Blk wr (w.heap.size + 1) 56 #[.int .i64 0, .int .i64 0, .int .i64 0, .int .i64 0, .int .i64 0, .int .i64 0, .int .i64 0, .int .i64 0, .int .i64 0, .int .i64 0, .int .i64 0, .int .i64 0, .int .i64 0, .int .i64 0, .int .i64 0, .int .i64 0]) ∧ Hid (Blk wr w.heap.size 52 C) ∧ Below w.heap.size w wr) (fun i _ => 8 - (intOf i).toNat)
  case atStart => exact ⟨0, by omega, rfl, Lib.hid ⟨#[.int .i64 0, .int .i64 0, .int .i64 0, .int .i64 0, .int .i64 0, .int .i64 0, .int .i64 0, .int .i64 0, .int .i64 0, .int .i64 0, .int .i64 0, .int .i64 0, .int .i64 0, .int .i64 0, .int .i64 0, .int .i64 0], Blk.newAt _ _ _ (by simp), (I64s.zero 16).congr (fun i hi => by simp)⟩, Lib.hid ((Blk.newAt _ _ _ (by simp)).alloc _), Lib.hid ((HBK.out.alloc _).alloc _), by go_grown⟩
  case round =>
    obtain ⟨k, hk, rfl, hE, hR, hC, hb⟩ := hrel
    obtain ⟨E, hblk, hU⟩ := hE.out
    clear hE
    have HU := Lib.hid hU
    clear hU
    have HBl := Lib.hid hblk
    clear hblk
    have hbz := HBl.out.lt
    by_cases hk8 : k < 8
    · have q1 : (k : Int) < 8 := by omega
      have c0 : wr.cell? ⟨w.heap.size, k * 2, none⟩ = some (.int .i64 (z (2 * k))) := by rw [hC.out.cell, Nat.mul_comm, H.out.get _ (by omega)]
      have c1 : wr.cell? ⟨w.heap.size, k * 2 + 1, none⟩ = some (.int .i64 (z (2 * k + 1))) := by rw [hC.out.cell, Nat.mul_comm, H.out.get _ (by omega)]
      have d0 := H.out.bd (2 * k) (by omega)
      have d1 := H.out.bd (2 * k + 1) (by omega)
      have hlt0 : w.heap.size < wr.heap.size := by omega
      have hlt2 : w.heap.size + 2 < wr.heap.size := by omega
      have e0 : wr.cell? ⟨w.heap.size + 1 + 1, k * 2, none⟩ = some (.int .i64 0) := by rw [HBl.out.cell, HU.out.get _ (by omega), if_neg (by omega)]
      have e1 : wr.cell? ⟨w.heap.size + 1 + 1, k * 2 + 1, none⟩ = some (.int .i64 0) := by rw [HBl.out.cell, HU.out.get _ (by omega), if_neg (by omega)]
      have f0 : wr.frozen? ⟨w.heap.size + 1 + 1, k * 2, none⟩ = false := HBl.out.frozen _
      have f1 : wr.frozen? ⟨w.heap.size + 1 + 1, k * 2 + 1, none⟩ = false := HBl.out.frozen _
      go_wp2
      refine wp_region_rely 11 nowhere [] (by kernel_rfl) (by kernel_rfl) ?_
      iterate 11
        refine wpRely_step (fun K hK => ?_)
        first
        | (refine .inl ?_
           apply Exists.intro
           refine ⟨Any, ?_, hK _ _ _ _ ?_⟩
           · simp only [RelyOp, fillE]
             refine ⟨?_, fun w9 hw9 _ => ?_⟩
             · first | rfl | (go_simp; done)
             obtain ⟨hc9, hf9⟩ := hw9.all
             go_simp
             first
             | exact ⟨⟨rfl, trivial⟩, Keeps.refl _ _⟩
           clear hK K
           try simp only [Act.put, List.setIfInBounds_toArray, List.set_cons_zero, List.set_cons_succ])
        | (refine .inr (.inl ⟨?_, hK _ _ _ _ ?_⟩)
           · simp only [fillE]
             first | rfl | (go_simp; done)
           clear hK K
           try simp only [Act.put, List.setIfInBounds_toArray, List.set_cons_zero, List.set_cons_succ])
      refine wpRely_nil ?_
      simp only [fillE]
      intro w9 hw9 _
      obtain ⟨hc9, hf9⟩ := hw9.all
      go_wp2
      have hbw := hw9.same
      refine ⟨⟨k + 1, by omega, by go_num, Lib.hid ⟨_, ((HBl.out.below hbw HBl.out.lt).set_ _ _).set_ _ _, ((HU.out.set_ d0).set_ d1).congr (fun i hi => ?_)⟩, Lib.hid (((hR.out.below hbw hR.out.lt).far (by simp) _).far (by simp) _), Lib.hid (((hC.out.below hbw hC.out.lt).far (by simp; omega) _).far (by simp; omega) _), ((hb.trans (hbw.mono hb.size)).setCell (by simp; omega) _).setCell (by simp; omega) _⟩, by simp [intOf]; omega⟩
      by_cases h1 : i = k * 2 + 1
      · subst h1
        rw [if_pos (by omega), if_pos rfl, Nat.mul_comm]
      · by_cases h2 : i = k * 2
        · subst h2
          rw [if_pos (by omega), if_neg h1, if_pos rfl, Nat.mul_comm]
        · rw [if_neg h1, if_neg h2]
          by_cases h3 : i < 2 * k
          · rw [if_pos (by omega), if_pos h3]
          · rw [if_neg (by omega), if_neg h3]
    · obtain rfl : k = 8 := by omega
      have hED : E = C := HU.out.ext (H.out.congr (fun i hi => by rw [if_pos (by omega)]))
      subst hED
      go_wp2_with (first
        | (refine wpList_load_row rfl 56 _ rfl (w.heap.size + 2) rfl 56 E (0, 0) _ ?ha Try.underlying56 rfl ?hb1 ?_)
        | (refine wpList_store_row rfl 56 _ _ rfl (w.heap.size + 1) E rfl rfl 56 #[.int .i64 0, .int .i64 0, .int .i64 0, .int .i64 0, .int .i64 0, .int .i64 0, .int .i64 0, .int .i64 0, .int .i64 0, .int .i64 0, .int .i64 0, .int .i64 0, .int .i64 0, .int .i64 0, .int .i64 0, .int .i64 0] ?hg ?hj ?ho h1 ?_))
      case ha => exact HBl.out
      case hb1 => rw [infoT, hDs.out]
      case hg => exact hR.out
      case hj => rw [infoT, hDs.out]
      case ho => rw [hDs.out]; rfl
      refine bodyPost_ret (results_cell_row Try.results37 _ _ (w.heap.size + 1) 56 E (0, 0) _ rfl (hR.out.setRow E) Try.underlying56 rfl (by rw [infoT, hDs.out])) rfl ⟨rfl, below_setRow hb (by omega) _⟩
end Go.Proofs.Ytfpfhiogfjlpaaa
