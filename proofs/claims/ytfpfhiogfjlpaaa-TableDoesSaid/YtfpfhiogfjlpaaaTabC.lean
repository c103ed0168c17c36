/-
  What table.closed returns: a table out of which a key is taken. For every table.
-/
import Derived.Test.YtfpfhiogfjlpaaaTabP
import Derived.Test.YtfpfhiogfjlpaaaSlots
namespace Go.Proofs.Ytfpfhiogfjlpaaa
open Go.RowKit
attribute [local go_sem ↓] Go.wp_at_zero Go.wp_at_succ

/-- Block g is a table with the numbers z. -/
structure TabAt (w : World) (g : Nat) (t : TypeId) (z : Nat → Int) : Prop where
  ex : ∃ C, Blk w g t C ∧ I64s C 16 z
section
variable {w w' : World} {g : Nat} {t : TypeId} {z : Nat → Int}
theorem TabAt.mk' {C : Array Value} (h : Blk w g t C) (k : I64s C 16 z) : TabAt w g t z := ⟨C, h, k⟩
theorem TabAt.lt (h : TabAt w g t z) : g < w.heap.size := by obtain ⟨C, hb, _⟩ := h.ex; exact hb.lt
theorem TabAt.cell (h : TabAt w g t z) {i : Nat} (hi : i < 16) : w.cell? ⟨g, i, none⟩ = some (.int .i64 (z i)) := by
  obtain ⟨C, hb, hc⟩ := h.ex; rw [hb.cell]; exact hc.get i hi
theorem TabAt.key (h : TabAt w g t z) {i : Nat} (hi : i < 8) : w.cell? ⟨g, i * 2, none⟩ = some (.int .i64 (z (2 * i))) := by rw [Nat.mul_comm]; exact h.cell (by omega)
theorem TabAt.val (h : TabAt w g t z) {i : Nat} (hi : i < 8) : w.cell? ⟨g, i * 2 + 1, none⟩ = some (.int .i64 (z (2 * i + 1))) := by rw [Nat.mul_comm]; exact h.cell (by omega)
theorem TabAt.frozen (h : TabAt w g t z) (i : Nat) : w.frozen? ⟨g, i, none⟩ = false := by obtain ⟨C, hb, _⟩ := h.ex; exact hb.frozen i
theorem TabAt.bd (h : TabAt w g t z) {i : Nat} (hi : i < 16) : -9223372036854775808 ≤ z i ∧ z i ≤ 9223372036854775807 := by obtain ⟨C, _, hc⟩ := h.ex; exact hc.bd i hi
theorem TabAt.below {B : Nat} (h : TabAt w g t z) (hb : Below B w w') (hg : g < B) : TabAt w' g t z := by obtain ⟨C, h1, h2⟩ := h.ex; exact ⟨C, h1.below hb hg, h2⟩
theorem TabAt.alloc (h : TabAt w g t z) (o : Obj) : TabAt (w.alloc o) g t z := by obtain ⟨C, h1, h2⟩ := h.ex; exact ⟨C, h1.alloc o, h2⟩
theorem TabAt.far (h : TabAt w g t z) {p : Addr} (hp : g ≠ p.block) (u : Value) : TabAt (w.setCell p u) g t z := by obtain ⟨C, h1, h2⟩ := h.ex; exact ⟨C, h1.far hp u, h2⟩
theorem TabAt.setS (h : TabAt w g t z) (i : Nat) {k v : Int} (hk : -9223372036854775808 ≤ k ∧ k ≤ 9223372036854775807) (hv : -9223372036854775808 ≤ v ∧ v ≤ 9223372036854775807) :
    TabAt ((w.setCell ⟨g, i * 2, none⟩ (.int .i64 k)).setCell ⟨g, i * 2 + 1, none⟩ (.int .i64 v)) g t (setS z i k v) := by
  obtain ⟨C, h1, h2⟩ := h.ex
  refine ⟨_, (h1.set_ _ _).set_ _ _, ((h2.set_ hk).set_ hv).congr (fun j _ => ?_)⟩
  unfold Proofs.Ytfpfhiogfjlpaaa.setS
  by_cases e1 : j = i * 2 + 1
  · subst e1; rw [if_neg (by omega), if_pos (by omega), if_pos rfl]
  · by_cases e2 : j = i * 2
    · subst e2; rw [if_pos (by omega), if_neg e1, if_pos rfl]
    · rw [if_neg (by omega), if_neg (by omega), if_neg e1, if_neg e2]
end

theorem setS_bd {z : Nat → Int} {i : Nat} {k v : Int} (hz : ∀ j, j < 16 → -9223372036854775808 ≤ z j ∧ z j ≤ 9223372036854775807) (hk : -9223372036854775808 ≤ k ∧ k ≤ 9223372036854775807) (hv : -9223372036854775808 ≤ v ∧ v ≤ 9223372036854775807) :
    ∀ j, j < 16 → -9223372036854775808 ≤ setS z i k v j ∧ setS z i k v j ≤ 9223372036854775807 := fun j hj => by
  unfold setS
  split
  · exact hk
  · split
    · exact hv
    · exact hz j hj

set_option maxRecDepth 100000 in
set_option maxHeartbeats 2000000 in
theorem closed_any (C D : Array Value) (z : Nat → Int) (i m : Nat) (w : World) (h : I64s C 16 z) (b : Beh z i m) (hD : I64s D 16 (runT z i m)) :
    Calls Try.prog 66 #[.agg C, .int .i64 i] w fun e w' => e = .returned (.agg D) ∧ Below w.heap.size w w' := by
  have HB := Lib.hid b
  have hi8 := b.hi
  have H := Lib.hid h
  have hDs := Lib.hid hD.size
  have h1 := hD.one
  have HD := Lib.hid hD
  have hm6 := b.m6
  clear h b hD
  have hi8' : (i : Int) < 8 := by omega
  have hr0 : Hid (((i : Int) + 1) % 8 = ((kk i 0 : Nat) : Int)) := by show _ = _; unfold kk; omega
  have HT0 : Hid (TabAt (w.alloc (.cells C 56)) w.heap.size 56 z) := Lib.hid (TabAt.mk' (Blk.new _ _ _) H.out)
  have k0 : C[i * 2]? = some (.int .i64 (z (2 * i))) := by rw [Nat.mul_comm]; exact H.out.get _ (by omega)
  have k1 : C[i * 2 + 1]? = some (.int .i64 (z (2 * i + 1))) := by rw [Nat.mul_comm]; exact H.out.get _ (by omega)
  go_enter Try.func66, Try.ntmps66
  go_wp2
  have hT1 : TabAt ((w.alloc (.cells ((C.setIfInBounds (i * 2) (.int .i64 0)).setIfInBounds (i * 2 + 1) (.int .i64 0)) 56)).alloc (.cells #[.int .i64 0, .int .i64 0, .int .i64 0, .int .i64 0, .int .i64 0, .int .i64 0, .int .i64 0, .int .i64 0, .int .i64 0, .int .i64 0, .int .i64 0, .int .i64 0, .int .i64 0, .int .i64 0, .int .i64 0, .int .i64 0] 56)) w.heap.size 56 (setS z i 0 0) := by
    refine TabAt.mk' ((Blk.new _ _ _).alloc _) (((H.out.set_ (by decide)).set_ (by decide)).congr (fun x _ => ?_))
    unfold setS
    by_cases e1 : x = i * 2 + 1
    · subst e1; rw [if_neg (by omega), if_pos (by omega), if_pos rfl]
    · by_cases e2 : x = i * 2
      · subst e2; rw [if_pos (by omega), if_neg e1, if_pos rfl]
      · rw [if_neg (by omega), if_neg (by omega), if_neg e1, if_neg e2]
  have HT1 := Lib.hid hT1
  clear hT1
  go_loopw [5] (fun s wr => ∃ j : Nat, j ≤ m ∧ s = .int .i64 ((kk i j : Nat) : Int) ∧ Hid (TabAt wr w.heap.size 56 (runT z i j)) ∧ Hid (Blk wr (w.heap.size + 1) 56 #[.int .i64 0, .int .i64 0, .int .i64 0, .int .i64 0, .int .i64 0, .int .i64 0, .int .i64 0, .int .i64 0, .int .i64 0, .int .i64 0, .int .i64 0, .int .i64 0, .int .i64 0, .int .i64 0, .int .i64 0, .int .i64 0]) ∧ Below w.heap.size w wr) (fun s _ => 8 - ((intOf s).toNat + 7 - i) % 8)
  case atStart => exact ⟨0, by omega, val_int hr0.out, HT1, Lib.hid (Blk.newAt _ _ _ (by simp)), by go_grown⟩
  case round =>
    obtain ⟨j, hjm, rfl, hT, hZ, hb⟩ := hrel
    have hgl := hT.out.lt
    have hzl := hZ.out.lt
    by_cases hj : j < m
    · have hq8 := kk_lt i j
      have hnx : (((kk i j : Nat) : Int) + 1) % 8 = ((kk i (j + 1) : Nat) : Int) := by unfold kk; omega
      have hme : 8 - (kk i (j + 1) + 7 - i) % 8 < 8 - (kk i j + 7 - i) % 8 := by unfold kk; omega
      obtain ⟨y1, y2, v1, v2⟩ := HB.out.bd hj
      have hT2 := HB.out.run j (by omega)
      obtain ⟨p, hp8, hat, _⟩ := HB.out.step hj hT2
      have hstep : runT z i (j + 1) = setS (setS (runT z i j) (kk i j) 0 0) p (runT z i j (2 * kk i j)) (runT z i j (2 * kk i j + 1)) := by
        show stepT (runT z i j) (kk i j) = _
        unfold stepT
        rw [hat, Int.toNat_natCast]
      have c0 := hT.out.key hq8
      have c1 := hT.out.val hq8
      clear hT2
      have hmm : m ≤ 6 := hm6
      generalize hq : kk i j = q at *
      generalize hTT : runT z i j = T at *
      generalize hy : T (2 * q) = y at *
      generalize hv : T (2 * q + 1) = v at *
      have f0 := hT.out.frozen (q * 2)
      have f1 := hT.out.frozen (q * 2 + 1)
      have hyb : (y != 0) = true := by simp; omega
      have hq8' : (q : Int) < 8 := by omega
      have HAT := Lib.hid hat
      have HST := Lib.hid hstep
      have HNX := Lib.hid hnx
      have HQ := Lib.hid hq
      have HME := Lib.hid hme
      clear hat hstep hTT hy hv hnx hq hme
      have hyi : -9223372036854775808 ≤ y ∧ y ≤ 9223372036854775807 := by omega
      have hvi : -9223372036854775808 ≤ v ∧ v ≤ 9223372036854775807 := by omega
      have hU := Lib.hid ((hT.out.setS q (k := 0) (v := 0) (by decide) (by decide)).alloc (.cells #[.int .i64 y, .int .i64 v] 54))
      have hS : Blk (((wr.setCell ⟨w.heap.size, q * 2, none⟩ (.int .i64 0)).setCell ⟨w.heap.size, q * 2 + 1, none⟩ (.int .i64 0)).alloc (.cells #[.int .i64 y, .int .i64 v] 54)) wr.heap.size 54 #[.int .i64 y, .int .i64 v] := Blk.newAt _ _ _ (by simp)
      have hZ2 := Lib.hid (((hZ.out.far (p := ⟨w.heap.size, q * 2, none⟩) (by simp) (.int .i64 0)).far (p := ⟨w.heap.size, q * 2 + 1, none⟩) (by simp) (.int .i64 0)).alloc (.cells #[.int .i64 y, .int .i64 v] 54))
      have hb2 : Below w.heap.size w (((wr.setCell ⟨w.heap.size, q * 2, none⟩ (.int .i64 0)).setCell ⟨w.heap.size, q * 2 + 1, none⟩ (.int .i64 0)).alloc (.cells #[.int .i64 y, .int .i64 v] 54)) := by go_grown
      go_wp2
      clear c0 c1 f0 f1 hT hZ hb
      generalize ((wr.setCell ⟨w.heap.size, q * 2, none⟩ (.int .i64 0)).setCell ⟨w.heap.size, q * 2 + 1, none⟩ (.int .i64 0)).alloc (.cells #[.int .i64 y, .int .i64 v] 54) = W at *
      have hgl2 := hU.out.lt
      have hsl := hS.lt
      have s0 := hS.cell 0
      have s1 := hS.cell 1
      simp only [List.getElem?_toArray, List.getElem?_cons_zero, List.getElem?_cons_succ] at s0 s1
      obtain ⟨CU, hCU, hIU⟩ := hU.out.ex
      have HCU := Lib.hid hCU
      have HIU := Lib.hid hIU
      clear hCU hIU hS
      have hp8' : (p : Int) < 8 := by omega
      have hcall : ∀ w9, Below W.heap.size W w9 → Calls Try.prog 59 #[.pointer (some ⟨w.heap.size, 0, none⟩), .int .i64 y] w9 fun e w' => e = .returned (.int .i64 (p : Int)) ∧ Below w9.heap.size w9 w' := fun w9 h9 => by
        rw [← HAT.out]
        exact at_int CU _ w.heap.size y w9 HIU.out (HCU.out.below h9 hgl2) (by omega) y2
      have HCALL := Lib.hid hcall
      clear hcall
      have c0 := hU.out.key hp8
      have c1 := hU.out.val hp8
      have f0 := hU.out.frozen (p * 2)
      have f1 := hU.out.frozen (p * 2 + 1)
      refine wp_region_rely 5 nowhere [] (by kernel_rfl) (by kernel_rfl) ?_
      iterate 5
        refine wpRely_step (fun K hK => ?_)
        first
        | (refine .inl ?_
           apply Exists.intro
           refine ⟨Any, ?_, hK _ _ _ _ ?_⟩
           · simp only [RelyOp, fillE]
             refine ⟨?_, fun w9 hw9 _ => ?_⟩
             · first | rfl | (go_simp; done)
             obtain ⟨hc9, hf9⟩ := hw9.all
             go_simp
             first
             | exact ⟨⟨rfl, trivial⟩, Keeps.refl _ _⟩
             | (go_at_call 59; exact rely_det (HCALL.out w9 hw9.same))
           clear hK K
           try simp only [Act.put, List.setIfInBounds_toArray, List.set_cons_zero, List.set_cons_succ])
        | (refine .inr (.inl ⟨?_, hK _ _ _ _ ?_⟩)
           · simp only [fillE]
             first | rfl | (go_simp; done)
           clear hK K
           try simp only [Act.put, List.setIfInBounds_toArray, List.set_cons_zero, List.set_cons_succ])
      refine wpRely_nil ?_
      simp only [fillE]
      intro w9 hw9 _
      obtain ⟨hc9, hf9⟩ := hw9.all
      go_wp2
      have hbw := hw9.same
      refine ⟨⟨j + 1, by omega, val_int HNX.out, Lib.hid ?_, Lib.hid (((hZ2.out.below hbw (by omega)).far (by simp) _).far (by simp) _), ((hb2.trans (hbw.mono hb2.size)).setCell (by simp) _).setCell (by simp) _⟩, ?_⟩
      · rw [HST.out]
        exact (hU.out.below hbw hgl2).setS p hyi hvi
      · have h1 := HME.out
        have h2 := HNX.out
        simp only [RowKit.intOf, Array.getD_eq_getD_getElem?] at *
        simp [intOf]
        omega
    · obtain rfl : j = m := by omega
      have c0 := hT.out.key (kk_lt i j)
      rw [HB.out.end_] at c0
      obtain ⟨E, hE, hIE⟩ := hT.out.ex
      obtain rfl : E = D := hIE.ext HD.out
      have hq8 := kk_lt i j
      have HBl := Lib.hid hE
      clear hE hIE
      generalize kk i j = q at *
      have hq8' : (q : Int) < 8 := by omega
      go_wp2_with (first
        | (refine wpList_load_row rfl 56 _ rfl w.heap.size rfl 56 E (0, 0) _ ?ha Try.underlying56 rfl ?hb1 ?_)
        | (refine wpList_store_row rfl 56 _ _ rfl (w.heap.size + 1) E rfl rfl 56 #[.int .i64 0, .int .i64 0, .int .i64 0, .int .i64 0, .int .i64 0, .int .i64 0, .int .i64 0, .int .i64 0, .int .i64 0, .int .i64 0, .int .i64 0, .int .i64 0, .int .i64 0, .int .i64 0, .int .i64 0, .int .i64 0] ?hg ?hj ?ho h1 ?_))
      case ha => exact HBl.out
      case hb1 => rw [infoT, hDs.out]
      case hg => exact hZ.out
      case hj => rw [infoT, hDs.out]
      case ho => rw [hDs.out]; rfl
      refine bodyPost_ret (results_cell_row Try.results66 _ _ (w.heap.size + 1) 56 E (0, 0) _ rfl (hZ.out.setRow E) Try.underlying56 rfl (by rw [infoT, hDs.out])) rfl ⟨rfl, below_setRow hb (by omega) _⟩
end Go.Proofs.Ytfpfhiogfjlpaaa
