/-
  What law.stored leaves: a store and the reference's, alike, behind any acts. For every slice of at most 60 acts.
-/
import Derived.Test.YtmfjmmplcbpokaaDoorStX
import Derived.Test.YtmfjmmplcbpokaaDoorStT
import Derived.Test.YtmfjmmplcbpokaaDoorMErr
namespace Go.Proofs.YtmfjmmplcbpokaaDoor
set_option linter.unusedSimpArgs false
set_option linter.unusedVariables false
set_option linter.unusedSectionVars false
open Go.RowKit Go.Maps
attribute [local go_sem ↓] Go.wp_at_zero Go.wp_at_succ

theorem bareS (e : Int) (w : World) (hg : ErrT w) : Calls Tryd.prog 13 #[errV e, .int .i64 e] w fun e' w' => e' = .returned (.bool true) ∧ Below w.heap.size w w' :=
  (bare_any e e w hg).mono fun _ _ ⟨h, hb⟩ => ⟨by rw [h]; simp, hb⟩
theorem bareS2 (w : World) (hg : ErrT w) : Calls Tryd.prog 13 #[.iface 39 (.int .i64 2), .int .i64 2] w fun e' w' => e' = .returned (.bool true) ∧ Below w.heap.size w w' := by
  have h := bareS 2 w hg
  have e2 : errV 2 = .iface 39 (.int .i64 2) := by simp [errV]
  rwa [e2] at h
theorem bareS0 (w : World) (hg : ErrT w) : Calls Tryd.prog 13 #[.nilIface, .int .i64 0] w fun e' w' => e' = .returned (.bool true) ∧ Below w.heap.size w w' := by
  have h := bareS 0 w hg
  have e2 : errV 0 = .nilIface := by simp [errV]
  rwa [e2] at h

/-- Behind n acts: the two stores are the store s. -/
structure Sto (w W : World) (g h m n : Nat) (s : Sst) : Prop where
  below : Below w.heap.size w W
  gN : w.heap.size ≤ g
  hN : w.heap.size ≤ h
  mN : w.heap.size ≤ m
  gh : g ≠ h
  gm : g ≠ m
  hm : h ≠ m
  prog : Blk W g 85 (stA s)
  ref : Blk W h 43 (rsA s m)
  want : WantM s.want m n W
  ok : s.Ok
  fl : s.fl ≤ n
  fe : s.fe ≤ n
section
variable {w W W' : World} {g h m n : Nat} {s : Sst}
theorem Sto.turn (k : Sto w W g h m n s) (hk : Keeps (fun b => b = g ∨ b = h ∨ b = m) W W') {m' n' : Nat} {s' : Sst} (hp : Blk W' g 85 (stA s')) (hr : Blk W' h 43 (rsA s' m')) (hw : WantM s'.want m' n' W')
    (hm : w.heap.size ≤ m') (hgm : g ≠ m') (hhm : h ≠ m') (ok : s'.Ok) (fl : s'.fl ≤ n') (fe : s'.fe ≤ n') : Sto w W' g h m' n' s' :=
  ⟨k.below.trans (hk.below k.below.size (fun b hb e => by rcases e with e | e | e <;> (have := k.gN; have := k.hN; have := k.mN; omega))), k.gN, k.hN, hm, k.gh, hgm, hhm, hp, hr, hw, ok, fl, fe⟩
theorem Sto.grow (k : Sto w W g h m n s) (hb : Below W.heap.size W W') : Sto w W' g h m n s :=
  ⟨k.below.trans (hb.mono k.below.size), k.gN, k.hN, k.mN, k.gh, k.gm, k.hm, k.prog.below hb k.prog.lt, k.ref.below hb k.ref.lt, k.want.kept (Keeps.of_same (S := nowhere) hb) (fun e => e), k.ok, k.fl, k.fe⟩
theorem Sto.mono (k : Sto w W g h m n s) {n' : Nat} (hn : n ≤ n') : Sto w W g h m n' s :=
  ⟨k.below, k.gN, k.hN, k.mN, k.gh, k.gm, k.hm, k.prog, k.ref, k.want.mono hn, k.ok, Nat.le_trans k.fl hn, Nat.le_trans k.fe hn⟩
theorem Sto.alloc (k : Sto w W g h m n s) (o : Obj) : Sto w (W.alloc o) g h m n s := k.grow ((Below.refl _ _).alloc (Nat.le_refl _) o)
theorem Sto.save (k : Sto w W g h m n s) {a : Nat} (ha : a < 72) {v : Int} (hv : 0 ≤ v ∧ v < 18446744073709551616) : Sto w ((W.setCell ⟨h, a, none⟩ (.int .u64 v)).setCell ⟨g, a, none⟩ (.int .u64 v)) g h m n (s.save a v) :=
  k.turn (((Keeps.refl _ _).setCell (p := ⟨h, a, none⟩) (.inl (.inr (.inl rfl))) _).setCell (p := ⟨g, a, none⟩) (.inl (.inl rfl)) _)
    (by rw [← stA_save s v ha]; exact (k.prog.far (p := ⟨h, a, none⟩) k.gh _).set_ a _) (by rw [← rsA_save s m v ha]; exact (k.ref.set_ a _).far (p := ⟨g, a, none⟩) k.gh.symm _)
    (k.want.kept (((Keeps.refl (fun b => b = g ∨ b = h) _).setCell (p := ⟨h, a, none⟩) (.inl (.inr rfl)) _).setCell (p := ⟨g, a, none⟩) (.inl (.inl rfl)) _) (fun e => by rcases e with e | e; exact k.gm e.symm; exact k.hm e.symm))
    k.mN k.gm k.hm (k.ok.save a hv) k.fl k.fe
end
theorem only_three {W W' : World} {g h m b : Nat} (hk : Keeps (Only b) W W') (hb : b = g ∨ b = h ∨ b = m) : Keeps (fun b => b = g ∨ b = h ∨ b = m) W W' := hk.mono fun x hx => by
  have : x = b := hx
  subst this
  exact hb

theorem same_below {P : Program} {f : FuncId} {args : Array Value} {w : World} {v : Value} (h : Calls P f args w fun e w' => e = .returned v ∧ w = w') : Calls P f args w fun e w' => e = .returned v ∧ Below w.heap.size w w' :=
  h.mono fun _ _ ⟨h1, h2⟩ => ⟨h1, h2 ▸ Below.refl _ _⟩
theorem calmS {c : Bool} {p : Prop} (h : c = false ∧ p) (hc : c = true) : False := by rw [hc] at h; cases h.1
theorem Blk.kept2 {w w' : World} {g k m : Nat} {t : TypeId} {cs : Array Value} (h : Blk w k t cs) (hk : Keeps (Both g m) w w') (hne : ¬ Both g m k) : Blk w' k t cs := (hk.block k h.lt hne).trans h

def StoredOut (w : World) (e : Ending) (w' : World) : Prop := ∃ g h m n s, e = .returned (.tuple #[.pointer (some ⟨g, 0, none⟩), .pointer (some ⟨h, 0, none⟩), .bool true]) ∧ n ≤ 60 ∧ Sto w w' g h m n s

set_option maxRecDepth 100000 in
set_option maxHeartbeats 4000000 in
theorem stored_any (A : Option Addr) (n c : Nat) (l : Nat → Nat → Int) (w : World) (hl : SlF [.i64, .i64, .u64, .i64, .i64] w A n c l) (hg : ErrT w) (hn : n ≤ 60) :
    Calls Tryd.prog 5 #[.slice A n c] w (StoredOut w) := by
  have HG := Lib.hid hg
  have HL := Lib.hid hl
  clear hg hl
  go_enter Tryd.func5, Tryd.ntmps5
  generalize hQ : bodyPost Tryd.prog Tryd.f5 (StoredOut w) = Q
  have HQ := Lib.hid hQ
  clear hQ
  go_wp2_with fail
  with_reducible refine (stNew _).mono ?_
  rintro e w1 ⟨rfl, rfl⟩
  go_wp2_with fail
  with_reducible refine (rsNew _).mono ?_
  rintro e w2 ⟨h, m, rfl, hh, hm, hhm, hbh, hwm, hb2⟩
  go_wp2_with fail
  have HST : Hid (Sto w w2 w.heap.size h m 0 Sst.new) := Lib.hid (by
    have hz : (w.alloc (.cells (stA Sst.new) 85)).heap.size = w.heap.size + 1 := by simp
    exact ⟨Below.trans (by go_grown) (hb2.mono (by omega)), Nat.le_refl _, by omega, by omega, by omega, by omega, hhm, (Blk.new w 85 (stA Sst.new)).below hb2 (by simp), hbh, hwm, Sst.Ok.new, Nat.le_refl _, Nat.le_refl _⟩)
  clear hh hm hhm hbh hwm hb2
  go_loopw [7] (fun iv wr => ∃ (k m' : Nat) (s : Sst), k ≤ n ∧ iv = .int .i64 k ∧ Hid (Sto w wr w.heap.size h m' k s)) (fun iv _ => n - (intOf iv).toNat)
  case atStart => exact ⟨0, m, Sst.new, by omega, rfl, HST⟩
  case round =>
    obtain ⟨k, m', s, hk, rfl, HS⟩ := hrel
    have hB := HS.out.below
    by_cases hkn : k < n
    · have b1 : (k : Int) < n := by omega
      obtain ⟨b, off, rfl, hblt, hcell⟩ := HL.out.at_ (by omega)
      have c0 : wr.cell? ⟨b, off + k * 5, none⟩ = some (.int .i64 (l k 0)) := (hB.cell (p := ⟨b, off + k * 5, none⟩) hblt).trans (hcell k 0 hkn (by decide))
      have c1 : wr.cell? ⟨b, off + k * 5 + 1, none⟩ = some (.int .i64 (l k 1)) := (hB.cell (p := ⟨b, off + k * 5 + 1, none⟩) hblt).trans (hcell k 1 hkn (by decide))
      have c2 : wr.cell? ⟨b, off + k * 5 + 2, none⟩ = some (.int .u64 (l k 2)) := (hB.cell (p := ⟨b, off + k * 5 + 2, none⟩) hblt).trans (hcell k 2 hkn (by decide))
      have c3 : wr.cell? ⟨b, off + k * 5 + 3, none⟩ = some (.int .i64 (l k 3)) := (hB.cell (p := ⟨b, off + k * 5 + 3, none⟩) hblt).trans (hcell k 3 hkn (by decide))
      have c4 : wr.cell? ⟨b, off + k * 5 + 4, none⟩ = some (.int .i64 (l k 4)) := (hB.cell (p := ⟨b, off + k * 5 + 4, none⟩) hblt).trans (hcell k 4 hkn (by decide))
      have v2 := bounds_u64 (HL.out.wf k 2 hkn (by decide))
      clear hcell
      generalize l k 0 = what at *
      generalize l k 1 = addr at *
      generalize l k 2 = word at *
      generalize l k 3 = thr at *
      generalize l k 4 = line at *
      have v2' : 0 ≤ word ∧ word < 18446744073709551616 := by omega
      have HA := Lib.hid (fun o => HS.out.alloc o)
      have HZ : Hid (w.heap.size ≤ wr.heap.size ∧ h < wr.heap.size ∧ m' < wr.heap.size ∧ w.heap.size < wr.heap.size) := Lib.hid ⟨hB.size, HS.out.ref.lt, HS.out.want.lt, HS.out.prog.lt⟩
      clear HS hB
      by_cases h0 : what = 0
      · subst h0
        have hth := rsThere h addr
        go_wp2_with fail
        have HS := Lib.hid (HA.out (.cells #[.int .i64 0, .int .i64 addr, .int .u64 word, .int .i64 thr, .int .i64 line] 33))
        have HAB := Lib.hid (Blk.new wr 33 #[.int .i64 0, .int .i64 addr, .int .u64 word, .int .i64 thr, .int .i64 line])
        have hgw : w.heap.size ≤ wr.heap.size ∧ h < wr.heap.size ∧ m' < wr.heap.size ∧ w.heap.size < wr.heap.size := HZ.out
        generalize wr.alloc (.cells #[.int .i64 0, .int .i64 addr, .int .u64 word, .int .i64 thr, .int .i64 line] 33) = W0 at *
        generalize wr.heap.size = ga at *
        have hga := HAB.out.lt
        have hBW := HS.out.below
        clear c0 c1 c2 c3 c4
        have a1 : W0.cell? ⟨ga, 1, none⟩ = some (.int .i64 addr) := HAB.out.cell 1
        have a2 : W0.cell? ⟨ga, 2, none⟩ = some (.int .u64 word) := HAB.out.cell 2
        by_cases hin : 0 ≤ addr ∧ addr < 72
        · rw [decide_eq_true hin] at hth
          with_reducible refine (hth _).mono ?_
          rintro e w5 ⟨rfl, rfl⟩
          obtain ⟨i0, i72⟩ := hin
          obtain ⟨i, rfl⟩ := Int.eq_ofNat_of_zero_le i0
          have hi : i < 72 := by omega
          have cF : W0.cell? ⟨h, i, none⟩ = some (.int .u64 (s.now i)) := by rw [HS.out.ref.cell, rsA_now _ _ hi]
          have fF : W0.frozen? ⟨h, i, none⟩ = false := HS.out.ref.frozen i
          have hne : ga ≠ h := by omega
          generalize s.now i = v0 at cF
          clear hth
          have hhlt := HS.out.ref.lt
          go_wp2_with fail
          refine wp_region_rely 8 nowhere [] (by kernel_rfl) (by kernel_rfl) ?_
          iterate 8
            refine wpRely_step (fun K hK => ?_)
            first
            | (refine .inl ?_
               apply Exists.intro
               refine ⟨Any, ?_, hK _ _ _ _ ?_⟩
               · simp only [RelyOp, fillE]
                 refine ⟨?_, fun w9 hw9 _ => ?_⟩
                 · first | rfl | (go_simp; done)
                 obtain ⟨hc9, hf9⟩ := hw9.all
                 go_simp
                 first
                 | exact ⟨⟨rfl, trivial⟩, Keeps.refl _ _⟩
               clear hK K
               try simp only [Act.put, List.setIfInBounds_toArray, List.set_cons_zero, List.set_cons_succ])
            | (refine .inr (.inl ⟨?_, hK _ _ _ _ ?_⟩)
               · simp only [fillE]
                 first | rfl | (go_simp; done)
               clear hK K
               try simp only [Act.put, List.setIfInBounds_toArray, List.set_cons_zero, List.set_cons_succ])
          refine wpRely_nil ?_
          simp only [fillE]
          intro w9 hw9 _
          obtain ⟨hc9, hf9⟩ := hw9.all
          simp only [List.drop_succ_cons, List.drop_zero]
          have cF' : w9.cell? ⟨h, i, none⟩ = some (.int .u64 v0) := (hw9.same.cell (p := ⟨h, i, none⟩) hhlt).trans cF
          have fF' : w9.frozen? ⟨h, i, none⟩ = false := (hw9.same.frozen (p := ⟨h, i, none⟩) hhlt).trans fF
          have a1' : w9.cell? ⟨ga, 1, none⟩ = some (.int .i64 (i : Int)) := (hw9.same.cell (p := ⟨ga, 1, none⟩) hga).trans a1
          have a2' : w9.cell? ⟨ga, 2, none⟩ = some (.int .u64 word) := (hw9.same.cell (p := ⟨ga, 2, none⟩) hga).trans a2
          have HS9 := Lib.hid (HS.out.grow hw9.same)
          clear hw9 hc9 hf9 cF fF a1 a2 hBW hhlt
          go_wp2_with fail
          with_reducible refine (stSave_in w.heap.size i word s _ (HS9.out.prog.far (p := ⟨h, i, none⟩) HS9.out.gh _) hi).mono ?_
          rintro e w6 ⟨rfl, rfl⟩
          have HS10 := Lib.hid (HS9.out.save hi v2')
          clear cF' fF' a1' a2'
          go_wp2_with fail
          with_reducible refine (bareS0 _ (HG.out.below HS10.out.below)).mono ?_
          rintro e w7 ⟨rfl, hb7⟩
          have HS11 := Lib.hid ((HS10.out.grow hb7).mono (Nat.le_succ k))
          clear hb7
          go_wp2
          exact ⟨⟨k + 1, m', s.save i word, by omega, by go_num, HS11⟩, by simp [intOf]; omega⟩
        · rw [decide_eq_false hin] at hth
          with_reducible refine (hth _).mono ?_
          rintro e w5 ⟨rfl, rfl⟩
          clear hth
          go_wp2_with fail
          with_reducible refine (stSave_out w.heap.size addr word _ hin).mono ?_
          rintro e w6 ⟨rfl, rfl⟩
          go_wp2_with fail
          with_reducible refine (bareS2 _ (HG.out.below hBW)).mono ?_
          rintro e w7 ⟨rfl, hb7⟩
          have HS10 := Lib.hid ((HS.out.grow hb7).mono (Nat.le_succ k))
          clear hb7 hBW
          go_wp2
          exact ⟨⟨k + 1, m', s, by omega, by go_num, HS10⟩, by simp [intOf]; omega⟩
      · by_cases h1 : what = 1
        · subst h1
          by_cases hin : 0 ≤ thr ∧ thr < 4 ∧ 0 ≤ line ∧ line < 9
          · obtain ⟨t0, t4, l0, l9⟩ := hin
            obtain ⟨t, rfl⟩ := Int.eq_ofNat_of_zero_le t0
            obtain ⟨ln, rfl⟩ := Int.eq_ofNat_of_zero_le l0
            have ht : t < 4 := by omega
            have hln : ln < 9 := by omega
            go_wp2_with fail
            have HS := Lib.hid (HA.out (.cells #[.int .i64 1, .int .i64 addr, .int .u64 word, .int .i64 (t : Int), .int .i64 (ln : Int)] 33))
            have HAB := Lib.hid (Blk.new wr 33 #[.int .i64 1, .int .i64 addr, .int .u64 word, .int .i64 (t : Int), .int .i64 (ln : Int)])
            have hgw : w.heap.size ≤ wr.heap.size ∧ h < wr.heap.size ∧ m' < wr.heap.size ∧ w.heap.size < wr.heap.size := HZ.out
            generalize wr.alloc (.cells #[.int .i64 1, .int .i64 addr, .int .u64 word, .int .i64 (t : Int), .int .i64 (ln : Int)] 33) = W0 at *
            generalize wr.heap.size = ga at *
            have a3 : W0.cell? ⟨ga, 3, none⟩ = some (.int .i64 (t : Int)) := HAB.out.cell 3
            have a4 : W0.cell? ⟨ga, 4, none⟩ = some (.int .i64 (ln : Int)) := HAB.out.cell 4
            have hga := HAB.out.lt
            have hnS : ¬ (fun b => b = w.heap.size ∨ b = h ∨ b = m') ga := fun e => by
              have e' : ga = w.heap.size ∨ ga = h ∨ ga = m' := e
              omega
            have hBW := HS.out.below
            have hgN := HS.out.gN
            have hhN := HS.out.hN
            have hmN := HS.out.mN
            clear c0 c1 c2 c3 c4
            refine wp_region_rely 14 (fun b => b = w.heap.size ∨ b = h ∨ b = m') [5, 11] (by kernel_rfl) (by kernel_rfl) ?_
            iterate 5
              refine wpRely_step (fun K hK => ?_)
              refine .inl ?_
              apply Exists.intro
              refine ⟨Any, ?_, hK _ _ _ _ ?_⟩
              · simp only [RelyOp, fillE]
                refine ⟨?_, fun w9 hw9 _ => ?_⟩
                · first | rfl | (go_simp; done)
                have q3 := (hw9.cell (p := ⟨ga, 3, none⟩) hga hnS).trans a3
                have q4 := (hw9.cell (p := ⟨ga, 4, none⟩) hga hnS).trans a4
                go_simp
                exact ⟨⟨rfl, trivial⟩, Keeps.refl _ _⟩
              clear hK K
              try simp only [Act.put, List.setIfInBounds_toArray, List.set_cons_zero, List.set_cons_succ]
            refine wpRely_step (fun K hK => ?_)
            refine .inl ⟨.nilIface, fun _ w' => Blk w' w.heap.size 85 (stA (s.flush t ln)) ∧ Blk w' h 43 (rsA s m') ∧ WantM s.want m' k w', ?_, hK _ _ _ _ ?_⟩
            · simp only [RelyOp, fillE]
              refine ⟨?_, fun w9 hw9 hm9 => ?_⟩
              · first | rfl | (go_simp; done)
              have hB9 : Blk w9 w.heap.size 85 (stA s) := (hm9.1.block _ HS.out.prog.lt (fun h => calmS h (by kernel_rfl))).trans HS.out.prog
              have hR9 : Blk w9 h 43 (rsA s m') := (hm9.1.block _ HS.out.ref.lt (fun h => calmS h (by kernel_rfl))).trans HS.out.ref
              have hW9 : WantM s.want m' k w9 := HS.out.want.kept hm9.1 (fun h => calmS h (by kernel_rfl))
              go_simp
              go_at_call 22
              refine (stFlush_in w.heap.size t ln s _ hB9 ht hln (by have := HS.out.fl; omega)).mono ?_
              rintro e w10 ⟨rfl, hb, hk⟩
              exact ⟨_, rfl, ⟨rfl, hb, hR9.kept hk HS.out.gh.symm, hW9.kept hk (fun e => HS.out.gm e.symm)⟩, hk.mono (fun b hb => by first | exact .inl hb | exact ⟨by decide, .inl hb⟩)⟩
            clear hK K
            try simp only [Act.put, List.setIfInBounds_toArray, List.set_cons_zero, List.set_cons_succ]
            iterate 5
              refine wpRely_step (fun K hK => ?_)
              refine .inl ?_
              apply Exists.intro
              refine ⟨Any, ?_, hK _ _ _ _ ?_⟩
              · simp only [RelyOp, fillE]
                refine ⟨?_, fun w9 hw9 _ => ?_⟩
                · first | rfl | (go_simp; done)
                have q3 := (hw9.cell (p := ⟨ga, 3, none⟩) hga hnS).trans a3
                have q4 := (hw9.cell (p := ⟨ga, 4, none⟩) hga hnS).trans a4
                go_simp
                exact ⟨⟨rfl, trivial⟩, Keeps.refl _ _⟩
              clear hK K
              try simp only [Act.put, List.setIfInBounds_toArray, List.set_cons_zero, List.set_cons_succ]
            refine wpRely_step (fun K hK => ?_)
            refine .inl ⟨.int .i64 0, fun _ w' => Blk w' w.heap.size 85 (stA (s.flush t ln)) ∧ Blk w' h 43 (rsA ((s.flush t ln)) m') ∧ WantM ((s.flush t ln)).want m' (k + 1) w', ?_, hK _ _ _ _ ?_⟩
            · simp only [RelyOp, fillE]
              refine ⟨?_, fun w9 hw9 hm9 => ?_⟩
              · first | rfl | (go_simp; done)
              obtain ⟨w0, k0, k1, fB, fR, fW⟩ := hm9.2.2.2.2.2.2.1 (by kernel_rfl)
              have hB9 : Blk w9 w.heap.size 85 (stA (s.flush t ln)) := (k1.block _ fB.lt (fun h => calmS h (by kernel_rfl))).trans fB
              have hR9 := (k1.block _ fR.lt (fun h => calmS h (by kernel_rfl))).trans fR
              have hW9 := fW.kept k1 (fun h => calmS h (by kernel_rfl))
              go_simp
              go_at_call 23
              refine (rsFlush_in h m' k t ln s _ hR9 hW9 HS.out.hm ht hln (by have := HS.out.fl; omega) (by omega)).mono ?_
              rintro e w10 ⟨rfl, hb, hwt, hk⟩
              exact ⟨_, rfl, ⟨rfl, hB9.kept2 hk (fun e => by rcases e with e | e; exact HS.out.gh e; exact HS.out.gm e), hb, hwt⟩, hk.mono (fun b hb => by first | exact .inr hb | exact ⟨by decide, .inr hb⟩)⟩
            clear hK K
            try simp only [Act.put, List.setIfInBounds_toArray, List.set_cons_zero, List.set_cons_succ]
            refine wpRely_step (fun K hK => ?_)
            refine .inl ?_
            apply Exists.intro
            refine ⟨Any, ?_, hK _ _ _ _ ?_⟩
            · simp only [RelyOp, fillE]
              refine ⟨?_, fun w9 hw9 _ => ?_⟩
              · first | rfl | (go_simp; done)
              go_simp
              go_at_call 13
              exact rely_det (bareS0 _ (HG.out.below (hBW.trans (hw9.below hBW.size (fun b hb e => by rcases e with e | e | e <;> (have := hgN; have := hhN; have := hmN; omega))))))
            clear hK K
            try simp only [Act.put, List.setIfInBounds_toArray, List.set_cons_zero, List.set_cons_succ]
            iterate 1
              refine wpRely_step (fun K hK => ?_)
              refine .inl ?_
              apply Exists.intro
              refine ⟨Any, ?_, hK _ _ _ _ ?_⟩
              · simp only [RelyOp, fillE]
                refine ⟨?_, fun w9 hw9 _ => ?_⟩
                · first | rfl | (go_simp; done)
                have q3 := (hw9.cell (p := ⟨ga, 3, none⟩) hga hnS).trans a3
                have q4 := (hw9.cell (p := ⟨ga, 4, none⟩) hga hnS).trans a4
                go_simp
                exact ⟨⟨rfl, trivial⟩, Keeps.refl _ _⟩
              clear hK K
              try simp only [Act.put, List.setIfInBounds_toArray, List.set_cons_zero, List.set_cons_succ]
            refine wpRely_nil ?_
            simp only [fillE]
            intro w9 hw9 hmet
            obtain ⟨w0, k0, k1, fB, fR, fW⟩ := hmet.2.2.1 rfl
            have hB9 := (k1.block _ fB.lt (fun h => calmS h (by kernel_rfl))).trans fB
            have hR9 := (k1.block _ fR.lt (fun h => calmS h (by kernel_rfl))).trans fR
            have hW9 := fW.kept k1 (fun h => calmS h (by kernel_rfl))
            have HS9 : Hid (Sto w w9 w.heap.size h m' (k + 1) (s.flush t ln)) := Lib.hid (HS.out.turn hw9 hB9 hR9 hW9 hmN HS.out.gm HS.out.hm (HS.out.ok.flush t ln) (by show s.fl + 1 ≤ k + 1; have := HS.out.fl; omega) (by show s.fe ≤ k + 1; have := HS.out.fe; omega))
            clear hB9 hR9 hW9 fB fR fW k0 k1 hmet hw9 hBW a3 a4
            go_wp2
            exact ⟨⟨k + 1, m', s.flush t ln, by omega, by go_num, HS9⟩, by simp [intOf]; omega⟩
          · go_wp2_with fail
            have HS := Lib.hid (HA.out (.cells #[.int .i64 1, .int .i64 addr, .int .u64 word, .int .i64 thr, .int .i64 line] 33))
            have HAB := Lib.hid (Blk.new wr 33 #[.int .i64 1, .int .i64 addr, .int .u64 word, .int .i64 thr, .int .i64 line])
            have hgw : w.heap.size ≤ wr.heap.size ∧ h < wr.heap.size ∧ m' < wr.heap.size ∧ w.heap.size < wr.heap.size := HZ.out
            generalize wr.alloc (.cells #[.int .i64 1, .int .i64 addr, .int .u64 word, .int .i64 thr, .int .i64 line] 33) = W0 at *
            generalize wr.heap.size = ga at *
            have hga := HAB.out.lt
            have hBW := HS.out.below
            clear c0 c1 c2 c3 c4
            have a3 : W0.cell? ⟨ga, 3, none⟩ = some (.int .i64 thr) := HAB.out.cell 3
            have a4 : W0.cell? ⟨ga, 4, none⟩ = some (.int .i64 line) := HAB.out.cell 4
            refine wp_region_rely 14 nowhere [] (by kernel_rfl) (by kernel_rfl) ?_
            iterate 14
              refine wpRely_step (fun K hK => ?_)
              first
              | (refine .inl ?_
                 apply Exists.intro
                 refine ⟨Any, ?_, hK _ _ _ _ ?_⟩
                 · simp only [RelyOp, fillE]
                   refine ⟨?_, fun w9 hw9 _ => ?_⟩
                   · first | rfl | (go_simp; done)
                   obtain ⟨hc9, hf9⟩ := hw9.all
                   go_simp
                   first
                   | exact ⟨⟨rfl, trivial⟩, Keeps.refl _ _⟩
                   | (go_at_call 22; exact rely_det (same_below (stFlush_out _ _ _ _ hin))) | (go_at_call 23; exact rely_det (same_below (rsFlush_out _ _ _ _ hin))) | (go_at_call 13; exact rely_det (bareS2 _ (HG.out.below (hBW.trans (hw9.same.mono hBW.size)))))
                 clear hK K
                 try simp only [Act.put, List.setIfInBounds_toArray, List.set_cons_zero, List.set_cons_succ])
              | (refine .inr (.inl ⟨?_, hK _ _ _ _ ?_⟩)
                 · simp only [fillE]
                   first | rfl | (go_simp; done)
                 clear hK K
                 try simp only [Act.put, List.setIfInBounds_toArray, List.set_cons_zero, List.set_cons_succ])
            refine wpRely_nil ?_
            simp only [fillE]
            intro w9 hw9 _
            obtain ⟨hc9, hf9⟩ := hw9.all
            simp only [List.drop_succ_cons, List.drop_zero]
            have HS9 := Lib.hid ((HS.out.grow hw9.same).mono (Nat.le_succ k))
            clear hw9 hc9 hf9 a3 a4 hBW
            go_wp2
            exact ⟨⟨k + 1, m', s, by omega, by go_num, HS9⟩, by simp [intOf]; omega⟩
        · by_cases h2 : what = 2
          · subst h2
            by_cases hin : 0 ≤ thr ∧ thr < 4
            · obtain ⟨t0, t4⟩ := hin
              obtain ⟨t, rfl⟩ := Int.eq_ofNat_of_zero_le t0
              have ht : t < 4 := by omega
              go_wp2_with fail
              have HS := Lib.hid (HA.out (.cells #[.int .i64 2, .int .i64 addr, .int .u64 word, .int .i64 (t : Int), .int .i64 line] 33))
              have HAB := Lib.hid (Blk.new wr 33 #[.int .i64 2, .int .i64 addr, .int .u64 word, .int .i64 (t : Int), .int .i64 line])
              have hgw : w.heap.size ≤ wr.heap.size ∧ h < wr.heap.size ∧ m' < wr.heap.size ∧ w.heap.size < wr.heap.size := HZ.out
              generalize wr.alloc (.cells #[.int .i64 2, .int .i64 addr, .int .u64 word, .int .i64 (t : Int), .int .i64 line] 33) = W0 at *
              generalize wr.heap.size = ga at *
              have hga := HAB.out.lt
              have hBW := HS.out.below
              clear c0 c1 c2 c3 c4
              have a3 : W0.cell? ⟨ga, 3, none⟩ = some (.int .i64 (t : Int)) := HAB.out.cell 3
              have hnS : ¬ (fun b => b = w.heap.size ∨ b = h ∨ b = m') ga := fun e => by
                have e' : ga = w.heap.size ∨ ga = h ∨ ga = m' := e
                omega
              have hgN := HS.out.gN
              have hhN := HS.out.hN
              have hmN := HS.out.mN
              refine wp_region_rely 10 (fun b => b = w.heap.size ∨ b = h ∨ b = m') [3, 7] (by kernel_rfl) (by kernel_rfl) ?_
              iterate 3
                refine wpRely_step (fun K hK => ?_)
                refine .inl ?_
                apply Exists.intro
                refine ⟨Any, ?_, hK _ _ _ _ ?_⟩
                · simp only [RelyOp, fillE]
                  refine ⟨?_, fun w9 hw9 _ => ?_⟩
                  · first | rfl | (go_simp; done)
                  have q3 := (hw9.cell (p := ⟨ga, 3, none⟩) hga hnS).trans a3
                  go_simp
                  exact ⟨⟨rfl, trivial⟩, Keeps.refl _ _⟩
                clear hK K
                try simp only [Act.put, List.setIfInBounds_toArray, List.set_cons_zero, List.set_cons_succ]
              refine wpRely_step (fun K hK => ?_)
              refine .inl ⟨.nilIface, fun _ w' => Blk w' w.heap.size 85 (stA (s.fence t)) ∧ Blk w' h 43 (rsA s m') ∧ WantM s.want m' k w', ?_, hK _ _ _ _ ?_⟩
              · simp only [RelyOp, fillE]
                refine ⟨?_, fun w9 hw9 hm9 => ?_⟩
                · first | rfl | (go_simp; done)
                have hB9 : Blk w9 w.heap.size 85 (stA s) := (hm9.1.block _ HS.out.prog.lt (fun h => calmS h (by kernel_rfl))).trans HS.out.prog
                have hR9 : Blk w9 h 43 (rsA s m') := (hm9.1.block _ HS.out.ref.lt (fun h => calmS h (by kernel_rfl))).trans HS.out.ref
                have hW9 : WantM s.want m' k w9 := HS.out.want.kept hm9.1 (fun h => calmS h (by kernel_rfl))
                go_simp
                go_at_call 24
                refine (stFence_in w.heap.size t s _ hB9 ht (by have := HS.out.fe; omega)).mono ?_
                rintro e w10 ⟨rfl, hb, hk⟩
                exact ⟨_, rfl, ⟨rfl, hb, hR9.kept hk HS.out.gh.symm, hW9.kept hk (fun e => HS.out.gm e.symm)⟩, hk.mono (fun b hb => by first | exact .inl hb | exact ⟨by decide, .inl hb⟩)⟩
              clear hK K
              try simp only [Act.put, List.setIfInBounds_toArray, List.set_cons_zero, List.set_cons_succ]
              iterate 3
                refine wpRely_step (fun K hK => ?_)
                refine .inl ?_
                apply Exists.intro
                refine ⟨Any, ?_, hK _ _ _ _ ?_⟩
                · simp only [RelyOp, fillE]
                  refine ⟨?_, fun w9 hw9 _ => ?_⟩
                  · first | rfl | (go_simp; done)
                  have q3 := (hw9.cell (p := ⟨ga, 3, none⟩) hga hnS).trans a3
                  go_simp
                  exact ⟨⟨rfl, trivial⟩, Keeps.refl _ _⟩
                clear hK K
                try simp only [Act.put, List.setIfInBounds_toArray, List.set_cons_zero, List.set_cons_succ]
              refine wpRely_step (fun K hK => ?_)
              refine .inl ⟨.int .i64 0, fun _ w' => Blk w' w.heap.size 85 (stA (s.fence t)) ∧ Blk w' h 43 (rsA ((s.fence t)) m') ∧ WantM ((s.fence t)).want m' k w', ?_, hK _ _ _ _ ?_⟩
              · simp only [RelyOp, fillE]
                refine ⟨?_, fun w9 hw9 hm9 => ?_⟩
                · first | rfl | (go_simp; done)
                obtain ⟨w0, k0, k1, fB, fR, fW⟩ := hm9.2.2.2.2.1 (by kernel_rfl)
                have hB9 : Blk w9 w.heap.size 85 (stA (s.fence t)) := (k1.block _ fB.lt (fun h => calmS h (by kernel_rfl))).trans fB
                have hR9 := (k1.block _ fR.lt (fun h => calmS h (by kernel_rfl))).trans fR
                have hW9 := fW.kept k1 (fun h => calmS h (by kernel_rfl))
                go_simp
                go_at_call 25
                refine (rsFence_in h m' k t s _ hR9 hW9 HS.out.hm ht (by have := HS.out.fe; omega)).mono ?_
                rintro e w10 ⟨rfl, hb, hwt, hk⟩
                exact ⟨_, rfl, ⟨rfl, hB9.kept2 hk (fun e => by rcases e with e | e; exact HS.out.gh e; exact HS.out.gm e), hb, hwt⟩, hk.mono (fun b hb => by first | exact .inr hb | exact ⟨by decide, .inr hb⟩)⟩
              clear hK K
              try simp only [Act.put, List.setIfInBounds_toArray, List.set_cons_zero, List.set_cons_succ]
              refine wpRely_step (fun K hK => ?_)
              refine .inl ?_
              apply Exists.intro
              refine ⟨Any, ?_, hK _ _ _ _ ?_⟩
              · simp only [RelyOp, fillE]
                refine ⟨?_, fun w9 hw9 _ => ?_⟩
                · first | rfl | (go_simp; done)
                go_simp
                go_at_call 13
                exact rely_det (bareS0 _ (HG.out.below (hBW.trans (hw9.below hBW.size (fun b hb e => by rcases e with e | e | e <;> (have := hgN; have := hhN; have := hmN; omega))))))
              clear hK K
              try simp only [Act.put, List.setIfInBounds_toArray, List.set_cons_zero, List.set_cons_succ]
              iterate 1
                refine wpRely_step (fun K hK => ?_)
                refine .inl ?_
                apply Exists.intro
                refine ⟨Any, ?_, hK _ _ _ _ ?_⟩
                · simp only [RelyOp, fillE]
                  refine ⟨?_, fun w9 hw9 _ => ?_⟩
                  · first | rfl | (go_simp; done)
                  have q3 := (hw9.cell (p := ⟨ga, 3, none⟩) hga hnS).trans a3
                  go_simp
                  exact ⟨⟨rfl, trivial⟩, Keeps.refl _ _⟩
                clear hK K
                try simp only [Act.put, List.setIfInBounds_toArray, List.set_cons_zero, List.set_cons_succ]
              refine wpRely_nil ?_
              simp only [fillE]
              intro w9 hw9 hmet
              obtain ⟨w0, k0, k1, fB, fR, fW⟩ := hmet.2.2.1 rfl
              have hB9 := (k1.block _ fB.lt (fun h => calmS h (by kernel_rfl))).trans fB
              have hR9 := (k1.block _ fR.lt (fun h => calmS h (by kernel_rfl))).trans fR
              have hW9 := fW.kept k1 (fun h => calmS h (by kernel_rfl))
              have HS9 : Hid (Sto w w9 w.heap.size h m' (k + 1) (s.fence t)) := Lib.hid (HS.out.turn hw9 hB9 hR9 (hW9.mono (Nat.le_succ k)) hmN HS.out.gm HS.out.hm (HS.out.ok.fence t) (by show s.fl ≤ k + 1; have := HS.out.fl; omega) (by show s.fe + 1 ≤ k + 1; have := HS.out.fe; omega))
              clear hB9 hR9 hW9 fB fR fW k0 k1 hmet hw9 hBW a3
              go_wp2
              exact ⟨⟨k + 1, m', s.fence t, by omega, by go_num, HS9⟩, by simp [intOf]; omega⟩
            · go_wp2_with fail
              have HS := Lib.hid (HA.out (.cells #[.int .i64 2, .int .i64 addr, .int .u64 word, .int .i64 thr, .int .i64 line] 33))
              have HAB := Lib.hid (Blk.new wr 33 #[.int .i64 2, .int .i64 addr, .int .u64 word, .int .i64 thr, .int .i64 line])
              have hgw : w.heap.size ≤ wr.heap.size ∧ h < wr.heap.size ∧ m' < wr.heap.size ∧ w.heap.size < wr.heap.size := HZ.out
              generalize wr.alloc (.cells #[.int .i64 2, .int .i64 addr, .int .u64 word, .int .i64 thr, .int .i64 line] 33) = W0 at *
              generalize wr.heap.size = ga at *
              have hga := HAB.out.lt
              have hBW := HS.out.below
              clear c0 c1 c2 c3 c4
              have a3 : W0.cell? ⟨ga, 3, none⟩ = some (.int .i64 thr) := HAB.out.cell 3
              refine wp_region_rely 10 nowhere [] (by kernel_rfl) (by kernel_rfl) ?_
              iterate 10
                refine wpRely_step (fun K hK => ?_)
                first
                | (refine .inl ?_
                   apply Exists.intro
                   refine ⟨Any, ?_, hK _ _ _ _ ?_⟩
                   · simp only [RelyOp, fillE]
                     refine ⟨?_, fun w9 hw9 _ => ?_⟩
                     · first | rfl | (go_simp; done)
                     obtain ⟨hc9, hf9⟩ := hw9.all
                     go_simp
                     first
                     | exact ⟨⟨rfl, trivial⟩, Keeps.refl _ _⟩
                     | (go_at_call 24; exact rely_det (same_below (stFence_out _ _ _ hin))) | (go_at_call 25; exact rely_det (same_below (rsFence_out _ _ _ hin))) | (go_at_call 13; exact rely_det (bareS2 _ (HG.out.below (hBW.trans (hw9.same.mono hBW.size)))))
                   clear hK K
                   try simp only [Act.put, List.setIfInBounds_toArray, List.set_cons_zero, List.set_cons_succ])
                | (refine .inr (.inl ⟨?_, hK _ _ _ _ ?_⟩)
                   · simp only [fillE]
                     first | rfl | (go_simp; done)
                   clear hK K
                   try simp only [Act.put, List.setIfInBounds_toArray, List.set_cons_zero, List.set_cons_succ])
              refine wpRely_nil ?_
              simp only [fillE]
              intro w9 hw9 _
              obtain ⟨hc9, hf9⟩ := hw9.all
              simp only [List.drop_succ_cons, List.drop_zero]
              have HS9 := Lib.hid ((HS.out.grow hw9.same).mono (Nat.le_succ k))
              clear hw9 hc9 hf9 a3 hBW
              go_wp2
              exact ⟨⟨k + 1, m', s, by omega, by go_num, HS9⟩, by simp [intOf]; omega⟩
          · by_cases h3 : what = 3
            · subst h3
              by_cases hin : 0 ≤ line ∧ line < 9
              · obtain ⟨l0, l9⟩ := hin
                obtain ⟨ln, rfl⟩ := Int.eq_ofNat_of_zero_le l0
                have hln : ln < 9 := by omega
                go_wp2_with fail
                have HS := Lib.hid (HA.out (.cells #[.int .i64 3, .int .i64 addr, .int .u64 word, .int .i64 thr, .int .i64 (ln : Int)] 33))
                have HAB := Lib.hid (Blk.new wr 33 #[.int .i64 3, .int .i64 addr, .int .u64 word, .int .i64 thr, .int .i64 (ln : Int)])
                have hgw : w.heap.size ≤ wr.heap.size ∧ h < wr.heap.size ∧ m' < wr.heap.size ∧ w.heap.size < wr.heap.size := HZ.out
                generalize wr.alloc (.cells #[.int .i64 3, .int .i64 addr, .int .u64 word, .int .i64 thr, .int .i64 (ln : Int)] 33) = W0 at *
                generalize wr.heap.size = ga at *
                have hga := HAB.out.lt
                have hBW := HS.out.below
                clear c0 c1 c2 c3 c4
                have a4 : W0.cell? ⟨ga, 4, none⟩ = some (.int .i64 (ln : Int)) := HAB.out.cell 4
                with_reducible refine (rsLands h m' ln s _ HS.out.ref hln).mono ?_
                rintro e w5 ⟨rfl, hb5, hk5⟩
                have a4' : w5.cell? ⟨ga, 4, none⟩ = some (.int .i64 (ln : Int)) := (hk5.cell (p := ⟨ga, 4, none⟩) hga (fun e => by have e' : ga = h := e; omega)).trans a4
                clear a4
                go_wp2_with fail
                with_reducible refine (stEvict_in w.heap.size ln s _ (HS.out.prog.kept hk5 HS.out.gh) hln).mono ?_
                rintro e w6 ⟨rfl, hb6, hk6⟩
                have HS9 : Hid (Sto w w6 w.heap.size h m' (k + 1) (s.land ln)) := Lib.hid (HS.out.turn ((only_three hk5 (.inr (.inl rfl))).trans (only_three hk6 (.inl rfl))) hb6 (hb5.kept hk6 HS.out.gh.symm) (((HS.out.want.kept hk5 (fun e => HS.out.hm e.symm)).kept hk6 (fun e => HS.out.gm e.symm)).mono (Nat.le_succ k)) HS.out.mN HS.out.gm HS.out.hm (HS.out.ok.land ln) (by show s.fl ≤ k + 1; have := HS.out.fl; omega) (by show s.fe ≤ k + 1; have := HS.out.fe; omega))
                clear hb5 hk5 hb6 hk6 a4' hBW
                go_wp2_with fail
                with_reducible refine (bareS0 _ (HG.out.below HS9.out.below)).mono ?_
                rintro e w7 ⟨rfl, hb7⟩
                have HS10 := Lib.hid (HS9.out.grow hb7)
                clear hb7
                go_wp2
                exact ⟨⟨k + 1, m', s.land ln, by omega, by go_num, HS10⟩, by simp [intOf]; omega⟩
              · have hh : line < 0 ∨ (0 ≤ line ∧ 9 ≤ line) := by omega
                rcases hh with hh | ⟨hh, hh2⟩
                all_goals
                  try have d0 : decide (0 ≤ line) = false := by simp; omega
                  try have d0 : decide (0 ≤ line) = true := by simp; omega
                  try have d1 : decide (line < 9) = false := by simp; omega
                  go_wp2_with fail
                  have HS := Lib.hid (HA.out (.cells #[.int .i64 3, .int .i64 addr, .int .u64 word, .int .i64 thr, .int .i64 line] 33))
                  have HAB := Lib.hid (Blk.new wr 33 #[.int .i64 3, .int .i64 addr, .int .u64 word, .int .i64 thr, .int .i64 line])
                  have hgw : w.heap.size ≤ wr.heap.size ∧ h < wr.heap.size ∧ m' < wr.heap.size ∧ w.heap.size < wr.heap.size := HZ.out
                  generalize wr.alloc (.cells #[.int .i64 3, .int .i64 addr, .int .u64 word, .int .i64 thr, .int .i64 line] 33) = W0 at *
                  generalize wr.heap.size = ga at *
                  have hga := HAB.out.lt
                  have hBW := HS.out.below
                  clear c0 c1 c2 c3 c4
                  with_reducible refine (stEvict_out w.heap.size line _ hin).mono ?_
                  rintro e w6 ⟨rfl, rfl⟩
                  go_wp2_with fail
                  with_reducible refine (bareS2 _ (HG.out.below hBW)).mono ?_
                  rintro e w7 ⟨rfl, hb7⟩
                  have HS10 := Lib.hid ((HS.out.grow hb7).mono (Nat.le_succ k))
                  clear hb7 hBW
                  go_wp2
                  exact ⟨⟨k + 1, m', s, by omega, by go_num, HS10⟩, by simp [intOf]; omega⟩
            · by_cases h4 : what = 4
              · subst h4
                obtain ⟨x, rfl⟩ := Int.eq_ofNat_of_zero_le v2'.1
                have hx : x < 18446744073709551616 := by omega
                go_wp2_with fail
                have HS := Lib.hid (HA.out (.cells #[.int .i64 4, .int .i64 addr, .int .u64 (x : Int), .int .i64 thr, .int .i64 line] 33))
                have HAB := Lib.hid (Blk.new wr 33 #[.int .i64 4, .int .i64 addr, .int .u64 (x : Int), .int .i64 thr, .int .i64 line])
                have hgw : w.heap.size ≤ wr.heap.size ∧ h < wr.heap.size ∧ m' < wr.heap.size ∧ w.heap.size < wr.heap.size := HZ.out
                generalize wr.alloc (.cells #[.int .i64 4, .int .i64 addr, .int .u64 (x : Int), .int .i64 thr, .int .i64 line] 33) = W0 at *
                generalize wr.heap.size = ga at *
                have hga := HAB.out.lt
                have hBW := HS.out.below
                clear c0 c1 c2 c3 c4
                have a2 : W0.cell? ⟨ga, 2, none⟩ = some (.int .u64 (x : Int)) := HAB.out.cell 2
                with_reducible refine (stCrash w.heap.size x s _ HS.out.prog hx).mono ?_
                rintro e w5 ⟨rfl, hb5, hk5⟩
                have a2' : w5.cell? ⟨ga, 2, none⟩ = some (.int .u64 (x : Int)) := (hk5.cell (p := ⟨ga, 2, none⟩) hga (fun e => by have e' : ga = w.heap.size := e; omega)).trans a2
                clear a2
                go_wp2_with fail
                with_reducible refine (rsCrash h m' x s _ (HS.out.ref.kept hk5 HS.out.gh.symm) hx).mono ?_
                rintro e w6 ⟨rfl, m2, hm2, hb6, hw6, hk6⟩
                have hz5 := hk5.size
                have HS9 : Hid (Sto w w6 w.heap.size h m2 (k + 1) (s.crash x)) := Lib.hid (HS.out.turn ((only_three hk5 (.inl rfl)).trans (only_three hk6 (.inr (.inl rfl)))) (hb5.kept hk6 HS.out.gh) hb6 (hw6.mono (Nat.zero_le _)) (by omega) (by omega) (by omega) (HS.out.ok.crash x) (by show s.fl ≤ k + 1; have := HS.out.fl; omega) (by show s.fe ≤ k + 1; have := HS.out.fe; omega))
                clear hb5 hk5 hm2 hb6 hw6 hk6 a2' hBW
                go_wp2
                exact ⟨⟨k + 1, m2, s.crash x, by omega, by go_num, HS9⟩, by simp [intOf]; omega⟩
              · have g0 : (what == 0) = false := by simpa using h0
                have g1 : (what == 1) = false := by simpa using h1
                have g2 : (what == 2) = false := by simpa using h2
                have g3 : (what == 3) = false := by simpa using h3
                have g4 : (what == 4) = false := by simpa using h4
                go_wp2
                exact ⟨⟨k + 1, m', s, by omega, by go_num, Lib.hid ((HA.out _).mono (by omega))⟩, by simp [intOf]; omega⟩
    · obtain rfl : k = n := by omega
      go_wp2_with fail
      rw [← HQ.out]
      with_reducible refine bodyPost_ret (v := .tuple #[.pointer (some ⟨w.heap.size, 0, none⟩), .pointer (some ⟨h, 0, none⟩), .bool true]) (by simp [results, Tryd.results5, go_sem]) (by kernel_rfl) ?_
      exact ⟨w.heap.size, h, m', k, s, rfl, hn, HS.out⟩
end Go.Proofs.YtmfjmmplcbpokaaDoor
