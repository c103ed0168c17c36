/-
  What judge.calls returns: the calls of a history, or the first event that may not stand there. For up to sixty events.
-/
import Derived.Test.YtdogjdgfidbfhaaDoorJuH
import Derived.Test.YtdogjdgfidbfhaaDoorMAt
import Derived.Test.YtdogjdgfidbfhaaDoorRelyU
namespace Go.Proofs.YtdogjdgfidbfhaaDoor
set_option linter.unusedSimpArgs false
set_option linter.unusedVariables false
set_option linter.unusedSectionVars false
open Go.RowKit Go.Maps
set_option linter.unusedSimpArgs false
set_option linter.unusedVariables false
attribute [local go_sem ↓] Go.wp_at_zero Go.wp_at_succ

abbrev K9 : List IntKind := [.i64, .i64, .i64, .i64, .i64, .i64, .i64, .i64, .i64]
def CallsOut (f : Nat → Nat → Int) (n K : Nat) (w : World) (e : Ending) (w' : World) : Prop :=
  Below w.heap.size w w' ∧ if K = n then ∃ A' c', e = .returned (.tuple #[.slice A' (Cs f n).length c', .nilIface]) ∧ OwnR w' w.heap.size 44 9 A' (Cs f n).length c' (rowsJ f (Cs f n))
    else ∃ g, e = .returned (.tuple #[.slice none 0 0, .iface 61 (.pointer (some ⟨g, 0, none⟩))]) ∧ Blk w' g 64 #[.int .i64 10, .int .i64 (K : Int)]
def CSt (f : Nat → Nat → Int) (w : World) (k : Nat) (s : Value) (wr : World) : Prop :=
  ∃ A1 c1 nm, s = .slice A1 (Cs f k).length c1 ∧ OwnR wr (w.heap.size + 1) 44 9 A1 (Cs f k).length c1 (rowsJ f (Cs f k)) ∧ OpenM f (Cs f k) w.heap.size nm wr ∧ nm ≤ k
theorem infoJc : (Tryd.prog.info? 44).map (fun i => (i.zero, i.size, i.bytes)) = some (some (.agg #[.int .i64 0, .int .i64 0, .int .i64 0, .int .i64 0, .int .i64 0, .int .i64 0, .int .i64 0, .int .i64 0, .int .i64 0]), 9, 72) := by kernel_rfl

theorem callsBad {f : Nat → Nat → Int} {n K k : Nat} {w wr : World} (hkn : k < n) (hno : nxt f k (Cs f k) = none) (hat : (okE f k ∧ k < K) ∨ (¬ okE f k ∧ k = K)) (hB : Below w.heap.size w wr) (o : Obj) :
    CallsOut f n K w (.returned (.tuple #[.slice none 0 0, .iface 61 (.pointer (some ⟨wr.heap.size + 1, 0, none⟩))])) ((wr.alloc o).alloc (.cells #[.int .i64 10, .int .i64 (k : Int)] 64)) := by
  have h1 : ¬ okE f k := by unfold okE; rw [hno]; exact fun h => by cases h
  rcases hat with h | h
  · exact absurd h.1 h1
  · obtain ⟨_, rfl⟩ := h
    refine ⟨(hB.alloc hB.size o).alloc (Nat.le_trans hB.size (by simp)) _, ?_⟩
    rw [if_neg (by omega)]
    exact ⟨_, rfl, Blk.newAt _ _ _ (by simp)⟩
theorem CallsOut.drewN {f : Nat → Nat → Int} {n K : Nat} {w w' : World} {e : Ending} (h : CallsOut f n K w e w') (m : Nat) : CallsOut f n K w e (w'.drewN m) := by
  obtain ⟨h1, h2⟩ := h
  refine ⟨below_drewN h1 m, ?_⟩
  split at h2
  · obtain ⟨A', c', e1, e2⟩ := h2
    rw [if_pos (by assumption)]
    exact ⟨A', c', e1, e2.kept (S := nowhere) ((Keeps.refl _ _).drewN m) (fun _ _ h => h)⟩
  · rw [if_neg (by assumption)]
    exact h2
theorem callsGo {f : Nat → Nat → Int} {K k : Nat} {C' : CL} (hsome : nxt f k (Cs f k) = some C') (hat : (okE f k ∧ k < K) ∨ (¬ okE f k ∧ k = K)) : k < K ∧ Cs f (k + 1) = C' := by
  have h1 : okE f k := by unfold okE; rw [hsome]; rfl
  rcases hat with h | h
  · refine ⟨h.2, ?_⟩
    have := cs_succ h1
    rw [hsome] at this
    exact (Option.some.inj this).symm
  · exact absurd h1 h.1
theorem info_Jc : ∃ i0, Tryd.prog.info? 44 = some i0 ∧ i0.zero = some (.agg #[.int .i64 0, .int .i64 0, .int .i64 0, .int .i64 0, .int .i64 0, .int .i64 0, .int .i64 0, .int .i64 0, .int .i64 0]) ∧ i0.size = 9 ∧ i0.bytes = 72 := by
  have h := infoJc
  cases hq : Tryd.prog.info? 44 with
  | none => simp [hq] at h
  | some i => simp [hq] at h; exact ⟨i, rfl, h.1, h.2.1, h.2.2⟩

set_option maxRecDepth 100000 in
set_option maxHeartbeats 4000000 in
theorem calls_any (f : Nat → Nat → Int) (A : Option Addr) (n c K : Nat) (w : World) (h : SlF K9 w A n c f) (hn : n ≤ 60) (hK : UptoP (okE f) n K) :
    Calls Tryd.prog 8 #[.slice A n c] w (CallsOut f n K w) := by
  have H := Lib.hid h
  have HK := Lib.hid hK
  obtain ⟨i0, hi0, hz0, hz1, hz2⟩ := info_Jc
  have HII := Lib.hid hi0
  have HZZ := Lib.hid hz0
  have HSS := Lib.hid hz1
  have HBB := Lib.hid hz2
  clear h hK hi0 hz0 hz1 hz2
  go_enter Tryd.func8, Tryd.ntmps8
  have hmm := @run_makeMap Tryd.prog
  go_wp2
  clear hmm
  go_loopw [4, 14] (fun s i wr => ∃ k : Nat, k ≤ K ∧ i = .int .i64 k ∧ Below w.heap.size w wr ∧ Hid (CSt f w k s wr)) (fun _ i _ => n - (intOf i).toNat)
  case atStart => exact ⟨0, by omega, rfl, by go_grown, Lib.hid ⟨none, 0, 0, rfl, OwnR.nil _ _ _ _, OpenM.start f w, Nat.le_refl _⟩⟩
  case round =>
    obtain ⟨k, hk, rfl, hB, hex⟩ := hrel
    obtain ⟨A1, c1, nm, rfl, hown, hmap, hnm⟩ := hex.out
    have hml := hmap.lt
    have hCI := cinv_cs k (fun j hj => HK.out.2.1 j (by omega))
    have HST := hex
    clear hex
    by_cases hkn : k < n
    · obtain ⟨b, off, rfl, hblt, hcell⟩ := H.out.at_ (by omega)
      have q1 : (k : Int) < n := by omega
      have hcap := H.out.cap
      have hc63 := H.out.cap63
      have c0 : wr.cell? ⟨b, off + k * 9, none⟩ = some (.int .i64 (f k 0)) := (hB.cell (p := ⟨b, off + k * 9, none⟩) hblt).trans (by simpa using hcell k 0 hkn (by decide))
      have c1' : wr.cell? ⟨b, off + k * 9 + 1, none⟩ = some (.int .i64 (f k 1)) := (hB.cell (p := ⟨b, off + k * 9 + 1, none⟩) hblt).trans (by simpa using hcell k 1 hkn (by decide))
      have c2 : wr.cell? ⟨b, off + k * 9 + 2, none⟩ = some (.int .i64 (f k 2)) := (hB.cell (p := ⟨b, off + k * 9 + 2, none⟩) hblt).trans (by simpa using hcell k 2 hkn (by decide))
      have c3 : wr.cell? ⟨b, off + k * 9 + 3, none⟩ = some (.int .i64 (f k 3)) := (hB.cell (p := ⟨b, off + k * 9 + 3, none⟩) hblt).trans (by simpa using hcell k 3 hkn (by decide))
      have c4 : wr.cell? ⟨b, off + k * 9 + 4, none⟩ = some (.int .i64 (f k 4)) := (hB.cell (p := ⟨b, off + k * 9 + 4, none⟩) hblt).trans (by simpa using hcell k 4 hkn (by decide))
      have c5 : wr.cell? ⟨b, off + k * 9 + 5, none⟩ = some (.int .i64 (f k 5)) := (hB.cell (p := ⟨b, off + k * 9 + 5, none⟩) hblt).trans (by simpa using hcell k 5 hkn (by decide))
      have c6 : wr.cell? ⟨b, off + k * 9 + 6, none⟩ = some (.int .i64 (f k 6)) := (hB.cell (p := ⟨b, off + k * 9 + 6, none⟩) hblt).trans (by simpa using hcell k 6 hkn (by decide))
      have c7 : wr.cell? ⟨b, off + k * 9 + 7, none⟩ = some (.int .i64 (f k 7)) := (hB.cell (p := ⟨b, off + k * 9 + 7, none⟩) hblt).trans (by simpa using hcell k 7 hkn (by decide))
      have c8 : wr.cell? ⟨b, off + k * 9 + 8, none⟩ = some (.int .i64 (f k 8)) := (hB.cell (p := ⟨b, off + k * 9 + 8, none⟩) hblt).trans (by simpa using hcell k 8 hkn (by decide))
      clear hcell
      have hI : I64 (f k 1) := i64_of_wf (H.out.wf k 1 hkn (by decide))
      have hmap2 := (hmap.kept (Keeps.of_same ((Below.refl _ wr).alloc (Nat.le_refl _) (.cells #[.int .i64 (f k 0), .int .i64 (f k 1), .int .i64 (f k 2), .int .i64 (f k 3), .int .i64 (f k 4), .int .i64 (f k 5), .int .i64 (f k 6), .int .i64 (f k 7), .int .i64 (f k 8)] 53)) |>.alloc (.cells #[.int .i64 10, .int .i64 (k : Int)] 64)) (fun h : nowhere _ => h))
      obtain ⟨q, hlook, hq⟩ := hmap2.look hI
      have HN : Hid (nxt f k (Cs f k) = if f k 0 = 1 then (match opn f (Cs f k) (f k 1) with | none => some (Cs f k ++ [(k, 0)]) | some _ => none)
        else if f k 0 = 2 then (match opn f (Cs f k) (f k 1) with | none => none | some j => match (Cs f k)[j]? with | none => none | some cc => if opEq f cc.1 k then some ((Cs f k).set j (cc.1, k + 1)) else none)
        else if f k 0 = 3 then some (Cs f k) else none) := Lib.hid rfl
      have HAT := Lib.hid (HK.out.at hk hkn)
      have HOE : Hid (okE f k ↔ (nxt f k (Cs f k)).isSome = true) := Lib.hid Iff.rfl
      have HC' : Hid (okE f k → nxt f k (Cs f k) = some (Cs f (k + 1))) := Lib.hid cs_succ
      have HCI := Lib.hid hCI
      have HOW := Lib.hid hown
      have HM2 := Lib.hid hmap2
      have HML := Lib.hid hmap
      clear hCI hown hmap hmap2 HST
      have HRO : Hid (rowJ f (k, 0) = [.int .i64 (f k 1), .int .i64 (f k 2), .int .i64 (f k 3), .int .i64 (f k 4), .int .i64 ((k : Int) + 1), .int .i64 0, .int .i64 0, .int .i64 0, .int .i64 0]) := Lib.hid rfl
      generalize hx0 : f k 0 = x0 at *
      have HX0 := Lib.hid hx0
      clear hx0
      generalize hx1 : f k 1 = x1 at *
      have HX1 := Lib.hid hx1
      clear hx1
      generalize hx2 : f k 2 = x2 at *
      have HX2 := Lib.hid hx2
      clear hx2
      generalize hx3 : f k 3 = x3 at *
      have HX3 := Lib.hid hx3
      clear hx3
      generalize hx4 : f k 4 = x4 at *
      have HX4 := Lib.hid hx4
      clear hx4
      generalize hx5 : f k 5 = x5 at *
      have HX5 := Lib.hid hx5
      clear hx5
      generalize hx6 : f k 6 = x6 at *
      have HX6 := Lib.hid hx6
      clear hx6
      generalize hx7 : f k 7 = x7 at *
      have HX7 := Lib.hid hx7
      clear hx7
      generalize hx8 : f k 8 = x8 at *
      have HX8 := Lib.hid hx8
      clear hx8
      by_cases h1 : x0 = 1
      · subst h1
        cases ho : opn f (Cs f k) x1 with
        | some j =>
          rw [ho] at hlook
          simp only [Option.isSome] at hlook
          have HNO : Hid (nxt f k (Cs f k) = none) := Lib.hid (by rw [HN.out, if_pos rfl, ho])
          clear HN
          go_wp2
          go_ret2
          exact callsBad hkn HNO.out HAT.out hB _
        | none =>
          obtain ⟨hkK, hcs⟩ := callsGo (by rw [HN.out, if_pos rfl, ho]) HAT.out
          rw [ho] at hlook
          simp only [Option.isSome] at hlook
          obtain ⟨D, hown, hD⟩ := HM2.out
          have HMP := Lib.hid hown
          have HDD := Lib.hid hD
          have hlm := HM2.out.lt
          have hbz := hB.size
          have hlen := HCI.out.len
          have HCS := Lib.hid hcs
          have HIL : I64 ((Cs f k).length : Int) := ⟨by omega, by omega⟩
          have HHO := Lib.hid ho
          have HOW2 := Lib.hid (HOW.out.below ((Below.refl _ wr).alloc (Nat.le_refl _) (.cells #[.int .i64 1, .int .i64 x1, .int .i64 x2, .int .i64 x3, .int .i64 x4, .int .i64 x5, .int .i64 x6, .int .i64 x7, .int .i64 x8] 53) |>.alloc (by simp) (.cells #[.int .i64 10, .int .i64 (k : Int)] 64)))
          clear hown hD hcs HN
          go_wp2_with (at_mapUpdate; (with_reducible refine fMapUp 68 3 3 keyI Tryd.underlying68 (plainElem Tryd.prog 3) w.heap.size nm D (.int .i64 x1) (.int .i64 ((Cs f k).length : Int)) (.int .i64 x1) (by kernel_rfl) (by kernel_rfl) (by kernel_rfl) HMP.out (by unfold maxLen; omega) (keyOf_int_mk Tryd.underlying3 (i64_wf hI)) (.lit (.int .i64 ((Cs f k).length : Int))) [] (plainElem_int Tryd.underlying3 (i64_wf HIL)) ?_))
          intro w4 hown4 hgrow4
          have HOM := Lib.hid (OpenM.put HX1.out hown4 HMP.out.isMap (by rw [HX1.out]; exact HHO.out) HDD.out)
          have hz4 := hgrow4.size
          have hb4 : Blk w4 wr.heap.size 53 #[.int .i64 1, .int .i64 x1, .int .i64 x2, .int .i64 x3, .int .i64 x4, .int .i64 x5, .int .i64 x6, .int .i64 x7, .int .i64 x8] := (hgrow4.block _ (by simp; omega) (by intro e; have e' := Option.some.inj e; omega)).trans ((Blk.new _ _ _).alloc _)
          have d1 := hb4.cell 1
          have d2 := hb4.cell 2
          have d3 := hb4.cell 3
          have d4 := hb4.cell 4
          simp only [List.getElem?_toArray, List.getElem?_cons_zero, List.getElem?_cons_succ] at d1 d2 d3 d4
          have hW4 : Keeps (fun b => b = w.heap.size) wr w4 := ((Keeps.refl _ wr).alloc _ |>.alloc _).trans ⟨hgrow4.os, hgrow4.tape, hgrow4.output, hgrow4.size, fun i hi hn => hgrow4.block i hi (by intro e; cases e; exact hn rfl)⟩
          have HW4 := Lib.hid hW4
          have HO4 := Lib.hid (HOW.out.kept hW4 (fun a ha e => by have := (HOW.out.lt a ha).1; omega))
          have HY : Hid (∀ u ∈ rowJ f (k, 0), u.oneCell' = true) := Lib.hid (by rw [HRO.out]; simp [Value.oneCell'])
          have HV : Hid (∀ j, j < 9 → (w4.alloc (.cells #[.int .i64 x1, .int .i64 x2, .int .i64 x3, .int .i64 x4, .int .i64 ((k : Int) + 1), .int .i64 0, .int .i64 0, .int .i64 0, .int .i64 0] 44)).cell? ⟨w4.heap.size, j, none⟩ = (rowJ f (k, 0))[j]?) := Lib.hid (fun j _ => by
            rw [HRO.out, (Blk.new w4 44 _).cell j]
            simp)
          have HO5 := Lib.hid (HO4.out.below ((Below.refl _ w4).alloc (Nat.le_refl _) (.cells #[.int .i64 x1, .int .i64 x2, .int .i64 x3, .int .i64 x4, .int .i64 ((k : Int) + 1), .int .i64 0, .int .i64 0, .int .i64 0, .int .i64 0] 44)))
          have hlt4 := hb4.lt
          clear hown4 hgrow4 hb4 hW4
          go_wp2_with (refine wpList_appendR (.tmp 43) (.tmp 51) rfl rfl Tryd.underlying35 HII.out HZZ.out HSS.out HBB.out rfl (by decide) (by decide) (A := A1) (n := (Cs f k).length) (c := c1) (rows := rowsJ f (Cs f k)) rfl HO5.out (g := w4.heap.size) (c' := 1) rfl (ys := rowJ f (k, 0)) (rowJ_len _ _) HV.out HY.out (by omega) (by simp; omega) ?_; rintro g' c9 w9 how hk' hwh)
          go_roundw
          case rel =>
            have hS : ¬ SlB A1 w.heap.size := fun ⟨a, ha, e⟩ => by have := (HOW.out.lt a ha).1; omega
            have hK9 : Keeps (SlB A1) w4 w9 := ((Keeps.refl _ w4).alloc _).trans hk'
            refine ⟨k + 1, hkK, by go_num, ?_, Lib.hid ⟨some ⟨g', 0, none⟩, c9, nm + 1, ?_, ?_, ?_, by omega⟩⟩
            · have h1 : Below w.heap.size wr w4 := HW4.out.below hbz (fun b hb e => by have e' : b = w.heap.size := e; omega)
              have h2 : Below w.heap.size w4 w9 := hK9.below (by omega) (fun b hb ⟨a, ha, e⟩ => by have := (HOW.out.lt a ha).1; omega)
              exact (hB.trans h1).trans h2
            · rw [HCS.out]; simp
            · rw [HCS.out, rowsJ_app]
              simpa using how
            · rw [HCS.out]
              exact HOM.out.kept hK9 hS
          case measure => simp [intOf]; omega
      · by_cases h2 : x0 = 2
        · subst h2
          cases ho : opn f (Cs f k) x1 with
          | none =>
            rw [ho] at hlook
            simp only [Option.isSome] at hlook
            have HNO : Hid (nxt f k (Cs f k) = none) := Lib.hid (by rw [HN.out, if_neg (by decide), if_pos rfl, ho])
            clear HN
            go_wp2
            go_quiet (fail)
            go_wp2
            go_ret2
            exact (callsBad hkn HNO.out HAT.out hB _).drewN _
          | some j =>
            obtain rfl := hq j ho
            obtain ⟨hjl, a, hja, hta⟩ := opn_some ho
            rw [ho] at hlook
            simp only [Option.isSome] at hlook
            obtain ⟨g1, rfl⟩ := HOW.out.addr (by omega)
            have HOW2 := Lib.hid (HOW.out.below ((Below.refl _ wr).alloc (Nat.le_refl _) (.cells #[.int .i64 2, .int .i64 x1, .int .i64 x2, .int .i64 x3, .int .i64 x4, .int .i64 x5, .int .i64 x6, .int .i64 x7, .int .i64 x8] 53) |>.alloc (by simp) (.cells #[.int .i64 10, .int .i64 (k : Int)] 64)))
            obtain ⟨cur, hcb, hsz, hnc, hc64, hBg, hget⟩ := HOW2.out.blk
            have hgr := hget j _ (rowsJ_get hja)
            have hlt1 := (HOW.out.lt _ rfl).2
            have r1 := (hcb.cell (j * 9 + 1)).trans (hgr 1 _ rfl)
            have r2 := (hcb.cell (j * 9 + 2)).trans (hgr 2 _ rfl)
            have r3 := (hcb.cell (j * 9 + 3)).trans (hgr 3 _ rfl)
            have hjn : (j : Int) < ((Cs f k).length : Int) := by omega
            by_cases hop : opEq f a k
            · obtain ⟨hkK, hcs⟩ := callsGo (by rw [HN.out, if_neg (by decide), if_pos rfl, ho]; dsimp only; rw [hja]; dsimp only; rw [if_pos hop]) HAT.out
              have HCS := Lib.hid hcs
              have hta' : f a 1 = f k 1 := by rw [HX1.out]; exact hta
              have HOP := Lib.hid (opn_set HCI.out hja hta' hop)
              have heq := eqOp (f a 2) (f a 3) (f a 4) x2 x3 x4
              have hdd : decide (f a 2 = x2 ∧ f a 3 = x3 ∧ f a 4 = x4) = true := decide_eq_true (by unfold opEq at hop; rw [HX2.out, HX3.out, HX4.out] at hop; exact hop)
              simp only [hdd] at heq
              clear HN hop hdd hcs hta hta'
              go_wp2
              go_quiet (fail)
              clear heq
              have HB3 : Hid (Below wr.heap.size wr (((wr.alloc (.cells #[.int .i64 2, .int .i64 x1, .int .i64 x2, .int .i64 x3, .int .i64 x4, .int .i64 x5, .int .i64 x6, .int .i64 x7, .int .i64 x8] 53)).alloc (.cells #[.int .i64 10, .int .i64 (k : Int)] 64)).drewN nq)) := Lib.hid (below_drewN (((Below.refl _ wr).alloc (Nat.le_refl _) _).alloc (by simp) _) _)
              have hbE : Blk (((wr.alloc (.cells #[.int .i64 2, .int .i64 x1, .int .i64 x2, .int .i64 x3, .int .i64 x4, .int .i64 x5, .int .i64 x6, .int .i64 x7, .int .i64 x8] 53)).alloc (.cells #[.int .i64 10, .int .i64 (k : Int)] 64)).drewN nq) wr.heap.size 53 #[.int .i64 2, .int .i64 x1, .int .i64 x2, .int .i64 x3, .int .i64 x4, .int .i64 x5, .int .i64 x6, .int .i64 x7, .int .i64 x8] := (((Blk.new _ _ _).alloc _).drewN _)
              clear r1 r2 r3 hgr hget hsz hcb hlook
              generalize ((wr.alloc (.cells #[.int .i64 2, .int .i64 x1, .int .i64 x2, .int .i64 x3, .int .i64 x4, .int .i64 x5, .int .i64 x6, .int .i64 x7, .int .i64 x8] 53)).alloc (.cells #[.int .i64 10, .int .i64 (k : Int)] 64)).drewN nq = W3 at *
              have HO3 := Lib.hid (HOW.out.below HB3.out)
              have HE3 := Lib.hid hbE
              have E5 := Lib.hid (hbE.cell 5)
              have E6 := Lib.hid (hbE.cell 6)
              have E7 := Lib.hid (hbE.cell 7)
              simp only [List.getElem?_toArray, List.getElem?_cons_zero, List.getElem?_cons_succ] at E5 E6 E7
              have HM3 := Lib.hid (HML.out.kept (Keeps.of_same HB3.out) (fun h : nowhere _ => h))
              have HR0 := Lib.hid (rowsJ_get (f := f) hja)
              have HJL : Hid (j < (rowsJ f (Cs f k)).length) := Lib.hid (by simp [rowsJ]; exact hjl)
              have hlE := hbE.lt
              have hwp : IntKind.i64.wrap ((k : Int) + 1) = (k : Int) + 1 := IntWalk.i64_in _ (by omega)
              have hgE : g1 < wr.heap.size := hlt1
              have hg3 : g1 < W3.heap.size := by omega
              clear hbE
              go_wp2
              refine wp_region_relyA 18 (OneB g1) [14, 17] (by kernel_rfl) (by kernel_rfl) ?_
              intro anc HA
              first | (with_reducible refine wpRely_step (fun K hK => ?_)) | (refine wpRely_step (fun K hK => ?_))
              refine .inl ?_
              apply Exists.intro
              refine ⟨Any, ?_, hK _ _ _ _ ?_⟩
              · simp only [RelyOp, fillE]
                refine ⟨?_, fun w9 hw9 hm9 => ?_⟩
                · first | rfl | (go_simp; done)
                go_simp
                first
                | exact ⟨⟨rfl, trivial⟩, Keeps.refl _ _⟩
              clear hK K
              try simp only [Act.put, List.setIfInBounds_toArray, List.set_cons_zero, List.set_cons_succ]
              first | (with_reducible refine wpRely_step (fun K hK => ?_)) | (refine wpRely_step (fun K hK => ?_))
              refine .inl ?_
              apply Exists.intro
              refine ⟨Any, ?_, hK _ _ _ _ ?_⟩
              · simp only [RelyOp, fillE]
                refine ⟨?_, fun w9 hw9 hm9 => ?_⟩
                · first | rfl | (go_simp; done)
                go_simp
                first
                | exact ⟨⟨rfl, trivial⟩, Keeps.refl _ _⟩
              clear hK K
              try simp only [Act.put, List.setIfInBounds_toArray, List.set_cons_zero, List.set_cons_succ]
              first | (with_reducible refine wpRely_step (fun K hK => ?_)) | (refine wpRely_step (fun K hK => ?_))
              refine .inl ?_
              apply Exists.intro
              refine ⟨Any, ?_, hK _ _ _ _ ?_⟩
              · simp only [RelyOp, fillE]
                refine ⟨?_, fun w9 hw9 hm9 => ?_⟩
                · first | rfl | (go_simp; done)
                go_simp
                first
                | exact ⟨⟨rfl, trivial⟩, Keeps.refl _ _⟩
              clear hK K
              try simp only [Act.put, List.setIfInBounds_toArray, List.set_cons_zero, List.set_cons_succ]
              first | (with_reducible refine wpRely_step (fun K hK => ?_)) | (refine wpRely_step (fun K hK => ?_))
              refine .inl ?_
              apply Exists.intro
              refine ⟨Any, ?_, hK _ _ _ _ ?_⟩
              · simp only [RelyOp, fillE]
                refine ⟨?_, fun w9 hw9 hm9 => ?_⟩
                · first | rfl | (go_simp; done)
                go_simp
                first
                | exact ⟨⟨rfl, trivial⟩, Keeps.refl _ _⟩
              clear hK K
              try simp only [Act.put, List.setIfInBounds_toArray, List.set_cons_zero, List.set_cons_succ]
              first | (with_reducible refine wpRely_step (fun K hK => ?_)) | (refine wpRely_step (fun K hK => ?_))
              refine .inl ?_
              apply Exists.intro
              refine ⟨Any, ?_, hK _ _ _ _ ?_⟩
              · simp only [RelyOp, fillE]
                refine ⟨?_, fun w9 hw9 hm9 => ?_⟩
                · first | rfl | (go_simp; done)
                go_simp
                first
                | exact ⟨⟨rfl, trivial⟩, Keeps.refl _ _⟩
              clear hK K
              try simp only [Act.put, List.setIfInBounds_toArray, List.set_cons_zero, List.set_cons_succ]
              first | (with_reducible refine wpRely_step (fun K hK => ?_)) | (refine wpRely_step (fun K hK => ?_))
              refine .inl ?_
              apply Exists.intro
              refine ⟨Any, ?_, hK _ _ _ _ ?_⟩
              · simp only [RelyOp, fillE]
                refine ⟨?_, fun w9 hw9 hm9 => ?_⟩
                · first | rfl | (go_simp; done)
                go_simp
                first
                | exact ⟨⟨rfl, trivial⟩, Keeps.refl _ _⟩
              clear hK K
              try simp only [Act.put, List.setIfInBounds_toArray, List.set_cons_zero, List.set_cons_succ]
              first | (with_reducible refine wpRely_step (fun K hK => ?_)) | (refine wpRely_step (fun K hK => ?_))
              refine .inl ?_
              apply Exists.intro
              refine ⟨Any, ?_, hK _ _ _ _ ?_⟩
              · simp only [RelyOp, fillE]
                refine ⟨?_, fun w9 hw9 hm9 => ?_⟩
                · first | rfl | (go_simp; done)
                go_simp
                first
                | exact ⟨⟨rfl, trivial⟩, Keeps.refl _ _⟩
              clear hK K
              try simp only [Act.put, List.setIfInBounds_toArray, List.set_cons_zero, List.set_cons_succ]
              first | (with_reducible refine wpRely_step (fun K hK => ?_)) | (refine wpRely_step (fun K hK => ?_))
              refine .inl ?_
              apply Exists.intro
              refine ⟨Any, ?_, hK _ _ _ _ ?_⟩
              · simp only [RelyOp, fillE]
                refine ⟨?_, fun w9 hw9 hm9 => ?_⟩
                · first | rfl | (go_simp; done)
                go_simp
                first
                | exact ⟨⟨rfl, trivial⟩, Keeps.refl _ _⟩
              clear hK K
              try simp only [Act.put, List.setIfInBounds_toArray, List.set_cons_zero, List.set_cons_succ]
              first | (with_reducible refine wpRely_step (fun K hK => ?_)) | (refine wpRely_step (fun K hK => ?_))
              refine .inl ?_
              apply Exists.intro
              refine ⟨Any, ?_, hK _ _ _ _ ?_⟩
              · simp only [RelyOp, fillE]
                refine ⟨?_, fun w9 hw9 hm9 => ?_⟩
                · first | rfl | (go_simp; done)
                go_simp
                first
                | exact ⟨⟨rfl, trivial⟩, Keeps.refl _ _⟩
              clear hK K
              try simp only [Act.put, List.setIfInBounds_toArray, List.set_cons_zero, List.set_cons_succ]
              first | (with_reducible refine wpRely_step (fun K hK => ?_)) | (refine wpRely_step (fun K hK => ?_))
              refine .inl ?_
              apply Exists.intro
              refine ⟨Any, ?_, hK _ _ _ _ ?_⟩
              · simp only [RelyOp, fillE]
                refine ⟨?_, fun w9 hw9 hm9 => ?_⟩
                · first | rfl | (go_simp; done)
                with_reducible refine stopG ?_
                have q7 : w9.cell? ⟨wr.heap.size, 7, none⟩ = some (.int .i64 x7) := (hw9.cell (p := ⟨wr.heap.size, 7, none⟩) HE3.out.lt (by show ¬ wr.heap.size = g1; omega)).trans E7.out
                with_reducible refine Wall.mk ?_
                go_simp
                first
                | exact ⟨⟨rfl, trivial⟩, Keeps.refl _ _⟩
              clear hK K
              try simp only [Act.put, List.setIfInBounds_toArray, List.set_cons_zero, List.set_cons_succ]
              first | (with_reducible refine wpRely_step (fun K hK => ?_)) | (refine wpRely_step (fun K hK => ?_))
              refine .inl ?_
              apply Exists.intro
              refine ⟨Any, ?_, hK _ _ _ _ ?_⟩
              · simp only [RelyOp, fillE]
                refine ⟨?_, fun w9 hw9 hm9 => ?_⟩
                · first | rfl | (go_simp; done)
                go_simp
                first
                | exact ⟨⟨rfl, trivial⟩, Keeps.refl _ _⟩
              clear hK K
              try simp only [Act.put, List.setIfInBounds_toArray, List.set_cons_zero, List.set_cons_succ]
              first | (with_reducible refine wpRely_step (fun K hK => ?_)) | (refine wpRely_step (fun K hK => ?_))
              refine .inl ?_
              apply Exists.intro
              refine ⟨Any, ?_, hK _ _ _ _ ?_⟩
              · simp only [RelyOp, fillE]
                refine ⟨?_, fun w9 hw9 hm9 => ?_⟩
                · first | rfl | (go_simp; done)
                with_reducible refine stopG ?_
                have q5 : w9.cell? ⟨wr.heap.size, 5, none⟩ = some (.int .i64 x5) := (hw9.cell (p := ⟨wr.heap.size, 5, none⟩) HE3.out.lt (by show ¬ wr.heap.size = g1; omega)).trans E5.out
                have q6 : w9.cell? ⟨wr.heap.size, 6, none⟩ = some (.int .i64 x6) := (hw9.cell (p := ⟨wr.heap.size, 6, none⟩) HE3.out.lt (by show ¬ wr.heap.size = g1; omega)).trans E6.out
                with_reducible refine Wall.mk ?_
                go_simp
                first
                | exact ⟨⟨rfl, trivial⟩, Keeps.refl _ _⟩
              clear hK K
              try simp only [Act.put, List.setIfInBounds_toArray, List.set_cons_zero, List.set_cons_succ]
              first | (with_reducible refine wpRely_step (fun K hK => ?_)) | (refine wpRely_step (fun K hK => ?_))
              refine .inl ?_
              apply Exists.intro
              refine ⟨Any, ?_, hK _ _ _ _ ?_⟩
              · simp only [RelyOp, fillE]
                refine ⟨?_, fun w9 hw9 hm9 => ?_⟩
                · first | rfl | (go_simp; done)
                go_simp
                first
                | exact ⟨⟨rfl, trivial⟩, Keeps.refl _ _⟩
              clear hK K
              try simp only [Act.put, List.setIfInBounds_toArray, List.set_cons_zero, List.set_cons_succ]
              first | (with_reducible refine wpRely_step (fun K hK => ?_)) | (refine wpRely_step (fun K hK => ?_))
              refine .inl ?_
              apply Exists.intro
              refine ⟨Any, ?_, hK _ _ _ _ ?_⟩
              · simp only [RelyOp, fillE]
                refine ⟨?_, fun w9 hw9 hm9 => ?_⟩
                · first | rfl | (go_simp; done)
                go_simp
                first
                | exact ⟨⟨rfl, trivial⟩, Keeps.refl _ _⟩
              clear hK K
              try simp only [Act.put, List.setIfInBounds_toArray, List.set_cons_zero, List.set_cons_succ]
              first | (with_reducible refine wpRely_step (fun K hK => ?_)) | (refine wpRely_step (fun K hK => ?_))
              refine .inl ⟨undef, (fun _ w' => OwnR w' (w.heap.size + 1) 44 9 (some ⟨g1, 0, none⟩) (Cs f k).length c1 ((rowsJ f (Cs f k)).set j [.int .i64 (f a 1), .int .i64 (f a 2), .int .i64 (f a 3), .int .i64 (f a 4), .int .i64 ((a : Int) + 1), .int .i64 ((k : Int) + 1), .int .i64 0, .int .i64 0, .int .i64 0])), ?_, hK _ _ _ _ ?_⟩
              · simp only [RelyOp, fillE]
                refine ⟨?_, fun w9 hw9 hm9 => ?_⟩
                · first | rfl | (go_simp; done)
                with_reducible refine stopG ?_
                have hb9 := quietB hm9.1 (by rw [HA.out]; kernel_rfl)
                have HX := Lib.hid (HO3.out.below hb9)
                obtain ⟨cur, hcb, hsz, _, _, _, hget⟩ := HX.out.blk
                have q5 := (hcb.cell (j * 9 + 5)).trans (hget j _ HR0.out 5 _ rfl)
                have f5 := hcb.frozen (j * 9 + 5)
                clear hget hsz hcb
                with_reducible refine Wall.mk ?_
                go_simp
                refine ⟨⟨rfl, ?_⟩, (keepsCell _ g1 (j * 9 + 5) _).mono fun b hb => by first | exact hb | exact ⟨by decide, hb⟩⟩
                exact HX.out.setPart HR0.out (j := 5) (vs := [.int .i64 ((k : Int) + 1)]) (by simp)
              clear hK K
              try simp only [Act.put, List.setIfInBounds_toArray, List.set_cons_zero, List.set_cons_succ]
              first | (with_reducible refine wpRely_step (fun K hK => ?_)) | (refine wpRely_step (fun K hK => ?_))
              refine .inl ?_
              apply Exists.intro
              refine ⟨Any, ?_, hK _ _ _ _ ?_⟩
              · simp only [RelyOp, fillE]
                refine ⟨?_, fun w9 hw9 hm9 => ?_⟩
                · first | rfl | (go_simp; done)
                go_simp
                first
                | exact ⟨⟨rfl, trivial⟩, Keeps.refl _ _⟩
              clear hK K
              try simp only [Act.put, List.setIfInBounds_toArray, List.set_cons_zero, List.set_cons_succ]
              first | (with_reducible refine wpRely_step (fun K hK => ?_)) | (refine wpRely_step (fun K hK => ?_))
              refine .inl ?_
              apply Exists.intro
              refine ⟨Any, ?_, hK _ _ _ _ ?_⟩
              · simp only [RelyOp, fillE]
                refine ⟨?_, fun w9 hw9 hm9 => ?_⟩
                · first | rfl | (go_simp; done)
                go_simp
                first
                | exact ⟨⟨rfl, trivial⟩, Keeps.refl _ _⟩
              clear hK K
              try simp only [Act.put, List.setIfInBounds_toArray, List.set_cons_zero, List.set_cons_succ]
              first | (with_reducible refine wpRely_step (fun K hK => ?_)) | (refine wpRely_step (fun K hK => ?_))
              refine .inl ⟨undef, (fun _ w' => OwnR w' (w.heap.size + 1) 44 9 (some ⟨g1, 0, none⟩) (Cs f k).length c1 ((rowsJ f (Cs f k)).set j [.int .i64 (f a 1), .int .i64 (f a 2), .int .i64 (f a 3), .int .i64 (f a 4), .int .i64 ((a : Int) + 1), .int .i64 ((k : Int) + 1), .int .i64 x7, .int .i64 0, .int .i64 0])), ?_, hK _ _ _ _ ?_⟩
              · simp only [RelyOp, fillE]
                refine ⟨?_, fun w9 hw9 hm9 => ?_⟩
                · first | rfl | (go_simp; done)
                with_reducible refine stopG ?_
                obtain ⟨w0', k0', k1', hb1⟩ := hm9.2.2.2.1 (by rw [HA.out]; kernel_rfl)
                have HX := Lib.hid (hb1.below (quietB k1' (by rw [HA.out]; kernel_rfl)))
                clear hm9 k0' k1' hb1
                obtain ⟨cur, hcb, hsz, _, _, _, hget⟩ := HX.out.blk
                have hr1 : ((rowsJ f (Cs f k)).set j [.int .i64 (f a 1), .int .i64 (f a 2), .int .i64 (f a 3), .int .i64 (f a 4), .int .i64 ((a : Int) + 1), .int .i64 ((k : Int) + 1), .int .i64 0, .int .i64 0, .int .i64 0])[j]? = some [.int .i64 (f a 1), .int .i64 (f a 2), .int .i64 (f a 3), .int .i64 (f a 4), .int .i64 ((a : Int) + 1), .int .i64 ((k : Int) + 1), .int .i64 0, .int .i64 0, .int .i64 0] := by rw [List.getElem?_set, if_pos rfl, if_pos HJL.out]
                have q6 := (hcb.cell (j * 9 + 6)).trans (hget j _ hr1 6 _ rfl)
                have f6 := hcb.frozen (j * 9 + 6)
                have HR1 := Lib.hid hr1
                clear hget hsz hcb hr1
                with_reducible refine Wall.mk ?_
                go_simp
                refine ⟨⟨rfl, ?_⟩, (keepsCell _ g1 (j * 9 + 6) _).mono fun b hb => by first | exact hb | exact ⟨by decide, hb⟩⟩
                have hx := HX.out.setPart HR1.out (j := 6) (vs := [.int .i64 x7]) (by simp)
                rw [List.set_set] at hx
                exact hx
              clear hK K
              try simp only [Act.put, List.setIfInBounds_toArray, List.set_cons_zero, List.set_cons_succ]
              refine wpRely_nil ?_
              simp only [fillE]
              rintro w9 hw9 hmet
              simp only [List.drop_succ_cons, List.drop_zero, List.drop, Act.put, List.setIfInBounds_toArray, List.set_cons_zero, List.set_cons_succ]
              with_reducible refine stopG ?_
              obtain ⟨wc, ke, kf, h17⟩ := hmet.1 rfl
              have h18 := h17.below (quietB kf (by rw [HA.out]; kernel_rfl))
              have HO9 := Lib.hid h18
              obtain ⟨cur, hcb, hsz, _, _, _, hget⟩ := h18.blk
              have hr2 : ((rowsJ f (Cs f k)).set j [.int .i64 (f a 1), .int .i64 (f a 2), .int .i64 (f a 3), .int .i64 (f a 4), .int .i64 ((a : Int) + 1), .int .i64 ((k : Int) + 1), .int .i64 x7, .int .i64 0, .int .i64 0])[j]? = some [.int .i64 (f a 1), .int .i64 (f a 2), .int .i64 (f a 3), .int .i64 (f a 4), .int .i64 ((a : Int) + 1), .int .i64 ((k : Int) + 1), .int .i64 x7, .int .i64 0, .int .i64 0] := by rw [List.getElem?_set, if_pos rfl, if_pos HJL.out]
              have hj9 : (j + 1) * 9 ≤ (Cs f k).length * 9 := Nat.mul_le_mul_right 9 hjl
              have hth : w9.there g1 (j * 9 + 7) (#[Value.int .i64 x5, .int .i64 x6] : Array Value).size := hcb.there (by show j * 9 + 7 + 2 ≤ _; omega)
              have hx := h18.setPart hr2 (j := 7) (vs := [.int .i64 x5, .int .i64 x6]) (by simp)
              rw [List.set_set] at hx
              have HTH := Lib.hid hth
              have HFI : Hid (OwnR (w9.setCells g1 (j * 9 + 7) #[Value.int .i64 x5, .int .i64 x6].toList) (w.heap.size + 1) 44 9 (some ⟨g1, 0, none⟩) (Cs f k).length c1 (rowsJ f ((Cs f k).set j (a, k + 1)))) := Lib.hid (by
                rw [rowsJ_set]
                show OwnR _ _ _ _ _ _ _ ((rowsJ f (Cs f k)).set j [.int .i64 (f a 1), .int .i64 (f a 2), .int .i64 (f a 3), .int .i64 (f a 4), .int .i64 ((a : Int) + 1), .int .i64 ((k : Int) + 1), .int .i64 (f k 7), .int .i64 (f k 5), .int .i64 (f k 6)])
                rw [HX7.out, HX5.out, HX6.out]
                exact hx)
              have HK9 : Hid (Keeps (OneB g1) W3 (w9.setCells g1 (j * 9 + 7) #[Value.int .i64 x5, .int .i64 x6].toList)) := Lib.hid (hw9.trans (keeps_setCells (S := OneB g1) (.inl rfl) (j * 9 + 7) _))
              clear hmet hw9 ke kf h17 h18 hcb hsz hget hr2 hth hx hj9
              have HE9 : Hid (Blk _ wr.heap.size 53 #[.int .i64 2, .int .i64 x1, .int .i64 x2, .int .i64 x3, .int .i64 x4, .int .i64 x5, .int .i64 x6, .int .i64 x7, .int .i64 x8]) := Lib.hid ((HK9.out.block _ HE3.out.lt (by show ¬ wr.heap.size = g1; omega)).trans HE3.out)
              have HM9 := Lib.hid (HM3.out.kept HK9.out (by show ¬ w.heap.size = g1; omega))
              with_reducible refine Wall.mk ?_
              go_wp2_with (with_reducible refine fStoreMid 42 g1 (j * 9 + 7) #[.int .i64 x5, .int .i64 x6] (by kernel_rfl) (by kernel_rfl) HTH.out (by kernel_rfl) (by kernel_rfl) ?_; with_reducible refine stopJ ?_)
              obtain ⟨w10, hw10⟩ : ∃ x, w9.setCells g1 (j * 9 + 7) #[Value.int .i64 x5, .int .i64 x6].toList = x := ⟨_, rfl⟩
              rw [hw10] at HFI HK9 HE9 HM9
              with_reducible refine Lib.hid ?_
              rw [hw10]
              clear hw10 HTH HO9
              have d1 := HE9.out.cell 1
              simp only [List.getElem?_toArray, List.getElem?_cons_zero, List.getElem?_cons_succ] at d1
              obtain ⟨D, hown, hD⟩ := HM9.out
              have HMP := Lib.hid hown
              have HDD := Lib.hid hD
              have hbz := hB.size
              have hl9 := HE9.out.lt
              have hlm := HM9.out.lt
              clear hown hD
              go_wp2_with (at_delete; refine wpList_delete_own _ rfl _ _ 68 3 rfl 3 keyI Tryd.underlying68 (plainElem Tryd.prog 3) w.heap.size nm D rfl HMP.out (.int .i64 x1) (.int .i64 x1) rfl (keyOf_int_mk Tryd.underlying3 (i64_wf hI)) ?_; intro w1 hown1 hturn1; have HO1 := Lib.hid hown1; have HT1 := Lib.hid hturn1.grown; clear hown1 hturn1)
              go_roundw
              case rel =>
                have HKd : Keeps (fun b => b = w.heap.size) w10 w1 := ⟨HT1.out.os, HT1.out.tape, HT1.out.output, HT1.out.size, fun i hi hn => HT1.out.block i hi (by intro e; cases e; exact hn rfl)⟩
                refine ⟨k + 1, hkK, by go_num, ?_, Lib.hid ⟨some ⟨g1, 0, none⟩, c1, nm, ?_, ?_, ?_, by omega⟩⟩
                · have h1 : Below w.heap.size wr W3 := HB3.out.mono hbz
                  have h2 : Below w.heap.size W3 w10 := HK9.out.below (by have := HB3.out.size; omega) (fun b hb e => by have e' : b = g1 := e; omega)
                  have h3 : Below w.heap.size w10 w1 := HKd.below (by omega) (fun b hb e => by have e' : b = w.heap.size := e; omega)
                  exact ((hB.trans h1).trans h2).trans h3
                · rw [HCS.out]; simp
                · rw [HCS.out]
                  have := HFI.out.kept HKd (fun a ha e => by cases ha; have e' : g1 = w.heap.size := e; omega)
                  simpa using this
                · rw [HCS.out]
                  exact OpenM.del HX1.out HO1.out HOP.out HDD.out
              case measure => simp [intOf]; omega
            · have HNO : Hid (nxt f k (Cs f k) = none) := Lib.hid (by rw [HN.out, if_neg (by decide), if_pos rfl, ho]; dsimp only; rw [hja]; dsimp only; rw [if_neg hop])
              have heq := eqOp (f a 2) (f a 3) (f a 4) x2 x3 x4
              have hdd : decide (f a 2 = x2 ∧ f a 3 = x3 ∧ f a 4 = x4) = false := decide_eq_false (fun h => hop (by unfold opEq; rw [HX2.out, HX3.out, HX4.out]; exact h))
              simp only [hdd] at heq
              clear HN hop hdd
              go_wp2
              go_quiet (fail)
              go_wp2
              go_ret2
              exact (callsBad hkn HNO.out HAT.out hB _).drewN _
        · by_cases h3 : x0 = 3
          · subst h3
            obtain ⟨hkK, hcs⟩ := callsGo (by rw [HN.out, if_neg (by decide), if_neg (by decide), if_pos rfl]) HAT.out
            have HCS := Lib.hid hcs
            have hbz := hB.size
            clear HN hcs
            go_wp2
            go_roundw
            case rel =>
              refine ⟨k + 1, hkK, by go_num, by go_grown, Lib.hid ⟨A1, c1, nm, ?_, ?_, ?_, by omega⟩⟩
              · rw [HCS.out]
              · rw [HCS.out]
                exact HOW.out.below (by go_grown)
              · rw [HCS.out]; exact HM2.out
            case measure => simp [intOf]; omega
          · have HNO : Hid (nxt f k (Cs f k) = none) := Lib.hid (by rw [HN.out, if_neg h1, if_neg h2, if_neg h3])
            have d1 : decide (x0 = 1) = false := by simp [h1]
            have d2 : decide (x0 = 2) = false := by simp [h2]
            have d3 : decide (x0 = 3) = false := by simp [h3]
            clear HN
            go_wp2
            go_ret2
            exact callsBad hkn HNO.out HAT.out hB _
    · obtain rfl : k = n := by have := HK.out.1; omega
      obtain rfl : K = k := by have := HK.out.1; omega
      have HOW := Lib.hid hown
      go_wp2
      go_ret2
      refine ⟨hB, ?_⟩
      rw [if_pos rfl]
      exact ⟨_, _, rfl, HOW.out.mono (by omega)⟩
end Go.Proofs.YtdogjdgfidbfhaaDoor
