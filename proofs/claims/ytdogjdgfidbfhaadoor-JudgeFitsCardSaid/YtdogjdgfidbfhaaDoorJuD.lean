/-
  What the reference's Judge returns: for up to sixty events and forty deeds.
-/
import Derived.Test.YtdogjdgfidbfhaaDoorJuR
import Derived.Test.YtdogjdgfidbfhaaDoorJuG
namespace Go.Proofs.YtdogjdgfidbfhaaDoor
set_option linter.unusedSimpArgs false
set_option linter.unusedVariables false
set_option linter.unusedSectionVars false
open Go.RowKit Go.Maps
set_option linter.unusedSimpArgs false
set_option linter.unusedVariables false
attribute [local go_sem ↓] Go.wp_at_zero Go.wp_at_succ

theorem goodJ (w : World) : Calls Tryd.prog 15 #[] w fun e w' => e = .returned (.agg #[.int .i64 0, .int .i64 (-1)]) ∧ Below w.heap.size w w' := by
  go_enter Tryd.func15, Tryd.ntmps15
  go_wp2
  go_returns
  exact ⟨rfl, by go_grown⟩
theorem bareJ (e : Int) (w : World) : Calls Tryd.prog 14 #[.int .i64 e] w fun e' w' => e' = .returned (.agg #[.int .i64 e, .int .i64 (-1)]) ∧ Below w.heap.size w w' := by
  go_enter Tryd.func14, Tryd.ntmps14
  go_wp2
  go_returns
  exact ⟨rfl, by go_grown⟩
theorem twoJ (c x : Int) : (#[Value.int .i64 c, Value.int .i64 x] : Array Value).all (·.oneCell') = true := by kernel_rfl
def JOut (e p : Int) (w : World) (en : Ending) (w' : World) : Prop := en = .returned (.agg #[.int .i64 e, .int .i64 p]) ∧ Below w.heap.size w w'
/-- The state of the first loop. -/
def FSt (f : Nat → Nat → Int) (w : World) (k : Nat) (wr : World) : Prop :=
  Blk wr w.heap.size 30 #[.int .i64 0, .int .i64 0] ∧ ∃ Q A c, RJ f (Cs f k) Q (fun _ => 0) (w.heap.size + 2) (w.heap.size + 1) A c wr
theorem infoRcl : (Tryd.prog.info? 51).map (fun i => (i.zero, i.size, i.bytes)) = some (some (.pointer none), 1, 8) := by kernel_rfl
theorem info_Rcl : ∃ i0, Tryd.prog.info? 51 = some i0 ∧ i0.zero = some (.pointer none) ∧ i0.size = 1 ∧ i0.bytes = 8 := by
  have h := infoRcl
  cases hq : Tryd.prog.info? 51 with
  | none => simp [hq] at h
  | some i => simp [hq] at h; exact ⟨i, rfl, h.1, h.2.1, h.2.2⟩
theorem mkPtrs (n : Nat) (hn : n ≤ 1000) (w : World) : ∃ D : Array Value, (Instr.makeSlice 50 (.int .i64 (n : Int)) (.int .i64 (n : Int))).run Tryd.prog w = .ok (.slice (some ⟨w.heap.size, 0, none⟩) n n) (w.alloc (.cells D 51)) ∧ D.size = n ∧ ∀ k, k < n → D[k]? = some (.pointer none) := by
  obtain ⟨i0, h1, h2, h3, h4⟩ := info_Rcl
  have hr := run_makeSlice (P := Tryd.prog) w 50 51 i0 (.pointer none) Tryd.underlying50 h1 h2 .i64 .i64 (n : Int) (n : Int) (by omega) (Int.le_refl _) (by rw [h3]; simp; omega) (by rw [h4]; omega) (by omega)
  simp only [Int.toNat_natCast] at hr
  refine ⟨_, hr, by rw [size_madeCells, h3]; omega, fun k hk => ?_⟩
  rw [h3, madeCells]
  simp [Value.cells, hk, Nat.mod_one]
/-- By whom each deed was asked, as pointers. -/
def pv (Q : Nat → Nat) (o : Nat) : Value := if o = 0 then .pointer none else .pointer (some ⟨Q (o - 1), 0, none⟩)
def JY (w : World) (g nl : Nat) (O Q : Nat → Nat) : Prop := ∃ D, Blk w g 51 D ∧ D.size = nl + 1 ∧ ∀ k, k < nl → D[k + 1]? = some (pv Q (O k))
theorem JY.kept {w w' : World} {g nl : Nat} {O Q : Nat → Nat} {S : Nat → Prop} (h : JY w g nl O Q) (hk : Keeps S w w') (hS : ¬ S g) : JY w' g nl O Q := by
  obtain ⟨D, h1, h2⟩ := h
  exact ⟨D, (hk.block g h1.lt hS).trans h1, h2⟩
theorem JY.lt {w : World} {g nl : Nat} {O Q : Nat → Nat} (h : JY w g nl O Q) : g < w.heap.size := by
  obtain ⟨D, h1, _⟩ := h
  exact h1.lt
theorem JY.cell {w : World} {g nl : Nat} {O Q : Nat → Nat} (h : JY w g nl O Q) {k : Nat} (hk : k < nl) : w.cell? ⟨g, k + 1, none⟩ = some (pv Q (O k)) := by
  obtain ⟨D, h1, _, h2⟩ := h
  exact (h1.cell (k + 1)).trans (h2 k hk)
theorem JY.frozen {w : World} {g nl : Nat} {O Q : Nat → Nat} (h : JY w g nl O Q) (k : Nat) : w.frozen? ⟨g, k, none⟩ = false := by
  obtain ⟨D, h1, _⟩ := h
  exact h1.frozen k
theorem JY.set {w : World} {g nl : Nat} {O Q : Nat → Nat} (h : JY w g nl O Q) (k v : Nat) : JY (w.setCell ⟨g, k + 1, none⟩ (.pointer (some ⟨Q v, 0, none⟩))) g nl (updO O k (v + 1)) Q := by
  obtain ⟨D, h1, h2, h3⟩ := h
  refine ⟨_, h1.set_ (k + 1) _, by simp [h2], fun j hj => ?_⟩
  unfold updO
  rw [Array.getElem?_setIfInBounds]
  by_cases e : k = j
  · subst e
    rw [if_pos rfl, if_pos (by omega), if_pos rfl]
    rfl
  · rw [if_neg (by omega), if_neg (fun x => e x.symm)]
    exact h3 j hj
theorem pv_pos {Q : Nat → Nat} {o : Nat} (h : 0 < o) : pv Q o = .pointer (some ⟨Q (o - 1), 0, none⟩) := by unfold pv; rw [if_neg (by omega)]
theorem pv_zero {Q : Nat → Nat} : pv Q 0 = .pointer none := rfl
/-- The state of the loops behind the first. -/
structure JSt (f : Nat → Nat → Int) (nl : Nat) (C : CL) (Q : Nat → Nat) (B gb : Nat) (A : Option Addr) (ca gY g0 : Nat) (O : Nat → Nat) (w' : World) : Prop where
  fault : Blk w' g0 30 #[.int .i64 0, .int .i64 0]
  calls : ∃ H, RJ f C Q H B gb A ca w' ∧ ∀ i, i < C.length → (0 < H i ↔ used O nl i)
  by_ : JY w' gY nl O Q
  far : ∀ b, SlB A b → b ≠ gY
section
variable {f : Nat → Nat → Int} {nl : Nat} {C : CL} {Q : Nat → Nat} {B gb : Nat} {A : Option Addr} {ca gY g0 : Nat} {O : Nat → Nat} {w w' : World}
theorem JSt.below (h : JSt f nl C Q B gb A ca gY g0 O w) (hb : Below w.heap.size w w') : JSt f nl C Q B gb A ca gY g0 O w' := by
  obtain ⟨H, h1, h2⟩ := h.calls
  exact ⟨h.fault.below hb h.fault.lt, ⟨H, h1.below hb, h2⟩, h.by_.kept (Keeps.of_same (S := nowhere) hb) (fun x => x), h.far⟩
theorem JSt.yQ (h : JSt f nl C Q B gb A ca gY g0 O w) {k : Nat} (hk : k < C.length) : gY ≠ Q k := by
  obtain ⟨H, h1, _⟩ := h.calls
  obtain ⟨D, h2, _⟩ := h.by_
  exact blk_apart h2 (h1.each k C[k] (List.getElem?_eq_getElem hk)) (by decide)
theorem JSt.hit (h : JSt f nl C Q B gb A ca gY g0 O w) {k q : Nat} (hk : k < nl) (hq : q < C.length) (h0 : O k = 0) :
    JSt f nl C Q B gb A ca gY g0 (updO O k (q + 1)) ((w.setCell ⟨gY, k + 1, none⟩ (.pointer (some ⟨Q q, 0, none⟩))).setCell ⟨Q q, 11, none⟩ (.int .i64 ((k : Int) + 1))) := by
  obtain ⟨H, h1, h2⟩ := h.calls
  have hyq := h.yQ hq
  obtain ⟨D, hd, _⟩ := h.by_
  have e1 : g0 ≠ gY := blk_apart h.fault hd (by decide)
  have e2 : g0 ≠ Q q := blk_apart h.fault (h1.each q C[q] (List.getElem?_eq_getElem hq)) (by decide)
  have e3 : gb ≠ gY := blk_apart h1.box hd (by decide)
  refine ⟨(h.fault.far e1 _).far e2 _, ⟨_, (h1.keptB (keepsCell w gY (k + 1) _) (fun e => e3 e) (fun b hb e => h.far b hb e) (fun j hj e => h.yQ hj e.symm)).has hq ((k : Int) + 1), fun i hi => ?_⟩, ?_, h.far⟩
  · rw [used_upd h0 hk]
    by_cases e : i = q
    · simp only [e, if_true, or_true, iff_true]
      omega
    · simp only [if_neg e, e, or_false]
      exact h2 i hi
  · exact (h.by_.set k q).kept (keepsCell _ (Q q) 11 _) (fun e => hyq e)
end
theorem jErr {f g : Nat → Nat → Int} {n nl K IA KB k : Nat} {b : Bool} {e p : Int} (hkn : k < n) (hno : nxt f k (Cs f k) = none) (hat : (okE f k ∧ k < K) ∨ (¬ okE f k ∧ k = K)) (hJ : JRes f g n nl K IA KB b e p) : e = 10 ∧ p = (k : Int) := by
  have h1 : ¬ okE f k := by unfold okE; rw [hno]; exact fun h => by cases h
  rcases hat with h | h
  · exact absurd h.1 h1
  · obtain ⟨_, rfl⟩ := h
    have := hJ.res
    rw [if_neg (by omega), if_neg (by omega)] at this
    exact this
set_option maxRecDepth 100000 in
set_option maxHeartbeats 40000000 in
theorem judge_any (f g : Nat → Nat → Int) (A : Option Addr) (n c : Nat) (A2 : Option Addr) (nl c2 K IA KB : Nat) (b : Bool) (e p : Int) (w : World) (h : SlF K9 w A n c f) (h2 : SlF KD6 w A2 nl c2 g) (hn : n ≤ 60) (hl : nl ≤ 40) (hj : JRes f g n nl K IA KB b e p) :
    Calls Tryd.prog 6 #[.slice A n c, .slice A2 nl c2] w (JOut e p w) := by
  have H1 := Lib.hid h
  have H2 := Lib.hid h2
  have HJ := Lib.hid hj
  have HKU := Lib.hid hj.hK
  have hcp := h.cap
  have hc63 := h.cap63
  obtain ⟨i0, hi0, hz0, hz1, hz2⟩ := info_Rcl
  have HII := Lib.hid hi0
  have HZZ := Lib.hid hz0
  have HSS := Lib.hid hz1
  have HBB := Lib.hid hz2
  clear h h2 hj hi0 hz0 hz1 hz2
  go_enter Tryd.func6, Tryd.ntmps6
  go_wp2
  go_loopw [23] (fun i wr => ∃ k : Nat, k ≤ K ∧ i = .int .i64 k ∧ Below w.heap.size w wr ∧ Hid (FSt f w k wr)) (fun i _ => n - (intOf i).toNat)
  case atStart => exact ⟨0, by omega, rfl, by go_grown, Lib.hid ⟨(Blk.new _ _ _).alloc _, fun _ => 0, none, 0, ⟨Blk.newAt _ _ _ (by simp), OwnR.nil _ _ _ _, fun i j hi => absurd hi (by simp [Cs]), fun k x hx => by simp [Cs] at hx, fun k hk => absurd hk (by simp [Cs])⟩⟩⟩
  case round =>
    obtain ⟨k, hk, rfl, hB, hst⟩ := hrel
    have hbz := hB.size
    obtain ⟨hfb, Q, A1, ca, hrj⟩ := hst.out
    have HCI := Lib.hid (cinv_cs k (fun j hj => HKU.out.2.1 j (by omega)))
    have HFB := Lib.hid hfb
    have HRJ := Lib.hid hrj
    have hfl := hfb.lt
    have hgl := hrj.box.lt
    clear hst hfb hrj
    by_cases hkn : k < n
    · obtain ⟨b0, off, rfl, hblt, hcell⟩ := H1.out.at_ (by omega)
      have q1 : (k : Int) < n := by omega
      have c0 : wr.cell? ⟨b0, off + k * 9, none⟩ = some (.int .i64 (f k 0)) := (hB.cell (p := ⟨b0, off + k * 9, none⟩) hblt).trans (by simpa using hcell k 0 hkn (by decide))
      have c1 : wr.cell? ⟨b0, off + k * 9 + 1, none⟩ = some (.int .i64 (f k 1)) := (hB.cell (p := ⟨b0, off + k * 9 + 1, none⟩) hblt).trans (by simpa using hcell k 1 hkn (by decide))
      have c2 : wr.cell? ⟨b0, off + k * 9 + 2, none⟩ = some (.int .i64 (f k 2)) := (hB.cell (p := ⟨b0, off + k * 9 + 2, none⟩) hblt).trans (by simpa using hcell k 2 hkn (by decide))
      have c3 : wr.cell? ⟨b0, off + k * 9 + 3, none⟩ = some (.int .i64 (f k 3)) := (hB.cell (p := ⟨b0, off + k * 9 + 3, none⟩) hblt).trans (by simpa using hcell k 3 hkn (by decide))
      have c4 : wr.cell? ⟨b0, off + k * 9 + 4, none⟩ = some (.int .i64 (f k 4)) := (hB.cell (p := ⟨b0, off + k * 9 + 4, none⟩) hblt).trans (by simpa using hcell k 4 hkn (by decide))
      have c5 : wr.cell? ⟨b0, off + k * 9 + 5, none⟩ = some (.int .i64 (f k 5)) := (hB.cell (p := ⟨b0, off + k * 9 + 5, none⟩) hblt).trans (by simpa using hcell k 5 hkn (by decide))
      have c6 : wr.cell? ⟨b0, off + k * 9 + 6, none⟩ = some (.int .i64 (f k 6)) := (hB.cell (p := ⟨b0, off + k * 9 + 6, none⟩) hblt).trans (by simpa using hcell k 6 hkn (by decide))
      have c7 : wr.cell? ⟨b0, off + k * 9 + 7, none⟩ = some (.int .i64 (f k 7)) := (hB.cell (p := ⟨b0, off + k * 9 + 7, none⟩) hblt).trans (by simpa using hcell k 7 hkn (by decide))
      have c8 : wr.cell? ⟨b0, off + k * 9 + 8, none⟩ = some (.int .i64 (f k 8)) := (hB.cell (p := ⟨b0, off + k * 9 + 8, none⟩) hblt).trans (by simpa using hcell k 8 hkn (by decide))
      clear hcell
      have HN : Hid (nxt f k (Cs f k) = if f k 0 = 1 then (match opn f (Cs f k) (f k 1) with | none => some (Cs f k ++ [(k, 0)]) | some _ => none)
        else if f k 0 = 2 then (match opn f (Cs f k) (f k 1) with | none => none | some j => match (Cs f k)[j]? with | none => none | some cc => if opEq f cc.1 k then some ((Cs f k).set j (cc.1, k + 1)) else none)
        else if f k 0 = 3 then some (Cs f k) else none) := Lib.hid rfl
      have HAT := Lib.hid (HKU.out.at hk hkn)
      have HRB := Lib.hid (HRJ.out.below ((Below.refl _ wr).alloc (Nat.le_refl _) (.cells #[.int .i64 (f k 0), .int .i64 (f k 1), .int .i64 (f k 2), .int .i64 (f k 3), .int .i64 (f k 4), .int .i64 (f k 5), .int .i64 (f k 6), .int .i64 (f k 7), .int .i64 (f k 8)] 53)))
      have hbB : Below w.heap.size w (wr.alloc (.cells #[.int .i64 (f k 0), .int .i64 (f k 1), .int .i64 (f k 2), .int .i64 (f k 3), .int .i64 (f k 4), .int .i64 (f k 5), .int .i64 (f k 6), .int .i64 (f k 7), .int .i64 (f k 8)] 53)) := hB.alloc hbz _
      have HFW := Lib.hid (HFB.out.alloc (.cells #[.int .i64 (f k 0), .int .i64 (f k 1), .int .i64 (f k 2), .int .i64 (f k 3), .int .i64 (f k 4), .int .i64 (f k 5), .int .i64 (f k 6), .int .i64 (f k 7), .int .i64 (f k 8)] 53))
      have HBW := Lib.hid hbB
      have HEB := Lib.hid (Blk.new wr 53 #[.int .i64 (f k 0), .int .i64 (f k 1), .int .i64 (f k 2), .int .i64 (f k 3), .int .i64 (f k 4), .int .i64 (f k 5), .int .i64 (f k 6), .int .i64 (f k 7), .int .i64 (f k 8)])
      clear hbB
      generalize hC : Cs f k = C at *
      have HC := Lib.hid hC
      have hlen := HCI.out.len
      cases ho : opn f C (f k 1) with
      | none =>
        have HOP := Lib.hid (fun W h => openOf_any f k C Q (fun _ => 0) (w.heap.size + 2) (w.heap.size + 1) A1 ca (f k 1) (.pointer none) W h HCI.out (by omega) (by rw [ho]))
        by_cases h1 : f k 0 = 1
        · obtain ⟨hkK, hcs⟩ := callsGo (C' := C ++ [(k, 0)]) (by rw [hC, HN.out, if_pos h1, ho]) HAT.out
          have HCS := Lib.hid hcs
          have t1 : decide (f k 0 = 1) = true := decide_eq_true h1
          have t1' : (f k 0 == 1) = true := by simp [h1]
          clear h1
          have hRW := HRB.out
          have gbc : (wr.alloc (.cells #[.int .i64 (f k 0), .int .i64 (f k 1), .int .i64 (f k 2), .int .i64 (f k 3), .int .i64 (f k 4), .int .i64 (f k 5), .int .i64 (f k 6), .int .i64 (f k 7), .int .i64 (f k 8)] 53)).cell? ⟨w.heap.size + 1, 0, none⟩ = some (.slice A1 C.length ca) := by rw [hRW.box.cell]; rfl
          have HA1 : Hid (∀ a, A1 = some a → a.block < wr.heap.size) := Lib.hid fun a ha => (HRJ.out.own.lt a ha).2
          have HY : Hid (∀ u ∈ [Value.pointer (some ⟨wr.heap.size + 1, 0, none⟩)], u.oneCell' = true) := Lib.hid (by simp [Value.oneCell'])
          have HSG := Lib.hid hRW.sGb
          have HV : Hid (∀ j, j < 1 → (((wr.alloc (.cells #[.int .i64 (f k 0), .int .i64 (f k 1), .int .i64 (f k 2), .int .i64 (f k 3), .int .i64 (f k 4), .int .i64 (f k 5), .int .i64 (f k 6), .int .i64 (f k 7), .int .i64 (f k 8)] 53)).alloc (.cells #[.int .i64 (f k 0), .int .i64 (f k 1), .int .i64 (f k 2), .int .i64 (f k 3), .int .i64 (f k 4), .int .i64 (f k 5), .int .i64 (f k 6), .int .i64 (f k 7), .int .i64 (f k 8), .int .i64 (k : Int), .int .i64 (-1), .int .i64 0] 55)).alloc (.cells #[.pointer (some ⟨wr.heap.size + 1, 0, none⟩)] 51)).cell? ⟨wr.heap.size + 1 + 1, j, none⟩ = [Value.pointer (some ⟨wr.heap.size + 1, 0, none⟩)][j]?) := Lib.hid (fun j _ => by
            rw [(Blk.newAt _ 51 #[Value.pointer (some ⟨wr.heap.size + 1, 0, none⟩)] (by simp) : Blk _ (wr.heap.size + 1 + 1) _ _).cell j]
            simp)
          have HB3 : Hid (Below (wr.alloc (.cells #[.int .i64 (f k 0), .int .i64 (f k 1), .int .i64 (f k 2), .int .i64 (f k 3), .int .i64 (f k 4), .int .i64 (f k 5), .int .i64 (f k 6), .int .i64 (f k 7), .int .i64 (f k 8)] 53)).heap.size (wr.alloc (.cells #[.int .i64 (f k 0), .int .i64 (f k 1), .int .i64 (f k 2), .int .i64 (f k 3), .int .i64 (f k 4), .int .i64 (f k 5), .int .i64 (f k 6), .int .i64 (f k 7), .int .i64 (f k 8)] 53)) (((wr.alloc (.cells #[.int .i64 (f k 0), .int .i64 (f k 1), .int .i64 (f k 2), .int .i64 (f k 3), .int .i64 (f k 4), .int .i64 (f k 5), .int .i64 (f k 6), .int .i64 (f k 7), .int .i64 (f k 8)] 53)).alloc (.cells #[.int .i64 (f k 0), .int .i64 (f k 1), .int .i64 (f k 2), .int .i64 (f k 3), .int .i64 (f k 4), .int .i64 (f k 5), .int .i64 (f k 6), .int .i64 (f k 7), .int .i64 (f k 8), .int .i64 (k : Int), .int .i64 (-1), .int .i64 0] 55)).alloc (.cells #[.pointer (some ⟨wr.heap.size + 1, 0, none⟩)] 51))) := Lib.hid (((Below.refl _ _).alloc (Nat.le_refl _) _).alloc (by simp) _)
          have HO3 := Lib.hid (hRW.own.below HB3.out)
          have HG3 := Lib.hid ((hRW.box.below HB3.out hRW.box.lt))
          have HQ3 : Hid (Blk (((wr.alloc (.cells #[.int .i64 (f k 0), .int .i64 (f k 1), .int .i64 (f k 2), .int .i64 (f k 3), .int .i64 (f k 4), .int .i64 (f k 5), .int .i64 (f k 6), .int .i64 (f k 7), .int .i64 (f k 8)] 53)).alloc (.cells #[.int .i64 (f k 0), .int .i64 (f k 1), .int .i64 (f k 2), .int .i64 (f k 3), .int .i64 (f k 4), .int .i64 (f k 5), .int .i64 (f k 6), .int .i64 (f k 7), .int .i64 (f k 8), .int .i64 (k : Int), .int .i64 (-1), .int .i64 0] 55)).alloc (.cells #[.pointer (some ⟨wr.heap.size + 1, 0, none⟩)] 51)) (wr.heap.size + 1) 55 #[.int .i64 (f k 0), .int .i64 (f k 1), .int .i64 (f k 2), .int .i64 (f k 3), .int .i64 (f k 4), .int .i64 (f k 5), .int .i64 (f k 6), .int .i64 (f k 7), .int .i64 (f k 8), .int .i64 (k : Int), .int .i64 (-1), .int .i64 0]) := Lib.hid ((Blk.newAt _ _ _ (by simp)).alloc _)
          have HF3 := Lib.hid (HFW.out.below HB3.out HFW.out.lt)
          clear hRW HN HAT HCI HEB
          go_wp2_with (first
            | (go_at_call 12; refine (HOP.out _ HRB.out).mono ?_; rintro e5 w5 ⟨rfl, rfl⟩)
            | (refine wpList_appendR (.tmp 42) (.tmp 47) rfl rfl Tryd.underlying50 HII.out HZZ.out HSS.out HBB.out rfl (by decide) (by decide) (A := A1) (n := C.length) (c := ca) (rows := ptrRows Q C.length) rfl HO3.out (g := wr.heap.size + 1 + 1) (c' := 1) rfl (ys := [.pointer (some ⟨wr.heap.size + 1, 0, none⟩)]) rfl HV.out HY.out (by omega) (by simp; omega) ?_; rintro g' c9 w9 how hk' hwh; have hb9 : Blk w9 (w.heap.size + 1) 50 #[.slice A1 C.length ca] := (hk'.block _ HG3.out.lt HSG.out).trans HG3.out; have g9 := hb9.cell 0; have f9 := hb9.frozen 0; simp only [List.getElem?_toArray, List.getElem?_cons_zero] at g9; have HO9 := Lib.hid how; have HK9 := Lib.hid hk'; have hl9 := hb9.lt; clear how hk' hwh hb9))
          go_roundw
          case rel =>
            have hnA : ∀ x, wr.heap.size ≤ x → ¬ SlB A1 x := fun x hx ⟨a, ha, e⟩ => by have := HA1.out a ha; omega
            have hq9 : Blk w9 (wr.heap.size + 1) 55 (cArr f (k, 0) 0) := (HK9.out.block _ HQ3.out.lt (hnA _ (by omega))).trans HQ3.out
            have hK : Keeps (SlB A1) (wr.alloc (.cells #[.int .i64 (f k 0), .int .i64 (f k 1), .int .i64 (f k 2), .int .i64 (f k 3), .int .i64 (f k 4), .int .i64 (f k 5), .int .i64 (f k 6), .int .i64 (f k 7), .int .i64 (f k 8)] 53)) w9 := (Keeps.of_same HB3.out).trans HK9.out
            have hf9 : Blk w9 w.heap.size 30 #[.int .i64 0, .int .i64 0] := (HK9.out.block _ HF3.out.lt (fun ⟨a, ha, e⟩ => by have := (HRJ.out.own.lt a ha).1; omega)).trans HF3.out
            refine ⟨k + 1, hkK, by go_num, ?_, Lib.hid ⟨hf9.far (by show w.heap.size ≠ w.heap.size + 1; omega) _, _, _, _, by rw [HCS.out]; exact RJ.app HRB.out rfl HO9.out (by simp) (by omega) hK hq9⟩⟩
            exact ((HBW.out.trans (HB3.out.mono (by simp; omega))).trans (HK9.out.below (by simp; omega) (fun b hb ⟨a, ha, e⟩ => by have := (HRJ.out.own.lt a ha).1; omega))).setCell (by show w.heap.size ≤ w.heap.size + 1; omega) _
          case measure => simp [intOf]; omega
        have d1 : decide (f k 0 = 1) = false := decide_eq_false h1
        have d1' : (f k 0 == 1) = false := by simp [h1]
        by_cases h2 : f k 0 = 2
        · have hno : nxt f k (Cs f k) = none := by rw [hC, HN.out, if_neg h1, if_pos h2, ho]
          have t2 : decide (f k 0 = 2) = true := decide_eq_true h2
          have t2' : (f k 0 == 2) = true := by simp [h2]
          clear h2
          have HER := Lib.hid (jErr hkn hno HAT.out HJ.out)
          have HE : Hid (e = 10) := Lib.hid HER.out.1
          have HP : Hid (p = (k : Int)) := Lib.hid HER.out.2
          clear HN HAT hno HCI HC
          go_wp2_with (go_at_call 12; refine (HOP.out _ HRB.out).mono ?_; rintro e5 w5 ⟨rfl, rfl⟩)
          go_quiet (fail)
          go_wp2_with ((with_reducible refine fStore 30 w.heap.size #[.int .i64 10, .int .i64 (k : Int)] 30 #[.int .i64 0, .int .i64 0] (by kernel_rfl) (by kernel_rfl) ?_ (by kernel_rfl) (by kernel_rfl) (twoJ _ _) ?_); (exact HFW.out.drewN _))
          (try simp only [Exit.inBlock, Exit.then])
          refine bodyPost_ret (results_cell_row Tryd.results6 _ _ w.heap.size 30 #[.int .i64 10, .int .i64 (k : Int)] (0, 0) _ rfl (Blk.setRow (HFW.out.drewN _) _) Tryd.underlying30 rfl (by kernel_rfl)) rfl ?_
          exact ⟨by rw [HE.out, HP.out], below_setRow (below_drewN HBW.out _) (Nat.le_refl _) _⟩
        have d2 : decide (f k 0 = 2) = false := decide_eq_false h2
        have d2' : (f k 0 == 2) = false := by simp [h2]
        by_cases h3 : f k 0 = 3
        · obtain ⟨hkK, hcs⟩ := callsGo (C' := C) (by rw [hC, HN.out, if_neg h1, if_neg h2, if_pos h3]) HAT.out
          have HCS := Lib.hid hcs
          have t3 : decide (f k 0 = 3) = true := decide_eq_true h3
          have t3' : (f k 0 == 3) = true := by simp [h3]
          clear h3
          clear HN HAT HCI HC
          go_wp2_with (go_at_call 12; refine (HOP.out _ HRB.out).mono ?_; rintro e5 w5 ⟨rfl, rfl⟩)
          go_roundw
          case rel => exact ⟨k + 1, hkK, by go_num, HBW.out, Lib.hid ⟨HFW.out, Q, A1, ca, by rw [HCS.out]; exact HRB.out⟩⟩
          case measure => simp [intOf]; omega
        · have hno : nxt f k (Cs f k) = none := by rw [hC, HN.out, if_neg h1, if_neg h2, if_neg h3]
          have d3 : decide (f k 0 = 3) = false := decide_eq_false h3
          have d3' : (f k 0 == 3) = false := by simp [h3]
          have HER := Lib.hid (jErr hkn hno HAT.out HJ.out)
          have HE : Hid (e = 10) := Lib.hid HER.out.1
          have HP : Hid (p = (k : Int)) := Lib.hid HER.out.2
          clear HN HAT hno HCI HC
          go_wp2_with (first
            | (go_at_call 12; refine (HOP.out _ HRB.out).mono ?_; rintro e5 w5 ⟨rfl, rfl⟩)
            | ((with_reducible refine fStore 30 w.heap.size #[.int .i64 10, .int .i64 (k : Int)] 30 #[.int .i64 0, .int .i64 0] (by kernel_rfl) (by kernel_rfl) ?_ (by kernel_rfl) (by kernel_rfl) (twoJ _ _) ?_); (exact HFW.out)))
          (try simp only [Exit.inBlock, Exit.then])
          refine bodyPost_ret (results_cell_row Tryd.results6 _ _ w.heap.size 30 #[.int .i64 10, .int .i64 (k : Int)] (0, 0) _ rfl (Blk.setRow (HFW.out) _) Tryd.underlying30 rfl (by kernel_rfl)) rfl ?_
          exact ⟨by rw [HE.out, HP.out], below_setRow (HBW.out) (Nat.le_refl _) _⟩
      | some j =>
        have HOP := Lib.hid (fun W h => openOf_any f k C Q (fun _ => 0) (w.heap.size + 2) (w.heap.size + 1) A1 ca (f k 1) (.pointer (some ⟨Q j, 0, none⟩)) W h HCI.out (by omega) (by rw [ho]))
        obtain ⟨hjl, a, hja, hta⟩ := opn_some ho
        have hqb := HRJ.out.each j _ hja
        have hql := hqb.lt
        have HQB := Lib.hid hqb
        have HJA := Lib.hid hja
        have HTA := Lib.hid hta
        clear hqb hja hta
        by_cases h1 : f k 0 = 1
        · have hno : nxt f k (Cs f k) = none := by rw [hC, HN.out, if_pos h1, ho]
          have t1 : decide (f k 0 = 1) = true := decide_eq_true h1
          have t1' : (f k 0 == 1) = true := by simp [h1]
          clear h1
          have HER := Lib.hid (jErr hkn hno HAT.out HJ.out)
          have HE : Hid (e = 10) := Lib.hid HER.out.1
          have HP : Hid (p = (k : Int)) := Lib.hid HER.out.2
          clear HN HAT hno HCI HC
          go_wp2_with (first
            | (go_at_call 12; refine (HOP.out _ HRB.out).mono ?_; rintro e5 w5 ⟨rfl, rfl⟩)
            | ((with_reducible refine fStore 30 w.heap.size #[.int .i64 10, .int .i64 (k : Int)] 30 #[.int .i64 0, .int .i64 0] (by kernel_rfl) (by kernel_rfl) ?_ (by kernel_rfl) (by kernel_rfl) (twoJ _ _) ?_); (exact HFW.out)))
          (try simp only [Exit.inBlock, Exit.then])
          refine bodyPost_ret (results_cell_row Tryd.results6 _ _ w.heap.size 30 #[.int .i64 10, .int .i64 (k : Int)] (0, 0) _ rfl (Blk.setRow (HFW.out) _) Tryd.underlying30 rfl (by kernel_rfl)) rfl ?_
          exact ⟨by rw [HE.out, HP.out], below_setRow (HBW.out) (Nat.le_refl _) _⟩
        have d1 : decide (f k 0 = 1) = false := decide_eq_false h1
        have d1' : (f k 0 == 1) = false := by simp [h1]
        by_cases h2 : f k 0 = 2
        · have hqw := HQB.out.alloc (.cells #[.int .i64 (f k 0), .int .i64 (f k 1), .int .i64 (f k 2), .int .i64 (f k 3), .int .i64 (f k 4), .int .i64 (f k 5), .int .i64 (f k 6), .int .i64 (f k 7), .int .i64 (f k 8)] 53)
          have e2 : (wr.alloc (.cells #[.int .i64 (f k 0), .int .i64 (f k 1), .int .i64 (f k 2), .int .i64 (f k 3), .int .i64 (f k 4), .int .i64 (f k 5), .int .i64 (f k 6), .int .i64 (f k 7), .int .i64 (f k 8)] 53)).cell? ⟨Q j, 2, none⟩ = some (.int .i64 (f a 2)) := by rw [hqw.cell]; rfl
          have e3 : (wr.alloc (.cells #[.int .i64 (f k 0), .int .i64 (f k 1), .int .i64 (f k 2), .int .i64 (f k 3), .int .i64 (f k 4), .int .i64 (f k 5), .int .i64 (f k 6), .int .i64 (f k 7), .int .i64 (f k 8)] 53)).cell? ⟨Q j, 3, none⟩ = some (.int .i64 (f a 3)) := by rw [hqw.cell]; rfl
          have e4 : (wr.alloc (.cells #[.int .i64 (f k 0), .int .i64 (f k 1), .int .i64 (f k 2), .int .i64 (f k 3), .int .i64 (f k 4), .int .i64 (f k 5), .int .i64 (f k 6), .int .i64 (f k 7), .int .i64 (f k 8)] 53)).cell? ⟨Q j, 4, none⟩ = some (.int .i64 (f a 4)) := by rw [hqw.cell]; rfl
          have f10 := hqw.frozen 10
          have e10 : (wr.alloc (.cells #[.int .i64 (f k 0), .int .i64 (f k 1), .int .i64 (f k 2), .int .i64 (f k 3), .int .i64 (f k 4), .int .i64 (f k 5), .int .i64 (f k 6), .int .i64 (f k 7), .int .i64 (f k 8)] 53)).cell? ⟨Q j, 10, none⟩ = some (.int .i64 (((0 : Nat) : Int) - 1)) := by rw [hqw.cell]; rfl
          clear hqw
          have heq := eqOp (f a 2) (f a 3) (f a 4) (f k 2) (f k 3) (f k 4)
          by_cases hop : opEq f a k
          · obtain ⟨hkK, hcs⟩ := callsGo (C' := C.set j (a, k + 1)) (by rw [hC, HN.out, if_neg h1, if_pos h2, ho]; dsimp only; rw [HJA.out]; dsimp only; rw [if_pos hop]) HAT.out
            have HCS := Lib.hid hcs
            have hdd : decide (f a 2 = f k 2 ∧ f a 3 = f k 3 ∧ f a 4 = f k 4) = true := decide_eq_true hop
            simp only [hdd] at heq
            clear hdd hop
            have t2 : decide (f k 0 = 2) = true := decide_eq_true h2
            have t2' : (f k 0 == 2) = true := by simp [h2]
            clear h2
            have HRD := Lib.hid (fun m => (HRB.out.keptB (S := nowhere) ((Keeps.refl _ _).drewN m) (fun h => h) (fun _ _ h => h) (fun _ _ h => h)))
            clear HN HAT HCI HEB
            go_wp2_with (go_at_call 12; refine (HOP.out _ HRB.out).mono ?_; rintro e5 w5 ⟨rfl, rfl⟩)
            go_quiet (fail)
            go_wp2
            go_roundw
            case rel =>
              exact ⟨k + 1, hkK, by go_num, (below_drewN HBW.out _).setCell (by have := HRJ.out.high j hjl; show w.heap.size ≤ Q j; omega) _, Lib.hid ⟨(HFW.out.drewN _).far (by have := HRJ.out.high j hjl; show w.heap.size ≠ Q j; omega) _, Q, A1, ca, by rw [HCS.out]; exact RJ.ans (HRD.out _) HJA.out⟩⟩
            case measure => simp [intOf]; omega
          · have hno : nxt f k (Cs f k) = none := by rw [hC, HN.out, if_neg h1, if_pos h2, ho]; dsimp only; rw [HJA.out]; dsimp only; rw [if_neg hop]
            have hdd : decide (f a 2 = f k 2 ∧ f a 3 = f k 3 ∧ f a 4 = f k 4) = false := decide_eq_false hop
            simp only [hdd] at heq
            clear hdd hop
            have t2 : decide (f k 0 = 2) = true := decide_eq_true h2
            have t2' : (f k 0 == 2) = true := by simp [h2]
            clear h2
            have HER := Lib.hid (jErr hkn hno HAT.out HJ.out)
            have HE : Hid (e = 10) := Lib.hid HER.out.1
            have HP : Hid (p = (k : Int)) := Lib.hid HER.out.2
            clear HN HAT hno HCI HC
            go_wp2_with (go_at_call 12; refine (HOP.out _ HRB.out).mono ?_; rintro e5 w5 ⟨rfl, rfl⟩)
            go_quiet (fail)
            go_wp2_with ((with_reducible refine fStore 30 w.heap.size #[.int .i64 10, .int .i64 (k : Int)] 30 #[.int .i64 0, .int .i64 0] (by kernel_rfl) (by kernel_rfl) ?_ (by kernel_rfl) (by kernel_rfl) (twoJ _ _) ?_); (exact HFW.out.drewN _))
            (try simp only [Exit.inBlock, Exit.then])
            refine bodyPost_ret (results_cell_row Tryd.results6 _ _ w.heap.size 30 #[.int .i64 10, .int .i64 (k : Int)] (0, 0) _ rfl (Blk.setRow (HFW.out.drewN _) _) Tryd.underlying30 rfl (by kernel_rfl)) rfl ?_
            exact ⟨by rw [HE.out, HP.out], below_setRow (below_drewN HBW.out _) (Nat.le_refl _) _⟩
        have d2 : decide (f k 0 = 2) = false := decide_eq_false h2
        have d2' : (f k 0 == 2) = false := by simp [h2]
        by_cases h3 : f k 0 = 3
        · obtain ⟨hkK, hcs⟩ := callsGo (C' := C) (by rw [hC, HN.out, if_neg h1, if_neg h2, if_pos h3]) HAT.out
          have HCS := Lib.hid hcs
          have t3 : decide (f k 0 = 3) = true := decide_eq_true h3
          have t3' : (f k 0 == 3) = true := by simp [h3]
          clear h3
          clear HN HAT HCI HC
          go_wp2_with (go_at_call 12; refine (HOP.out _ HRB.out).mono ?_; rintro e5 w5 ⟨rfl, rfl⟩)
          go_roundw
          case rel => exact ⟨k + 1, hkK, by go_num, HBW.out, Lib.hid ⟨HFW.out, Q, A1, ca, by rw [HCS.out]; exact HRB.out⟩⟩
          case measure => simp [intOf]; omega
        · have hno : nxt f k (Cs f k) = none := by rw [hC, HN.out, if_neg h1, if_neg h2, if_neg h3]
          have d3 : decide (f k 0 = 3) = false := decide_eq_false h3
          have d3' : (f k 0 == 3) = false := by simp [h3]
          have HER := Lib.hid (jErr hkn hno HAT.out HJ.out)
          have HE : Hid (e = 10) := Lib.hid HER.out.1
          have HP : Hid (p = (k : Int)) := Lib.hid HER.out.2
          clear HN HAT hno HCI HC
          go_wp2_with (first
            | (go_at_call 12; refine (HOP.out _ HRB.out).mono ?_; rintro e5 w5 ⟨rfl, rfl⟩)
            | ((with_reducible refine fStore 30 w.heap.size #[.int .i64 10, .int .i64 (k : Int)] 30 #[.int .i64 0, .int .i64 0] (by kernel_rfl) (by kernel_rfl) ?_ (by kernel_rfl) (by kernel_rfl) (twoJ _ _) ?_); (exact HFW.out)))
          (try simp only [Exit.inBlock, Exit.then])
          refine bodyPost_ret (results_cell_row Tryd.results6 _ _ w.heap.size 30 #[.int .i64 10, .int .i64 (k : Int)] (0, 0) _ rfl (Blk.setRow (HFW.out) _) Tryd.underlying30 rfl (by kernel_rfl)) rfl ?_
          exact ⟨by rw [HE.out, HP.out], below_setRow (HBW.out) (Nat.le_refl _) _⟩
    · obtain rfl : n = k := by have := HKU.out.1; omega
      obtain rfl : n = K := by have := HKU.out.1; omega
      have HRA := Lib.hid (HJ.out.hA rfl)
      have HRB := Lib.hid (HJ.out.hB rfl)
      have HRC := Lib.hid (HJ.out.hC rfl)
      have hres := HJ.out.res
      rw [if_pos rfl, if_pos rfl] at hres
      have HP := Lib.hid hres.2
      have HE0 := Lib.hid hres.1
      clear HJ HKU hres hk
      generalize Cs f n = C at *
      obtain ⟨m, hm⟩ : ∃ m, C.length = m := ⟨_, rfl⟩
      have hmn : m ≤ n := by rw [← hm]; exact HCI.out.len
      have HM := Lib.hid hm
      rw [hm] at HRA HRB HRC HE0
      obtain ⟨D, hrun0, hDs, hD0⟩ := mkPtrs (nl + 1) (by omega) wr
      have hrun : (Instr.makeSlice 50 (.int .i64 ((nl : Int) + 1)) (.int .i64 ((nl : Int) + 1))).run Tryd.prog wr = .ok (.slice (some ⟨wr.heap.size, 0, none⟩) (nl + 1) (nl + 1)) (wr.alloc (.cells D 51)) := by simpa using hrun0
      clear hrun0
      have HSS0 : Hid (JSt f nl C Q (w.heap.size + 2) (w.heap.size + 1) A1 ca wr.heap.size w.heap.size (OA f C 0) (wr.alloc (.cells D 51))) := Lib.hid ⟨HFB.out.alloc _, ⟨_, HRJ.out.below ((Below.refl _ _).alloc (Nat.le_refl _) _), fun i hi => ⟨fun h => absurd h (by omega), fun ⟨k, h1, h2⟩ => absurd h2 (by simp [OA])⟩⟩, ⟨D, Blk.new _ _ _, hDs, fun k hk => by rw [hD0 (k + 1) (by omega)]; rfl⟩, fun b hb e => by
        obtain ⟨a, ha, e2⟩ := hb
        have := (HRJ.out.own.lt a ha).2
        omega⟩
      have gbc : (wr.alloc (.cells D 51)).cell? ⟨w.heap.size + 1, 0, none⟩ = some (.slice A1 m ca) := by
        obtain ⟨H, h1, _⟩ := HSS0.out.calls
        rw [h1.box.cell, hm]; rfl
      have HB0 : Hid (Below w.heap.size w (wr.alloc (.cells D 51))) := Lib.hid (hB.alloc hbz _)
      have hsl0 := HRJ.out.own.slr
      have hca := hsl0.cap
      have hca63 := hsl0.cap63
      rw [hm] at hca
      have hlyz : ((nl + 1 : Nat) : Int) = (nl : Int) + 1 := by omega
      clear hm hD0 hDs HFB HRJ hfl hsl0
      go_wp2
      clear hrun gbc hgl
      generalize hW2 : wr.alloc (.cells D 51) = W2 at *
      clear hW2
      have hwy : w.heap.size ≤ wr.heap.size := hbz
      generalize wr.heap.size = gY at *
      clear hB hbz
      go_loopw [78] (fun i wr => ∃ q : Nat, q ≤ IA ∧ i = .int .i64 q ∧ Below w.heap.size w wr ∧ Hid (JSt f nl C Q (w.heap.size + 2) (w.heap.size + 1) A1 ca gY w.heap.size (OA f C q) wr)) (fun i _ => m - (intOf i).toNat)
      case atStart => exact ⟨0, by omega, rfl, HB0.out, HSS0⟩
      case round =>
        obtain ⟨q, hq, rfl, hB, HST⟩ := hrel
        have hbz := hB.size
        obtain ⟨H, hrj, hH⟩ := HST.out.calls
        have HRJ := Lib.hid hrj
        have HHI := Lib.hid hH
        have HFB := Lib.hid HST.out.fault
        have hfl := HST.out.fault.lt
        clear hrj hH
        by_cases hqm : q < m
        · obtain ⟨g1, rfl⟩ := HRJ.out.own.addr (by rw [HM.out]; omega)
          have q1 : (q : Int) < m := by omega
          have hsl := HRJ.out.own.slr
          obtain ⟨b0, off, he0, hblt, hcell⟩ := hsl.at_ (by rw [HM.out]; omega)
          cases he0
          have c0 : wr.cell? ⟨g1, q, none⟩ = some (.pointer (some ⟨Q q, 0, none⟩)) := by simpa using hcell q _ (ptrRows_get Q (by rw [HM.out]; omega)) 0 _ rfl
          clear hsl hcell
          obtain ⟨⟨a, bb⟩, hab⟩ : ∃ x, C[q]? = some x := ⟨C[q]'(by rw [HM.out]; exact hqm), List.getElem?_eq_getElem _⟩
          have hqb := HRJ.out.each q _ hab
          have hql := hqb.lt
          have HQB := Lib.hid hqb
          obtain ⟨han, hbn0⟩ := HCI.out.bd q a bb hab
          have HAB := Lib.hid hab
          cases bb with
          | zero =>
            have hgo := fitsGo HRA.out hq hqm (by unfold errA; rw [hab])
            have HNX : Hid (OA f C (q + 1) = OA f C q) := Lib.hid (by show nxA f C (OA f C q) q = _; unfold nxA; rw [hab])
            have e10 : wr.cell? ⟨Q q, 10, none⟩ = some (.int .i64 (-1)) := by rw [hqb.cell]; rfl
            clear hqb hab
            go_wp2
            go_roundw
            case rel => exact ⟨q + 1, hgo, by go_num, hB, by rw [HNX.out]; exact HST⟩
            case measure => simp [intOf]; omega
          | succ bb =>
            have hbn : bb < n := by omega
            have hbn' : (bb : Int) < n := by omega
            have HEA : Hid (errA f g nl C (OA f C q) q = if f bb 7 < 1 ∨ (nl : Int) < f bb 7 then 7 else if ¬ dEq f g (f bb 7 - 1).toNat a bb then 13 else if 0 < OA f C q (f bb 7 - 1).toNat then 9 else 0) := Lib.hid (by unfold errA; rw [hab])
            have HNX : Hid (OA f C (q + 1) = updO (OA f C q) (f bb 7 - 1).toNat (q + 1)) := Lib.hid (by show nxA f C (OA f C q) q = _; unfold nxA; rw [hab])
            have e10 : wr.cell? ⟨Q q, 10, none⟩ = some (.int .i64 (bb : Int)) := by
              have e2 : (((bb + 1 : Nat) : Int)) - 1 = (bb : Int) := by omega
              rw [hqb.cell]
              unfold cArr
              simp [e2]
            have dbb : decide ((bb : Int) < 0) = false := by simp
            have dbb' : ¬ (bb : Int) < 0 := by omega
            obtain ⟨hth, hoq⟩ := HCI.out.ans q a bb hab
            obtain ⟨hop2, hop3, hop4⟩ := hoq
            obtain ⟨b1, off1, hA1, hb1lt, hcell1⟩ := H1.out.at_ (by omega)
            cases hA1
            have hb1w : b1 < wr.heap.size := by omega
            have v0 : wr.cell? ⟨b1, off1 + bb * 9, none⟩ = some (.int .i64 (f bb 0)) := (hB.cell (p := ⟨b1, off1 + bb * 9, none⟩) hb1lt).trans (by simpa using hcell1 bb 0 hbn (by decide))
            have v1 : wr.cell? ⟨b1, off1 + bb * 9 + 1, none⟩ = some (.int .i64 (f bb 1)) := (hB.cell (p := ⟨b1, off1 + bb * 9 + 1, none⟩) hb1lt).trans (by simpa using hcell1 bb 1 hbn (by decide))
            have v2 : wr.cell? ⟨b1, off1 + bb * 9 + 2, none⟩ = some (.int .i64 (f bb 2)) := (hB.cell (p := ⟨b1, off1 + bb * 9 + 2, none⟩) hb1lt).trans (by simpa using hcell1 bb 2 hbn (by decide))
            have v3 : wr.cell? ⟨b1, off1 + bb * 9 + 3, none⟩ = some (.int .i64 (f bb 3)) := (hB.cell (p := ⟨b1, off1 + bb * 9 + 3, none⟩) hb1lt).trans (by simpa using hcell1 bb 3 hbn (by decide))
            have v4 : wr.cell? ⟨b1, off1 + bb * 9 + 4, none⟩ = some (.int .i64 (f bb 4)) := (hB.cell (p := ⟨b1, off1 + bb * 9 + 4, none⟩) hb1lt).trans (by simpa using hcell1 bb 4 hbn (by decide))
            have v5 : wr.cell? ⟨b1, off1 + bb * 9 + 5, none⟩ = some (.int .i64 (f bb 5)) := (hB.cell (p := ⟨b1, off1 + bb * 9 + 5, none⟩) hb1lt).trans (by simpa using hcell1 bb 5 hbn (by decide))
            have v6 : wr.cell? ⟨b1, off1 + bb * 9 + 6, none⟩ = some (.int .i64 (f bb 6)) := (hB.cell (p := ⟨b1, off1 + bb * 9 + 6, none⟩) hb1lt).trans (by simpa using hcell1 bb 6 hbn (by decide))
            have v7 : wr.cell? ⟨b1, off1 + bb * 9 + 7, none⟩ = some (.int .i64 (f bb 7)) := (hB.cell (p := ⟨b1, off1 + bb * 9 + 7, none⟩) hb1lt).trans (by simpa using hcell1 bb 7 hbn (by decide))
            have v8 : wr.cell? ⟨b1, off1 + bb * 9 + 8, none⟩ = some (.int .i64 (f bb 8)) := (hB.cell (p := ⟨b1, off1 + bb * 9 + 8, none⟩) hb1lt).trans (by simpa using hcell1 bb 8 hbn (by decide))
            clear hqb hab hcell1
            have HFW := Lib.hid (HFB.out.alloc (.cells #[.int .i64 (f bb 0), .int .i64 (f bb 1), .int .i64 (f bb 2), .int .i64 (f bb 3), .int .i64 (f bb 4), .int .i64 (f bb 5), .int .i64 (f bb 6), .int .i64 (f bb 7), .int .i64 (f bb 8)] 53))
            have HBW : Hid (Below w.heap.size w (wr.alloc (.cells #[.int .i64 (f bb 0), .int .i64 (f bb 1), .int .i64 (f bb 2), .int .i64 (f bb 3), .int .i64 (f bb 4), .int .i64 (f bb 5), .int .i64 (f bb 6), .int .i64 (f bb 7), .int .i64 (f bb 8)] 53))) := Lib.hid (hB.alloc hbz _)
            by_cases hw : 1 ≤ f bb 7 ∧ f bb 7 ≤ nl
            · obtain ⟨k, hk⟩ : ∃ k : Nat, f bb 7 = (k : Int) + 1 := ⟨(f bb 7 - 1).toNat, by omega⟩
              have hkt : (f bb 7 - 1).toNat = k := by omega
              have hkl : k < nl := by omega
              have HIS : Hid (withinB ((k : Int) + 1) 1 (nl : Int) = true) := Lib.hid (by unfold withinB; rw [decide_eq_true_iff]; omega)
              rw [if_neg (by omega), hkt] at HEA
              rw [hkt] at HNX
              rw [hk] at v7 HFW HBW
              clear hw hkt hk
              obtain ⟨b2, off2, rfl, hb2lt, hcell2⟩ := H2.out.at_ (by omega)
              have hcap2 := H2.out.cap
              have hc632 := H2.out.cap63
              have hkl' : (k : Int) < nl := by omega
              have hkl2 : (k : Int) + 1 < (nl : Int) + 1 := by omega
              have hb2w : b2 < wr.heap.size := by omega
              have y0 : wr.cell? ⟨b2, off2 + k * 6, none⟩ = some (.int .i64 (g k 0)) := (hB.cell (p := ⟨b2, off2 + k * 6, none⟩) hb2lt).trans (by simpa using hcell2 k 0 hkl (by decide))
              have y1 : wr.cell? ⟨b2, off2 + k * 6 + 1, none⟩ = some (.int .i64 (g k 1)) := (hB.cell (p := ⟨b2, off2 + k * 6 + 1, none⟩) hb2lt).trans (by simpa using hcell2 k 1 hkl (by decide))
              have y2 : wr.cell? ⟨b2, off2 + k * 6 + 2, none⟩ = some (.int .i64 (g k 2)) := (hB.cell (p := ⟨b2, off2 + k * 6 + 2, none⟩) hb2lt).trans (by simpa using hcell2 k 2 hkl (by decide))
              have y3 : wr.cell? ⟨b2, off2 + k * 6 + 3, none⟩ = some (.int .i64 (g k 3)) := (hB.cell (p := ⟨b2, off2 + k * 6 + 3, none⟩) hb2lt).trans (by simpa using hcell2 k 3 hkl (by decide))
              have y4 : wr.cell? ⟨b2, off2 + k * 6 + 4, none⟩ = some (.int .i64 (g k 4)) := (hB.cell (p := ⟨b2, off2 + k * 6 + 4, none⟩) hb2lt).trans (by simpa using hcell2 k 4 hkl (by decide))
              have y5 : wr.cell? ⟨b2, off2 + k * 6 + 5, none⟩ = some (.int .i64 (g k 5)) := (hB.cell (p := ⟨b2, off2 + k * 6 + 5, none⟩) hb2lt).trans (by simpa using hcell2 k 5 hkl (by decide))
              clear hcell2
              have HFX := Lib.hid (HFW.out.alloc (.cells #[.int .i64 (g k 0), .int .i64 (g k 1), .int .i64 (g k 2), .int .i64 (g k 3), .int .i64 (g k 4), .int .i64 (g k 5)] 46))
              have HBX := Lib.hid (HBW.out.alloc HBW.out.size (.cells #[.int .i64 (g k 0), .int .i64 (g k 1), .int .i64 (g k 2), .int .i64 (g k 3), .int .i64 (g k 4), .int .i64 (g k 5)] 46))
              by_cases hde : dEq f g k a bb
              · obtain ⟨z0, z1, z2, z3, z4, z5⟩ := hde
                have heq := eqOp (g k 1) (g k 2) (g k 3) (f bb 2) (f bb 3) (f bb 4)
                have heq2 := eqAns (g k 4) (g k 5) (f bb 5) (f bb 6)
                have hd1 : decide (g k 1 = f bb 2 ∧ g k 2 = f bb 3 ∧ g k 3 = f bb 4) = true := decide_eq_true ⟨z1.trans hop2, z2.trans hop3, z3.trans hop4⟩
                have hd2 : decide (g k 4 = f bb 5 ∧ g k 5 = f bb 6) = true := decide_eq_true ⟨z4, z5⟩
                have zz : g k 0 = f bb 1 := z0.trans hth.symm
                have d0 : decide (g k 0 = f bb 1) = true := decide_eq_true zz
                have d0' : (g k 0 == f bb 1) = true := by simp [zz]
                have d0n : (g k 0 != f bb 1) = false := by simp [zz]
                simp only [hd1] at heq
                simp only [hd2] at heq2
                rw [if_neg (fun h => h ⟨z0, z1, z2, z3, z4, z5⟩)] at HEA
                have cY := HST.out.by_.cell hkl
                have fY := HST.out.by_.frozen (k + 1)
                have hyl := HST.out.by_.lt
                clear hd1 hd2 z0 z1 z2 z3 z4 z5 zz hth hop2 hop3 hop4
                by_cases hO : 0 < OA f C q k
                · have HE := Lib.hid (fitsStop HRA.out HE0.out hq hqm (x := 9) (by decide) (by rw [HEA.out, if_pos hO]))
                  rw [pv_pos hO] at cY
                  clear HEA HNX hO
                  go_wp2_with (first
                    | (go_at_call 13; refine (within_any _ _ _ _).mono ?_; rintro e5 w5 ⟨rfl, rfl⟩; rw [HIS.out])
                    | (go_at_call 14; refine (bareJ 9 _).mono ?_; rintro e6 w6 ⟨rfl, hb6⟩; have HF6 := Lib.hid (HFX.out.below hb6 HFX.out.lt); have HB6 := Lib.hid hb6; clear hb6)
                    | ((with_reducible refine fStore 30 w.heap.size #[.int .i64 9, .int .i64 (-1)] 30 #[.int .i64 0, .int .i64 0] (by kernel_rfl) (by kernel_rfl) ?_ (by kernel_rfl) (by kernel_rfl) (twoJ _ _) ?_); (exact HF6.out)))
                  (try simp only [Exit.inBlock, Exit.then])
                  refine bodyPost_ret (results_cell_row Tryd.results6 _ _ w.heap.size 30 #[.int .i64 9, .int .i64 (-1)] (0, 0) _ rfl (Blk.setRow (HF6.out) _) Tryd.underlying30 rfl (by kernel_rfl)) rfl ?_
                  exact ⟨by rw [HE.out, HP.out], below_setRow (HBX.out.trans (HB6.out.mono HBX.out.size)) (Nat.le_refl _) _⟩
                · have hgo := fitsGo HRA.out hq hqm (by rw [HEA.out, if_neg hO])
                  have hO0 : OA f C q k = 0 := by omega
                  have HO0 := Lib.hid hO0
                  rw [hO0, pv_zero] at cY
                  clear HEA hO hO0
                  have HB3 : Hid (Below wr.heap.size wr ((wr.alloc (.cells #[.int .i64 (f bb 0), .int .i64 (f bb 1), .int .i64 (f bb 2), .int .i64 (f bb 3), .int .i64 (f bb 4), .int .i64 (f bb 5), .int .i64 (f bb 6), .int .i64 ((k : Int) + 1), .int .i64 (f bb 8)] 53)).alloc (.cells #[.int .i64 (g k 0), .int .i64 (g k 1), .int .i64 (g k 2), .int .i64 (g k 3), .int .i64 (g k 4), .int .i64 (g k 5)] 46))) := Lib.hid (((Below.refl _ _).alloc (Nat.le_refl _) _).alloc (by simp) _)
                  have HE3 : Hid (Blk ((wr.alloc (.cells #[.int .i64 (f bb 0), .int .i64 (f bb 1), .int .i64 (f bb 2), .int .i64 (f bb 3), .int .i64 (f bb 4), .int .i64 (f bb 5), .int .i64 (f bb 6), .int .i64 ((k : Int) + 1), .int .i64 (f bb 8)] 53)).alloc (.cells #[.int .i64 (g k 0), .int .i64 (g k 1), .int .i64 (g k 2), .int .i64 (g k 3), .int .i64 (g k 4), .int .i64 (g k 5)] 46)) wr.heap.size 53 #[.int .i64 (f bb 0), .int .i64 (f bb 1), .int .i64 (f bb 2), .int .i64 (f bb 3), .int .i64 (f bb 4), .int .i64 (f bb 5), .int .i64 (f bb 6), .int .i64 ((k : Int) + 1), .int .i64 (f bb 8)]) := Lib.hid ((Blk.new _ _ _).alloc _)
                  have HQ3 := Lib.hid (HQB.out.below HB3.out hql)
                  have HY3 := Lib.hid ((HB3.out.cell (p := ⟨gY, k + 1, none⟩) hyl).trans cY)
                  have HG3 := Lib.hid ((HB3.out.frozen (p := ⟨gY, k + 1, none⟩) hyl).trans fY)
                  have hyq := HST.out.yQ (k := q) (by rw [HM.out]; exact hqm)
                  go_wp2_with (go_at_call 13; refine (within_any _ _ _ _).mono ?_; rintro e5 w5 ⟨rfl, rfl⟩; rw [HIS.out])
                  generalize ((wr.alloc (.cells #[.int .i64 (f bb 0), .int .i64 (f bb 1), .int .i64 (f bb 2), .int .i64 (f bb 3), .int .i64 (f bb 4), .int .i64 (f bb 5), .int .i64 (f bb 6), .int .i64 ((k : Int) + 1), .int .i64 (f bb 8)] 53)).alloc (.cells #[.int .i64 (g k 0), .int .i64 (g k 1), .int .i64 (g k 2), .int .i64 (g k 3), .int .i64 (g k 4), .int .i64 (g k 5)] 46)) = W3 at *
                  have e7 : W3.cell? ⟨wr.heap.size, 7, none⟩ = some (.int .i64 ((k : Int) + 1)) := by rw [HE3.out.cell]; rfl
                  have e11 : W3.cell? ⟨Q q, 11, none⟩ = some (.int .i64 (H q)) := by rw [HQ3.out.cell]; rfl
                  have f11 := HQ3.out.frozen 11
                  have cY3 := HY3.out
                  have fY3 := HG3.out
                  have hl1 := HE3.out.lt
                  have hl2 := HQ3.out.lt
                  have hl3 : gY < W3.heap.size := Nat.lt_of_lt_of_le hyl HB3.out.size
                  have hne1 : wr.heap.size ≠ gY := by omega
                  have hne2 : wr.heap.size ≠ Q q := by omega
                  clear cY fY c0 e10 heq heq2
                  clear v0 v1 v2 v3 v4 v5 v6 v7 v8 y0 y1 y2 y3 y4 y5
                  go_region
                  all_goals
                    go_wp2
                    go_roundw
                    case rel =>
                      have hqh := HRJ.out.high q (by rw [HM.out]; exact hqm)
                      refine ⟨q + 1, hgo, by go_num, ((((hB.trans (HB3.out.mono hbz)).setCell (p := ⟨gY, k + 1, none⟩) hwy _).setCell (p := ⟨Q q, 11, none⟩) (by show w.heap.size ≤ Q q; omega) _)).drew, Lib.hid ?_⟩
                      rw [HNX.out]
                      exact JSt.below ((HST.out.below HB3.out).hit hkl (by rw [HM.out]; exact hqm) HO0.out) (Below.refl _ _).drew
                    case measure => simp [intOf]; omega
              · have HE := Lib.hid (fitsStop HRA.out HE0.out hq hqm (x := 13) (by decide) (by rw [HEA.out, if_pos hde]))
                clear HEA HNX
                by_cases z0 : g k 0 = f bb 1
                · have d0 : decide (g k 0 = f bb 1) = true := decide_eq_true z0
                  have d0' : (g k 0 == f bb 1) = true := by simp [z0]
                  have d0n : (g k 0 != f bb 1) = false := by simp [z0]
                  have heq := eqOp (g k 1) (g k 2) (g k 3) (f bb 2) (f bb 3) (f bb 4)
                  have heq2 := eqAns (g k 4) (g k 5) (f bb 5) (f bb 6)
                  by_cases z1 : g k 1 = f bb 2 ∧ g k 2 = f bb 3 ∧ g k 3 = f bb 4
                  · have hd1 : decide (g k 1 = f bb 2 ∧ g k 2 = f bb 3 ∧ g k 3 = f bb 4) = true := decide_eq_true z1
                    have hd2 : decide (g k 4 = f bb 5 ∧ g k 5 = f bb 6) = false := decide_eq_false fun h => hde ⟨z0.trans hth, z1.1.trans hop2.symm, z1.2.1.trans hop3.symm, z1.2.2.trans hop4.symm, h.1, h.2⟩
                    simp only [hd1] at heq
                    simp only [hd2] at heq2
                    clear hd1 hd2 z0 z1 hde hth hop2 hop3 hop4
                    go_wp2_with (first
                      | (go_at_call 13; refine (within_any _ _ _ _).mono ?_; rintro e5 w5 ⟨rfl, rfl⟩; rw [HIS.out])
                      | (go_at_call 14; refine (bareJ 13 _).mono ?_; rintro e6 w6 ⟨rfl, hb6⟩; have HF6 := Lib.hid (HFX.out.below hb6 HFX.out.lt); have HB6 := Lib.hid hb6; clear hb6)
                      | ((with_reducible refine fStore 30 w.heap.size #[.int .i64 13, .int .i64 (-1)] 30 #[.int .i64 0, .int .i64 0] (by kernel_rfl) (by kernel_rfl) ?_ (by kernel_rfl) (by kernel_rfl) (twoJ _ _) ?_); (exact HF6.out)))
                    (try simp only [Exit.inBlock, Exit.then])
                    refine bodyPost_ret (results_cell_row Tryd.results6 _ _ w.heap.size 30 #[.int .i64 13, .int .i64 (-1)] (0, 0) _ rfl (Blk.setRow (HF6.out) _) Tryd.underlying30 rfl (by kernel_rfl)) rfl ?_
                    exact ⟨by rw [HE.out, HP.out], below_setRow (HBX.out.trans (HB6.out.mono HBX.out.size)) (Nat.le_refl _) _⟩
                  · have hd1 : decide (g k 1 = f bb 2 ∧ g k 2 = f bb 3 ∧ g k 3 = f bb 4) = false := decide_eq_false z1
                    simp only [hd1] at heq
                    clear hd1 heq2 z0 z1 hde hth hop2 hop3 hop4
                    go_wp2_with (first
                      | (go_at_call 13; refine (within_any _ _ _ _).mono ?_; rintro e5 w5 ⟨rfl, rfl⟩; rw [HIS.out])
                      | (go_at_call 14; refine (bareJ 13 _).mono ?_; rintro e6 w6 ⟨rfl, hb6⟩; have HF6 := Lib.hid (HFX.out.below hb6 HFX.out.lt); have HB6 := Lib.hid hb6; clear hb6)
                      | ((with_reducible refine fStore 30 w.heap.size #[.int .i64 13, .int .i64 (-1)] 30 #[.int .i64 0, .int .i64 0] (by kernel_rfl) (by kernel_rfl) ?_ (by kernel_rfl) (by kernel_rfl) (twoJ _ _) ?_); (exact HF6.out)))
                    (try simp only [Exit.inBlock, Exit.then])
                    refine bodyPost_ret (results_cell_row Tryd.results6 _ _ w.heap.size 30 #[.int .i64 13, .int .i64 (-1)] (0, 0) _ rfl (Blk.setRow (HF6.out) _) Tryd.underlying30 rfl (by kernel_rfl)) rfl ?_
                    exact ⟨by rw [HE.out, HP.out], below_setRow (HBX.out.trans (HB6.out.mono HBX.out.size)) (Nat.le_refl _) _⟩
                · have d0 : decide (g k 0 = f bb 1) = false := decide_eq_false z0
                  have d0' : (g k 0 == f bb 1) = false := by simp [z0]
                  have d0n : (g k 0 != f bb 1) = true := by simp [z0]
                  clear z0 hde hth hop2 hop3 hop4
                  go_wp2_with (first
                    | (go_at_call 13; refine (within_any _ _ _ _).mono ?_; rintro e5 w5 ⟨rfl, rfl⟩; rw [HIS.out])
                    | (go_at_call 14; refine (bareJ 13 _).mono ?_; rintro e6 w6 ⟨rfl, hb6⟩; have HF6 := Lib.hid (HFX.out.below hb6 HFX.out.lt); have HB6 := Lib.hid hb6; clear hb6)
                    | ((with_reducible refine fStore 30 w.heap.size #[.int .i64 13, .int .i64 (-1)] 30 #[.int .i64 0, .int .i64 0] (by kernel_rfl) (by kernel_rfl) ?_ (by kernel_rfl) (by kernel_rfl) (twoJ _ _) ?_); (exact HF6.out)))
                  (try simp only [Exit.inBlock, Exit.then])
                  refine bodyPost_ret (results_cell_row Tryd.results6 _ _ w.heap.size 30 #[.int .i64 13, .int .i64 (-1)] (0, 0) _ rfl (Blk.setRow (HF6.out) _) Tryd.underlying30 rfl (by kernel_rfl)) rfl ?_
                  exact ⟨by rw [HE.out, HP.out], below_setRow (HBX.out.trans (HB6.out.mono HBX.out.size)) (Nat.le_refl _) _⟩
            · have HE := Lib.hid (fitsStop HRA.out HE0.out hq hqm (x := 7) (by decide) (by rw [HEA.out, if_pos (by omega)]))
              have HIS : Hid (withinB (f bb 7) 1 (nl : Int) = false) := Lib.hid (by unfold withinB; rw [decide_eq_false_iff_not]; omega)
              clear hw HEA HNX hth hop2 hop3 hop4
              go_wp2_with (first
                | (go_at_call 13; refine (within_any _ _ _ _).mono ?_; rintro e5 w5 ⟨rfl, rfl⟩; rw [HIS.out])
                | (go_at_call 14; refine (bareJ 7 _).mono ?_; rintro e6 w6 ⟨rfl, hb6⟩; have HF6 := Lib.hid (HFW.out.below hb6 HFW.out.lt); have HB6 := Lib.hid hb6; clear hb6)
                | ((with_reducible refine fStore 30 w.heap.size #[.int .i64 7, .int .i64 (-1)] 30 #[.int .i64 0, .int .i64 0] (by kernel_rfl) (by kernel_rfl) ?_ (by kernel_rfl) (by kernel_rfl) (twoJ _ _) ?_); (exact HF6.out)))
              (try simp only [Exit.inBlock, Exit.then])
              refine bodyPost_ret (results_cell_row Tryd.results6 _ _ w.heap.size 30 #[.int .i64 7, .int .i64 (-1)] (0, 0) _ rfl (Blk.setRow (HF6.out) _) Tryd.underlying30 rfl (by kernel_rfl)) rfl ?_
              exact ⟨by rw [HE.out, HP.out], below_setRow (HBW.out.trans (HB6.out.mono HBW.out.size)) (Nat.le_refl _) _⟩
        · obtain rfl : m = q := by have := HRA.out.1; omega
          obtain rfl : m = IA := by have := HRA.out.1; omega
          have HRB2 := Lib.hid (HRB.out rfl)
          have HRC2 := Lib.hid (HRC.out rfl)
          rw [if_pos rfl] at HE0
          have HOB : Hid (∀ k, OBd m nl (OB f g C (OA f C m) k)) := Lib.hid (ob_bd HM.out (oa_bd (g := g) HM.out m))
          generalize OA f C m = O0 at *
          clear HRA HRB HRC hq hqm HRJ HHI HFB hfl HSS0 HB0
          go_wp2
          go_loopw [15] (fun i wr => ∃ q : Nat, q ≤ KB ∧ i = .int .i64 ((q : Int) + 1) ∧ Below w.heap.size w wr ∧ Hid (JSt f nl C Q (w.heap.size + 2) (w.heap.size + 1) A1 ca gY w.heap.size (OB f g C O0 q) wr)) (fun i _ => nl + 1 - (intOf i).toNat)
          case atStart => exact ⟨0, by omega, by simp, hB, HST⟩
          case round =>
            clear hB hbz HST
            obtain ⟨q, hq, rfl, hB, HST⟩ := hrel
            have hbz := hB.size
            obtain ⟨H, hrj, hH⟩ := HST.out.calls
            have HRJ := Lib.hid hrj
            have HHI := Lib.hid hH
            have HFB := Lib.hid HST.out.fault
            have hfl := HST.out.fault.lt
            have hyl := HST.out.by_.lt
            clear hrj hH
            by_cases hqm : q < nl
            · have hqn1 : (q : Int) + 1 ≤ nl := by omega
              have hqn2 : (q : Int) < nl := by omega
              have hqn3 : (q : Int) + 1 < (nl : Int) + 1 := by omega
              obtain ⟨b2, off2, rfl, hb2lt, hcell2⟩ := H2.out.at_ (by omega)
              have hcap2 := H2.out.cap
              have hc632 := H2.out.cap63
              have hb2w : b2 < wr.heap.size := by omega
              have y0 : wr.cell? ⟨b2, off2 + q * 6, none⟩ = some (.int .i64 (g q 0)) := (hB.cell (p := ⟨b2, off2 + q * 6, none⟩) hb2lt).trans (by simpa using hcell2 q 0 hqm (by decide))
              have y1 : wr.cell? ⟨b2, off2 + q * 6 + 1, none⟩ = some (.int .i64 (g q 1)) := (hB.cell (p := ⟨b2, off2 + q * 6 + 1, none⟩) hb2lt).trans (by simpa using hcell2 q 1 hqm (by decide))
              have y2 : wr.cell? ⟨b2, off2 + q * 6 + 2, none⟩ = some (.int .i64 (g q 2)) := (hB.cell (p := ⟨b2, off2 + q * 6 + 2, none⟩) hb2lt).trans (by simpa using hcell2 q 2 hqm (by decide))
              have y3 : wr.cell? ⟨b2, off2 + q * 6 + 3, none⟩ = some (.int .i64 (g q 3)) := (hB.cell (p := ⟨b2, off2 + q * 6 + 3, none⟩) hb2lt).trans (by simpa using hcell2 q 3 hqm (by decide))
              have y4 : wr.cell? ⟨b2, off2 + q * 6 + 4, none⟩ = some (.int .i64 (g q 4)) := (hB.cell (p := ⟨b2, off2 + q * 6 + 4, none⟩) hb2lt).trans (by simpa using hcell2 q 4 hqm (by decide))
              have y5 : wr.cell? ⟨b2, off2 + q * 6 + 5, none⟩ = some (.int .i64 (g q 5)) := (hB.cell (p := ⟨b2, off2 + q * 6 + 5, none⟩) hb2lt).trans (by simpa using hcell2 q 5 hqm (by decide))
              have cY := HST.out.by_.cell hqm
              have fY := HST.out.by_.frozen (q + 1)
              have hat := HRB2.out.at hq hqm
              clear hcell2
              by_cases hO : 0 < OB f g C O0 q q
              · have hgo : q < KB := by
                  rcases hat with x | x
                  · exact x.2
                  · exact absurd (.inl hO) x.1
                have HNX : Hid (OB f g C O0 (q + 1) = OB f g C O0 q) := Lib.hid (by show nxB f g C (OB f g C O0 q) q = _; unfold nxB; rw [if_pos hO])
                rw [pv_pos hO] at cY
                clear hat hO
                go_wp2
                go_roundw
                case rel => exact ⟨q + 1, hgo, by go_num, hB, by rw [HNX.out]; exact HST⟩
                case measure => simp [intOf]; omega
              · have hO0 : OB f g C O0 q q = 0 := by omega
                have HO0 := Lib.hid hO0
                rw [hO0, pv_zero] at cY
                have HRW := Lib.hid (HRJ.out.below ((Below.refl _ wr).alloc (Nat.le_refl _) (.cells #[.int .i64 (g q 0), .int .i64 (g q 1), .int .i64 (g q 2), .int .i64 (g q 3), .int .i64 (g q 4), .int .i64 (g q 5)] 46)))
                have HFW := Lib.hid (HFB.out.alloc (.cells #[.int .i64 (g q 0), .int .i64 (g q 1), .int .i64 (g q 2), .int .i64 (g q 3), .int .i64 (g q 4), .int .i64 (g q 5)] 46))
                have HBW : Hid (Below w.heap.size w (wr.alloc (.cells #[.int .i64 (g q 0), .int .i64 (g q 1), .int .i64 (g q 2), .int .i64 (g q 3), .int .i64 (g q 4), .int .i64 (g q 5)] 46))) := Lib.hid (hB.alloc hbz _)
                have stop8 : fndB f g C q = none → e = 8 := fun hf => by
                  rcases hat with x | x
                  · rcases x.1 with x | ⟨i, hi, _⟩
                    · exact absurd x hO
                    · rw [hf] at hi; cases hi
                  · rw [HE0.out, if_neg (by omega)]
                cases ho : opn f C (g q 0) with
                | none =>
                  have HE : Hid (e = 8) := Lib.hid (stop8 (by unfold fndB; rw [ho]))
                  have HOP := Lib.hid (fun W h => openOf_any f n C Q H (w.heap.size + 2) (w.heap.size + 1) A1 ca (g q 0) (.pointer none) W h HCI.out (by omega) (by rw [ho]))
                  clear hat hO hO0 stop8
                  go_wp2_with (go_at_call 12; refine (HOP.out _ HRW.out).mono ?_; rintro e5 w5 ⟨rfl, rfl⟩)
                  go_quiet (fail)
                  have HFD : Hid (Blk ((wr.alloc (.cells #[.int .i64 (g q 0), .int .i64 (g q 1), .int .i64 (g q 2), .int .i64 (g q 3), .int .i64 (g q 4), .int .i64 (g q 5)] 46)).drewN nq) w.heap.size 30 #[.int .i64 0, .int .i64 0]) := Lib.hid (HFW.out.drewN nq)
                  have HBD : Hid (Below w.heap.size w ((wr.alloc (.cells #[.int .i64 (g q 0), .int .i64 (g q 1), .int .i64 (g q 2), .int .i64 (g q 3), .int .i64 (g q 4), .int .i64 (g q 5)] 46)).drewN nq)) := Lib.hid (below_drewN HBW.out nq)
                  go_wp2_with (first
                    | (go_at_call 14; refine (bareJ 8 _).mono ?_; rintro e6 w6 ⟨rfl, hb6⟩; have HF6 := Lib.hid (HFD.out.below hb6 HFD.out.lt); have HB6 := Lib.hid hb6; clear hb6)
                    | ((with_reducible refine fStore 30 w.heap.size #[.int .i64 8, .int .i64 (-1)] 30 #[.int .i64 0, .int .i64 0] (by kernel_rfl) (by kernel_rfl) ?_ (by kernel_rfl) (by kernel_rfl) (twoJ _ _) ?_); (exact HF6.out)))
                  (try simp only [Exit.inBlock, Exit.then])
                  refine bodyPost_ret (results_cell_row Tryd.results6 _ _ w.heap.size 30 #[.int .i64 8, .int .i64 (-1)] (0, 0) _ rfl (Blk.setRow (HF6.out) _) Tryd.underlying30 rfl (by kernel_rfl)) rfl ?_
                  exact ⟨by rw [HE.out, HP.out], below_setRow (HBD.out.trans (HB6.out.mono HBD.out.size)) (Nat.le_refl _) _⟩
                | some i =>
                  have HOP := Lib.hid (fun W h => openOf_any f n C Q H (w.heap.size + 2) (w.heap.size + 1) A1 ca (g q 0) (.pointer (some ⟨Q i, 0, none⟩)) W h HCI.out (by omega) (by rw [ho]))
                  obtain ⟨him, a, hia, hta⟩ := opn_some ho
                  have hqb := HRJ.out.each i _ hia
                  have hql := hqb.lt
                  have HQB := Lib.hid hqb
                  have hqw := hqb.alloc (.cells #[.int .i64 (g q 0), .int .i64 (g q 1), .int .i64 (g q 2), .int .i64 (g q 3), .int .i64 (g q 4), .int .i64 (g q 5)] 46)
                  have e2 : (wr.alloc (.cells #[.int .i64 (g q 0), .int .i64 (g q 1), .int .i64 (g q 2), .int .i64 (g q 3), .int .i64 (g q 4), .int .i64 (g q 5)] 46)).cell? ⟨Q i, 2, none⟩ = some (.int .i64 (f a 2)) := by rw [hqw.cell]; rfl
                  have e3 : (wr.alloc (.cells #[.int .i64 (g q 0), .int .i64 (g q 1), .int .i64 (g q 2), .int .i64 (g q 3), .int .i64 (g q 4), .int .i64 (g q 5)] 46)).cell? ⟨Q i, 3, none⟩ = some (.int .i64 (f a 3)) := by rw [hqw.cell]; rfl
                  have e4 : (wr.alloc (.cells #[.int .i64 (g q 0), .int .i64 (g q 1), .int .i64 (g q 2), .int .i64 (g q 3), .int .i64 (g q 4), .int .i64 (g q 5)] 46)).cell? ⟨Q i, 4, none⟩ = some (.int .i64 (f a 4)) := by rw [hqw.cell]; rfl
                  have e11 : (wr.alloc (.cells #[.int .i64 (g q 0), .int .i64 (g q 1), .int .i64 (g q 2), .int .i64 (g q 3), .int .i64 (g q 4), .int .i64 (g q 5)] 46)).cell? ⟨Q i, 11, none⟩ = some (.int .i64 (H i)) := by rw [hqw.cell]; rfl
                  have heq := eqOp (f a 2) (f a 3) (f a 4) (g q 1) (g q 2) (g q 3)
                  clear hqb hqw
                  by_cases hop : f a 2 = g q 1 ∧ f a 3 = g q 2 ∧ f a 4 = g q 3
                  · have hf : fndB f g C q = some i := by unfold fndB; rw [ho]; dsimp only; rw [hia]; dsimp only; rw [if_pos hop]
                    have hdd : decide (f a 2 = g q 1 ∧ f a 3 = g q 2 ∧ f a 4 = g q 3) = true := decide_eq_true hop
                    simp only [hdd] at heq
                    by_cases hh : 0 < H i
                    · have HE : Hid (e = 8) := Lib.hid (by
                        rcases hat with x | x
                        · rcases x.1 with x | ⟨i', hi, hn'⟩
                          · exact absurd x hO
                          · rw [hf] at hi; cases hi; exact absurd ((HHI.out i him).1 hh) hn'
                        · rw [HE0.out, if_neg (by omega)])
                      have dh : decide (0 < H i) = true := decide_eq_true hh
                      clear hat hO hO0 stop8 hdd hop hh hf hia hta
                      go_wp2_with (go_at_call 12; refine (HOP.out _ HRW.out).mono ?_; rintro e5 w5 ⟨rfl, rfl⟩)
                      go_quiet (fail)
                      have HFD : Hid (Blk ((wr.alloc (.cells #[.int .i64 (g q 0), .int .i64 (g q 1), .int .i64 (g q 2), .int .i64 (g q 3), .int .i64 (g q 4), .int .i64 (g q 5)] 46)).drewN nq) w.heap.size 30 #[.int .i64 0, .int .i64 0]) := Lib.hid (HFW.out.drewN nq)
                      have HBD : Hid (Below w.heap.size w ((wr.alloc (.cells #[.int .i64 (g q 0), .int .i64 (g q 1), .int .i64 (g q 2), .int .i64 (g q 3), .int .i64 (g q 4), .int .i64 (g q 5)] 46)).drewN nq)) := Lib.hid (below_drewN HBW.out nq)
                      go_wp2_with (first
                        | (go_at_call 14; refine (bareJ 8 _).mono ?_; rintro e6 w6 ⟨rfl, hb6⟩; have HF6 := Lib.hid (HFD.out.below hb6 HFD.out.lt); have HB6 := Lib.hid hb6; clear hb6)
                        | ((with_reducible refine fStore 30 w.heap.size #[.int .i64 8, .int .i64 (-1)] 30 #[.int .i64 0, .int .i64 0] (by kernel_rfl) (by kernel_rfl) ?_ (by kernel_rfl) (by kernel_rfl) (twoJ _ _) ?_); (exact HF6.out)))
                      (try simp only [Exit.inBlock, Exit.then])
                      refine bodyPost_ret (results_cell_row Tryd.results6 _ _ w.heap.size 30 #[.int .i64 8, .int .i64 (-1)] (0, 0) _ rfl (Blk.setRow (HF6.out) _) Tryd.underlying30 rfl (by kernel_rfl)) rfl ?_
                      exact ⟨by rw [HE.out, HP.out], below_setRow (HBD.out.trans (HB6.out.mono HBD.out.size)) (Nat.le_refl _) _⟩
                    · have hnu : ¬ used (OB f g C O0 q) nl i := fun x => hh ((HHI.out i him).2 x)
                      have hgo : q < KB := by
                        rcases hat with x | x
                        · exact x.2
                        · exact absurd (.inr ⟨i, hf, hnu⟩) x.1
                      have HNX : Hid (OB f g C O0 (q + 1) = updO (OB f g C O0 q) q (i + 1)) := Lib.hid (by show nxB f g C (OB f g C O0 q) q = _; unfold nxB; rw [if_neg hO, hf])
                      have dh : decide (0 < H i) = false := decide_eq_false hh
                      clear hat hO hO0 stop8 hdd hop hh hf hia hta hnu
                      have HB3 : Hid (Below wr.heap.size wr (wr.alloc (.cells #[.int .i64 (g q 0), .int .i64 (g q 1), .int .i64 (g q 2), .int .i64 (g q 3), .int .i64 (g q 4), .int .i64 (g q 5)] 46))) := Lib.hid ((Below.refl _ _).alloc (Nat.le_refl _) _)
                      have HYL := Lib.hid hyl
                      go_wp2_with (go_at_call 12; refine (HOP.out _ HRW.out).mono ?_; rintro e5 w5 ⟨rfl, rfl⟩)
                      go_quiet (fail)
                      clear heq e2 e3 e4
                      have HB4 : Hid (Below wr.heap.size wr ((wr.alloc (.cells #[.int .i64 (g q 0), .int .i64 (g q 1), .int .i64 (g q 2), .int .i64 (g q 3), .int .i64 (g q 4), .int .i64 (g q 5)] 46)).drewN nq)) := Lib.hid (below_drewN HB3.out nq)
                      have e11' : ((wr.alloc (.cells #[.int .i64 (g q 0), .int .i64 (g q 1), .int .i64 (g q 2), .int .i64 (g q 3), .int .i64 (g q 4), .int .i64 (g q 5)] 46)).drewN nq).cell? ⟨Q i, 11, none⟩ = some (.int .i64 (H i)) := by rw [(HQB.out.below HB4.out hql).cell]; rfl
                      have f11' := (HQB.out.below HB4.out hql).frozen 11
                      have cY3 := (HB4.out.cell (p := ⟨gY, q + 1, none⟩) hyl).trans cY
                      have fY3 := (HB4.out.frozen (p := ⟨gY, q + 1, none⟩) hyl).trans fY
                      clear e11 cY fY
                      generalize ((wr.alloc (.cells #[.int .i64 (g q 0), .int .i64 (g q 1), .int .i64 (g q 2), .int .i64 (g q 3), .int .i64 (g q 4), .int .i64 (g q 5)] 46)).drewN nq) = W3 at *
                      have hyq := HST.out.yQ (k := i) him
                      have hl2 : Q i < W3.heap.size := Nat.lt_of_lt_of_le hql HB4.out.size
                      have hl3 : gY < W3.heap.size := Nat.lt_of_lt_of_le hyl HB4.out.size
                      go_wp2
                      go_roundw
                      case rel =>
                        have hqh := HRJ.out.high i him
                        refine ⟨q + 1, hgo, by go_num, (((hB.trans (HB4.out.mono hbz)).setCell (p := ⟨gY, q + 1, none⟩) hwy _).setCell (p := ⟨Q i, 11, none⟩) (by show w.heap.size ≤ Q i; omega) _), Lib.hid ?_⟩
                        rw [HNX.out]
                        exact (HST.out.below HB4.out).hit hqm him HO0.out
                      case measure => simp [intOf]; omega
                  · have HE : Hid (e = 8) := Lib.hid (stop8 (by unfold fndB; rw [ho]; dsimp only; rw [hia]; dsimp only; rw [if_neg hop]))
                    have hdd : decide (f a 2 = g q 1 ∧ f a 3 = g q 2 ∧ f a 4 = g q 3) = false := decide_eq_false hop
                    simp only [hdd] at heq
                    clear hat hO hO0 stop8 hdd hop hia hta
                    go_wp2_with (go_at_call 12; refine (HOP.out _ HRW.out).mono ?_; rintro e5 w5 ⟨rfl, rfl⟩)
                    go_quiet (fail)
                    have HFD : Hid (Blk ((wr.alloc (.cells #[.int .i64 (g q 0), .int .i64 (g q 1), .int .i64 (g q 2), .int .i64 (g q 3), .int .i64 (g q 4), .int .i64 (g q 5)] 46)).drewN nq) w.heap.size 30 #[.int .i64 0, .int .i64 0]) := Lib.hid (HFW.out.drewN nq)
                    have HBD : Hid (Below w.heap.size w ((wr.alloc (.cells #[.int .i64 (g q 0), .int .i64 (g q 1), .int .i64 (g q 2), .int .i64 (g q 3), .int .i64 (g q 4), .int .i64 (g q 5)] 46)).drewN nq)) := Lib.hid (below_drewN HBW.out nq)
                    go_wp2_with (first
                      | (go_at_call 14; refine (bareJ 8 _).mono ?_; rintro e6 w6 ⟨rfl, hb6⟩; have HF6 := Lib.hid (HFD.out.below hb6 HFD.out.lt); have HB6 := Lib.hid hb6; clear hb6)
                      | ((with_reducible refine fStore 30 w.heap.size #[.int .i64 8, .int .i64 (-1)] 30 #[.int .i64 0, .int .i64 0] (by kernel_rfl) (by kernel_rfl) ?_ (by kernel_rfl) (by kernel_rfl) (twoJ _ _) ?_); (exact HF6.out)))
                    (try simp only [Exit.inBlock, Exit.then])
                    refine bodyPost_ret (results_cell_row Tryd.results6 _ _ w.heap.size 30 #[.int .i64 8, .int .i64 (-1)] (0, 0) _ rfl (Blk.setRow (HF6.out) _) Tryd.underlying30 rfl (by kernel_rfl)) rfl ?_
                    exact ⟨by rw [HE.out, HP.out], below_setRow (HBD.out.trans (HB6.out.mono HBD.out.size)) (Nat.le_refl _) _⟩
            · obtain rfl : nl = q := by have := HRB2.out.1; omega
              obtain rfl : nl = KB := by have := HRB2.out.1; omega
              have HE1 : Hid (e = if b = true then 6 else 0) := Lib.hid (by rw [HE0.out, if_pos rfl])
              have HRC3 := Lib.hid (HRC2.out rfl)
              have HFU : Hid (∀ k, k < nl → 0 < OB f g C O0 nl k) := Lib.hid (ob_full nl HRB2.out.2.1)
              have HBD : Hid (∀ k, k < nl → OB f g C O0 nl k ≤ m) := Lib.hid (HOB.out nl)
              generalize OB f g C O0 nl = O at *
              clear HRB2 HRC2 HOB HE0 hq hqm HHI hyl hfl
              obtain ⟨W4, hW4⟩ : ∃ x, x = wr := ⟨_, rfl⟩
              rw [← hW4] at HST HRJ HFB hB
              have HS4 := HST
              have HB4 := Lib.hid hB
              have HF4 := HFB
              have HR4 := HRJ
              have hz4 := hB.size
              have hfl4 := HST.out.fault.lt
              have hyl4 := HST.out.by_.lt
              clear HST HRJ HFB hB hbz
              go_wp2
              go_loopw [18] (fun i wr => ∃ j : Nat, j ≤ nl ∧ i = .int .i64 ((j : Int) + 1) ∧ Below W4.heap.size W4 wr ∧ Hid (∀ j' k', j' < j → j' < k' → k' < nl → ¬ badC C O j' k')) (fun i _ => nl + 1 - (intOf i).toNat)
              case atStart => exact ⟨0, by omega, by simp, by rw [hW4]; exact Below.refl _ _, Lib.hid fun j' k' h => absurd h (by omega)⟩
              case round =>
                clear hW4
                obtain ⟨j, hj, rfl, hB, HNB⟩ := hrel
                have hbz := hB.size
                by_cases hjn : j < nl
                · have hjn1 : (j : Int) + 1 ≤ nl := by omega
                  go_wp2
                  go_loopw [19] (fun i wr => ∃ k : Nat, j < k ∧ k ≤ nl ∧ i = .int .i64 ((k : Int) + 1) ∧ Below W4.heap.size W4 wr ∧ Hid (∀ k', j < k' → k' < k → ¬ badC C O j k')) (fun i _ => nl + 1 - (intOf i).toNat)
                  case atStart => exact ⟨j + 1, by omega, by omega, by go_num, hB, Lib.hid fun k' h1 h2 => absurd h1 (by omega)⟩
                  case round =>
                    clear hB hbz
                    obtain ⟨k, hjk, hkn, rfl, hB, HNJ⟩ := hrel
                    have hbz := hB.size
                    by_cases hkl : k < nl
                    · have hkn1 : (k : Int) + 1 ≤ nl := by omega
                      have hkn2 : (k : Int) + 1 < (nl : Int) + 1 := by omega
                      have hjn2 : (j : Int) + 1 < (nl : Int) + 1 := by omega
                      obtain ⟨u, hu⟩ : ∃ u, O j = u + 1 := ⟨O j - 1, by have := HFU.out j (by omega); omega⟩
                      obtain ⟨v, hv⟩ : ∃ v, O k = v + 1 := ⟨O k - 1, by have := HFU.out k (by omega); omega⟩
                      have hum : u < m := by have := HBD.out j (by omega); omega
                      have hvm : v < m := by have := HBD.out k (by omega); omega
                      obtain ⟨⟨a1, d1⟩, hab1⟩ : ∃ x, C[u]? = some x := ⟨C[u]'(by rw [HM.out]; exact hum), List.getElem?_eq_getElem _⟩
                      obtain ⟨⟨a2, d2⟩, hab2⟩ : ∃ x, C[v]? = some x := ⟨C[v]'(by rw [HM.out]; exact hvm), List.getElem?_eq_getElem _⟩
                      have hq1 := HR4.out.each u _ hab1
                      have hq2 := HR4.out.each v _ hab2
                      have cj : wr.cell? ⟨gY, j + 1, none⟩ = some (.pointer (some ⟨Q u, 0, none⟩)) := (hB.cell (p := ⟨gY, j + 1, none⟩) hyl4).trans (by have := HS4.out.by_.cell (k := j) (by omega); rw [hu, pv_pos (by omega)] at this; simpa using this)
                      have ck : wr.cell? ⟨gY, k + 1, none⟩ = some (.pointer (some ⟨Q v, 0, none⟩)) := (hB.cell (p := ⟨gY, k + 1, none⟩) hyl4).trans (by have := HS4.out.by_.cell (k := k) (by omega); rw [hv, pv_pos (by omega)] at this; simpa using this)
                      have hqb1 := hq1.below hB hq1.lt
                      have hqb2 := hq2.below hB hq2.lt
                      have e9 : wr.cell? ⟨Q u, 9, none⟩ = some (.int .i64 (a1 : Int)) := by rw [hqb1.cell]; rfl
                      have e10 : wr.cell? ⟨Q v, 10, none⟩ = some (.int .i64 ((d2 : Int) - 1)) := by rw [hqb2.cell]; rfl
                      have hql1 := hqb1.lt
                      have hql2 := hqb2.lt
                      have hyw : gY < wr.heap.size := by omega
                      have HFW := Lib.hid (HF4.out.below hB hfl4)
                      have HBW := Lib.hid (HB4.out.trans (hB.mono hz4))
                      have HBC : Hid (badC C O j k ↔ 0 < d2 ∧ d2 < a1 + 1) := Lib.hid (by
                        unfold badC
                        rw [show O j - 1 = u by omega, show O k - 1 = v by omega]
                        exact ⟨fun ⟨c, d, h1, h2, h3⟩ => by rw [hab1] at h1; rw [hab2] at h2; cases h1; cases h2; exact h3, fun h => ⟨_, _, hab1, hab2, h⟩⟩)
                      clear hq1 hq2 hqb1 hqb2 hab1 hab2 hu hv
                      by_cases hd : 0 < d2
                      · obtain ⟨d, rfl⟩ : ∃ d, d2 = d + 1 := ⟨d2 - 1, by omega⟩
                        have e10' : wr.cell? ⟨Q v, 10, none⟩ = some (.int .i64 (d : Int)) := by rw [e10]; congr 2; omega
                        clear e10
                        by_cases hda : d < a1
                        · have HE : Hid (e = 6) := Lib.hid (by rw [HE1.out, if_pos (HRC3.out.2 ⟨j, k, hjk, hkl, HBC.out.2 ⟨hd, by omega⟩⟩)])
                          have hda' : (d : Int) < (a1 : Int) := by omega
                          go_wp2
                          go_quiet (fail)
                          have HFD : Hid (Blk (wr.drewN nq) w.heap.size 30 #[.int .i64 0, .int .i64 0]) := Lib.hid (HFW.out.drewN nq)
                          have HBD2 : Hid (Below w.heap.size w (wr.drewN nq)) := Lib.hid (below_drewN HBW.out nq)
                          go_wp2_with (first
                            | (go_at_call 14; refine (bareJ 6 _).mono ?_; rintro e6 w6 ⟨rfl, hb6⟩; have HF6 := Lib.hid (HFD.out.below hb6 HFD.out.lt); have HB6 := Lib.hid hb6; clear hb6)
                            | ((with_reducible refine fStore 30 w.heap.size #[.int .i64 6, .int .i64 (-1)] 30 #[.int .i64 0, .int .i64 0] (by kernel_rfl) (by kernel_rfl) ?_ (by kernel_rfl) (by kernel_rfl) (twoJ _ _) ?_); (exact HF6.out)))
                          (try simp only [Exit.inBlock, Exit.then])
                          refine bodyPost_ret (results_cell_row Tryd.results6 _ _ w.heap.size 30 #[.int .i64 6, .int .i64 (-1)] (0, 0) _ rfl (Blk.setRow (HF6.out) _) Tryd.underlying30 rfl (by kernel_rfl)) rfl ?_
                          exact ⟨by rw [HE.out, HP.out], below_setRow (HBD2.out.trans (HB6.out.mono HBD2.out.size)) (Nat.le_refl _) _⟩
                        · have HNO : Hid (¬ badC C O j k) := Lib.hid fun h => hda (by have := (HBC.out.1 h).2; omega)
                          have hda' : ¬ (d : Int) < (a1 : Int) := by omega
                          have hda2 : decide ((d : Int) < (a1 : Int)) = false := decide_eq_false hda'
                          go_wp2
                          go_quiet (fail)
                          go_wp2
                          go_roundw
                          case rel => exact ⟨k + 1, by omega, by omega, by go_num, below_drewN hB _, Lib.hid fun k' h1 h2 => by
                            rcases Nat.lt_or_ge k' k with z | z
                            · exact HNJ.out k' h1 z
                            · obtain rfl : k' = k := by omega
                              exact HNO.out⟩
                          case measure => simp [intOf]; omega
                      · have HNO : Hid (¬ badC C O j k) := Lib.hid fun h => hd (HBC.out.1 h).1
                        obtain rfl : d2 = 0 := by omega
                        have e10' : wr.cell? ⟨Q v, 10, none⟩ = some (.int .i64 (-1)) := by rw [e10]; rfl
                        clear e10
                        go_wp2
                        go_quiet (fail)
                        go_wp2
                        go_roundw
                        case rel => exact ⟨k + 1, by omega, by omega, by go_num, below_drewN hB _, Lib.hid fun k' h1 h2 => by
                          rcases Nat.lt_or_ge k' k with z | z
                          · exact HNJ.out k' h1 z
                          · obtain rfl : k' = k := by omega
                            exact HNO.out⟩
                        case measure => simp [intOf]; omega
                    · obtain rfl : nl = k := by omega
                      go_wp2
                      go_roundw
                      case rel => exact ⟨j + 1, by omega, by go_num, hB, Lib.hid fun j' k' h1 h2 h3 => by
                        rcases Nat.lt_or_ge j' j with z | z
                        · exact HNB.out j' k' z h2 h3
                        · obtain rfl : j' = j := by omega
                          exact HNJ.out k' h2 h3⟩
                      case measure => simp [intOf]; omega
                · obtain rfl : nl = j := by omega
                  have HE : Hid (e = 0) := Lib.hid (by
                    rw [HE1.out, if_neg]
                    intro hb
                    obtain ⟨j, k', h1, h2, h3⟩ := HRC3.out.1 hb
                    exact HNB.out j k' (by omega) h1 h2 h3)
                  have HFW := Lib.hid (HF4.out.below hB hfl4)
                  have HBW := Lib.hid (HB4.out.trans (hB.mono hz4))
                  go_wp2_with (first
                    | (go_at_call 15; refine (goodJ _).mono ?_; rintro e6 w6 ⟨rfl, hb6⟩; have HF6 := Lib.hid (HFW.out.below hb6 HFW.out.lt); have HB6 := Lib.hid hb6; clear hb6)
                    | ((with_reducible refine fStore 30 w.heap.size #[.int .i64 0, .int .i64 (-1)] 30 #[.int .i64 0, .int .i64 0] (by kernel_rfl) (by kernel_rfl) ?_ (by kernel_rfl) (by kernel_rfl) (twoJ _ _) ?_); (exact HF6.out)))
                  (try simp only [Exit.inBlock, Exit.then])
                  refine bodyPost_ret (results_cell_row Tryd.results6 _ _ w.heap.size 30 #[.int .i64 0, .int .i64 (-1)] (0, 0) _ rfl (Blk.setRow (HF6.out) _) Tryd.underlying30 rfl (by kernel_rfl)) rfl ?_
                  exact ⟨by rw [HE.out, HP.out], below_setRow (HBW.out.trans (HB6.out.mono HBW.out.size)) (Nat.le_refl _) _⟩
end Go.Proofs.YtdogjdgfidbfhaaDoor
