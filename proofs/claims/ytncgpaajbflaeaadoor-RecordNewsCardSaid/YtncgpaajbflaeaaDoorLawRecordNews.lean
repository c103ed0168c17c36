/-
  New returns what the reference returns for any kind. No condition beyond the tied variables.
-/
import Derived.Test.YtncgpaajbflaeaaDoorRows
import Derived.Test.YtncgpaajbflaeaaDoorCards
import Derived.Test.YtncgpaajbflaeaaDoorTie
import Derived.Test.YtncgpaajbflaeaaDoorCardC
import Derived.SevenTiedAt
import Derived.Test.YtncgpaajbflaeaaDoorMBase
import Derived.Test.YtncgpaajbflaeaaDoorNewsC
import Derived.Test.YtncgpaajbflaeaaDoorRecW
import Derived.Test.YtncgpaajbflaeaaDoorCardC
import Derived.Test.YtncgpaajbflaeaaDoorRowB
import Derived.Test.YtncgpaajbflaeaaDoorMBase
namespace Go.Proofs.YtncgpaajbflaeaaDoor.lawRecordNews
set_option linter.unusedSimpArgs false
set_option linter.unusedVariables false
set_option linter.unusedSectionVars false
open Go.RowKit Go.ChangeShapes Go.WideShapes Go.ChangeAt Go.Joins

attribute [local go_sem ↓] Go.wp_at_zero Go.wp_at_succ
set_option linter.unusedSimpArgs false
set_option linter.unusedVariables false

def laidE : List (String × DataW Unit) := [("errors.errorType", Rows.laid_errors_errorType), ("unicode.White_Space", Rows.laid_unicode_White_Space), ("strings.asciiSpace", Rows.laid_strings_asciiSpace)]
def laidP : List (String × DataW Unit) := [("unicode.White_Space", Rows.laid_unicode_White_Space), ("strings.asciiSpace", Rows.laid_strings_asciiSpace)]
noncomputable def base (os : Os) : World :=
  let w0 := World.holding Tryd.prog os ⟨#[], #[], []⟩
  { w0 with heap := w0.heap.modify 4 fun
      | .cells _ t frozen => .cells #[.iface 149 (.agg #[.pointer (some ⟨10, 28, none⟩)])] t frozen
      | o => o }
noncomputable def laidWorld (os : Os) : World := (base os).layVars Tryd.prog laidP
theorem laidWorld_os (os : Os) : (laidWorld os).os = os := World.layVars_os _ _ _
theorem laidWorld_met (os : Os) (args : Array Value) : laidMetH Tryd.prog laidE ((laidWorld os).forCall (fun _ _ => 0) ⟨#[], args, []⟩).memory := by
  have h : laidMetH Tryd.prog laidE (laidWorld os) := laidMetH_of_parts (show laidMet Tryd.prog laidP (laidWorld os) from met_layVars (by kernel_rfl) (by kernel_rfl)) (by kernel_rfl)
  exact h.of_heap (by simp [World.memory, World.forCall, Input.heap])

theorem factsOf {W : World} (h : laidMetH Tryd.prog laidE W) : SpT W.heap.size W ∧ ErrT W := ⟨sp_of (reads_laid h (by simp [laidE]) rfl), errT_of h (by simp [laidE])⟩
theorem kq0 : (false == !((⟨#[63]⟩ : ByteArray).toList == [63])) = true := by kernel_rfl
theorem kindQ (k : Int) : (kindB k == !((kindZ k).toList == [63])) = true := by
  by_cases h : 1 ≤ k ∧ k ≤ 6
  · obtain ⟨h1, h2⟩ := h
    rcases (by omega : k = 1 ∨ k = 2 ∨ k = 3 ∨ k = 4 ∨ k = 5 ∨ k = 6) with rfl | rfl | rfl | rfl | rfl | rfl
    all_goals kernel_rfl
  · have hb : kindB k = false := by simp [kindB]; omega
    have hz : kindZ k = ⟨#[63]⟩ := by simp [kindZ, hb]
    rw [hb, hz]
    exact kq0
theorem kindQ1 (k : Int) (h : kindB k = true) : ((kindZ k).toList == [63]) = false := by
  have := kindQ k
  rw [h] at this
  cases hx : ((kindZ k).toList == [63]) with
  | false => rfl
  | true => rw [hx] at this; cases this
theorem kindQ0 (k : Int) (h : kindB k = false) : ((kindZ k).toList == [63]) = true := by
  have := kindQ k
  rw [h] at this
  cases hx : ((kindZ k).toList == [63]) with
  | true => rfl
  | false => rw [hx] at this; cases this
theorem size64 (w : World) : (sizeOf 24).run Tryd.prog w = .ok 1 w := by kernel_rfl
theorem eqRec {D : Array Value} {z : Nat → Int} (h : U64s D 32 z) (w : World) : (Op.equalIn 10000 26 (.agg D) (.agg D)).run Tryd.prog w = .ok true w := by
  rw [run_equalIn_ints w 9998 32 Tryd.underlying26 Tryd.underlying24 size64 h.get h.get]
  simp
theorem eqRec2 {C D : Array Value} {z : Nat → Int} (h : U64s C 32 z) (h' : U64s D 32 z) (w : World) : (Op.equalIn 10000 26 (.agg C) (.agg D)).run Tryd.prog w = .ok true w := by
  rw [run_equalIn_ints w 9998 32 Tryd.underlying26 Tryd.underlying24 size64 h.get h'.get]
  simp
theorem infoRec : (Tryd.prog.info? 26).map (·.size) = some 32 := by kernel_rfl
def IsW (v : Value) : Prop := ∃ g, v = .slice (some ⟨g, 0, none⟩) 32 32
def WAt (z : Nat → Int) (v : Value) (w' : World) : Prop := ∃ g D, v = .slice (some ⟨g, 0, none⟩) 32 32 ∧ Blk w' g 24 D ∧ U64s D 32 z

theorem zeroThing (k : Int) (h1 : 1 ≤ k) (h2 : k ≤ 6) : thingOk k (fun _ => 0) := by
  unfold thingOk
  have hl : listOk (fun _ => (0 : Int)) := ⟨by decide, fun i hi => by unfold wordOk; simp⟩
  split
  · exact ⟨fun i hi => ⟨by show (0 : Int) ≤ 1000; decide, by show (0 : Int) ≤ 4294967295; decide⟩, rfl, by decide⟩
  · split
    · exact ⟨by decide, fun i hi => by simp⟩
    · split
      · exact ⟨hl, by decide⟩
      · exact ⟨h1, by omega, hl⟩

set_option maxRecDepth 100000 in
theorem news_bad (k : Int) (w : World) (hk : kindB k = false) (hT : SpT w.heap.size w) (hE : ErrT w) : Calls Tryd.prog 4 #[.int .i64 k] w fun e w' => e = .returned (.bool true) ∧ Below w.heap.size w w' := by
  have hN := fun w => recNew_bad k w hk
  have hq := kindQ0 k hk
  obtain ⟨D, hD, hDU⟩ : ∃ D : Array Value, D = #[.int .u64 0, .int .u64 0, .int .u64 0, .int .u64 0, .int .u64 0, .int .u64 0, .int .u64 0, .int .u64 0, .int .u64 0, .int .u64 0, .int .u64 0, .int .u64 0, .int .u64 0, .int .u64 0, .int .u64 0, .int .u64 0, .int .u64 0, .int .u64 0, .int .u64 0, .int .u64 0, .int .u64 0, .int .u64 0, .int .u64 0, .int .u64 0, .int .u64 0, .int .u64 0, .int .u64 0, .int .u64 0, .int .u64 0, .int .u64 0, .int .u64 0, .int .u64 0] ∧ U64s D 32 (fun _ => 0) := ⟨_, rfl, U64s.zero 32⟩
  rw [← hD] at hN
  have heq := eqRec hDU
  have HT := Lib.hid hT
  have HE := Lib.hid hE
  have HN := Lib.hid hN
  have HD := Lib.hid hDU
  have HDZ := Lib.hid hD
  have HI : Hid ((Tryd.prog.info? 26).map (·.size) = some D.size) := by show _ = _; rw [infoRec, hDU.size]
  clear hT hE hN hD hDU hk
  go_enter Tryd.func4, Tryd.ntmps4
  go_wp2_with fail
  refine (HN.out _).mono ?_
  rintro e w1 ⟨rfl, hb1⟩
  have HB := Lib.hid hb1
  have hz1 := hb1.size
  have HBl : Hid (Blk (w1.alloc (.cells #[.int .u64 0, .int .u64 0, .int .u64 0, .int .u64 0, .int .u64 0, .int .u64 0, .int .u64 0, .int .u64 0, .int .u64 0, .int .u64 0, .int .u64 0, .int .u64 0, .int .u64 0, .int .u64 0, .int .u64 0, .int .u64 0, .int .u64 0, .int .u64 0, .int .u64 0, .int .u64 0, .int .u64 0, .int .u64 0, .int .u64 0, .int .u64 0, .int .u64 0, .int .u64 0, .int .u64 0, .int .u64 0, .int .u64 0, .int .u64 0, .int .u64 0, .int .u64 0] 26)) w1.heap.size 26 #[.int .u64 0, .int .u64 0, .int .u64 0, .int .u64 0, .int .u64 0, .int .u64 0, .int .u64 0, .int .u64 0, .int .u64 0, .int .u64 0, .int .u64 0, .int .u64 0, .int .u64 0, .int .u64 0, .int .u64 0, .int .u64 0, .int .u64 0, .int .u64 0, .int .u64 0, .int .u64 0, .int .u64 0, .int .u64 0, .int .u64 0, .int .u64 0, .int .u64 0, .int .u64 0, .int .u64 0, .int .u64 0, .int .u64 0, .int .u64 0, .int .u64 0, .int .u64 0]) := Lib.hid (Blk.new _ _ _)
  have HB2 : Hid (Below w.heap.size w ((w1.alloc (.cells #[.int .u64 0, .int .u64 0, .int .u64 0, .int .u64 0, .int .u64 0, .int .u64 0, .int .u64 0, .int .u64 0, .int .u64 0, .int .u64 0, .int .u64 0, .int .u64 0, .int .u64 0, .int .u64 0, .int .u64 0, .int .u64 0, .int .u64 0, .int .u64 0, .int .u64 0, .int .u64 0, .int .u64 0, .int .u64 0, .int .u64 0, .int .u64 0, .int .u64 0, .int .u64 0, .int .u64 0, .int .u64 0, .int .u64 0, .int .u64 0, .int .u64 0, .int .u64 0] 26)).setRow w1.heap.size D)) := Lib.hid (below_setRow (hb1.alloc hb1.size _) hb1.size D)
  clear hb1
  go_wp2_with (with_reducible refine fStore 26 w1.heap.size D 26 #[.int .u64 0, .int .u64 0, .int .u64 0, .int .u64 0, .int .u64 0, .int .u64 0, .int .u64 0, .int .u64 0, .int .u64 0, .int .u64 0, .int .u64 0, .int .u64 0, .int .u64 0, .int .u64 0, .int .u64 0, .int .u64 0, .int .u64 0, .int .u64 0, .int .u64 0, .int .u64 0, .int .u64 0, .int .u64 0, .int .u64 0, .int .u64 0, .int .u64 0, .int .u64 0, .int .u64 0, .int .u64 0, .int .u64 0, .int .u64 0, .int .u64 0, .int .u64 0] (by kernel_rfl) (by kernel_rfl) HBl.out HI.out (by rw [HD.out.size]; kernel_rfl) HD.out.one ?_)
  have HBD : Hid (Blk ((w1.alloc (.cells #[.int .u64 0, .int .u64 0, .int .u64 0, .int .u64 0, .int .u64 0, .int .u64 0, .int .u64 0, .int .u64 0, .int .u64 0, .int .u64 0, .int .u64 0, .int .u64 0, .int .u64 0, .int .u64 0, .int .u64 0, .int .u64 0, .int .u64 0, .int .u64 0, .int .u64 0, .int .u64 0, .int .u64 0, .int .u64 0, .int .u64 0, .int .u64 0, .int .u64 0, .int .u64 0, .int .u64 0, .int .u64 0, .int .u64 0, .int .u64 0, .int .u64 0, .int .u64 0] 26)).setRow w1.heap.size D) w1.heap.size 26 D) := Lib.hid (Blk.setRow HBl.out D)
  clear HBl
  generalize (w1.alloc (.cells #[.int .u64 0, .int .u64 0, .int .u64 0, .int .u64 0, .int .u64 0, .int .u64 0, .int .u64 0, .int .u64 0, .int .u64 0, .int .u64 0, .int .u64 0, .int .u64 0, .int .u64 0, .int .u64 0, .int .u64 0, .int .u64 0, .int .u64 0, .int .u64 0, .int .u64 0, .int .u64 0, .int .u64 0, .int .u64 0, .int .u64 0, .int .u64 0, .int .u64 0, .int .u64 0, .int .u64 0, .int .u64 0, .int .u64 0, .int .u64 0, .int .u64 0, .int .u64 0] 26)).setRow w1.heap.size D = w2 at HB2 HBD ⊢
  refine (kindName_any k (HT.out.on HB2.out)).mono ?_
  rintro e w3 ⟨rfl, hb3⟩
  have HB3 := Lib.hid (HB2.out.trans (hb3.mono HB2.out.size))
  have HBD3 := Lib.hid (HBD.out.below hb3 HBD.out.lt)
  have HE3 := Lib.hid (HE.out.below HB3.out)
  have he1 : errV 1 = .iface 32 (.int .i64 1) := by simp [errV]
  have hBr := fun w h => bare_any 1 1 w h
  rw [he1] at hBr
  have HBr := Lib.hid hBr
  clear hb3 HBD he1 hBr
  have heq2 : ∀ w, (Op.equalIn 10000 26 (.agg D) (.agg #[.int .u64 0, .int .u64 0, .int .u64 0, .int .u64 0, .int .u64 0, .int .u64 0, .int .u64 0, .int .u64 0, .int .u64 0, .int .u64 0, .int .u64 0, .int .u64 0, .int .u64 0, .int .u64 0, .int .u64 0, .int .u64 0, .int .u64 0, .int .u64 0, .int .u64 0, .int .u64 0, .int .u64 0, .int .u64 0, .int .u64 0, .int .u64 0, .int .u64 0, .int .u64 0, .int .u64 0, .int .u64 0, .int .u64 0, .int .u64 0, .int .u64 0, .int .u64 0])).run Tryd.prog w = .ok true w := eqRec2 HD.out (U64s.zero 32)
  go_wp2_with fail
  refine (HBr.out _ HE3.out).mono ?_
  rintro e w4 ⟨rfl, hb4⟩
  have HB4 := Lib.hid (HB3.out.trans (hb4.mono HB3.out.size))
  have HBD4 := Lib.hid (HBD3.out.below hb4 HBD3.out.lt)
  clear hb4
  go_wp2_with ((with_reducible refine fLoadG 26 w1.heap.size 26 D (by kernel_rfl) HBD4.out Tryd.underlying26 (by kernel_rfl) HI.out ?_ ?_); (first | (go_simp; done) | rfl))
  go_ret
  exact ⟨ret_bool (by simp), HB4.out⟩

theorem wordsNew (k : Int) : ∀ i, i < 32 → (if i = 0 then k else 0) = wordsZ k (fun _ => 0) (fun _ => 0) (fun _ => 0) (fun _ => 0) (fun _ => 0) 0 0 i := by
  intro i hi
  have h26 : tgW (fun _ => 0) 4 = 0 := by decide
  have hA : ansN 0 0 = 0 := by decide
  unfold wordsZ wzK
  simp only [h26, hA]
  repeat' split
  all_goals first | rfl | (exfalso; omega) | simp_all
theorem rcNew (k : Int) : RcR (recRow k) ((recRow k).extract 0 19) (fun _ => 0) (fun _ => 0) (fun _ => 0) (fun _ => 0) 0 0 :=
  ⟨rfl, rfl, fun t ht => by rcases (by omega : t = 0 ∨ t = 1 ∨ t = 2 ∨ t = 3) with rfl | rfl | rfl | rfl <;> rfl, fun t ht => by rcases (by omega : t = 0 ∨ t = 1 ∨ t = 2 ∨ t = 3) with rfl | rfl | rfl | rfl <;> rfl,
    fun t ht => by rcases (by omega : t = 0 ∨ t = 1 ∨ t = 2 ∨ t = 3) with rfl | rfl | rfl | rfl <;> rfl, fun t ht => by rcases (by omega : t = 0 ∨ t = 1 ∨ t = 2 ∨ t = 3) with rfl | rfl | rfl | rfl <;> rfl, rfl, rfl⟩
abbrev thRow (k : Int) : Array Value := #[.int .i64 k, .slice none 0 0, .int .i64 0, .int .i64 0, .int .i64 0, .int .i64 0, .int .i64 0, .int .i64 0, .int .i64 0, .int .i64 0, .int .i64 0, .int .i64 0, .int .i64 0, .int .i64 0, .int .i64 0, .int .i64 0, .int .i64 0, .int .i64 0, .int .i64 0]
theorem thCut (k : Int) : (recRow k).extract 0 19 = thRow k := by kernel_rfl
theorem thNew (k : Int) (w : World) : ThOk k (fun _ => 0) ((recRow k).extract 0 19) w := by
  rw [thCut]
  have h : ∀ kind : Int, k = kind → ThR (thRow k) kind none 0 0 (fun _ => 0) 0 := fun kind e => by
    subst e
    refine ⟨by kernel_rfl, by kernel_rfl, by kernel_rfl, fun i hi => ?_, by kernel_rfl⟩
    rcases (by omega : i = 0 ∨ i = 1 ∨ i = 2 ∨ i = 3 ∨ i = 4 ∨ i = 5 ∨ i = 6 ∨ i = 7 ∨ i = 8 ∨ i = 9 ∨ i = 10 ∨ i = 11 ∨ i = 12 ∨ i = 13 ∨ i = 14 ∨ i = 15) with rfl | rfl | rfl | rfl | rfl | rfl | rfl | rfl | rfl | rfl | rfl | rfl | rfl | rfl | rfl | rfl <;> rfl
  unfold ThOk
  split
  · exact h 5 ‹_›
  · split
    · exact h 6 ‹_›
    · exact ⟨none, 0, h k rfl, ⟨rfl, Nat.le_refl _, by decide, fun i => by simp [zL, upL], fun hn => absurd hn (by decide)⟩⟩
theorem out_congr {z z' : Nat → Int} {w w' : World} {e : Ending} (h : WordsOut z w e w') (hz : ∀ i, i < 32 → z' i = z i) : WordsOut z' w e w' := by
  obtain ⟨g, D, he, hb, hU, hg, hB⟩ := h
  exact ⟨g, D, he, hb, hU.congr hz, hg, hB⟩
theorem words_new (k : Int) (R : Array Value) (w : World) (hR : R = recRow k) (h1 : 1 ≤ k) (h2 : k ≤ 6) : Calls Tryd.prog 16 #[.agg R] w (WordsOut (fun i => if i = 0 then k else 0) w) := by
  have q1 : RcR R (R.extract 0 19) (fun _ => 0) (fun _ => 0) (fun _ => 0) (fun _ => 0) 0 0 := by rw [hR]; exact rcNew k
  have q2 : ThOk k (fun _ => 0) (R.extract 0 19) w := by rw [hR]; exact thNew k w
  clear hR
  have hz := wordsNew k
  have h := words_any R _ (fun _ => 0) (fun _ => 0) (fun _ => 0) (fun _ => 0) 0 0 k (fun _ => 0) w q1 (by omega) (fun _ _ => Int.le_refl 0) (zeroThing k h1 h2) q2 (fun _ _ => by decide) (by decide) (by decide)
  generalize wordsZ k (fun _ => 0) (fun _ => 0) (fun _ => 0) (fun _ => 0) (fun _ => 0) 0 0 = y at h hz
  with_reducible refine h.mono ?_
  intro e w' ho
  exact out_congr ho hz
set_option maxRecDepth 100000 in
theorem news_ok (k : Int) (w : World) (hk : kindB k = true) (hT : SpT w.heap.size w) : Calls Tryd.prog 4 #[.int .i64 k] w fun e w' => e = .returned (.bool true) ∧ Below w.heap.size w w' := by
  have hN := fun w => recNew_ok k w hk
  have hq := kindQ1 k hk
  have hk6 : 1 ≤ k ∧ k ≤ 6 := by simpa [kindB] using hk
  obtain ⟨D, hD, hDU⟩ : ∃ D : Array Value, D = newRow k ∧ U64s D 32 (fun i => if i = 0 then k else 0) := ⟨_, rfl, newU k hk6.1 hk6.2⟩
  rw [← hD] at hN
  obtain ⟨R, hR⟩ : ∃ R : Array Value, R = recRow k := ⟨_, rfl⟩
  have hNR := fun w => newRec_any k w
  rw [← hR] at hNR
  have hW := fun w => words_new k R w hR hk6.1 hk6.2
  have heq := eqRec hDU
  have HT := Lib.hid hT
  have HN := Lib.hid hN
  have HNR := Lib.hid hNR
  have HW := Lib.hid hW
  have HD := Lib.hid hDU
  have HI : Hid ((Tryd.prog.info? 26).map (·.size) = some D.size) := by show _ = _; rw [infoRec, hDU.size]
  clear hT hN hD hDU hk hNR hW hR hk6
  go_enter Tryd.func4, Tryd.ntmps4
  go_wp2_with fail
  refine (HN.out _).mono ?_
  rintro e w1 ⟨rfl, hb1⟩
  have hz1 := hb1.size
  have HBl : Hid (Blk (w1.alloc (.cells #[.int .u64 0, .int .u64 0, .int .u64 0, .int .u64 0, .int .u64 0, .int .u64 0, .int .u64 0, .int .u64 0, .int .u64 0, .int .u64 0, .int .u64 0, .int .u64 0, .int .u64 0, .int .u64 0, .int .u64 0, .int .u64 0, .int .u64 0, .int .u64 0, .int .u64 0, .int .u64 0, .int .u64 0, .int .u64 0, .int .u64 0, .int .u64 0, .int .u64 0, .int .u64 0, .int .u64 0, .int .u64 0, .int .u64 0, .int .u64 0, .int .u64 0, .int .u64 0] 26)) w1.heap.size 26 #[.int .u64 0, .int .u64 0, .int .u64 0, .int .u64 0, .int .u64 0, .int .u64 0, .int .u64 0, .int .u64 0, .int .u64 0, .int .u64 0, .int .u64 0, .int .u64 0, .int .u64 0, .int .u64 0, .int .u64 0, .int .u64 0, .int .u64 0, .int .u64 0, .int .u64 0, .int .u64 0, .int .u64 0, .int .u64 0, .int .u64 0, .int .u64 0, .int .u64 0, .int .u64 0, .int .u64 0, .int .u64 0, .int .u64 0, .int .u64 0, .int .u64 0, .int .u64 0]) := Lib.hid (Blk.new _ _ _)
  have HB2 : Hid (Below w.heap.size w ((w1.alloc (.cells #[.int .u64 0, .int .u64 0, .int .u64 0, .int .u64 0, .int .u64 0, .int .u64 0, .int .u64 0, .int .u64 0, .int .u64 0, .int .u64 0, .int .u64 0, .int .u64 0, .int .u64 0, .int .u64 0, .int .u64 0, .int .u64 0, .int .u64 0, .int .u64 0, .int .u64 0, .int .u64 0, .int .u64 0, .int .u64 0, .int .u64 0, .int .u64 0, .int .u64 0, .int .u64 0, .int .u64 0, .int .u64 0, .int .u64 0, .int .u64 0, .int .u64 0, .int .u64 0] 26)).setRow w1.heap.size D)) := Lib.hid (below_setRow (hb1.alloc hb1.size _) hb1.size D)
  clear hb1
  go_wp2_with (with_reducible refine fStore 26 w1.heap.size D 26 #[.int .u64 0, .int .u64 0, .int .u64 0, .int .u64 0, .int .u64 0, .int .u64 0, .int .u64 0, .int .u64 0, .int .u64 0, .int .u64 0, .int .u64 0, .int .u64 0, .int .u64 0, .int .u64 0, .int .u64 0, .int .u64 0, .int .u64 0, .int .u64 0, .int .u64 0, .int .u64 0, .int .u64 0, .int .u64 0, .int .u64 0, .int .u64 0, .int .u64 0, .int .u64 0, .int .u64 0, .int .u64 0, .int .u64 0, .int .u64 0, .int .u64 0, .int .u64 0] (by kernel_rfl) (by kernel_rfl) HBl.out HI.out (by rw [HD.out.size]; kernel_rfl) HD.out.one ?_)
  have HBD : Hid (Blk ((w1.alloc (.cells #[.int .u64 0, .int .u64 0, .int .u64 0, .int .u64 0, .int .u64 0, .int .u64 0, .int .u64 0, .int .u64 0, .int .u64 0, .int .u64 0, .int .u64 0, .int .u64 0, .int .u64 0, .int .u64 0, .int .u64 0, .int .u64 0, .int .u64 0, .int .u64 0, .int .u64 0, .int .u64 0, .int .u64 0, .int .u64 0, .int .u64 0, .int .u64 0, .int .u64 0, .int .u64 0, .int .u64 0, .int .u64 0, .int .u64 0, .int .u64 0, .int .u64 0, .int .u64 0] 26)).setRow w1.heap.size D) w1.heap.size 26 D) := Lib.hid (Blk.setRow HBl.out D)
  clear HBl
  generalize (w1.alloc (.cells #[.int .u64 0, .int .u64 0, .int .u64 0, .int .u64 0, .int .u64 0, .int .u64 0, .int .u64 0, .int .u64 0, .int .u64 0, .int .u64 0, .int .u64 0, .int .u64 0, .int .u64 0, .int .u64 0, .int .u64 0, .int .u64 0, .int .u64 0, .int .u64 0, .int .u64 0, .int .u64 0, .int .u64 0, .int .u64 0, .int .u64 0, .int .u64 0, .int .u64 0, .int .u64 0, .int .u64 0, .int .u64 0, .int .u64 0, .int .u64 0, .int .u64 0, .int .u64 0] 26)).setRow w1.heap.size D = w2 at HB2 HBD ⊢
  refine (kindName_any k (HT.out.on HB2.out)).mono ?_
  rintro e w3 ⟨rfl, hb3⟩
  have HB3 := Lib.hid (HB2.out.trans (hb3.mono HB2.out.size))
  have HBD3 := Lib.hid (HBD.out.below hb3 HBD.out.lt)
  clear hb3 HBD
  go_wp2_with fail
  refine wp_region_rely 10 nowhere [] (by kernel_rfl) (by kernel_rfl) ?_
  iterate 3
    refine wpRely_step (fun K hK => ?_)
    refine .inl ?_
    apply Exists.intro
    refine ⟨Any, ?_, hK _ _ _ _ ?_⟩
    · simp only [RelyOp, fillE]
      refine ⟨?_, fun w9 hw9 _ => ?_⟩
      · first | rfl | (go_simp; done)
      go_simp
      first
      | exact ⟨⟨rfl, trivial⟩, Keeps.refl _ _⟩
      | (go_at_call 15; exact rely_det (HNR.out _))
    clear hK K
    try simp only [Act.put, List.setIfInBounds_toArray, List.set_cons_zero, List.set_cons_succ]
  refine wpRely_step (fun K hK => ?_)
  refine .inl ⟨.agg D, Any, ?_, hK _ _ _ _ ?_⟩
  · simp only [RelyOp, fillE]
    refine ⟨?_, fun w9 hw9 _ => ?_⟩
    · first | rfl | (go_simp; done)
    exact relyAt_load_rowB 26 _ rfl w1.heap.size rfl 26 D _ (HBD3.out.below hw9.same HBD3.out.lt) Tryd.underlying26 rfl HI.out ⟨⟨rfl, trivial⟩, Keeps.refl _ _⟩
  clear hK K
  try simp only [Act.put, List.setIfInBounds_toArray, List.set_cons_zero, List.set_cons_succ]
  iterate 2
    refine wpRely_step (fun K hK => ?_)
    refine .inl ?_
    apply Exists.intro
    refine ⟨Any, ?_, hK _ _ _ _ ?_⟩
    · simp only [RelyOp, fillE]
      refine ⟨?_, fun w9 hw9 _ => ?_⟩
      · first | rfl | (go_simp; done)
      go_simp
      first
      | exact ⟨⟨rfl, trivial⟩, Keeps.refl _ _⟩
      | (go_at_call 15; exact rely_det (HNR.out _))
    clear hK K
    try simp only [Act.put, List.setIfInBounds_toArray, List.set_cons_zero, List.set_cons_succ]
  refine wpRely_step (fun K hK => ?_)
  refine .inr (.inr ⟨IsW, WAt (fun i => if i = 0 then k else 0), ⟨_, 0, rfl⟩, ?_, hK _ _ _ _ ?_⟩)
  · simp only [RelyOp, fillE]
    refine ⟨?_, fun w9 hw9 _ => ?_⟩
    · first | rfl | (go_simp; done)
    go_simp
    go_at_call 16
    with_reducible refine (HW.out _).mono ?_
    rintro e w' ⟨g, E, rfl, hb, hU, hg, hB⟩
    exact ⟨_, rfl, ⟨⟨_, rfl⟩, ⟨_, _, rfl, hb, hU⟩⟩, Keeps.of_same hB⟩
  clear hK K
  try simp only [Act.put, List.setIfInBounds_toArray, List.set_cons_zero, List.set_cons_succ]
  refine wpRely_step (fun K hK => ?_)
  refine .inl ⟨.agg D, Any, ?_, hK _ _ _ _ ?_⟩
  · simp only [RelyOp, fillE]
    rintro _ ⟨g2, rfl⟩
    refine ⟨?_, fun w9 hw9 hmet0 => ?_⟩
    · first | rfl | (go_simp; done)
    obtain ⟨w0, k0, k1, g', E, hv9, hl, hU⟩ := (hmet0.2.1 (by kernel_rfl)).out
    cases hv9
    have hl9 := SlU.of_blk (n := 32) (c := 32) (o := 0) (hl.below k1 hl.lt) hU (by omega) (by omega) (by omega)
    clear hmet0 hl
    go_simp
    go_at_call 14
    exact rely_det (recordOf_any _ 32 32 (fun i => if i = 0 then k else 0) _ (by simpa using hl9) (by omega) D (HD.out.congr (fun i hi => by rw [if_pos hi])))
  clear hK K
  try simp only [Act.put, List.setIfInBounds_toArray, List.set_cons_zero, List.set_cons_succ]
  iterate 2
    refine wpRely_step (fun K hK => ?_)
    refine .inl ?_
    apply Exists.intro
    refine ⟨Any, ?_, hK _ _ _ _ ?_⟩
    · simp only [RelyOp, fillE]
      rintro _ ⟨g2, rfl⟩
      refine ⟨?_, fun w9 hw9 _ => ?_⟩
      · first | rfl | (go_simp; done)
      go_simp
      first
      | exact ⟨⟨rfl, trivial⟩, Keeps.refl _ _⟩
      | (go_at_call 15; exact rely_det (HNR.out _))
    clear hK K
    try simp only [Act.put, List.setIfInBounds_toArray, List.set_cons_zero, List.set_cons_succ]
  refine wpRely_nil ?_
  simp only [fillE]
  rintro _ ⟨g9, rfl⟩ w9 hw9 _
  simp only [List.drop_succ_cons, List.drop_zero, List.drop, Act.put, List.setIfInBounds_toArray, List.set_cons_zero, List.set_cons_succ]
  go_wp2
  go_ret
  exact ⟨ret_bool (by simp), HB3.out.trans (hw9.same.mono HB3.out.size)⟩
theorem walk (k : Int) (w : World) (hT : SpT w.heap.size w) (hE : ErrT w) : Calls Tryd.prog 4 #[.int .i64 k] w fun e w' => e = .returned (.bool true) ∧ Below w.heap.size w w' := by
  cases hk : kindB k with
  | false => exact news_bad k w hk hT hE
  | true => exact news_ok k w hk hT

theorem own : ownKnob Tryd.prog.godebug = none := by kernel_rfl

set_option maxRecDepth 100000 in
theorem lifted (os : Os) (started : os.Started) (H : Type) (enc : TypeId × Value → H) :
    ReturnsInHanded {} Tryd.checked os 4 .any (fun w args => (Rows.recordNewsSpec.pre enc Tryd.prog Tryd.f4 [] false w args ∧ laidMetH Tryd.prog laidE w) ∧ sizedMet enc Tryd.prog Tryd.f4 (OpenSpec.ofChange Rows.recordNewsSpec) false w args) (Rows.recordNewsSpec.post enc Tryd.prog Tryd.f4 false true false false) := by
  refine law_lifted_and (C := Tryd.checked) (X := fun w _ => laidMetH Tryd.prog laidE w) (fun _ _ _ hh h => h.of_heap hh) own started (by kernel_rfl) Tryd.func4
    (ChangeSpec.witness_shaped (enc := enc) (C := Tryd.checked) (os := os) (X := fun w _ => laidMetH Tryd.prog laidE w) false (laidWorld os) #[.int .i64 0] 8 (laidWorld_os os) (World.shaped_of_ZipB (by kernel_rfl) (by kernel_rfl)) (by kernel_rfl) (by kernel_rfl) (by kernel_rfl) (laidWorld_met os _))
    (by kernel_rfl) (by kernel_rfl) rfl rfl Tryd.underlying4 ?_
  intro W base args ds ps hval0 hA0 hsz0 hL
  have hg := factsOf hL
  have hval : ∀ (j : Nat) t v, Tryd.f4.params[j]? = some t → args[j]? = some v → Value.okWide Tryd.prog W .any base t v := hval0
  have hA : DataW.TrodAll enc Tryd.prog W 0 (fun _ => true) true Tryd.f4.params.toList args.toList ds ps := hA0
  rw [Tryd.params4] at hA hval
  obtain ⟨v0, d0, rfl, rfl, h0⟩ := trodAll_one hA
  obtain ⟨k, rfl, rfl, rfl, wk⟩ := open_int Tryd.underlying3 (hval 0 3 v0 rfl rfl) h0
  exact ⟨rfl, walk k W hg.1 hg.2⟩

theorem kinPlace : (Rows.recordNewsRow.inPlace == Tryd.pinned.checked.prog.inPlace 4) = true := by kernel_rfl
theorem kunfollowed : (Rows.recordNewsRow.unfollowed == Tryd.pinned.checked.prog.unfollowed 4) = true := by kernel_rfl
theorem krecurses : (Rows.recordNewsRow.recurses == Tryd.pinned.checked.prog.recurses 4) = true := by kernel_rfl
theorem knamed : (Rows.recordNewsRow.named == Tryd.pinned.checked.prog.varsNamed 4) = true := by kernel_rfl
theorem closed : joinedFacts Tryd.pinned.checked.prog 4 Tryd.f4 Rows.recordNewsSpec Rows.recordNewsRow = true := by
  unfold joinedFacts
  simp only [Bool.and_eq_true]
  repeat' apply And.intro
  all_goals first | (with_reducible exact kinPlace) | (with_reducible exact kunfollowed) | (with_reducible exact krecurses) | (with_reducible exact knamed) | (with_reducible exact laidOutP) | (with_reducible exact mapsRowedP) | kernel_rfl
theorem goes : false = Rows.recordNewsRow.goesBy Tryd.pinned.checked.prog := by kernel_rfl
theorem wfText : Rows.recordNewsRow.wfByText (OpenSpec.ofChange Rows.recordNewsSpec) = true := by kernel_rfl

theorem row : Rows.RecordNewsSaid :=
  OpenClaim.holds_of_wide 4 Tryd.f4 rfl rfl rfl rfl rfl rfl rfl ⟨rfl, rfl, rfl, rfl, rfl⟩ rfl rfl rfl rfl rfl (by kernel_rfl) Tryd.func4 closed
    (of_decide_eq_true (by kernel_rfl)) (by unfold Func.isWrapper; first | (rw [if_pos (by decide +kernel)]; kernel_rfl) | (rw [if_neg (by decide +kernel)]; exact ⟨rfl, rfl⟩))
    (fun os started H enc _ => lifted os started H enc)
theorem holds : Rows.RecordNewsCardSaid :=
  Claim7.holds_tied_plain_at .later [] [.handle, .listed, .data] true Rows.recordNewsCard.stood.harness true
    row (fun _ h => by cases h) wfText (fun _ h => by cases h) recordNews_row_tie rfl ⟨rfl, rfl⟩ (by kernel_rfl) rfl
    (fun f fn hf hfn => by
      obtain rfl : f = 4 := Option.some.inj ((show Tryd.prog.funcNamed Rows.recordNewsRow.func = some 4 by kernel_rfl).symm.trans hf) |>.symm
      obtain rfl : fn = Tryd.f4 := (Option.some.inj (Tryd.func4.symm.trans hfn)).symm
      refine ⟨looksP, fun j t ht => ?_⟩
      have hall : (Tryd.f4.params.toList.all fun t => !(Tryd.prog.wantsStandIn t)) = true := by kernel_rfl
      have hm : t ∈ Tryd.f4.params.toList := List.mem_of_getElem? (by simpa using ht)
      have h := List.all_eq_true.1 hall t hm
      show Tryd.prog.wantsStandIn t = false
      simpa using h)
    goes
#print axioms holds
end Go.Proofs.YtncgpaajbflaeaaDoor.lawRecordNews
