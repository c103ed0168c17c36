/-
  New returns what the reference returns for any kind, and what a new shop tells is as the document says. No condition beyond the tied variables.
-/
import Derived.Test.YtkoflhjnpilchaaDoorRows
import Derived.Test.YtkoflhjnpilchaaDoorCards
import Derived.Test.YtkoflhjnpilchaaDoorTie
import Derived.Test.YtkoflhjnpilchaaDoorCardC
import Derived.SevenTiedAt
import Derived.Test.YtkoflhjnpilchaaDoorMBase
import Derived.Test.YtkoflhjnpilchaaDoorShN
import Derived.Test.YtkoflhjnpilchaaDoorShR
import Derived.Test.YtkoflhjnpilchaaDoorRcOf
import Derived.Test.YtkoflhjnpilchaaDoorRecW
import Derived.Test.YtkoflhjnpilchaaDoorCardC
import Derived.Test.YtkoflhjnpilchaaDoorRowB
import Derived.Test.YtkoflhjnpilchaaDoorMBase
namespace Go.Proofs.YtkoflhjnpilchaaDoor.lawShopNews
set_option linter.unusedSimpArgs false
set_option linter.unusedVariables false
set_option linter.unusedSectionVars false
open Go.RowKit Go.ChangeShapes Go.WideShapes Go.ChangeAt Go.Joins

attribute [local go_sem ↓] Go.wp_at_zero Go.wp_at_succ
set_option linter.unusedSimpArgs false
set_option linter.unusedVariables false

def laidE : List (String × DataW Unit) := [("errors.errorType", Rows.laid_errors_errorType), ("unicode.White_Space", Rows.laid_unicode_White_Space), ("strings.asciiSpace", Rows.laid_strings_asciiSpace)]
def laidP : List (String × DataW Unit) := [("unicode.White_Space", Rows.laid_unicode_White_Space), ("strings.asciiSpace", Rows.laid_strings_asciiSpace)]
noncomputable def base (os : Os) : World :=
  let w0 := World.holding Tryd.prog os ⟨#[], #[], []⟩
  { w0 with heap := w0.heap.modify 2 fun
      | .cells _ t frozen => .cells #[.iface 150 (.agg #[.pointer (some ⟨4, 24, none⟩)])] t frozen
      | o => o }
noncomputable def laidWorld (os : Os) : World := (base os).layVars Tryd.prog laidP
theorem laidWorld_os (os : Os) : (laidWorld os).os = os := World.layVars_os _ _ _
theorem laidWorld_met (os : Os) (args : Array Value) : laidMetH Tryd.prog laidE ((laidWorld os).forCall (fun _ _ => 0) ⟨#[], args, []⟩).memory := by
  have h : laidMetH Tryd.prog laidE (laidWorld os) := laidMetH_of_parts (show laidMet Tryd.prog laidP (laidWorld os) from met_layVars (by kernel_rfl) (by kernel_rfl)) (by kernel_rfl)
  exact h.of_heap (by simp [World.memory, World.forCall, Input.heap])

theorem factsOf {W : World} (h : laidMetH Tryd.prog laidE W) : SpT W.heap.size W ∧ ErrT W := ⟨sp_of (reads_laid h (by simp [laidE]) rfl), errT_of h (by simp [laidE])⟩
theorem kq0 : (false == !((⟨#[63]⟩ : ByteArray).toList == [63])) = true := by kernel_rfl
theorem kindQ (k : Int) : (kindB k == !((kindZ k).toList == [63])) = true := by
  by_cases h : 1 ≤ k ∧ k ≤ 6
  · obtain ⟨h1, h2⟩ := h
    rcases (by omega : k = 1 ∨ k = 2 ∨ k = 3 ∨ k = 4 ∨ k = 5 ∨ k = 6) with rfl | rfl | rfl | rfl | rfl | rfl
    all_goals kernel_rfl
  · have hb : kindB k = false := by simp [kindB]; omega
    have hz : kindZ k = ⟨#[63]⟩ := by simp [kindZ, hb]
    rw [hb, hz]
    exact kq0
theorem kindQ1 (k : Int) (h : kindB k = true) : ((kindZ k).toList == [63]) = false := by
  have := kindQ k
  rw [h] at this
  cases hx : ((kindZ k).toList == [63]) with
  | false => rfl
  | true => rw [hx] at this; cases this
theorem kindQ0 (k : Int) (h : kindB k = false) : ((kindZ k).toList == [63]) = true := by
  have := kindQ k
  rw [h] at this
  cases hx : ((kindZ k).toList == [63]) with
  | true => rfl
  | false => rw [hx] at this; cases this
theorem size64 (w : World) : (sizeOf 31).run Tryd.prog w = .ok 1 w := by kernel_rfl
theorem eqRec {D : Array Value} {z : Nat → Int} (h : U64s D 32 z) (w : World) : (Op.equalIn 10000 33 (.agg D) (.agg D)).run Tryd.prog w = .ok true w := by
  rw [run_equalIn_ints w 9998 32 Tryd.underlying33 Tryd.underlying31 size64 h.get h.get]
  simp
theorem eqRec2 {C D : Array Value} {z : Nat → Int} (h : U64s C 32 z) (h' : U64s D 32 z) (w : World) : (Op.equalIn 10000 33 (.agg C) (.agg D)).run Tryd.prog w = .ok true w := by
  rw [run_equalIn_ints w 9998 32 Tryd.underlying33 Tryd.underlying31 size64 h.get h'.get]
  simp
theorem infoRec : (Tryd.prog.info? 33).map (·.size) = some 32 := by kernel_rfl
def IsW (v : Value) : Prop := ∃ g, v = .slice (some ⟨g, 0, none⟩) 32 32
def WAt (z : Nat → Int) (v : Value) (w' : World) : Prop := ∃ g D, v = .slice (some ⟨g, 0, none⟩) 32 32 ∧ Blk w' g 31 D ∧ U64s D 32 z

theorem zeroThing (k : Int) (h1 : 1 ≤ k) (h2 : k ≤ 6) : thingOk k (fun _ => 0) := by
  unfold thingOk
  have hl : listOk (fun _ => (0 : Int)) := ⟨by decide, fun i hi => by unfold wordOk; simp⟩
  split
  · exact ⟨fun i hi => ⟨by show (0 : Int) ≤ 1000; decide, by show (0 : Int) ≤ 4294967295; decide⟩, rfl, by decide⟩
  · split
    · exact ⟨by decide, fun i hi => by simp⟩
    · split
      · exact ⟨hl, by decide⟩
      · exact ⟨h1, by omega, hl⟩

theorem wordsNew (k : Int) : ∀ i, i < 32 → (if i = 0 then k else 0) = wordsZ k (fun _ => 0) (fun _ => 0) (fun _ => 0) (fun _ => 0) (fun _ => 0) 0 0 i := by
  intro i hi
  have h26 : tgW (fun _ => 0) 4 = 0 := by decide
  have hA : ansN 0 0 = 0 := by decide
  unfold wordsZ wzK
  simp only [h26, hA]
  repeat' split
  all_goals first | rfl | (exfalso; omega) | simp_all
theorem rcNew (k : Int) : RcR (recRow k) ((recRow k).extract 0 19) (fun _ => 0) (fun _ => 0) (fun _ => 0) (fun _ => 0) 0 0 :=
  ⟨rfl, rfl, fun t ht => by rcases (by omega : t = 0 ∨ t = 1 ∨ t = 2 ∨ t = 3) with rfl | rfl | rfl | rfl <;> rfl, fun t ht => by rcases (by omega : t = 0 ∨ t = 1 ∨ t = 2 ∨ t = 3) with rfl | rfl | rfl | rfl <;> rfl,
    fun t ht => by rcases (by omega : t = 0 ∨ t = 1 ∨ t = 2 ∨ t = 3) with rfl | rfl | rfl | rfl <;> rfl, fun t ht => by rcases (by omega : t = 0 ∨ t = 1 ∨ t = 2 ∨ t = 3) with rfl | rfl | rfl | rfl <;> rfl, rfl, rfl⟩
abbrev thRow (k : Int) : Array Value := #[.int .i64 k, .slice none 0 0, .int .i64 0, .int .i64 0, .int .i64 0, .int .i64 0, .int .i64 0, .int .i64 0, .int .i64 0, .int .i64 0, .int .i64 0, .int .i64 0, .int .i64 0, .int .i64 0, .int .i64 0, .int .i64 0, .int .i64 0, .int .i64 0, .int .i64 0]
theorem thCut (k : Int) : (recRow k).extract 0 19 = thRow k := by kernel_rfl
theorem thNew (k : Int) (w : World) : ThOk k (fun _ => 0) ((recRow k).extract 0 19) w := by
  rw [thCut]
  have h : ∀ kind : Int, k = kind → ThR (thRow k) kind none 0 0 (fun _ => 0) 0 := fun kind e => by
    subst e
    refine ⟨by kernel_rfl, by kernel_rfl, by kernel_rfl, fun i hi => ?_, by kernel_rfl⟩
    rcases (by omega : i = 0 ∨ i = 1 ∨ i = 2 ∨ i = 3 ∨ i = 4 ∨ i = 5 ∨ i = 6 ∨ i = 7 ∨ i = 8 ∨ i = 9 ∨ i = 10 ∨ i = 11 ∨ i = 12 ∨ i = 13 ∨ i = 14 ∨ i = 15) with rfl | rfl | rfl | rfl | rfl | rfl | rfl | rfl | rfl | rfl | rfl | rfl | rfl | rfl | rfl | rfl <;> rfl
  unfold ThOk
  split
  · exact h 5 ‹_›
  · split
    · exact h 6 ‹_›
    · exact ⟨none, 0, h k rfl, ⟨rfl, Nat.le_refl _, by decide, fun i => by simp [zL, upL], fun hn => absurd hn (by decide)⟩⟩
theorem out_congr {z z' : Nat → Int} {w w' : World} {e : Ending} (h : WordsOut z w e w') (hz : ∀ i, i < 32 → z' i = z i) : WordsOut z' w e w' := by
  obtain ⟨g, D, he, hb, hU, hg, hB⟩ := h
  exact ⟨g, D, he, hb, hU.congr hz, hg, hB⟩
theorem words_new (k : Int) (R : Array Value) (w : World) (hR : R = recRow k) (h1 : 1 ≤ k) (h2 : k ≤ 6) : Calls Tryd.prog 11 #[.agg R] w (WordsOut (fun i => if i = 0 then k else 0) w) := by
  have q1 : RcR R (R.extract 0 19) (fun _ => 0) (fun _ => 0) (fun _ => 0) (fun _ => 0) 0 0 := by rw [hR]; exact rcNew k
  have q2 : ThOk k (fun _ => 0) (R.extract 0 19) w := by rw [hR]; exact thNew k w
  clear hR
  have hz := wordsNew k
  have h := words_any R _ (fun _ => 0) (fun _ => 0) (fun _ => 0) (fun _ => 0) 0 0 k (fun _ => 0) w q1 (by omega) (fun _ _ => Int.le_refl 0) (zeroThing k h1 h2) q2 (fun _ _ => by decide) (by decide) (by decide)
  generalize wordsZ k (fun _ => 0) (fun _ => 0) (fun _ => 0) (fun _ => 0) (fun _ => 0) 0 0 = y at h hz
  with_reducible refine h.mono ?_
  intro e w' ho
  exact out_congr ho hz

theorem deeds0 (p : Nat) (C : Array Value) (w : World) (hp : Blk w p 70 C) (h : C[6 + 6]? = some (.slice none 0 0)) : Calls Tryd.prog 12 #[.pointer (some ⟨p, 0, none⟩)] w fun e w' => e = .returned (.slice none 0 0) ∧ Below w.heap.size w w' := by
  have c1 : w.cell? ⟨p, 12, none⟩ = some (.slice none 0 0) := by rw [hp.cell]; exact h
  clear hp h
  go_enter Tryd.func12, Tryd.ntmps12
  go_wp2
  go_loopw [3, 11] (fun d i wr => d = .slice none 0 0 ∧ i = .int .i64 0 ∧ w = wr) (fun _ _ _ => 0)
  case atStart => exact ⟨rfl, rfl, rfl⟩
  case round =>
    obtain ⟨rfl, rfl, rfl⟩ := hrel
    go_wp2
    go_ret
    exact ⟨rfl, Below.refl _ _⟩
theorem history0 (p : Nat) (C : Array Value) (w : World) (hp : Blk w p 70 C) (h : C[11]? = some (.slice none 0 0)) : Calls Tryd.prog 13 #[.pointer (some ⟨p, 0, none⟩)] w fun e w' => e = .returned (.slice none 0 0) ∧ Below w.heap.size w w' := by
  have c1 : w.cell? ⟨p, 11, none⟩ = some (.slice none 0 0) := by rw [hp.cell]; exact h
  clear hp h
  go_enter Tryd.func13, Tryd.ntmps13
  go_wp2
  go_ret
  exact ⟨rfl, Below.refl _ _⟩
set_option maxRecDepth 100000 in
set_option maxHeartbeats 1000000 in
theorem news_bad (k : Int) (w : World) (hk : kindB k = false) (hT : SpT w.heap.size w) (hE : ErrT w) : Calls Tryd.prog 3 #[.int .i64 k] w fun e w' => e = .returned (.bool true) ∧ Below w.heap.size w w' := by
  have HN := Lib.hid (fun W => shopNew_bad k W hk)
  have hq := kindQ0 k hk
  have HT := Lib.hid hT
  have HE := Lib.hid hE
  clear hT hE hk
  have he1 : errV 1 = .iface 29 (.int .i64 1) := by simp [errV]
  have hBr := fun w h => bare_any 1 1 w h
  rw [he1] at hBr
  have HBr := Lib.hid hBr
  clear he1 hBr
  go_enter Tryd.func3, Tryd.ntmps3
  go_wp2_with fail
  with_reducible refine (HN.out _).mono ?_
  rintro e w1 ⟨rfl, hb1⟩
  have HB1 := Lib.hid hb1
  clear hb1
  have HKN := Lib.hid (kindName_any k (HT.out.on HB1.out))
  go_wp2_with fail
  with_reducible refine HKN.out.mono ?_
  rintro e w3 ⟨rfl, hb3⟩
  have HB3 := Lib.hid (HB1.out.trans (hb3.mono HB1.out.size))
  clear hb3
  go_wp2_with fail
  with_reducible refine (HBr.out _ (HE.out.below HB3.out)).mono ?_
  rintro e w4 ⟨rfl, hb4⟩
  have HB4 := Lib.hid (HB3.out.trans (hb4.mono HB3.out.size))
  clear hb4
  go_wp2
  go_ret
  exact ⟨ret_bool (by simp), HB4.out⟩
theorem stE_ok (k : Int) (h1 : 1 ≤ k) (h2 : k ≤ 6) : (stE (nz k) 4).Ok := by
  have hz : ∀ i, 0 ≤ nz k i ∧ nz k i < 18446744073709551616 := fun i => by unfold nz; split <;> omega
  refine ⟨fun i _ => ?_, fun i _ => ?_⟩
  · show 0 ≤ (if 8 ≤ i ∧ i < 40 then nz k (i - 8) else 0) ∧ (if 8 ≤ i ∧ i < 40 then nz k (i - 8) else 0) < _
    split
    · exact hz _
    · omega
  · show 0 ≤ (if 8 ≤ i ∧ i < 8 + 8 * 4 ∧ i < 40 then nz k (i - 8) else 0) ∧ (if 8 ≤ i ∧ i < 8 + 8 * 4 ∧ i < 40 then nz k (i - 8) else 0) < _
    split
    · exact hz _
    · omega
set_option maxRecDepth 100000 in
set_option maxHeartbeats 2000000 in
theorem news_ok (k : Int) (w : World) (hk : kindB k = true) (hT : SpT w.heap.size w) : Calls Tryd.prog 3 #[.int .i64 k] w fun e w' => e = .returned (.bool true) ∧ Below w.heap.size w w' := by
  have HN := Lib.hid (shopNew_ok k w hk)
  have hq := kindQ1 k hk
  have hk6 : 1 ≤ k ∧ k ≤ 6 := by simpa [kindB] using hk
  obtain ⟨D, hD, hDU⟩ : ∃ D : Array Value, D = newRow k ∧ U64s D 32 (fun i => if i = 0 then k else 0) := ⟨_, rfl, newU k hk6.1 hk6.2⟩
  obtain ⟨R, hR⟩ : ∃ R : Array Value, R = recRow k := ⟨_, rfl⟩
  have hNR := fun w => newRec_any k w
  rw [← hR] at hNR
  have hW := fun w => words_new k R w hR hk6.1 hk6.2
  have heq := eqRec hDU
  have HT := Lib.hid hT
  have HNR := Lib.hid hNR
  have HWD := Lib.hid hW
  have HD := Lib.hid hDU
  have HOK := Lib.hid (stE_ok k hk6.1 hk6.2)
  clear hT hD hDU hk hNR hW hR hk6
  go_enter Tryd.func3, Tryd.ntmps3
  go_wp2_with fail
  with_reducible refine HN.out.mono ?_
  rintro e w1 ⟨g, gm, gs, gw, rfl, hp⟩
  have HP := Lib.hid hp
  have HB1 := Lib.hid hp.below
  clear hp
  have HKN := Lib.hid (kindName_any k (HT.out.on HB1.out))
  go_wp2_with fail
  with_reducible refine HKN.out.mono ?_
  rintro e w3 ⟨rfl, hb3⟩
  have HB3 := Lib.hid (HB1.out.trans (hb3.mono HB1.out.size))
  have HS3 := Lib.hid (HP.out.sh.below hb3 HP.out.sh.lt)
  have HT3 := Lib.hid (HP.out.st.below hb3 HP.out.st.lt)
  clear hb3
  go_wp2_with fail
  with_reducible refine (shVersion g gs 0 _ _ _ HS3.out rfl HT3.out rfl (by omega)).mono ?_
  rintro e w4 ⟨rfl, rfl⟩
  go_wp2_with fail
  with_reducible refine (shRecord g gs 0 _ _ _ HS3.out rfl HT3.out rfl (by omega) HOK.out D (HD.out.congr (fun i hi => ?_))).mono ?_
  · show (if 8 ≤ baseV 0 + i ∧ baseV 0 + i < 40 then nz k (baseV 0 + i - 8) else 0) = _
    have e : baseV 0 = 8 := rfl
    rw [e, if_pos (by omega), show 8 + i - 8 = i by omega]
    rfl
  rintro e w5 ⟨rfl, hb5⟩
  have HB5 := Lib.hid (HB3.out.trans (hb5.mono HB3.out.size))
  have HS5 := Lib.hid (HS3.out.below hb5 HS3.out.lt)
  clear hb5
  go_wp2_with fail
  with_reducible refine (HNR.out _).mono ?_
  rintro e w6 ⟨rfl, hb6⟩
  have HB6 := Lib.hid (HB5.out.trans (hb6.mono HB5.out.size))
  have HS6 := Lib.hid (HS5.out.below hb6 HS5.out.lt)
  clear hb6
  go_wp2_with fail
  with_reducible refine (HWD.out _).mono ?_
  rintro e w7 ⟨g7, D7, rfl, hD7, hU7, hg7, hb7⟩
  have HB7 := Lib.hid (HB6.out.trans (hb7.mono HB6.out.size))
  have HS7 := Lib.hid (HS6.out.below hb7 HS6.out.lt)
  have HL7 := Lib.hid (SlU.of_blk (n := 32) (c := 32) (o := 0) hD7 hU7 (by omega) (by omega) (by omega))
  clear hb7 hD7 hU7 hg7
  go_wp2_with fail
  with_reducible refine (recordOf_any _ 32 32 (fun i => if i = 0 then k else 0) _ (by simpa using HL7.out) (by omega) D (HD.out.congr (fun i hi => by rw [if_pos hi]))).mono ?_
  rintro e w8 ⟨rfl, hb8⟩
  have HB8 := Lib.hid (HB7.out.trans (hb8.mono HB7.out.size))
  have HS8 := Lib.hid (HS7.out.below hb8 HS7.out.lt)
  clear hb8
  go_wp2_with fail
  with_reducible refine (deeds0 g _ _ HS8.out rfl).mono ?_
  rintro e w9 ⟨rfl, hb9⟩
  have HB9 := Lib.hid (HB8.out.trans (hb9.mono HB8.out.size))
  have HS9 := Lib.hid (HS8.out.below hb9 HS8.out.lt)
  clear hb9
  go_wp2_with fail
  with_reducible refine (history0 g _ _ HS9.out rfl).mono ?_
  rintro e w10 ⟨rfl, hb10⟩
  have HB10 := Lib.hid (HB9.out.trans (hb10.mono HB9.out.size))
  clear hb10
  go_wp2
  go_ret
  exact ⟨ret_bool (by simp), HB10.out⟩
theorem walk (k : Int) (w : World) (hT : SpT w.heap.size w) (hE : ErrT w) : Calls Tryd.prog 3 #[.int .i64 k] w fun e w' => e = .returned (.bool true) ∧ Below w.heap.size w w' := by
  cases hk : kindB k
  · exact news_bad k w hk hT hE
  · exact news_ok k w hk hT

theorem own : ownKnob Tryd.prog.godebug = none := by kernel_rfl

set_option maxRecDepth 100000 in
theorem lifted (os : Os) (started : os.Started) (H : Type) (enc : TypeId × Value → H) :
    ReturnsInHanded {} Tryd.checked os 3 .any (fun w args => (Rows.shopNewsSpec.pre enc Tryd.prog Tryd.f3 [] false w args ∧ laidMetH Tryd.prog laidE w) ∧ sizedMet enc Tryd.prog Tryd.f3 (OpenSpec.ofChange Rows.shopNewsSpec) false w args) (Rows.shopNewsSpec.post enc Tryd.prog Tryd.f3 false true false false) := by
  refine law_lifted_and (C := Tryd.checked) (X := fun w _ => laidMetH Tryd.prog laidE w) (fun _ _ _ hh h => h.of_heap hh) own started (by kernel_rfl) Tryd.func3
    (ChangeSpec.witness_shaped (enc := enc) (C := Tryd.checked) (os := os) (X := fun w _ => laidMetH Tryd.prog laidE w) false (laidWorld os) #[.int .i64 0] 8 (laidWorld_os os) (World.shaped_of_ZipB (by kernel_rfl) (by kernel_rfl)) (by kernel_rfl) (by kernel_rfl) (by kernel_rfl) (laidWorld_met os _))
    (by kernel_rfl) (by kernel_rfl) rfl rfl Tryd.underlying4 ?_
  intro W base args ds ps hval0 hA0 hsz0 hL
  have hg := factsOf hL
  have hval : ∀ (j : Nat) t v, Tryd.f3.params[j]? = some t → args[j]? = some v → Value.okWide Tryd.prog W .any base t v := hval0
  have hA : DataW.TrodAll enc Tryd.prog W 0 (fun _ => true) true Tryd.f3.params.toList args.toList ds ps := hA0
  rw [Tryd.params3] at hA hval
  obtain ⟨v0, d0, rfl, rfl, h0⟩ := trodAll_one hA
  obtain ⟨k, rfl, rfl, rfl, wk⟩ := open_int Tryd.underlying3 (hval 0 3 v0 rfl rfl) h0
  exact ⟨rfl, walk k W hg.1 hg.2⟩

theorem kinPlace : (Rows.shopNewsRow.inPlace == Tryd.pinned.checked.prog.inPlace 3) = true := by kernel_rfl
theorem kunfollowed : (Rows.shopNewsRow.unfollowed == Tryd.pinned.checked.prog.unfollowed 3) = true := by kernel_rfl
theorem krecurses : (Rows.shopNewsRow.recurses == Tryd.pinned.checked.prog.recurses 3) = true := by kernel_rfl
theorem knamed : (Rows.shopNewsRow.named == Tryd.pinned.checked.prog.varsNamed 3) = true := by kernel_rfl
theorem closed : joinedFacts Tryd.pinned.checked.prog 3 Tryd.f3 Rows.shopNewsSpec Rows.shopNewsRow = true := by
  unfold joinedFacts
  simp only [Bool.and_eq_true]
  repeat' apply And.intro
  all_goals first | (with_reducible exact kinPlace) | (with_reducible exact kunfollowed) | (with_reducible exact krecurses) | (with_reducible exact knamed) | (with_reducible exact laidOutP) | (with_reducible exact mapsRowedP) | kernel_rfl
theorem goes : false = Rows.shopNewsRow.goesBy Tryd.pinned.checked.prog := by kernel_rfl
theorem wfText : Rows.shopNewsRow.wfByText (OpenSpec.ofChange Rows.shopNewsSpec) = true := by kernel_rfl

theorem row : Rows.ShopNewsSaid :=
  OpenClaim.holds_of_wide 3 Tryd.f3 rfl rfl rfl rfl rfl rfl rfl ⟨rfl, rfl, rfl, rfl, rfl⟩ rfl rfl rfl rfl rfl (by kernel_rfl) Tryd.func3 closed
    (of_decide_eq_true (by kernel_rfl)) (by unfold Func.isWrapper; first | (rw [if_pos (by decide +kernel)]; kernel_rfl) | (rw [if_neg (by decide +kernel)]; exact ⟨rfl, rfl⟩))
    (fun os started H enc _ => lifted os started H enc)
theorem holds : Rows.ShopNewsCardSaid :=
  Claim7.holds_tied_plain_at .later [] [.handle, .listed, .data] true Rows.shopNewsCard.stood.harness true
    row (fun _ h => by cases h) wfText (fun _ h => by cases h) shopNews_row_tie rfl ⟨rfl, rfl⟩ (by kernel_rfl) rfl
    (fun f fn hf hfn => by
      obtain rfl : f = 3 := Option.some.inj ((show Tryd.prog.funcNamed Rows.shopNewsRow.func = some 3 by kernel_rfl).symm.trans hf) |>.symm
      obtain rfl : fn = Tryd.f3 := (Option.some.inj (Tryd.func3.symm.trans hfn)).symm
      refine ⟨looksP, fun j t ht => ?_⟩
      have hall : (Tryd.f3.params.toList.all fun t => !(Tryd.prog.wantsStandIn t)) = true := by kernel_rfl
      have hm : t ∈ Tryd.f3.params.toList := List.mem_of_getElem? (by simpa using ht)
      have h := List.all_eq_true.1 hall t hm
      show Tryd.prog.wantsStandIn t = false
      simpa using h)
    goes
#print axioms holds
end Go.Proofs.YtkoflhjnpilchaaDoor.lawShopNews
