/-
  What gristmillref.Rec's Words return.
-/
import Derived.Test.YtkoflhjnpilchaaDoorRecP
import Derived.Test.YtkoflhjnpilchaaDoorMWord
import Derived.Test.YtkoflhjnpilchaaDoorMTh
import Derived.Laws.CopyOwn
namespace Go.Proofs.YtkoflhjnpilchaaDoor
set_option linter.unusedSimpArgs false
set_option linter.unusedVariables false
set_option linter.unusedSectionVars false
open Go.RowKit
set_option linter.unusedSimpArgs false
set_option linter.unusedVariables false
attribute [local go_sem ↓] Go.wp_at_zero Go.wp_at_succ

theorem U64s.splice {E D : Array Value} {n m o : Nat} {z y : Nat → Int} (hE : U64s E n z) (hD : U64s D m y) (h : o + m ≤ n) :
    U64s (E.toList.take o ++ (D.toList ++ E.toList.drop (o + m))).toArray n (fun i => if o ≤ i ∧ i < o + m then y (i - o) else z i) := by
  have e1 := hE.size
  have e2 := hD.size
  have e3 : (E.toList.take o).length = o := by simp; omega
  refine ⟨by simp; omega, fun i hi => ?_, fun i hi => ?_⟩
  · rw [List.getElem?_toArray, List.getElem?_append]
    by_cases h1 : i < o
    · rw [if_pos (by omega), List.getElem?_take, if_pos h1, if_neg (by omega), Array.getElem?_toList]
      exact hE.get i hi
    · rw [if_neg (by omega), List.getElem?_append, e3]
      by_cases h2 : i < o + m
      · rw [if_pos (by simp; omega), if_pos ⟨by omega, h2⟩, Array.getElem?_toList]
        exact hD.get (i - o) (by omega)
      · rw [if_neg (by simp; omega), if_neg (by omega), List.getElem?_drop, Array.length_toList, e2, Array.getElem?_toList, show o + m + (i - o - m) = i by omega]
        exact hE.get i hi
  · show 0 ≤ (if o ≤ i ∧ i < o + m then y (i - o) else z i) ∧ (if o ≤ i ∧ i < o + m then y (i - o) else z i) < _
    by_cases h1 : o ≤ i ∧ i < o + m
    · rw [if_pos h1]; exact hD.bd (i - o) (by omega)
    · rw [if_neg h1]; exact hE.bd i hi

/-- A record's cells. -/
structure RcR (R C : Array Value) (ac av wh tg : Nat → Int) (ver cnt : Int) : Prop where
  size : R.size = 37
  thing : C = R.extract 0 19
  ac_ : ∀ t, t < 4 → R[19 + 2 * t]? = some (.int .i64 (ac t))
  av_ : ∀ t, t < 4 → R[20 + 2 * t]? = some (.int .i64 (av t))
  wh_ : ∀ t, t < 4 → R[27 + t]? = some (.int .u64 (wh t))
  tg_ : ∀ t, t < 4 → R[31 + t]? = some (.int .i64 (tg t))
  ver_ : R[35]? = some (.int .u64 ver)
  cnt_ : R[36]? = some (.int .u64 cnt)
/-- The toggles' word, of the first k. -/
def tgW (tg : Nat → Int) : Nat → Nat
  | 0 => 0
  | k + 1 => if tg k = 1 then flipN (tgW tg k) k else tgW tg k
theorem tgW_lt (tg : Nat → Int) : ∀ k, k ≤ 4 → tgW tg k < 2 ^ k
  | 0, _ => by simp [tgW]
  | k + 1, h => by
    have := tgW_lt tg k (by omega)
    unfold tgW
    split
    · unfold flipN
      split
      · exact Nat.xor_lt_two_pow (Nat.lt_of_lt_of_le this (Nat.pow_le_pow_right (by decide) (by omega))) (by rw [Int.toNat_natCast]; exact Nat.pow_lt_pow_right (by decide) (by omega))
      · exact Nat.lt_of_lt_of_le this (Nat.pow_le_pow_right (by decide) (by omega))
    · exact Nat.lt_of_lt_of_le this (Nat.pow_le_pow_right (by decide) (by omega))
theorem tgW_64 (tg : Nat → Int) (k : Nat) (h : k ≤ 4) : tgW tg k < 18446744073709551616 := by
  have := tgW_lt tg k h
  have h2 : 2 ^ k ≤ 2 ^ 4 := Nat.pow_le_pow_right (by decide) h
  omega
/-- The words so far: of k threads. -/
def wzK (kind : Int) (zo ac av wh tg : Nat → Int) (k : Nat) (i : Nat) : Int :=
  if i = 0 then kind else if i < 18 then zo (i - 1) else if i < 22 then (if i - 18 < k then ansN (ac (i - 18)) (av (i - 18)) else 0)
  else if i < 26 then (if i - 22 < k then wh (i - 22) else 0) else if i = 26 then (tgW tg k : Int) else 0
theorem wzK_zero (kind : Int) (zo ac av wh tg : Nat → Int) (i : Nat) : wzK kind zo ac av wh tg 0 i = if 1 ≤ i ∧ i < 1 + 17 then zo (i - 1) else if i = 0 then kind else 0 := by
  unfold wzK
  repeat' split
  all_goals first | rfl | (exfalso; omega)
theorem wzK_succ (kind : Int) (zo ac av wh tg : Nat → Int) (k i : Nat) (hk : k < 4) : wzK kind zo ac av wh tg (k + 1) i = if i = 26 then (tgW tg (k + 1) : Int) else if i = 22 + k then wh k else if i = 18 + k then ansN (ac k) (av k) else wzK kind zo ac av wh tg k i := by
  unfold wzK
  by_cases h26 : i = 26
  · subst h26; rfl
  rw [if_neg h26, if_neg h26]
  by_cases h22 : i = 22 + k
  · subst h22
    rw [if_pos rfl, if_neg (by omega), if_neg (by omega), if_neg (by omega), if_pos (by omega), if_pos (by omega), show 22 + k - 22 = k by omega]
  rw [if_neg h22]
  by_cases h18 : i = 18 + k
  · subst h18
    rw [if_pos rfl, if_neg (by omega), if_neg (by omega), if_pos (by omega), if_pos (by omega), show 18 + k - 18 = k by omega]
  rw [if_neg h18]
  by_cases h0 : i = 0
  · rw [if_pos h0, if_pos h0]
  rw [if_neg h0, if_neg h0]
  by_cases h1 : i < 18
  · rw [if_pos h1, if_pos h1]
  rw [if_neg h1, if_neg h1]
  by_cases h2 : i < 22
  · rw [if_pos h2, if_pos h2]
    by_cases h3 : i - 18 < k
    · rw [if_pos h3, if_pos (show i - 18 < k + 1 by omega)]
    · rw [if_neg h3, if_neg (show ¬ i - 18 < k + 1 by omega)]
  rw [if_neg h2, if_neg h2]
  by_cases h4 : i < 26
  · rw [if_pos h4, if_pos h4]
    by_cases h3 : i - 22 < k
    · rw [if_pos h3, if_pos (show i - 22 < k + 1 by omega)]
    · rw [if_neg h3, if_neg (show ¬ i - 22 < k + 1 by omega)]
  rw [if_neg h4, if_neg h4, if_neg h26]
def wordsZ (kind : Int) (zo ac av wh tg : Nat → Int) (ver cnt : Int) (i : Nat) : Int := if i = 27 then ver else if i = 28 then cnt else wzK kind zo ac av wh tg 4 i
def WordsOut (z : Nat → Int) (w : World) (e : Ending) (w' : World) : Prop :=
  ∃ g D, e = .returned (.slice (some ⟨g, 0, none⟩) 32 32) ∧ Blk w' g 31 D ∧ U64s D 32 z ∧ w.heap.size ≤ g ∧ Below w.heap.size w w'
theorem rec_mk (w : World) : (Instr.makeSlice 36 (.int .i64 32) (.int .i64 32)).run Tryd.prog w = .ok (.slice (some ⟨w.heap.size, 0, none⟩) 32 32) (w.alloc (.cells (Array.replicate 32 (.int .u64 0)) 31)) := by kernel_rfl
theorem ansN_bd (a v : Int) : 0 ≤ ansN a v ∧ ansN a v < 18446744073709551616 := by
  unfold ansN
  split
  · rename_i h
    unfold fitsB at h
    simp at h
    omega
  · omega
set_option maxRecDepth 100000 in
set_option maxHeartbeats 4000000 in
theorem words_any (R C : Array Value) (ac av wh tg : Nat → Int) (ver cnt kind : Int) (zo : Nat → Int) (w : World) (h : RcR R C ac av wh tg ver cnt) (hk : 0 ≤ kind ∧ kind ≤ 9) (hz : ∀ i, i < 17 → 0 ≤ zo i) (hok : thingOk kind zo) (hC : ThOk kind zo C w)
    (hw : ∀ t, t < 4 → 0 ≤ wh t ∧ wh t < 18446744073709551616) (hver : 0 ≤ ver ∧ ver < 18446744073709551616) (hcnt : 0 ≤ cnt ∧ cnt < 18446744073709551616) :
    Calls Tryd.prog 11 #[.agg R] w (WordsOut (wordsZ kind zo ac av wh tg ver cnt) w) := by
  have hmk := rec_mk
  have hB0 : Blk (w.alloc (.cells R 50)) w.heap.size 50 R := Blk.new _ _ _
  have hkw : kind % 18446744073709551616 = kind := by omega
  have r0 : R[0]? = some (.int .i64 kind) := by
    have e := hC.kind_
    rw [h.thing, Array.getElem?_extract, if_pos (by have := h.size; omega)] at e
    simpa using e
  have hsz := hC.size
  have HIC : Hid ((Tryd.prog.info? 43).map (·.size) = some C.toList.length) := by show _ = _; rw [infoTh, Array.length_toList, hsz]
  have HU : Hid (U64s ((Array.replicate 32 (.int .u64 0)).setIfInBounds 0 (.int .u64 kind)) 32 (fun i => if i = 0 then kind else 0)) := Lib.hid ((U64s.zero 32).set_ (k := 0) (by omega))
  have H := Lib.hid h
  have HK := Lib.hid hk
  have HC := Lib.hid hC
  have HB0 := Lib.hid hB0
  have HZ := Lib.hid hz
  have HOK := Lib.hid hok
  have HWH := Lib.hid hw
  clear h hC hB0 hz hok hw hsz
  go_enter Tryd.func11, Tryd.ntmps11
  go_wp2_with fail
  have hW1 : Below w.heap.size w ((w.alloc (.cells R 50)).alloc (.cells ((Array.replicate 32 (.int .u64 0)).setIfInBounds 0 (.int .u64 kind)) 31)) := by go_grown
  have HB1 : Hid (Blk ((w.alloc (.cells R 50)).alloc (.cells ((Array.replicate 32 (.int .u64 0)).setIfInBounds 0 (.int .u64 kind)) 31)) (w.heap.size + 1) 31 ((Array.replicate 32 (.int .u64 0)).setIfInBounds 0 (.int .u64 kind))) := Lib.hid (Blk.newAt _ _ _ (by simp))
  have HB00 : Hid (Blk ((w.alloc (.cells R 50)).alloc (.cells ((Array.replicate 32 (.int .u64 0)).setIfInBounds 0 (.int .u64 kind)) 31)) w.heap.size 50 R) := Lib.hid (HB0.out.alloc _)
  have HC1 := Lib.hid (HC.out.below hW1)
  generalize (w.alloc (.cells R 50)).alloc (.cells ((Array.replicate 32 (.int .u64 0)).setIfInBounds 0 (.int .u64 kind)) 31) = W1 at *
  generalize (Array.replicate 32 (Value.int .u64 0)).setIfInBounds 0 (Value.int .u64 kind) = E0 at *
  clear HC hmk
  have hz1 := HB1.out.lt
  refine wp_region_rely 5 nowhere [] (by kernel_rfl) (by kernel_rfl) ?_
  iterate 3
    refine wpRely_step (fun K hK => ?_)
    refine .inl ?_
    apply Exists.intro
    refine ⟨Any, ?_, hK _ _ _ _ ?_⟩
    · simp only [RelyOp, fillE]
      refine ⟨rfl, fun w9 hw9 _ => ?_⟩
      go_simp
      exact ⟨⟨rfl, trivial⟩, Keeps.refl _ _⟩
    clear hK K
    try simp only [Act.put, List.setIfInBounds_toArray, List.set_cons_zero, List.set_cons_succ]
  refine wpRely_step (fun K hK => ?_)
  refine .inl ⟨.agg C, Any, ?_, hK _ _ _ _ ?_⟩
  · simp only [RelyOp, fillE]
    refine ⟨rfl, fun w9 hw9 _ => ?_⟩
    exact relyAt_load_mid 43 _ rfl w.heap.size 0 rfl C.toList _ (by
      rw [H.out.thing]
      exact World.rangeAt_of_block (t := 50) (fr := (0, 0)) (HB00.out.below hw9.same HB00.out.lt) 0 19) Tryd.underlying43 rfl HIC.out ⟨⟨by simp, trivial⟩, Keeps.refl _ _⟩
  clear hK K
  try simp only [Act.put, List.setIfInBounds_toArray, List.set_cons_zero, List.set_cons_succ]
  refine wpRely_step (fun K hK => ?_)
  refine .inr (.inr ⟨IsS17, Is17 zo, ⟨_, 0, rfl⟩, ?_, hK _ _ _ _ ?_⟩)
  · simp only [RelyOp, fillE]
    refine ⟨rfl, fun w9 hw9 _ => ?_⟩
    go_simp
    go_at_call 22
    refine (cells_any C zo kind _ HZ.out HOK.out (HC1.out.below hw9.same)).mono ?_
    rintro e w10 ⟨g, D, rfl, hb1, hu, hg, hbl⟩
    exact ⟨_, rfl, ⟨⟨g, rfl⟩, ⟨g, D, rfl, hb1, hu⟩⟩, Keeps.of_same hbl⟩
  clear hK K
  try simp only [Act.put, List.setIfInBounds_toArray, List.set_cons_zero, List.set_cons_succ]
  refine wpRely_nil ?_
  simp only [fillE]
  rintro _ ⟨g9, rfl⟩ w9 hw9 hmet
  obtain ⟨w0, k0, k1, g', D, hv, hblk, hu⟩ := (hmet.1 rfl).out
  cases hv
  have hBD := hblk.below k1 hblk.lt
  have HB9 := Lib.hid (HB1.out.below hw9.same HB1.out.lt)
  have HB90 := Lib.hid (HB00.out.below hw9.same HB00.out.lt)
  have HW9 := Lib.hid (hW1.trans (hw9.same.mono hW1.size))
  have HBD := Lib.hid hBD
  have HD := Lib.hid hu
  clear hmet hblk k0 k1 hBD hu HB1 HB00 hW1 hz1 hw9
  simp only [List.drop_succ_cons, List.drop_zero]
  refine wpList_copy_own rfl (.tmp 13) (.tmp 16) 36 36 rfl 31 Tryd.underlying36 (by kernel_rfl) (w.heap.size + 1) 1 31 31 ⟨g9, 0, none⟩ 17 17 rfl rfl E0 31 HB9.out D.toList (by rw [Array.length_toList, HD.out.size]; rfl) ?hsrc ?hfit ?hone ?_
  case hsrc =>
    intro j v hj
    rw [Addr.add_lit, Nat.zero_add, HBD.out.cell j]
    simpa using hj
  case hfit => rw [Array.length_toList, HD.out.size, HU.out.size]; decide
  case hone =>
    intro v hv
    have := HD.out.one
    rw [Array.all_eq_true] at this
    obtain ⟨i, hi, rfl⟩ := List.getElem_of_mem hv
    have h9 := this i (by simpa using hi)
    simpa using h9
  rw [Array.length_toList, HD.out.size]
  have HU2 := Lib.hid ((HU.out.splice HD.out (o := 1) (by omega)).congr (z' := wzK kind zo ac av wh tg 0) (fun i hi => wzK_zero _ _ _ _ _ _ i))
  have HB10 := Lib.hid (HB9.out.setRow (E0.toList.take 1 ++ (D.toList ++ E0.toList.drop (1 + 17))).toArray)
  have HB100 : Hid (Blk (w9.setRow (w.heap.size + 1) (E0.toList.take 1 ++ (D.toList ++ E0.toList.drop (1 + 17))).toArray) w.heap.size 50 R) := Lib.hid ((setRow_other _ _ _ _ (by omega)).trans HB90.out)
  have HW10 := Lib.hid (below_setRow HW9.out (show w.heap.size ≤ w.heap.size + 1 by omega) (E0.toList.take 1 ++ (D.toList ++ E0.toList.drop (1 + 17))).toArray)
  generalize w9.setRow (w.heap.size + 1) (E0.toList.take 1 ++ (D.toList ++ E0.toList.drop (1 + 17))).toArray = W2 at *
  generalize (E0.toList.take 1 ++ (D.toList ++ E0.toList.drop (1 + 17))).toArray = E1 at *
  clear HU HB9 HB90 HW9 HBD HD
  clear r0 HOK HC1 HIC
  go_wp2
  go_loopw [18] (fun i wr => ∃ k : Nat, k ≤ 4 ∧ i = .int .i64 k ∧ Hid (∃ E, Blk wr (w.heap.size + 1) 31 E ∧ U64s E 32 (wzK kind zo ac av wh tg k)) ∧ Hid (Blk wr w.heap.size 50 R) ∧ Hid (Below w.heap.size w wr)) (fun i _ => 4 - (intOf i).toNat)
  case atStart => exact ⟨0, by omega, rfl, Lib.hid ⟨E1, HB10.out, HU2.out⟩, HB100, HW10⟩
  case round =>
    obtain ⟨k, hk, rfl, hE, HR, HW⟩ := hrel
    obtain ⟨E, hBE, hUE⟩ := hE.out
    have HBE := Lib.hid hBE
    have HUE := Lib.hid hUE
    clear hE hBE hUE HB10 HU2 HB100 HW10
    by_cases hk4 : k < 4
    · have q1 : (k : Int) < 4 := by omega
      have a0 : wr.cell? ⟨w.heap.size, 19 + k * 2, none⟩ = some (.int .i64 (ac k)) := by rw [Nat.mul_comm k 2]; exact (HR.out.cell _).trans (H.out.ac_ k hk4)
      have a1 : wr.cell? ⟨w.heap.size, 19 + k * 2 + 1, none⟩ = some (.int .i64 (av k)) := by rw [Nat.mul_comm k 2, show 19 + 2 * k + 1 = 20 + 2 * k by omega]; exact (HR.out.cell _).trans (H.out.av_ k hk4)
      by_cases htg : tg k = 1
      · have dtg : (tg k == 1) = true := by simpa using htg
        have HT1 := Lib.hid htg
        clear htg
        go_wp2_with fail
        refine (refAnswer_any (ac k) (av k) _).mono ?_
        rintro e w1 ⟨rfl, hb1⟩
        have hBE1 := HBE.out.below hb1 HBE.out.lt
        have hR1 := HR.out.below hb1 HR.out.lt
        have HW1 := Lib.hid (HW.out.trans (hb1.mono HW.out.size))
        have x0 := (hBE1.cell (18 + k)).trans (HUE.out.get (18 + k) (by omega))
        have x1 := (hBE1.cell (22 + k)).trans (HUE.out.get (22 + k) (by omega))
        have x2 := (hBE1.cell 26).trans (HUE.out.get 26 (by omega))
        rw [show wzK kind zo ac av wh tg k 26 = ((tgW tg k : Nat) : Int) from rfl] at x2
        have H26 : Hid (wzK kind zo ac av wh tg k 26 = ((tgW tg k : Nat) : Int)) := Lib.hid rfl
        have f0 := hBE1.frozen (18 + k)
        have f1 := hBE1.frozen (22 + k)
        have f2 := hBE1.frozen 26
        have y0 := (hR1.cell (27 + k)).trans (H.out.wh_ k hk4)
        have y1 := (hR1.cell (31 + k)).trans (H.out.tg_ k hk4)
        have i18 : (18 : Int) + k = ((18 + k : Nat) : Int) := by omega
        have i22 : (22 : Int) + k = ((22 + k : Nat) : Int) := by omega
        have j18 : ((18 + k : Nat) : Int) < 32 := by omega
        have j22 : ((22 + k : Nat) : Int) < 32 := by omega
        have n1 : ¬ 18 + k = 26 := by omega
        have n2 : ¬ 22 + k = 26 := by omega
        have n3 : ¬ 18 + k = 22 + k := by omega
        have n4 : ¬ 22 + k = 18 + k := by omega
        have n5 : ¬ 26 = 18 + k := by omega
        have n6 : ¬ 26 = 22 + k := by omega
        have HBE1 := Lib.hid hBE1
        have HR1 := Lib.hid hR1
        have HWK := Lib.hid (HWH.out k hk4)
        have HAN := Lib.hid (ansN_bd (ac k) (av k))
        have HSU := Lib.hid (wzK_succ kind zo ac av wh tg k)
        have HKN := Lib.hid (tgW_64 tg (k + 1) (by omega))
        have HKK := Lib.hid (tgW_64 tg k (by omega))
        have HTG : Hid (tgW tg (k + 1) = if tg k = 1 then flipN (tgW tg k) k else tgW tg k) := Lib.hid rfl
        clear a0 a1 hb1 hBE1 hR1
        generalize ansN (ac k) (av k) = an at *
        generalize wh k = wk at *
        generalize tgW tg (k + 1) = tn at *
        generalize tgW tg k = tk at *
        generalize tg k = tgk at *
        generalize hs : 18 + k = s at *
        generalize hu : 22 + k = u at *
        have HS := Lib.hid hs
        have HU := Lib.hid hu
        clear hs hu
        go_wp2_with fail
        refine (refFlip_any tk k _ HKK.out).mono ?_
        rintro e w2 ⟨rfl, hb2⟩
        rw [show flipN tk (k : Int) = tn from by rw [HTG.out, if_pos HT1.out]]
        have hBE2 := (HBE1.out.set_ s (.int .u64 an)).set_ u (.int .u64 wk)
        have hBE3 := hBE2.below hb2 hBE2.lt
        have HR2 := Lib.hid (((HR1.out.far (p := ⟨w.heap.size + 1, s, none⟩) (by simp) (.int .u64 an)).far (p := ⟨w.heap.size + 1, u, none⟩) (by simp) (.int .u64 wk)).below hb2 (by have := HR1.out.lt; simpa using this))
        have HW2 := Lib.hid (((HW1.out.setCell (p := ⟨w.heap.size + 1, s, none⟩) (by show w.heap.size ≤ w.heap.size + 1; omega) (.int .u64 an)).setCell (p := ⟨w.heap.size + 1, u, none⟩) (by show w.heap.size ≤ w.heap.size + 1; omega) (.int .u64 wk)).trans (hb2.mono (by have := HW1.out.size; simpa using this)))
        have hUE2 := (HUE.out.set_ (k := s) (v := an) HAN.out).set_ (k := u) (v := wk) HWK.out
        have x3 := (hBE3.cell 26).trans (hUE2.get 26 (by omega))
        have f3 := hBE3.frozen 26
        have HBE3 := Lib.hid hBE3
        have HUE2 := Lib.hid hUE2
        clear hb2 hBE2 hBE3 hUE2 x0 x1 x2 f0 f1 f2 y0 y1 i18 i22 n1 n2 n3 n4 n5 n6
        go_wp2
        go_roundw
        case rel => exact ⟨k + 1, by omega, by go_num, Lib.hid ⟨_, HBE3.out.set_ 26 _, (HUE2.out.set_ (k := 26) (v := (tn : Int)) (by have := HKN.out; omega)).congr (fun i hi => HSU.out i hk4)⟩, Lib.hid (HR2.out.far (p := ⟨w.heap.size + 1, 26, none⟩) (by simp) _), Lib.hid (HW2.out.setCell (p := ⟨w.heap.size + 1, 26, none⟩) (by show w.heap.size ≤ w.heap.size + 1; omega) _)⟩
        case measure => simp [intOf]; omega
      · have dtg : (tg k == 1) = false := by simpa using htg
        have HT1 := Lib.hid htg
        clear htg
        go_wp2_with fail
        refine (refAnswer_any (ac k) (av k) _).mono ?_
        rintro e w1 ⟨rfl, hb1⟩
        have hBE1 := HBE.out.below hb1 HBE.out.lt
        have hR1 := HR.out.below hb1 HR.out.lt
        have HW1 := Lib.hid (HW.out.trans (hb1.mono HW.out.size))
        have x0 := (hBE1.cell (18 + k)).trans (HUE.out.get (18 + k) (by omega))
        have x1 := (hBE1.cell (22 + k)).trans (HUE.out.get (22 + k) (by omega))
        have x2 := (hBE1.cell 26).trans (HUE.out.get 26 (by omega))
        rw [show wzK kind zo ac av wh tg k 26 = ((tgW tg k : Nat) : Int) from rfl] at x2
        have H26 : Hid (wzK kind zo ac av wh tg k 26 = ((tgW tg k : Nat) : Int)) := Lib.hid rfl
        have f0 := hBE1.frozen (18 + k)
        have f1 := hBE1.frozen (22 + k)
        have f2 := hBE1.frozen 26
        have y0 := (hR1.cell (27 + k)).trans (H.out.wh_ k hk4)
        have y1 := (hR1.cell (31 + k)).trans (H.out.tg_ k hk4)
        have i18 : (18 : Int) + k = ((18 + k : Nat) : Int) := by omega
        have i22 : (22 : Int) + k = ((22 + k : Nat) : Int) := by omega
        have j18 : ((18 + k : Nat) : Int) < 32 := by omega
        have j22 : ((22 + k : Nat) : Int) < 32 := by omega
        have n1 : ¬ 18 + k = 26 := by omega
        have n2 : ¬ 22 + k = 26 := by omega
        have n3 : ¬ 18 + k = 22 + k := by omega
        have n4 : ¬ 22 + k = 18 + k := by omega
        have n5 : ¬ 26 = 18 + k := by omega
        have n6 : ¬ 26 = 22 + k := by omega
        have HBE1 := Lib.hid hBE1
        have HR1 := Lib.hid hR1
        have HWK := Lib.hid (HWH.out k hk4)
        have HAN := Lib.hid (ansN_bd (ac k) (av k))
        have HSU := Lib.hid (wzK_succ kind zo ac av wh tg k)
        have HKN := Lib.hid (tgW_64 tg (k + 1) (by omega))
        have HKK := Lib.hid (tgW_64 tg k (by omega))
        have HTG : Hid (tgW tg (k + 1) = if tg k = 1 then flipN (tgW tg k) k else tgW tg k) := Lib.hid rfl
        clear a0 a1 hb1 hBE1 hR1
        generalize ansN (ac k) (av k) = an at *
        generalize wh k = wk at *
        generalize tgW tg (k + 1) = tn at *
        generalize tgW tg k = tk at *
        generalize tg k = tgk at *
        generalize hs : 18 + k = s at *
        generalize hu : 22 + k = u at *
        have HS := Lib.hid hs
        have HU := Lib.hid hu
        clear hs hu
        have HT2 : Hid (tn = tk) := Lib.hid (by rw [HTG.out, if_neg HT1.out])
        go_wp2
        go_roundw
        case rel => exact ⟨k + 1, by omega, by go_num, Lib.hid ⟨_, (HBE1.out.set_ s (.int .u64 an)).set_ u (.int .u64 wk), ((HUE.out.set_ (k := s) (v := an) HAN.out).set_ (k := u) (v := wk) HWK.out).congr (fun i hi => by
          have e1 := HS.out
          have e2 := HU.out
          rw [HSU.out i hk4]
          by_cases h26 : i = 26
          · subst h26
            rw [if_pos rfl, if_neg (by omega), if_neg (by omega), H26.out, HT2.out]
          · rw [if_neg h26])⟩, Lib.hid ((HR1.out.far (p := ⟨w.heap.size + 1, s, none⟩) (by simp) (.int .u64 an)).far (p := ⟨w.heap.size + 1, u, none⟩) (by simp) (.int .u64 wk)),
          Lib.hid ((HW1.out.setCell (p := ⟨w.heap.size + 1, s, none⟩) (by show w.heap.size ≤ w.heap.size + 1; omega) (.int .u64 an)).setCell (p := ⟨w.heap.size + 1, u, none⟩) (by show w.heap.size ≤ w.heap.size + 1; omega) (.int .u64 wk))⟩
        case measure => simp [intOf]; omega
    · obtain rfl : k = 4 := by omega
      have v0 : wr.cell? ⟨w.heap.size, 35, none⟩ = some (.int .u64 ver) := (HR.out.cell 35).trans H.out.ver_
      have v1 : wr.cell? ⟨w.heap.size, 36, none⟩ = some (.int .u64 cnt) := (HR.out.cell 36).trans H.out.cnt_
      have x0 := (HBE.out.cell 27).trans (HUE.out.get 27 (by omega))
      have x1 := (HBE.out.cell 28).trans (HUE.out.get 28 (by omega))
      have f0 := HBE.out.frozen 27
      have f1 := HBE.out.frozen 28
      go_wp2
      go_region
      apply_assumption
      go_wp2
      go_ret
      exact ⟨w.heap.size + 1, _, rfl, (HBE.out.set_ 27 _).set_ 28 _, ((HUE.out.set_ (k := 27) (v := ver) hver).set_ (k := 28) (v := cnt) hcnt).congr (fun i hi => by
        unfold wordsZ
        by_cases h1 : i = 27
        · subst h1; rfl
        · rw [if_neg h1]
          by_cases h2 : i = 28
          · rw [if_pos h2, if_pos h2]
          · rw [if_neg h2, if_neg h2, if_neg h1]), by omega, ((HW.out.setCell (p := ⟨w.heap.size + 1, 27, none⟩) (by show w.heap.size ≤ w.heap.size + 1; omega) _).setCell (p := ⟨w.heap.size + 1, 28, none⟩) (by show w.heap.size ≤ w.heap.size + 1; omega) _).drew⟩
end Go.Proofs.YtkoflhjnpilchaaDoor
