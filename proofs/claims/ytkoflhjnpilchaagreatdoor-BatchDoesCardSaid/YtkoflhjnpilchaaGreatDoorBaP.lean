/-
  Many asks done in a record: plain. What each ask leads to, as words and deeds; a record stays one. No condition.
-/
import Derived.Test.YtkoflhjnpilchaaGreatDoorRdP
namespace Go.Proofs.YtkoflhjnpilchaaGreatDoor
set_option linter.unusedSimpArgs false
set_option linter.unusedVariables false
set_option linter.unusedSectionVars false
open Go.RowKit
set_option linter.unusedSimpArgs false
set_option linter.unusedVariables false

section congr
variable {z z' : Nat → Int}
theorem lenTc (h : ∀ i, i < 17 → z' i = z i) : lenT z' 8 = lenT z 8 := by
  unfold lenT
  rw [List.filter_congr (fun i hi => by rw [h (2 * i) (by have := List.mem_range.1 hi; omega)])]
theorem atTc (h : ∀ i, i < 17 → z' i = z i) (key : Nat) : atT z' key = atT z key := by
  have : hitB z' key = hitB z key := by
    funext k
    unfold hitB
    rw [h (2 * rowP key k) (by have := rowP_lt key k; omega)]
  unfold atT
  rw [this]
theorem slotOkc (h : ∀ i, i < 17 → z' i = z i) {i : Nat} (hi : i < 8) : slotOk z' i = slotOk z i := by
  unfold slotOk
  rw [h (2 * i) (by omega), h (2 * i + 1) (by omega), atTc h]
theorem rightTc (h : ∀ i, i < 17 → z' i = z i) : rightT z' = rightT z := by
  unfold rightT
  rw [lenTc h]
  congr 1
  rw [Bool.eq_iff_iff, List.all_eq_true, List.all_eq_true]
  constructor <;> intro q i hi
  · rw [← slotOkc h (List.mem_range.1 hi)]; exact q i hi
  · rw [slotOkc h (List.mem_range.1 hi)]; exact q i hi
theorem upL_congr (h : ∀ i, i < 17 → z' i = z i) {n : Nat} (hn : n ≤ 16) : upL z' n = upL z n := by
  unfold upL
  refine List.map_congr_left fun i hi => ?_
  exact h (i + 1) (by have := List.mem_range.1 hi; omega)
theorem listOk_congr (h : ∀ i, i < 17 → z' i = z i) (hz : listOk z) : listOk z' := by
  refine ⟨by rw [h 0 (by omega)]; exact hz.1, fun i hi => ?_⟩
  have := hz.2 i hi
  unfold wordOk at *
  rw [h 0 (by omega), h (i + 1) (by omega)]
  exact this
theorem thingOk_congr {kind : Int} (h : ∀ i, i < 17 → z' i = z i) (hz : thingOk kind z) : thingOk kind z' := by
  unfold thingOk at *
  split
  · rename_i e
    rw [if_pos e] at hz
    refine ⟨fun i hi => ?_, by rw [h 16 (by omega)]; exact hz.2.1, by rw [rightTc h]; exact hz.2.2⟩
    have := hz.1 i hi
    unfold pairOk at *
    rw [h (2 * i) (by omega), h (2 * i + 1) (by omega)]
    exact this
  · rename_i e
    rw [if_neg e] at hz
    split
    · rename_i e6
      rw [if_pos e6] at hz
      exact ⟨by rw [h 0 (by omega)]; exact hz.1, fun i hi => by rw [h i hi, h 0 (by omega)]; exact hz.2 i hi⟩
    · rename_i e6
      rw [if_neg e6] at hz
      split
      · rename_i e4
        rw [if_pos e4] at hz
        refine ⟨listOk_congr h hz.1, ?_⟩
        rw [h 0 (by omega), upL_congr h (by have := hz.1.1; omega)]
        exact hz.2
      · rename_i e4
        rw [if_neg e4] at hz
        exact ⟨hz.1, hz.2.1, listOk_congr h hz.2.2⟩
theorem ThR.congrD {C : Array Value} {kind : Int} {A : Option Addr} {n c : Nat} {d d' : Nat → Int} {N : Int} (x : ThR C kind A n c d N) (h : ∀ i, i < 16 → d' i = d i) : ThR C kind A n c d' N :=
  ⟨x.size, x.kind_, x.list, fun i hi => by rw [h i hi]; exact x.slot i hi, x.num⟩
theorem thOk_congr {kind : Int} {C : Array Value} {w : World} (h : ∀ i, i < 17 → z' i = z i) (hz : thingOk kind z) (x : ThOk kind z C w) : ThOk kind z' C w := by
  unfold ThOk thingOk at *
  split
  · rename_i e
    rw [if_pos e] at x
    exact x.congrD fun i hi => h i (by omega)
  · rename_i e
    rw [if_neg e] at x hz
    split
    · rename_i e6
      rw [if_pos e6] at x
      rw [h 0 (by omega)]
      exact x
    · rename_i e6
      rw [if_neg e6] at x hz
      have hl : z 0 ≤ 6 := by
        split at hz
        · exact hz.1.1
        · exact hz.2.2.1
      obtain ⟨A, c, h1, h2⟩ := x
      rw [h 0 (by omega)]
      refine ⟨A, c, h1, ?_⟩
      unfold zL at *
      rw [h 0 (by omega), upL_congr h (by omega)]
      exact h2
end congr

/-- A record, whose count may be one beyond. -/
def recL (z : Nat → Int) : Prop := thingOk (kindR z) (oz z) ∧ z 26 < 16 ∧ z 28 ≤ 1099511627777 ∧ z 27 ≤ 1099511627776 ∧ (∀ t, t < 4 → thrOk z t) ∧ z 29 = 0 ∧ z 30 = 0 ∧ z 31 = 0
theorem recOk_iff {z : Nat → Int} : recOk z ↔ recL z ∧ z 28 ≤ 1099511627776 := by
  constructor
  · rintro ⟨⟨h1, h2, h3, h4⟩, h5, h6⟩
    exact ⟨⟨h1, h2, by omega, h4, h5, h6⟩, h3⟩
  · rintro ⟨⟨h1, h2, _, h4, h5, h6⟩, h3⟩
    exact ⟨⟨h1, h2, h3, h4⟩, h5, h6⟩
theorem recL_kind {z : Nat → Int} (hr : recL z) : kindR z = z 0 ∧ 1 ≤ z 0 ∧ z 0 ≤ 6 := by
  have h := thing_kind hr.1
  unfold kindR at h ⊢
  split at h <;> rename_i h0
  · rw [if_pos h0]; exact ⟨rfl, h⟩
  · omega

theorem bitB_flip (x t u : Nat) (ht : t < 64) (hu : u < 64) : bitB (flipN x t) u = (bitB x u ^^ decide (t = u)) := by
  have e : ∀ y : Nat, bitB y u = y.testBit u := fun y => by
    unfold bitB
    rw [Nat.testBit_eq_decide_div_mod_eq]
    have h1 : (u : Int) < 64 := by omega
    simp [h1]
  rw [e, e, flipN_in x t ht, Nat.testBit_xor, Nat.testBit_two_pow]

section done
variable {z : Nat → Int} (y : Nat → Int) (t : Nat) (co va : Int)
theorem doneZ_0 : doneZ z y t co va 0 = z 0 := by
  unfold doneZ
  rw [if_neg (by omega), if_neg (by omega), if_neg (by omega), if_neg (by omega), if_neg (by omega)]
theorem doneZ_oz (i : Nat) (hi : i < 17) : oz (doneZ z y t co va) i = y i := by
  unfold oz doneZ
  rw [if_neg (by omega), if_neg (by omega), if_neg (by omega), if_neg (by omega), if_pos (by omega)]
  congr 1
  omega
theorem doneZ_kind : kindR (doneZ z y t co va) = kindR z := by unfold kindR; rw [doneZ_0]
theorem doneZ_ans (u : Nat) (hu : u < 4) : doneZ z y t co va (18 + u) = if u = t then ansN co va else z (18 + u) := by
  unfold doneZ
  by_cases ht : t < 4
  · rw [if_neg (by omega), if_neg (by omega), if_neg (by omega)]
    by_cases e : u = t
    · rw [if_pos (by omega), if_pos e]
    · rw [if_neg (by omega), if_neg e, if_neg (by omega)]
  · rw [if_neg (by omega), if_neg (by omega), if_neg (by omega), if_neg (by omega), if_neg (by omega), if_neg (by omega)]
theorem doneZ_when (u : Nat) (hu : u < 4) (ht : t < 4) : doneZ z y t co va (22 + u) = if u = t then z 28 + 1 else z (22 + u) := by
  unfold doneZ
  rw [if_neg (by omega)]
  by_cases e : u = t
  · rw [if_pos (by omega), if_pos e]
  · rw [if_neg (by omega), if_neg (by omega), if_neg (by omega), if_neg (by omega), if_neg e]
theorem doneZ_26 : doneZ z y t co va 26 = ((flipN (z 26).toNat t : Nat) : Int) := by unfold doneZ; rw [if_pos rfl]
theorem doneZ_27 (ht : t < 4) : doneZ z y t co va 27 = z 27 := by
  unfold doneZ
  rw [if_neg (by omega), if_neg (by omega), if_neg (by omega), if_neg (by omega), if_neg (by omega)]
theorem doneZ_28 (ht : t < 4) : doneZ z y t co va 28 = z 28 + 1 := by
  unfold doneZ
  rw [if_neg (by omega), if_neg (by omega), if_pos rfl]
theorem doneZ_hi (ht : t < 4) (i : Nat) (hi : 29 ≤ i) : doneZ z y t co va i = z i := by
  unfold doneZ
  rw [if_neg (by omega), if_neg (by omega), if_neg (by omega), if_neg (by omega), if_neg (by omega)]
theorem ansN_mk {co va : Int} (h : ansOk co va) : wOk (ansN co va) = true ∧ acX (ansN co va) = co ∧ avX (ansN co va) = va ∧ ansN co va ≠ 0 := by
  obtain ⟨h1, h2, ⟨h3, h4⟩, h5⟩ := h
  have hf : fitsB co va = true := by simp [fitsB]; omega
  have e : ansN co va = co * 4294967296 + va := by unfold ansN; rw [if_pos hf]
  have e1 : (co * 4294967296 + va) / 4294967296 = co := by omega
  have e2 : (co * 4294967296 + va) % 4294967296 = va := by omega
  have hw : wOk (ansN co va) = true := by unfold wOk; rw [e, e1, e2]; exact hf
  refine ⟨hw, ?_, ?_, by rw [e]; omega⟩
  · unfold acX; rw [if_pos hw, e, e1]
  · unfold avX; rw [if_pos hw, e, e2]
theorem doneZ_ac (ht : t < 4) (ha : ansOk co va) (u : Nat) (hu : u < 4) : acZ (doneZ z y t co va) u = upd (acZ z) t co u := by
  show acX (doneZ z y t co va (18 + u)) = _
  rw [doneZ_ans y t co va u hu]
  unfold upd
  by_cases e : u = t
  · rw [if_pos e, if_pos e]; exact (ansN_mk ha).2.1
  · rw [if_neg e, if_neg e]; rfl
theorem doneZ_av (ht : t < 4) (ha : ansOk co va) (u : Nat) (hu : u < 4) : avZ (doneZ z y t co va) u = upd (avZ z) t va u := by
  show avX (doneZ z y t co va (18 + u)) = _
  rw [doneZ_ans y t co va u hu]
  unfold upd
  by_cases e : u = t
  · rw [if_pos e, if_pos e]; exact (ansN_mk ha).2.2.1
  · rw [if_neg e, if_neg e]; rfl
theorem doneZ_wh (ht : t < 4) (u : Nat) (hu : u < 4) : whZ (doneZ z y t co va) u = upd (whZ z) t (z 28 + 1) u := by
  show doneZ z y t co va (22 + u) = _
  rw [doneZ_when y t co va u hu ht]
  rfl
theorem doneZ_tg (ht : t < 4) (u : Nat) (hu : u < 4) : tgZ (doneZ z y t co va) u = upd (tgZ z) t (1 - tgZ z t) u := by
  unfold upd tgZ
  rw [doneZ_26, Int.toNat_natCast, bitB_flip _ t u (by omega) (by omega)]
  by_cases e : u = t
  · subst e
    simp only [decide_true, Bool.xor_true, if_true]
    cases bitB (z 26).toNat u <;> rfl
  · rw [if_neg e]
    have : decide (t = u) = false := by simp; exact fun h => e h.symm
    rw [this, Bool.xor_false]
theorem recL_done (hr : recOk z) (hb : ∀ i, i < 32 → 0 ≤ z i) (ht : t < 4) (hy : thingOk (z 0) y) (ha : ansOk co va) : recL (doneZ z y t co va) := by
  obtain ⟨hk, k1, k6⟩ := kindR_of hr
  obtain ⟨⟨h1, h26, h28, h27⟩, hthr, h29, h30, h31⟩ := hr
  refine ⟨?_, ?_, ?_, ?_, fun u hu => ?_, ?_, ?_, ?_⟩
  · rw [doneZ_kind, hk]
    exact thingOk_congr (fun i hi => doneZ_oz y t co va i hi) hy
  · rw [doneZ_26]
    have := tgW_turn z t ht ⟨hb 26 (by omega), h26⟩
    rw [← this]
    have := tgW_lt (upd (tgZ z) t (1 - tgZ z t)) 4 (by omega)
    omega
  · rw [doneZ_28 y t co va ht]; omega
  · rw [doneZ_27 y t co va ht]; exact h27
  · have hwt : ∀ u, u < 4 → z (22 + u) ≤ z 28 := fun u hu => (hthr u hu).1.2.1
    unfold thrOk thrA
    rw [doneZ_ans y t co va u hu, doneZ_when y t co va u hu ht, doneZ_28 y t co va ht]
    by_cases e : u = t
    · subst e
      rw [if_pos rfl, if_pos rfl]
      obtain ⟨a1, _, _, a4⟩ := ansN_mk ha
      have b28 := hb 28 (by omega)
      refine ⟨⟨.inl a1, by omega, ⟨fun h => absurd h a4, fun h => by omega⟩⟩, fun x hx _ => ?_⟩
      rw [doneZ_when y u co va x (by omega) hu, if_neg (by omega)]
      have := hwt x (by omega)
      omega
    · rw [if_neg e, if_neg e]
      obtain ⟨⟨a1, a2, a3⟩, a4⟩ := hthr u hu
      refine ⟨⟨a1, by omega, a3⟩, fun x hx hne => ?_⟩
      rw [doneZ_when y t co va x (by omega) ht]
      split
      · have := hwt u hu; omega
      · exact a4 x hx hne
  · rw [doneZ_hi y t co va ht 29 (by omega)]; exact h29
  · rw [doneZ_hi y t co va ht 30 (by omega)]; exact h30
  · rw [doneZ_hi y t co va ht 31 (by omega)]; exact h31
theorem recT_done (hr : recOk z) (hb : ∀ i, i < 32 → 0 ≤ z i) (ht : t < 4) (hy : thingOk (z 0) y) (ha : ansOk co va) {R : Array Value} {w : World}
    (hc : RcR R (R.extract 0 19) (upd (acZ z) t co) (upd (avZ z) t va) (upd (whZ z) t (z 28 + 1)) (upd (tgZ z) t (1 - tgZ z t)) (z 27) (z 28 + 1)) (hT : ThOk (z 0) y (R.extract 0 19) w) : RecT (doneZ z y t co va) R w := by
  refine ⟨?_, ?_⟩
  · rw [doneZ_27 y t co va ht, doneZ_28 y t co va ht]
    exact hc.congr (doneZ_ac y t co va ht ha) (doneZ_av y t co va ht ha) (doneZ_wh y t co va ht) (doneZ_tg y t co va ht)
  · rw [doneZ_0]
    exact thOk_congr (fun i hi => doneZ_oz y t co va i hi) hy hT
end done

/-- The words of a record of the next version. -/
def nextV (z : Nat → Int) (i : Nat) : Int := if i = 27 then z 27 + 1 else z i
theorem words_next {z : Nat → Int} (hr : recL z) (hb : ∀ i, i < 32 → 0 ≤ z i) (i : Nat) (hi : i < 32) : wordsZ (z 0) (oz z) (acZ z) (avZ z) (whZ z) (tgZ z) (z 27 + 1) (z 28) i = nextV z i := by
  obtain ⟨hk, k1, k6⟩ := recL_kind hr
  obtain ⟨h1, h26, h28, h27, hthr, h29, h30, h31⟩ := hr
  unfold nextV wordsZ
  by_cases e27 : i = 27
  · rw [if_pos e27, if_pos e27]
  rw [if_neg e27, if_neg e27]
  by_cases e28 : i = 28
  · rw [if_pos e28, e28]
  rw [if_neg e28]
  unfold wzK
  by_cases hi0 : i = 0
  · rw [if_pos hi0, hi0]
  rw [if_neg hi0]
  by_cases h1 : i < 18
  · rw [if_pos h1]
    unfold oz
    rw [show 1 + (i - 1) = i by omega]
  rw [if_neg h1]
  by_cases h2 : i < 22
  · rw [if_pos h2, if_pos (by omega)]
    have := ansN_of (hb i hi) (by have := (hthr (i - 18) (by omega)).1.1; rwa [show 18 + (i - 18) = i by omega] at this)
    rw [show acZ z (i - 18) = acX (z (18 + (i - 18))) from rfl, show avZ z (i - 18) = avX (z (18 + (i - 18))) from rfl, show 18 + (i - 18) = i by omega]
    exact this
  rw [if_neg h2]
  by_cases h3 : i < 26
  · rw [if_pos h3, if_pos (by omega)]
    unfold whZ
    rw [show 22 + (i - 22) = i by omega]
  rw [if_neg h3]
  by_cases e26 : i = 26
  · subst e26
    rw [if_pos rfl, tgW_mod]
    have := hb 26 (by omega)
    omega
  rw [if_neg e26]
  have : i = 29 ∨ i = 30 ∨ i = 31 := by omega
  rcases this with rfl | rfl | rfl
  · exact h29.symm
  · exact h30.symm
  · exact h31.symm

/-- The table's witness. -/
noncomputable def mO (z : Nat → Int) (a k : Int) : Nat := by
  classical exact if h : ∃ m, tabM (oz z) a k m then h.choose else 0
theorem mO_ok {z : Nat → Int} (hr : recOk z) (a k : Int) : kindR z = 5 → tabM (oz z) a k (mO z a k) := by
  intro h5
  have hR : rightT (oz z) = true := by
    have := hr.1.1
    unfold thingOk at this
    rw [if_pos h5] at this
    exact this.2.2
  have h := tabM_exists hR a k
  unfold mO
  rw [dif_pos h]
  exact h.choose_spec
noncomputable def dY (z : Nat → Int) (a k v : Int) : Nat → Int := doZ (kindR z) (oz z) a k v (mO z a k)
def dC (z : Nat → Int) (a k v : Int) : Int := doC (kindR z) (oz z) a k v
def dV (z : Nat → Int) (a k v : Int) : Int := doV (kindR z) (oz z) a k v
/-- The words behind an operation. -/
noncomputable def dZ (z : Nat → Int) (t : Nat) (a k v : Int) : Nat → Int := doneZ z (dY z a k v) t (dC z a k v) (dV z a k v)
theorem dY_ok {z : Nat → Int} (hr : recOk z) (hb : ∀ i, i < 32 → 0 ≤ z i ∧ z i < 18446744073709551616) {a k v : Int} (ho : opOk a k v) : thingOk (z 0) (dY z a k v) ∧ Wds (dY z a k v) ∧ ansOk (dC z a k v) (dV z a k v) := by
  have h := thing_do (fun i hi => hb (1 + i) (by omega)) hr.1.1 ho (mO_ok hr a k)
  rw [(kindR_of hr).1] at h
  unfold dY dC dV
  rw [(kindR_of hr).1]
  exact h
theorem recL_dZ {z : Nat → Int} (hr : recOk z) (hb : ∀ i, i < 32 → 0 ≤ z i ∧ z i < 18446744073709551616) {a k v : Int} (ho : opOk a k v) {t : Nat} (ht : t < 4) : recL (dZ z t a k v) :=
  recL_done _ t _ _ hr (fun i hi => (hb i hi).1) ht (dY_ok hr hb ho).1 (dY_ok hr hb ho).2.2

theorem dZ_bd {z : Nat → Int} (hr : recOk z) (hb : ∀ i, i < 32 → 0 ≤ z i ∧ z i < 18446744073709551616) {a k v : Int} (ho : opOk a k v) {t : Nat} (i : Nat) (hi : i < 32) : 0 ≤ dZ z t a k v i ∧ dZ z t a k v i < 18446744073709551616 := by
  obtain ⟨_, hw, _⟩ := dY_ok hr hb ho
  have h28 := (recOk_iff.1 hr).2
  have b28 := hb 28 (by omega)
  have b26 := hb 26 (by omega)
  unfold dZ doneZ
  split
  · have := flipN_lt (z 26).toNat t (by omega)
    omega
  split
  · omega
  split
  · omega
  split
  · exact ansN_bd _ _
  split
  · exact hw (i - 1) (by omega)
  · exact hb i hi
theorem nextV_bd {z : Nat → Int} (hr : recL z) (hb : ∀ i, i < 32 → 0 ≤ z i ∧ z i < 18446744073709551616) (i : Nat) (hi : i < 32) : 0 ≤ nextV z i ∧ nextV z i < 18446744073709551616 := by
  unfold nextV
  split
  · have := hr.2.2.2.1
    have := hb 27 (by omega)
    omega
  · exact hb i hi
/-- What is wrong with an ask. -/
def askE (z r : Nat → Int) : Int :=
  if r 0 < 0 ∨ 4 ≤ r 0 then 2 else if r 1 ≠ 0 ∧ r 1 ≠ 1 then 1 else if tgZ z (r 0).toNat = r 1 then 0 else if opRightB (r 2) (r 3) (r 4) = false ∨ 1099511627776 < z 28 then 1 else 0
def askO (z r : Nat → Int) : Bool := decide (tgZ z (r 0).toNat ≠ r 1)
noncomputable def askZ (z r : Nat → Int) : Nat → Int := if askO z r = true then dZ z (r 0).toNat (r 2) (r 3) (r 4) else z
def deedV (z r : Nat → Int) : List Value := [.int .i64 (r 0), .int .i64 (r 2), .int .i64 (r 3), .int .i64 (r 4), .int .i64 (dC z (r 2) (r 3) (r 4)), .int .i64 (dV z (r 2) (r 3) (r 4))]
noncomputable def bz (f : Nat → Nat → Int) (z : Nat → Int) : Nat → (Nat → Int)
  | 0 => z
  | k + 1 => askZ (bz f z k) (f k)
noncomputable def bd (f : Nat → Nat → Int) (z : Nat → Int) : Nat → List (List Value)
  | 0 => []
  | k + 1 => if askO (bz f z k) (f k) = true then bd f z k ++ [deedV (bz f z k) (f k)] else bd f z k
theorem askE_open {z r : Nat → Int} (h : askE z r = 0) (ho : askO z r = true) : (r 0).toNat < 4 ∧ 0 ≤ r 0 ∧ (r 1 = 0 ∨ r 1 = 1) ∧ opOk (r 2) (r 3) (r 4) ∧ z 28 ≤ 1099511627776 := by
  unfold askE at h
  unfold askO at ho
  have ho' := of_decide_eq_true ho
  split at h
  · omega
  split at h
  · omega
  (try rw [if_neg ho'] at h)
  split at h
  · omega
  rename_i h1 h2 h3
  refine ⟨by omega, by omega, by omega, opRightB_iff.1 ?_, by omega⟩
  cases hx : opRightB (r 2) (r 3) (r 4)
  · exact absurd (.inl hx) h3
  · rfl
theorem recL_ask {z r : Nat → Int} (hr : recL z) (hb : ∀ i, i < 32 → 0 ≤ z i ∧ z i < 18446744073709551616) (h : askE z r = 0) : recL (askZ z r) := by
  unfold askZ
  split
  · rename_i ho
    obtain ⟨h1, h2, h3, h4, h5⟩ := askE_open h ho
    exact recL_dZ (recOk_iff.2 ⟨hr, h5⟩) hb h4 h1
  · exact hr
end Go.Proofs.YtkoflhjnpilchaaGreatDoor
