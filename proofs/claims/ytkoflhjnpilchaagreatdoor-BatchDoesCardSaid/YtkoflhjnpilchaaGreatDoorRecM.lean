/-
  Words for the walk of gristmillref.RecOf: the record so far, the map of the whens.
-/
import Derived.Test.YtkoflhjnpilchaaGreatDoorRecW
import Derived.Test.YtkoflhjnpilchaaGreatDoorMTh
import Derived.Test.YtkoflhjnpilchaaGreatDoorMTD
import Derived.Maps.OwnSet
import Derived.Maps.Views
namespace Go.Proofs.YtkoflhjnpilchaaGreatDoor
set_option linter.unusedSimpArgs false
set_option linter.unusedVariables false
set_option linter.unusedSectionVars false
open Go.RowKit Go.Maps
set_option linter.unusedSimpArgs false
set_option linter.unusedVariables false
attribute [local go_sem ↓] Go.wp_at_zero Go.wp_at_succ

def rz : Array Value := #[.int .i64 0, .slice none 0 0, .int .i64 0, .int .i64 0, .int .i64 0, .int .i64 0, .int .i64 0, .int .i64 0, .int .i64 0, .int .i64 0, .int .i64 0, .int .i64 0, .int .i64 0, .int .i64 0, .int .i64 0, .int .i64 0, .int .i64 0, .int .i64 0, .int .i64 0,
  .int .i64 0, .int .i64 0, .int .i64 0, .int .i64 0, .int .i64 0, .int .i64 0, .int .i64 0, .int .i64 0, .int .u64 0, .int .u64 0, .int .u64 0, .int .u64 0, .int .i64 0, .int .i64 0, .int .i64 0, .int .i64 0, .int .u64 0, .int .u64 0]
theorem infoRc : (Tryz.prog.info? 56).map (·.size) = some 37 := by kernel_rfl
theorem rz_one : rz.all (·.oneCell') = true := by kernel_rfl
theorem thing_kind {kind : Int} {z : Nat → Int} (h : thingOk kind z) : 1 ≤ kind ∧ kind ≤ 6 := by
  unfold thingOk at h
  split at h
  · omega
  · split at h
    · omega
    · split at h
      · omega
      · omega
/-- A record and whether it is one. -/
def RecOut (b : Bool) (T : Array Value → World → Prop) (w : World) (e : Ending) (w' : World) : Prop :=
  Below w.heap.size w w' ∧ ∃ R, R.size = 37 ∧ R.all (·.oneCell') = true ∧ e = .returned (.tuple #[.agg R, .bool b]) ∧ (b = true → T R w')
def IsTb (b : Bool) (x : Value) : Prop := ∃ C, x = .tuple #[.agg C, .bool b] ∧ C.size = 19 ∧ C.all (·.oneCell') = true
def IsTbF (b : Bool) (T : Array Value → World → Prop) (x : Value) (w : World) : Prop := ∃ C, x = .tuple #[.agg C, .bool b] ∧ (b = true → T C w)
def IsTc (x : Value) : Prop := ∃ C, x = .agg C ∧ C.size = 19 ∧ C.all (·.oneCell') = true
def IsTcF (b : Bool) (T : Array Value → World → Prop) (x : Value) (w : World) : Prop := ∃ C, x = .agg C ∧ (b = true → T C w)

/-- A record's cells whose first nineteen are C, the others as in R. -/
structure Behd (R' R C : Array Value) : Prop where
  size : R'.size = 37
  csz : C.size = 19
  thing : C = R'.extract 0 19
  rest : ∀ i, 19 ≤ i → R'[i]? = R[i]?
  one : R'.all (·.oneCell') = true
theorem behd_mk {R C : Array Value} (hR : R.size = 37) (hC : C.size = 19) (h1 : R.all (·.oneCell') = true) (h2 : C.all (·.oneCell') = true) : Behd (setsA R 0 C.toList) R C :=
  ⟨by rw [setsA_size, hR], hC, by
    apply Array.ext_getElem?
    intro i
    by_cases hi : i < 19
    · rw [Array.getElem?_extract, if_pos (by rw [setsA_size]; omega)]
      rw [setsA_in (by rw [Array.length_toList]; omega) (by rw [Array.length_toList]; omega), Array.getElem?_toList]
    · rw [Array.getElem?_eq_none (by omega), Array.getElem?_eq_none (by simp; omega)],
   fun i hi => setsA_out (.inr (by rw [Array.length_toList]; omega)), setsA_one h1 (fun v hv => by
    rw [Array.all_eq_true] at h2
    obtain ⟨i, hi, rfl⟩ := List.getElem_of_mem hv
    have h9 := h2 i (by simpa using hi)
    simpa using h9)⟩
theorem slu_keeps {S : Nat → Prop} {w w' : World} {A : Option Addr} {n c : Nat} {z : Nat → Int} (h : SlU w A n c z) (hk : Keeps S w w') (hS : ∀ a, A = some a → ¬ S a.block) : SlU w' A n c z :=
  ⟨h.cap, h.cap63, h.bd, fun hn => by
    obtain ⟨b, off, rfl, hlt, hc⟩ := h.at_ hn
    exact ⟨b, off, rfl, Nat.lt_of_lt_of_le hlt hk.size, fun i hi => (hk.cell (p := ⟨b, off + i, none⟩) hlt (hS ⟨b, off, none⟩ rfl)).trans (hc i hi)⟩⟩
theorem Keeps.setCell' {S : Nat → Prop} {w w' : World} (h : Keeps S w w') {p : Addr} (hp : S p.block ∨ w.heap.size ≤ p.block) (u : Value) : Keeps S w (w'.setCell p u) := h.setCell hp u
theorem quiet_keeps {c : Bool} {S : Nat → Prop} {w w' : World} (h : Keeps (fun b => c = false ∧ S b) w w') (hc : c = true) : Below w.heap.size w w' := (h.mono (S' := nowhere) fun b hb => calm_out hb hc).same
theorem hcellS {w : World} {b o n c : Nat} {z : Nat → Int} (h : SlU w (some ⟨b, o, none⟩) n c z) (i : Nat) (hi : i < n) : w.cell? ⟨b, o + i, none⟩ = some (.int .u64 (z i)) := by
  obtain ⟨g2, o2, he, _, hc⟩ := h.at_ (by omega)
  cases he
  exact hc i hi
def acX (x : Int) : Int := if wOk x = true then x / 4294967296 else 0
def avX (x : Int) : Int := if wOk x = true then x % 4294967296 else 0
def acZ (z : Nat → Int) (t : Nat) : Int := if wOk (z (18 + t)) = true then z (18 + t) / 4294967296 else 0
def avZ (z : Nat → Int) (t : Nat) : Int := if wOk (z (18 + t)) = true then z (18 + t) % 4294967296 else 0
def whZ (z : Nat → Int) (t : Nat) : Int := z (22 + t)
def tgZ (z : Nat → Int) (t : Nat) : Int := if bitB (z 26).toNat t = true then 1 else 0
/-- Of the first k alone. -/
def upto (f : Nat → Int) (k t : Nat) : Int := if t < k then f t else 0
theorem upto_succ (f : Nat → Int) (k t : Nat) : upto f (k + 1) t = if t = k then f k else upto f k t := by
  unfold upto
  by_cases e : t = k
  · subst e; rw [if_pos (by omega), if_pos rfl]
  · rw [if_neg e]
    by_cases h : t < k
    · rw [if_pos h, if_pos (by omega)]
    · rw [if_neg h, if_neg (by omega)]
theorem upto_same (f : Nat → Int) (k t : Nat) (h : f k = 0) : upto f (k + 1) t = upto f k t := by
  rw [upto_succ]
  by_cases e : t = k
  · subst e
    rw [if_pos rfl, h]
    unfold upto
    rw [if_neg (Nat.lt_irrefl _)]
  · rw [if_neg e]
theorem tgW_bools (b0 b1 b2 b3 : Bool) (g : Nat → Int) (h0 : g 0 = if b0 then 1 else 0) (h1 : g 1 = if b1 then 1 else 0) (h2 : g 2 = if b2 then 1 else 0) (h3 : g 3 = if b3 then 1 else 0) :
    tgW g 4 = (if b0 then 1 else 0) + (if b1 then 2 else 0) + (if b2 then 4 else 0) + (if b3 then 8 else 0) := by
  simp only [tgW, h0, h1, h2, h3]
  cases b0 <;> cases b1 <;> cases b2 <;> cases b3 <;> decide
theorem tgW_mod (z : Nat → Int) : tgW (tgZ z) 4 = (z 26).toNat % 16 := by
  rw [tgW_bools _ _ _ _ (tgZ z) rfl rfl rfl rfl]
  generalize (z 26).toNat = x
  have hb : ∀ j : Nat, j < 64 → (bitB x (j : Int) = true ↔ x / 2 ^ j % 2 = 1) := fun j hj => by
    unfold bitB
    rw [decide_eq_true_iff, Int.toNat_natCast]
    exact ⟨fun h => h.2.2, fun h => ⟨by omega, by omega, h⟩⟩
  have e0 := hb 0 (by decide)
  have e1 := hb 1 (by decide)
  have e2 := hb 2 (by decide)
  have e3 := hb 3 (by decide)
  rw [show (2 : Nat) ^ 0 = 1 from rfl] at e0
  rw [show (2 : Nat) ^ 1 = 2 from rfl] at e1
  rw [show (2 : Nat) ^ 2 = 4 from rfl] at e2
  rw [show (2 : Nat) ^ 3 = 8 from rfl] at e3
  generalize bitB x ((0 : Nat) : Int) = b0 at *
  generalize bitB x ((1 : Nat) : Int) = b1 at *
  generalize bitB x ((2 : Nat) : Int) = b2 at *
  generalize bitB x ((3 : Nat) : Int) = b3 at *
  cases b0 <;> cases b1 <;> cases b2 <;> cases b3 <;> simp at e0 e1 e2 e3 ⊢ <;> omega
theorem ansN_of {x : Int} (h0 : 0 ≤ x) (h : wOk x = true ∨ x = 0) : ansN (acX x) (avX x) = x := by
  rcases h with h | h
  · unfold ansN acX avX
    rw [if_pos h, if_pos h, if_pos (show fitsB (x / 4294967296) (x % 4294967296) = true from h)]
    omega
  · subst h; rfl
theorem wordsZ_iff {z : Nat → Int} {z0 vv nn : Int} (hz0 : z 0 = z0) (hv : z 27 = vv) (hn : z 28 = nn) (hb : ∀ i, i < 32 → 0 ≤ z i) (h6 : z0 ≤ 6) (ht : thingOk z0 (oz z)) (hvv : vv ≤ 1099511627776) (hnn : nn ≤ 1099511627776) (hall : ∀ t, t < 4 → thrOk z t) :
    (∀ i, i < 32 → wordsZ z0 (oz z) (acZ z) (avZ z) (whZ z) (tgZ z) vv nn i = z i) ↔ recOk z := by
  have hk : kindR z = z0 := by unfold kindR; rw [hz0, if_pos (by omega)]
  have h26 := hb 26 (by omega)
  have e26 : wordsZ z0 (oz z) (acZ z) (avZ z) (whZ z) (tgZ z) vv nn 26 = (((z 26).toNat % 16 : Nat) : Int) := by
    rw [← tgW_mod]; rfl
  constructor
  · intro h
    have a := h 26 (by omega)
    rw [e26] at a
    exact ⟨⟨by rw [hk]; exact ht, by omega, by rw [hn]; exact hnn, by rw [hv]; exact hvv⟩, hall, (h 29 (by omega)).symm, (h 30 (by omega)).symm, (h 31 (by omega)).symm⟩
  · rintro ⟨⟨_, a26, _, _⟩, _, a29, a30, a31⟩ i hi
    by_cases hi0 : i = 0
    · subst hi0; exact hz0.symm
    by_cases h1 : i < 18
    · unfold wordsZ wzK
      rw [if_neg (by omega), if_neg (by omega), if_neg hi0, if_pos h1]
      unfold oz
      rw [show 1 + (i - 1) = i by omega]
    by_cases h2 : i < 22
    · unfold wordsZ wzK
      rw [if_neg (by omega), if_neg (by omega), if_neg hi0, if_neg h1, if_pos h2, if_pos (by omega)]
      have := ansN_of (hb i hi) (by have := (hall (i - 18) (by omega)).1.1; rwa [show 18 + (i - 18) = i by omega] at this)
      rw [show acZ z (i - 18) = acX (z (18 + (i - 18))) from rfl, show avZ z (i - 18) = avX (z (18 + (i - 18))) from rfl, show 18 + (i - 18) = i by omega]
      exact this
    by_cases h3 : i < 26
    · unfold wordsZ wzK
      rw [if_neg (by omega), if_neg (by omega), if_neg hi0, if_neg h1, if_neg h2, if_pos h3, if_pos (by omega)]
      unfold whZ
      rw [show 22 + (i - 22) = i by omega]
    have : i = 26 ∨ i = 27 ∨ i = 28 ∨ i = 29 ∨ i = 30 ∨ i = 31 := by omega
    rcases this with rfl | rfl | rfl | rfl | rfl | rfl
    · rw [e26]; omega
    · exact hv.symm
    · exact hn.symm
    · exact a29.symm
    · exact a30.symm
    · exact a31.symm
theorem RcR.congr {R C : Array Value} {a v h g a' v' h' g' : Nat → Int} {ver cnt : Int} (x : RcR R C a v h g ver cnt) (e1 : ∀ t, t < 4 → a' t = a t) (e2 : ∀ t, t < 4 → v' t = v t) (e3 : ∀ t, t < 4 → h' t = h t) (e4 : ∀ t, t < 4 → g' t = g t) : RcR R C a' v' h' g' ver cnt :=
  ⟨x.size, x.thing, fun t ht => by rw [e1 t ht]; exact x.ac_ t ht, fun t ht => by rw [e2 t ht]; exact x.av_ t ht, fun t ht => by rw [e3 t ht]; exact x.wh_ t ht, fun t ht => by rw [e4 t ht]; exact x.tg_ t ht, x.ver_, x.cnt_⟩
theorem extract_set {R : Array Value} {i : Nat} {v : Value} (hi : 19 ≤ i) : (R.setIfInBounds i v).extract 0 19 = R.extract 0 19 := by
  apply Array.ext_getElem?
  intro j
  rw [Array.getElem?_extract, Array.getElem?_extract]
  simp only [Array.size_setIfInBounds]
  by_cases h : j < min 19 R.size - 0
  · rw [if_pos h, if_pos h, Array.getElem?_setIfInBounds, if_neg (by omega)]
  · rw [if_neg h, if_neg h]
theorem one_set {R : Array Value} {i : Nat} {v : Value} (h : R.all (·.oneCell') = true) (hv : v.oneCell' = true) : (R.setIfInBounds i v).all (·.oneCell') = true := by
  rw [Array.all_eq_true] at h ⊢
  intro j hj
  have hj' : j < R.size := by simpa using hj
  rw [Array.getElem_setIfInBounds]
  split
  · exact hv
  · exact h j hj'
/-- What is written of thread k. -/
theorem RcR.step {R C : Array Value} {a v h g : Nat → Int} {ver cnt : Int} (x : RcR R C a v h g ver cnt) (k : Nat) (hk : k < 4) (a1 v1 h1 : Int) :
    RcR (((R.setIfInBounds (19 + k * 2) (.int .i64 a1)).setIfInBounds (19 + k * 2 + 1) (.int .i64 v1)).setIfInBounds (27 + k) (.int .u64 h1)) C
      (fun t => if t = k then a1 else a t) (fun t => if t = k then v1 else v t) (fun t => if t = k then h1 else h t) g ver cnt := by
  have hs := x.size
  have get : ∀ i, (((R.setIfInBounds (19 + k * 2) (.int .i64 a1)).setIfInBounds (19 + k * 2 + 1) (.int .i64 v1)).setIfInBounds (27 + k) (.int .u64 h1))[i]? = if i = 27 + k then some (.int .u64 h1) else if i = 19 + k * 2 + 1 then some (.int .i64 v1) else if i = 19 + k * 2 then some (.int .i64 a1) else R[i]? := fun i => by
    rw [Array.getElem?_setIfInBounds, Array.getElem?_setIfInBounds, Array.getElem?_setIfInBounds]
    simp only [Array.size_setIfInBounds, hs]
    by_cases h1 : i = 27 + k
    · rw [if_pos h1.symm, if_pos (by omega), if_pos h1]
    · rw [if_neg (fun e => h1 e.symm), if_neg h1]
      by_cases h2 : i = 19 + k * 2 + 1
      · rw [if_pos h2.symm, if_pos (by omega), if_pos h2]
      · rw [if_neg (fun e => h2 e.symm), if_neg h2]
        by_cases h3 : i = 19 + k * 2
        · rw [if_pos h3.symm, if_pos (by omega), if_pos h3]
        · rw [if_neg (fun e => h3 e.symm), if_neg h3]
  refine ⟨by simp [hs], by rw [extract_set (by omega), extract_set (by omega), extract_set (by omega)]; exact x.thing, fun t ht => ?_, fun t ht => ?_, fun t ht => ?_, fun t ht => ?_, ?_, ?_⟩
  · rw [get, if_neg (by omega), if_neg (by omega)]
    by_cases e : t = k
    · subst e; rw [if_pos (by omega), if_pos rfl]
    · rw [if_neg (by omega), if_neg e]; exact x.ac_ t ht
  · rw [get, if_neg (by omega)]
    by_cases e : t = k
    · subst e; rw [if_pos (by omega), if_pos rfl]
    · rw [if_neg (by omega), if_neg (by omega), if_neg e]; exact x.av_ t ht
  · rw [get]
    by_cases e : t = k
    · subst e; rw [if_pos rfl, if_pos rfl]
    · rw [if_neg (by omega), if_neg (by omega), if_neg (by omega), if_neg e]; exact x.wh_ t ht
  · rw [get, if_neg (by omega), if_neg (by omega), if_neg (by omega)]; exact x.tg_ t ht
  · rw [get, if_neg (by omega), if_neg (by omega), if_neg (by omega)]; exact x.ver_
  · rw [get, if_neg (by omega), if_neg (by omega), if_neg (by omega)]; exact x.cnt_
theorem RcR.turn {R C : Array Value} {a v h g : Nat → Int} {ver cnt : Int} (x : RcR R C a v h g ver cnt) (k : Nat) (hk : k < 4) (g1 : Int) :
    RcR (R.setIfInBounds (31 + k) (.int .i64 g1)) C a v h (fun t => if t = k then g1 else g t) ver cnt := by
  have hs := x.size
  have get : ∀ i, (R.setIfInBounds (31 + k) (.int .i64 g1))[i]? = if i = 31 + k then some (.int .i64 g1) else R[i]? := fun i => by
    rw [Array.getElem?_setIfInBounds]
    by_cases h1 : i = 31 + k
    · rw [if_pos h1.symm, if_pos (by omega), if_pos h1]
    · rw [if_neg (fun e => h1 e.symm), if_neg h1]
  refine ⟨by simp [hs], by rw [extract_set (by omega)]; exact x.thing, fun t ht => ?_, fun t ht => ?_, fun t ht => ?_, fun t ht => ?_, ?_, ?_⟩
  · rw [get, if_neg (by omega)]; exact x.ac_ t ht
  · rw [get, if_neg (by omega)]; exact x.av_ t ht
  · rw [get, if_neg (by omega)]; exact x.wh_ t ht
  · rw [get]
    by_cases e : t = k
    · subst e; rw [if_pos rfl, if_pos rfl]
    · rw [if_neg (by omega), if_neg e]; exact x.tg_ t ht
  · rw [get, if_neg (by omega)]; exact x.ver_
  · rw [get, if_neg (by omega)]; exact x.cnt_
/-- A record of which the thing alone is laid, and the two numbers. -/
theorem rcr_start {R C : Array Value} (h : Behd R rz C) (v n : Int) : RcR ((R.setIfInBounds 35 (.int .u64 v)).setIfInBounds 36 (.int .u64 n)) C (fun _ => 0) (fun _ => 0) (fun _ => 0) (fun _ => 0) v n := by
  have hs := h.size
  have get : ∀ i, 19 ≤ i → ((R.setIfInBounds 35 (.int .u64 v)).setIfInBounds 36 (.int .u64 n))[i]? = if i = 36 then some (.int .u64 n) else if i = 35 then some (.int .u64 v) else rz[i]? := fun i hi => by
    rw [Array.getElem?_setIfInBounds, Array.getElem?_setIfInBounds]
    simp only [Array.size_setIfInBounds, hs]
    by_cases h1 : i = 36
    · rw [if_pos h1.symm, if_pos (by omega), if_pos h1]
    · rw [if_neg (fun e => h1 e.symm), if_neg h1]
      by_cases h2 : i = 35
      · rw [if_pos h2.symm, if_pos (by omega), if_pos h2]
      · rw [if_neg (fun e => h2 e.symm), if_neg h2]; exact h.rest i hi
  have four : ∀ {P : Nat → Prop}, P 0 → P 1 → P 2 → P 3 → ∀ t, t < 4 → P t := fun a b c d t ht => by
    match t, ht with
    | 0, _ => exact a
    | 1, _ => exact b
    | 2, _ => exact c
    | 3, _ => exact d
    | t + 4, h => omega
  refine ⟨by simp [hs], by rw [extract_set (by omega), extract_set (by omega)]; exact h.thing, ?_, ?_, ?_, ?_, ?_, ?_⟩
  · exact four (by rw [get _ (by omega)]; rfl) (by rw [get _ (by omega)]; rfl) (by rw [get _ (by omega)]; rfl) (by rw [get _ (by omega)]; rfl)
  · exact four (by rw [get _ (by omega)]; rfl) (by rw [get _ (by omega)]; rfl) (by rw [get _ (by omega)]; rfl) (by rw [get _ (by omega)]; rfl)
  · exact four (by rw [get _ (by omega)]; rfl) (by rw [get _ (by omega)]; rfl) (by rw [get _ (by omega)]; rfl) (by rw [get _ (by omega)]; rfl)
  · exact four (by rw [get _ (by omega)]; rfl) (by rw [get _ (by omega)]; rfl) (by rw [get _ (by omega)]; rfl) (by rw [get _ (by omega)]; rfl)
  · rw [get _ (by omega)]; rfl
  · rw [get _ (by omega)]; rfl
def seenB (z : Nat → Int) (k : Nat) (n : Int) : Bool := (List.range k).any fun t => decide (z (22 + t) = n)
theorem seenB_iff {z : Nat → Int} {k : Nat} {n : Int} : seenB z k n = true ↔ ∃ t, t < k ∧ z (22 + t) = n := by
  unfold seenB
  rw [List.any_eq_true]
  constructor
  · rintro ⟨t, h1, h2⟩; exact ⟨t, by simpa using h1, by simpa using h2⟩
  · rintro ⟨t, h1, h2⟩; exact ⟨t, by simpa using h1, by simpa using h2⟩
theorem keyU : Keyed Tryz.prog 22 := int_keyed Tryz.underlying22
theorem zeroB (w : World) : (zeroValue 4).run Tryz.prog w = .ok (.bool false) w := by kernel_rfl
/-- The map of the whens of the first k. -/
def SeenM (z : Nat → Int) (k gm : Nat) (w : World) : Prop :=
  ∃ D : DataW Unit, w.ownsMap Tryz.prog 22 (plainElem Tryz.prog 4) gm k D ∧ ∀ n : Int, 0 ≤ n → n < 18446744073709551616 → D.atKey (.int .u64 n) (.lit (.bool false)) = .lit (.bool (seenB z k n))
theorem u64_wf {n : Int} (h0 : 0 ≤ n) (h1 : n < 18446744073709551616) : (Lit.int .u64 n).wf = true := by
  show (decide (0 ≤ n) && decide (n ≤ 18446744073709551615)) = true
  rw [Bool.and_eq_true]
  exact ⟨decide_eq_true h0, decide_eq_true (by omega)⟩
set_option maxRecDepth 100000 in
theorem SeenM.look {z : Nat → Int} {k gm : Nat} {w : World} (h : SeenM z k gm w) (n : Int) (h0 : 0 ≤ n) (h1 : n < 18446744073709551616) :
    (Instr.lookup 87 (.map (some gm)) (.int .u64 n) false).run Tryz.prog w = .ok (.bool (seenB z k n)) w := by
  obtain ⟨D, ho, hD⟩ := h
  obtain ⟨v, ps, hr, hv⟩ := ho.lookup keyU Tryz.underlying87 (zeroB w) (plainElem_bool Tryz.underlying4 false) (keyOf_int_mk Tryz.underlying22 (u64_wf h0 h1))
  rw [hD n h0 h1] at hv
  unfold plainElem at hv
  rw [Tryz.underlying4] at hv
  cases v <;> simp at hv
  rw [hr, hv.1]
/-- The record's thing is laid. -/
def Laid0 (g : Nat) (t : TypeId) (b : Bool) (T : Array Value → World → Prop) (w : World) : Prop := ∃ R C, Blk w g t R ∧ Behd R rz C ∧ (b = true → T C w)

theorem SeenM.below {z : Nat → Int} {k gm : Nat} {w w' : World} (h : SeenM z k gm w) (hb : Below w.heap.size w w') : SeenM z k gm w' := by
  obtain ⟨D, ho, hD⟩ := h
  exact ⟨D, ho.kept (row := none) ⟨hb.os, hb.tape, hb.output, hb.size, fun i hi _ => hb.block i hi⟩ (by simp), hD⟩
theorem SeenM.far {z : Nat → Int} {k gm : Nat} {w : World} (h : SeenM z k gm w) {p : Addr} (hp : gm ≠ p.block) (u : Value) : SeenM z k gm (w.setCell p u) := by
  obtain ⟨D, ho, hD⟩ := h
  exact ⟨D, ho.setCell hp u, hD⟩
theorem SeenM.start (z : Nat → Int) (w : World) : SeenM z 0 w.heap.size (w.alloc (.map #[] 0)) :=
  ⟨.map [], World.ownsMap_made w _ _ _, fun n _ _ => by simp [DataW.atKey, seenB]⟩
theorem isKey_int (n : Int) : WideAt.IsKeyLit (.int .u64 n) := by
  first | exact trivial | (unfold WideAt.IsKeyLit; trivial) | (simp [WideAt.IsKeyLit])
theorem SeenM.put {z : Nat → Int} {k gm : Nat} {w w' : World} {D : DataW Unit} {y : Int} (hy : z (22 + k) = y) (h : w'.ownsMap Tryz.prog 22 (plainElem Tryz.prog 4) gm (k + 1) (D.put (.int .u64 y) (.lit (.bool true)))) (hm : IsMap D)
    (hD : ∀ n : Int, 0 ≤ n → n < 18446744073709551616 → D.atKey (.int .u64 n) (.lit (.bool false)) = .lit (.bool (seenB z k n))) : SeenM z (k + 1) gm w' :=
  ⟨_, h, fun n h0 h1 => by
    by_cases e : n = y
    · subst e
      rw [atKey_put_same hm (isKey_int _)]
      rw [show seenB z (k + 1) n = true from seenB_iff.2 ⟨k, by omega, hy⟩]
    · rw [atKey_put_other (by intro e2; cases e2; exact e rfl), hD n h0 h1]
      have : seenB z (k + 1) n = seenB z k n := by
        rw [Bool.eq_iff_iff, seenB_iff, seenB_iff]
        constructor
        · rintro ⟨t, h1, h2⟩
          refine ⟨t, ?_, h2⟩
          rcases Nat.lt_or_ge t k with h3 | h3
          · exact h3
          · obtain rfl : t = k := by omega
            exact absurd (h2.symm.trans hy) e
        · rintro ⟨t, h1, h2⟩; exact ⟨t, by omega, h2⟩
      rw [this]⟩
theorem ansOfI (x : Int) (h0 : 0 ≤ x) (h1 : x < 18446744073709551616) (w : World) :
    Calls Tryz.prog 24 #[.int .u64 x] w fun e w' => e = .returned (.tuple #[.agg #[.int .i64 (acX x), .int .i64 (avX x)], .int .i64 (okE (wOk x) 3)]) ∧ Below w.heap.size w w' := by
  obtain ⟨n, rfl⟩ := Int.eq_ofNat_of_zero_le h0
  have e1 : (n : Int) / 4294967296 = ((n / 4294967296 : Nat) : Int) := by omega
  have e2 : (n : Int) % 4294967296 = ((n % 4294967296 : Nat) : Int) := by omega
  have := refAnswerOf_any n (n / 4294967296) (n % 4294967296) w (by omega) rfl rfl
  unfold acX avX wOk
  rw [e1, e2]
  exact this
theorem wOk_pos {x : Int} (h : wOk x = true) : 1 ≤ acX x ∧ x ≠ 0 := by
  unfold acX
  rw [if_pos h]
  unfold wOk fitsB at h
  rw [decide_eq_true_iff] at h
  refine ⟨h.1, fun e => ?_⟩
  subst e
  omega
theorem wOk_no {x : Int} (h : wOk x = false) : acX x = 0 ∧ avX x = 0 := by
  unfold acX avX
  rw [h]
  exact ⟨rfl, rfl⟩
/-- The record that the words z are. -/
def RecT (z : Nat → Int) (R : Array Value) (w : World) : Prop := RcR R (R.extract 0 19) (acZ z) (avZ z) (whZ z) (tgZ z) (z 27) (z 28) ∧ ThOk (z 0) (oz z) (R.extract 0 19) w
def IsS32 (x : Value) : Prop := ∃ g, x = .slice (some ⟨g, 0, none⟩) 32 32
def Is32 (z : Nat → Int) (x : Value) (w : World) : Prop := ∃ g D, x = .slice (some ⟨g, 0, none⟩) 32 32 ∧ Blk w g 22 D ∧ U64s D 32 z
/-- The world of a round: the record so far, the map of the whens. -/
structure RSt (w W2 : World) (C0 : Array Value) (a v h g : Nat → Int) (vv nn : Int) (z : Nat → Int) (k : Nat) (wr : World) : Prop where
  keep : Keeps (fun b => b = w.heap.size + 1) W2 wr
  ex : ∃ R, Blk wr (w.heap.size + 1) 56 R ∧ RcR R C0 a v h g vv nn ∧ R.all (·.oneCell') = true
  seen : SeenM z k W2.heap.size wr
section
variable {w W2 wr w' : World} {C0 : Array Value} {a v h g : Nat → Int} {vv nn : Int} {z : Nat → Int} {k : Nat}
theorem RSt.below (x : RSt w W2 C0 a v h g vv nn z k wr) (hb : Below wr.heap.size wr w') : RSt w W2 C0 a v h g vv nn z k w' := by
  obtain ⟨R, h1, h2, h3⟩ := x.ex
  exact ⟨x.keep.trans (Keeps.of_same hb), ⟨R, h1.below hb h1.lt, h2, h3⟩, x.seen.below hb⟩
theorem RSt.alloc (x : RSt w W2 C0 a v h g vv nn z k wr) (o : Obj) : RSt w W2 C0 a v h g vv nn z k (wr.alloc o) := x.below ((Below.refl _ _).alloc (Nat.le_refl _) o)
theorem RSt.far (x : RSt w W2 C0 a v h g vv nn z k wr) {p : Addr} (h1 : w.heap.size + 1 ≠ p.block) (h2 : W2.heap.size < p.block) (u : Value) : RSt w W2 C0 a v h g vv nn z k (wr.setCell p u) := by
  obtain ⟨R, q1, q2, q3⟩ := x.ex
  exact ⟨x.keep.setCell' (.inr (by omega)) u, ⟨R, q1.far h1 u, q2, q3⟩, x.seen.far (by omega) u⟩
theorem RSt.put (x : RSt w W2 C0 a v h g vv nn z k wr) (hlt : w.heap.size + 1 < W2.heap.size) (j : Nat) (hj : j < 4) (a1 v1 h1 : Int) :
    RSt w W2 C0 (fun t => if t = j then a1 else a t) (fun t => if t = j then v1 else v t) (fun t => if t = j then h1 else h t) g vv nn z k
      (((wr.setCell ⟨w.heap.size + 1, 19 + j * 2, none⟩ (.int .i64 a1)).setCell ⟨w.heap.size + 1, 19 + j * 2 + 1, none⟩ (.int .i64 v1)).setCell ⟨w.heap.size + 1, 27 + j, none⟩ (.int .u64 h1)) := by
  obtain ⟨R, q1, q2, q3⟩ := x.ex
  exact ⟨((x.keep.setCell' (.inl rfl) _).setCell' (.inl rfl) _).setCell' (.inl rfl) _, ⟨_, ((q1.set_ _ _).set_ _ _).set_ _ _, q2.step j hj a1 v1 h1, one_set (one_set (one_set q3 rfl) rfl) rfl⟩,
    ((x.seen.far (by show W2.heap.size ≠ w.heap.size + 1; omega) _).far (by show W2.heap.size ≠ w.heap.size + 1; omega) _).far (by show W2.heap.size ≠ w.heap.size + 1; omega) _⟩
theorem RSt.turn (x : RSt w W2 C0 a v h g vv nn z k wr) (hlt : w.heap.size + 1 < W2.heap.size) (j : Nat) (hj : j < 4) (g1 : Int) :
    RSt w W2 C0 a v h (fun t => if t = j then g1 else g t) vv nn z k (wr.setCell ⟨w.heap.size + 1, 31 + j, none⟩ (.int .i64 g1)) := by
  obtain ⟨R, q1, q2, q3⟩ := x.ex
  exact ⟨x.keep.setCell' (.inl rfl) _, ⟨_, q1.set_ _ _, q2.turn j hj g1, one_set q3 rfl⟩, x.seen.far (by show W2.heap.size ≠ w.heap.size + 1; omega) _⟩
theorem RSt.see (x : RSt w W2 C0 a v h g vv nn z k wr) (hlt : w.heap.size + 1 < W2.heap.size) (hg : wr.grownBy w' (some W2.heap.size)) (hs : SeenM z (k + 1) W2.heap.size w') : RSt w W2 C0 a v h g vv nn z (k + 1) w' := by
  obtain ⟨R, q1, q2, q3⟩ := x.ex
  exact ⟨⟨hg.os.trans x.keep.os, hg.tape.trans x.keep.tape, hg.output.trans x.keep.output, Nat.le_trans x.keep.size hg.size, fun i hi hn => (hg.block i (Nat.lt_of_lt_of_le hi x.keep.size) (by simp; omega)).trans (x.keep.block i hi hn)⟩,
    ⟨R, (hg.block _ q1.lt (by simp; omega)).trans q1, q2, q3⟩, hs⟩
theorem RSt.congr {a' v' h' g' : Nat → Int} (x : RSt w W2 C0 a v h g vv nn z k wr) (e1 : ∀ t, t < 4 → a' t = a t) (e2 : ∀ t, t < 4 → v' t = v t) (e3 : ∀ t, t < 4 → h' t = h t) (e4 : ∀ t, t < 4 → g' t = g t) : RSt w W2 C0 a' v' h' g' vv nn z k wr := by
  obtain ⟨R, q1, q2, q3⟩ := x.ex
  exact ⟨x.keep, ⟨R, q1, q2.congr e1 e2 e3 e4, q3⟩, x.seen⟩
end
end Go.Proofs.YtkoflhjnpilchaaGreatDoor
