/-
  A store as numbers: words now, words for good, wishes, how many Flushes and Fences; as the cells of the program's and of the reference's store. Rows of cells as functions. No condition.
-/
import Derived.Test.YtkoflhjnpilchaaDoorMSets
namespace Go.Proofs.YtkoflhjnpilchaaDoor
set_option linter.unusedSimpArgs false
set_option linter.unusedVariables false
set_option linter.unusedSectionVars false
open Go.RowKit

/-- n cells, f. -/
def rowF (n : Nat) (f : Nat → Value) : Array Value := ((List.range n).map f).toArray
section
variable {n : Nat} {f g : Nat → Value}
theorem rowF_size : (rowF n f).size = n := by simp [rowF]
theorem rowF_get {i : Nat} (h : i < n) : (rowF n f)[i]? = some (f i) := by simp [rowF, h]
theorem rowF_out {i : Nat} (h : n ≤ i) : (rowF n f)[i]? = none := by rw [Array.getElem?_eq_none]; rw [rowF_size]; exact h
theorem rowF_ext {C : Array Value} (hs : C.size = n) (h : ∀ i, i < n → C[i]? = some (f i)) : C = rowF n f := by
  apply Array.ext_getElem?
  intro i
  by_cases hi : i < n
  · rw [h i hi, rowF_get hi]
  · rw [rowF_out (by omega), Array.getElem?_eq_none (by omega)]
theorem rowF_congr (h : ∀ i, i < n → f i = g i) : rowF n f = rowF n g := rowF_ext rowF_size fun i hi => by rw [rowF_get hi, h i hi]
theorem rowF_set {i : Nat} {v : Value} (h : ∀ j, j < n → g j = if j = i then v else f j) : (rowF n f).setIfInBounds i v = rowF n g := by
  refine rowF_ext (by simp [rowF_size]) fun j hj => ?_
  rw [Array.getElem?_setIfInBounds, rowF_size, rowF_get hj, h j hj]
  by_cases e : i = j
  · subst e; rw [if_pos rfl, if_pos hj, if_pos rfl]
  · rw [if_neg e, if_neg (fun x => e x.symm)]
theorem rowF_cut {o m : Nat} (h : o + m ≤ n) : (rowF n f).extract o (o + m) = rowF m (fun i => f (o + i)) := by
  refine rowF_ext (by simp [rowF_size]; omega) fun i hi => ?_
  rw [Array.getElem?_extract, if_pos (by rw [rowF_size]; omega), rowF_get (by omega)]
theorem rowF_one (h : ∀ i, i < n → (f i).oneCell' = true) : (rowF n f).all (·.oneCell') = true := by
  rw [Array.all_eq_true]
  intro i hi
  rw [rowF_size] at hi
  have e := rowF_get (f := f) hi
  rw [Array.getElem?_eq_getElem (by rw [rowF_size]; exact hi)] at e
  rw [Option.some.inj e]
  exact h i hi
theorem rowF_list : (rowF n f).toList = (List.range n).map f := by simp [rowF]
theorem rowF_len : (rowF n f).toList.length = n := by simp [rowF]
theorem rowF_sets {o m : Nat} {k : Nat → Value} (h : o + m ≤ n) (hg : ∀ j, j < n → g j = if o ≤ j ∧ j < o + m then k (j - o) else f j) : setsA (rowF n f) o (rowF m k).toList = rowF n g := by
  refine rowF_ext (by rw [setsA_size, rowF_size]) fun j hj => ?_
  rw [setsA_get _ _ _ _ (by rw [rowF_size]; exact hj), rowF_len, hg j hj]
  by_cases e : o ≤ j ∧ j < o + m
  · rw [if_pos e, if_pos e, rowF_list, List.getElem?_map, List.getElem?_range (by omega)]; rfl
  · rw [if_neg e, if_neg e, rowF_get hj]
end

structure Sst where
  now : Nat → Int
  good : Nat → Int
  want : Nat → Nat → Bool
  fl : Nat
  fe : Nat
namespace Sst
def new : Sst := ⟨fun _ => 0, fun _ => 0, fun _ _ => false, 0, 0⟩
def save (s : Sst) (a : Nat) (v : Int) : Sst := { s with now := fun i => if i = a then v else s.now i }
def land (s : Sst) (l : Nat) : Sst := { s with good := fun i => if i / 8 = l then s.now i else s.good i }
def flush (s : Sst) (t l : Nat) : Sst := { s with want := fun t' l' => if t' = t ∧ l' = l then true else s.want t' l', fl := s.fl + 1 }
/-- The first k lines that t wants. -/
def lands (s : Sst) (t k : Nat) : Sst := { s with good := fun i => if i / 8 < k ∧ s.want t (i / 8) = true then s.now i else s.good i }
def quiet (s : Sst) (t : Nat) : Sst := { s with want := fun t' l' => if t' = t then false else s.want t' l' }
def fence (s : Sst) (t : Nat) : Sst := { (s.lands t 9).quiet t with fe := s.fe + 1 }
/-- Behind k lines of a crash in the program. -/
def fallK (s : Sst) (x k : Nat) : Sst := { s with good := fun i => if i / 8 < k ∧ x / 2 ^ (i / 8) % 2 = 1 then s.now i else s.good i, now := fun i => if i / 8 < k ∧ ¬ x / 2 ^ (i / 8) % 2 = 1 then s.good i else s.now i }
/-- Behind k lines of a crash in the reference. -/
def fallR (s : Sst) (x k : Nat) : Sst := { s with good := fun i => if i / 8 < k ∧ x / 2 ^ (i / 8) % 2 = 1 then s.now i else s.good i }
def crash (s : Sst) (x : Nat) : Sst := { now := fun i => if x / 2 ^ (i / 8) % 2 = 1 then s.now i else s.good i, good := fun i => if x / 2 ^ (i / 8) % 2 = 1 then s.now i else s.good i, want := fun _ _ => false, fl := s.fl, fe := s.fe }
def dirty (s : Sst) (l : Nat) : Bool := !decide (∀ i ∈ List.range 8, s.now (l * 8 + i) = s.good (l * 8 + i))
/-- Words are words. -/
structure Ok (s : Sst) : Prop where
  now : ∀ i, i < 72 → 0 ≤ s.now i ∧ s.now i < 18446744073709551616
  good : ∀ i, i < 72 → 0 ≤ s.good i ∧ s.good i < 18446744073709551616
variable {s : Sst}
theorem Ok.new : Ok Sst.new := ⟨fun _ _ => ⟨Int.le_refl 0, by simp [Sst.new]⟩, fun _ _ => ⟨Int.le_refl 0, by simp [Sst.new]⟩⟩
theorem Ok.save (h : Ok s) (a : Nat) {v : Int} (hv : 0 ≤ v ∧ v < 18446744073709551616) : Ok (s.save a v) :=
  ⟨fun i hi => by simp only [Sst.save]; split; exact hv; exact h.now i hi, h.good⟩
theorem Ok.land (h : Ok s) (l : Nat) : Ok (s.land l) := ⟨h.now, fun i hi => by simp only [Sst.land]; split; exact h.now i hi; exact h.good i hi⟩
theorem Ok.flush (h : Ok s) (t l : Nat) : Ok (s.flush t l) := ⟨h.now, h.good⟩
theorem Ok.lands (h : Ok s) (t k : Nat) : Ok (s.lands t k) := ⟨h.now, fun i hi => by simp only [Sst.lands]; split; exact h.now i hi; exact h.good i hi⟩
theorem Ok.fence (h : Ok s) (t : Nat) : Ok (s.fence t) := ⟨(h.lands t 9).now, (h.lands t 9).good⟩
theorem Ok.fallK (h : Ok s) (x k : Nat) : Ok (s.fallK x k) := ⟨fun i hi => by simp only [Sst.fallK]; split; exact h.good i hi; exact h.now i hi, fun i hi => by simp only [Sst.fallK]; split; exact h.now i hi; exact h.good i hi⟩
theorem Ok.fallR (h : Ok s) (x k : Nat) : Ok (s.fallR x k) := ⟨h.now, fun i hi => by simp only [Sst.fallR]; split; exact h.now i hi; exact h.good i hi⟩
theorem Ok.crash (h : Ok s) (x : Nat) : Ok (s.crash x) := ⟨fun i hi => by simp only [Sst.crash]; split; exact h.now i hi; exact h.good i hi, fun i hi => by simp only [Sst.crash]; split; exact h.now i hi; exact h.good i hi⟩
theorem lands0 (t : Nat) : s.lands t 0 = s := by simp [Sst.lands]
theorem fallK0 (x : Nat) : s.fallK x 0 = s := by simp [Sst.fallK]
theorem fallR0 (x : Nat) : s.fallR x 0 = s := by simp [Sst.fallR]
end Sst

/-- The program's cells. -/
def stV (s : Sst) (i : Nat) : Value :=
  if i < 72 then .int .u64 (s.now i) else if i < 144 then .int .u64 (s.good (i - 72)) else if i < 180 then .bool (s.want ((i - 144) / 9) ((i - 144) % 9)) else if i = 180 then .int .i64 (s.fl : Int) else .int .i64 (s.fe : Int)
/-- The reference's. -/
def rsV (s : Sst) (m : Nat) (i : Nat) : Value :=
  if i < 72 then .int .u64 (s.now i) else if i < 144 then .int .u64 (s.good (i - 72)) else if i = 144 then .map (some m) else if i = 145 then .int .i64 (s.fl : Int) else .int .i64 (s.fe : Int)
def stA (s : Sst) : Array Value := rowF 182 (stV s)
def rsA (s : Sst) (m : Nat) : Array Value := rowF 147 (rsV s m)
theorem stV_one (s : Sst) (i : Nat) : (stV s i).oneCell' = true := by unfold stV; repeat' split <;> try rfl
theorem rsV_one (s : Sst) (m i : Nat) : (rsV s m i).oneCell' = true := by unfold rsV; repeat' split <;> try rfl
theorem stA_size (s : Sst) : (stA s).size = 182 := rowF_size
theorem rsA_size (s : Sst) (m : Nat) : (rsA s m).size = 147 := rowF_size

theorem stA_now (s : Sst) {i : Nat} (h : i < 72) : (stA s)[i]? = some (.int .u64 (s.now i)) := by rw [stA, rowF_get (by omega), stV, if_pos h]
theorem stA_good (s : Sst) {i : Nat} (h : i < 72) : (stA s)[72 + i]? = some (.int .u64 (s.good i)) := by
  rw [stA, rowF_get (by omega), stV, if_neg (by omega), if_pos (by omega), Nat.add_sub_cancel_left]
theorem stA_want (s : Sst) {t l : Nat} (ht : t < 4) (hl : l < 9) : (stA s)[144 + t * 9 + l]? = some (.bool (s.want t l)) := by
  rw [stA, rowF_get (by omega), stV, if_neg (by omega), if_neg (by omega), if_pos (by omega)]
  have e1 : (144 + t * 9 + l - 144) / 9 = t := by omega
  have e2 : (144 + t * 9 + l - 144) % 9 = l := by omega
  rw [e1, e2]
theorem stA_fl (s : Sst) : (stA s)[180]? = some (.int .i64 (s.fl : Int)) := by rw [stA, rowF_get (by omega)]; rfl
theorem stA_fe (s : Sst) : (stA s)[181]? = some (.int .i64 (s.fe : Int)) := by rw [stA, rowF_get (by omega)]; rfl
theorem rsA_now (s : Sst) (m : Nat) {i : Nat} (h : i < 72) : (rsA s m)[i]? = some (.int .u64 (s.now i)) := by rw [rsA, rowF_get (by omega), rsV, if_pos h]
theorem rsA_good (s : Sst) (m : Nat) {i : Nat} (h : i < 72) : (rsA s m)[72 + i]? = some (.int .u64 (s.good i)) := by
  rw [rsA, rowF_get (by omega), rsV, if_neg (by omega), if_pos (by omega), Nat.add_sub_cancel_left]
theorem rsA_map (s : Sst) (m : Nat) : (rsA s m)[144]? = some (.map (some m)) := by rw [rsA, rowF_get (by omega)]; rfl
theorem rsA_fl (s : Sst) (m : Nat) : (rsA s m)[145]? = some (.int .i64 (s.fl : Int)) := by rw [rsA, rowF_get (by omega)]; rfl
theorem rsA_fe (s : Sst) (m : Nat) : (rsA s m)[146]? = some (.int .i64 (s.fe : Int)) := by rw [rsA, rowF_get (by omega)]; rfl

/-- Eight words from place o on. -/
def lineA (f : Nat → Int) (o : Nat) : Array Value := rowF 8 (fun i => .int .u64 (f (o + i)))
theorem lineA_size (f : Nat → Int) (o : Nat) : (lineA f o).size = 8 := rowF_size
theorem lineA_one (f : Nat → Int) (o : Nat) : (lineA f o).all (·.oneCell') = true := rowF_one fun _ _ => rfl
theorem stA_line_now (s : Sst) {l : Nat} (h : l < 9) : (stA s).extract (l * 8) (l * 8 + 8) = lineA s.now (l * 8) := by
  rw [stA, rowF_cut (by omega)]
  exact rowF_congr fun i hi => by rw [stV, if_pos (by omega)]
theorem stA_line_good (s : Sst) {l : Nat} (h : l < 9) : (stA s).extract (72 + l * 8) (72 + l * 8 + 8) = lineA s.good (l * 8) := by
  rw [stA, rowF_cut (by omega)]
  exact rowF_congr fun i hi => by rw [stV, if_neg (by omega), if_pos (by omega)]; congr 2; omega
/-- A row of wishes. -/
def wantA (s : Sst) (t : Nat) : Array Value := rowF 9 (fun l => .bool (s.want t l))
theorem stA_wants (s : Sst) {t : Nat} (h : t < 4) : (stA s).extract (144 + t * 9) (144 + t * 9 + 9) = wantA s t := by
  rw [stA, rowF_cut (by omega)]
  exact rowF_congr fun i hi => by
    rw [stV, if_neg (by omega), if_neg (by omega), if_pos (by omega)]
    have e1 : (144 + t * 9 + i - 144) / 9 = t := by omega
    have e2 : (144 + t * 9 + i - 144) % 9 = i := by omega
    rw [e1, e2]

theorem stV1 (s : Sst) {j : Nat} (h : j < 72) : stV s j = .int .u64 (s.now j) := by rw [stV, if_pos h]
theorem stV2 (s : Sst) {j : Nat} (h : 72 ≤ j ∧ j < 144) : stV s j = .int .u64 (s.good (j - 72)) := by rw [stV, if_neg (by omega), if_pos h.2]
theorem stV3 (s : Sst) {j : Nat} (h : 144 ≤ j ∧ j < 180) : stV s j = .bool (s.want ((j - 144) / 9) ((j - 144) % 9)) := by rw [stV, if_neg (by omega), if_neg (by omega), if_pos h.2]
theorem stV4 (s : Sst) {j : Nat} (h : j = 180) : stV s j = .int .i64 (s.fl : Int) := by subst h; rfl
theorem stV5 (s : Sst) {j : Nat} (h : 180 < j) : stV s j = .int .i64 (s.fe : Int) := by rw [stV, if_neg (by omega), if_neg (by omega), if_neg (by omega), if_neg (by omega)]
/-- Two stores' cells alike, zone by zone. -/
theorem stV_eq {s t : Sst} {j : Nat} (h1 : j < 72 → s.now j = t.now j) (h2 : 72 ≤ j → j < 144 → s.good (j - 72) = t.good (j - 72)) (h3 : 144 ≤ j → j < 180 → s.want ((j - 144) / 9) ((j - 144) % 9) = t.want ((j - 144) / 9) ((j - 144) % 9))
    (h4 : j = 180 → s.fl = t.fl) (h5 : 180 < j → s.fe = t.fe) : stV s j = stV t j := by
  by_cases c1 : j < 72
  · rw [stV1 _ c1, stV1 _ c1, h1 c1]
  · by_cases c2 : j < 144
    · rw [stV2 _ ⟨by omega, c2⟩, stV2 _ ⟨by omega, c2⟩, h2 (by omega) c2]
    · by_cases c3 : j < 180
      · rw [stV3 _ ⟨by omega, c3⟩, stV3 _ ⟨by omega, c3⟩, h3 (by omega) c3]
      · by_cases c4 : j = 180
        · rw [stV4 _ c4, stV4 _ c4, h4 c4]
        · rw [stV5 _ (by omega), stV5 _ (by omega), h5 (by omega)]
/- What the program's stores do to the cells. -/
theorem stA_save (s : Sst) {a : Nat} (v : Int) (h : a < 72) : (stA s).setIfInBounds a (.int .u64 v) = stA (s.save a v) := by
  refine rowF_set fun j hj => ?_
  by_cases e : j = a
  · subst e; rw [if_pos rfl, stV, if_pos h]; simp [Sst.save]
  · rw [if_neg e, stV, stV]; simp [Sst.save, e]
theorem stA_flush (s : Sst) {t l : Nat} (ht : t < 4) (hl : l < 9) : ((stA s).setIfInBounds (144 + t * 9 + l) (.bool true)).setIfInBounds 180 (.int .i64 ((s.fl + 1 : Nat) : Int)) = stA (s.flush t l) := by
  have e1 : (stA s).setIfInBounds (144 + t * 9 + l) (.bool true) = stA { s.flush t l with fl := s.fl } := rowF_set fun j hj => by
    by_cases e : j = 144 + t * 9 + l
    · rw [if_pos e, stV3 _ (by omega)]
      have a1 : (j - 144) / 9 = t := by omega
      have a2 : (j - 144) % 9 = l := by omega
      simp [Sst.flush, a1, a2]
    · rw [if_neg e]
      refine stV_eq (fun _ => rfl) (fun _ _ => rfl) (fun h1 h2 => ?_) (fun _ => rfl) (fun _ => rfl)
      have : ¬ ((j - 144) / 9 = t ∧ (j - 144) % 9 = l) := by omega
      simp only [Sst.flush, this, if_false]
  rw [e1]
  exact rowF_set fun j hj => by
    by_cases e : j = 180
    · subst e; rfl
    · rw [if_neg e]
      exact stV_eq (fun _ => rfl) (fun _ _ => rfl) (fun h1 h2 => rfl) (fun h => absurd h e) (fun _ => rfl)
theorem stA_land (s : Sst) {l : Nat} (hl : l < 9) : setsA (stA s) (72 + l * 8) (lineA s.now (l * 8)).toList = stA (s.land l) := by
  refine rowF_sets (by omega) fun j hj => ?_
  by_cases e : 72 + l * 8 ≤ j ∧ j < 72 + l * 8 + 8
  · rw [if_pos e, stV, if_neg (by omega), if_pos (by omega)]
    have a1 : (j - 72) / 8 = l := by omega
    have a2 : l * 8 + (j - (72 + l * 8)) = j - 72 := by omega
    simp [Sst.land, a1, a2]
  · rw [if_neg e, stV, stV]
    by_cases c2 : j < 72
    · rw [if_pos c2, if_pos c2]; rfl
    · rw [if_neg c2, if_neg c2]
      by_cases c : j < 144
      · rw [if_pos c, if_pos c]
        have : ¬ (j - 72) / 8 = l := by omega
        simp [Sst.land, this]
      · rw [if_neg c, if_neg c]; rfl
/-- now from good, a line. -/
def Sst.back (s : Sst) (l : Nat) : Sst := { s with now := fun i => if i / 8 = l then s.good i else s.now i }
theorem stA_back (s : Sst) {l : Nat} (hl : l < 9) : setsA (stA s) (l * 8) (lineA s.good (l * 8)).toList = stA (s.back l) := by
  refine rowF_sets (by omega) fun j hj => ?_
  by_cases e : l * 8 ≤ j ∧ j < l * 8 + 8
  · rw [if_pos e, stV, if_pos (by omega)]
    have a1 : j / 8 = l := by omega
    have a2 : l * 8 + (j - l * 8) = j := by omega
    simp [Sst.back, a1, a2]
  · rw [if_neg e, stV, stV]
    by_cases c2 : j < 72
    · rw [if_pos c2, if_pos c2]
      have : ¬ j / 8 = l := by omega
      simp [Sst.back, this]
    · rw [if_neg c2, if_neg c2]; rfl
def falseA (n : Nat) : Array Value := rowF n (fun _ => .bool false)
theorem falseA_one (n : Nat) : (falseA n).all (·.oneCell') = true := rowF_one fun _ _ => rfl
theorem stA_quiet (s : Sst) {t : Nat} (ht : t < 4) : setsA (stA s) (144 + t * 9) (falseA 9).toList = stA (s.quiet t) := by
  refine rowF_sets (by omega) fun j hj => ?_
  by_cases e : 144 + t * 9 ≤ j ∧ j < 144 + t * 9 + 9
  · rw [if_pos e, stV3 _ (by omega)]
    have a1 : (j - 144) / 9 = t := by omega
    simp [Sst.quiet, a1]
  · rw [if_neg e]
    refine stV_eq (fun _ => rfl) (fun _ _ => rfl) (fun h1 h2 => ?_) (fun _ => rfl) (fun _ => rfl)
    have : ¬ (j - 144) / 9 = t := by omega
    simp only [Sst.quiet, this, if_false]
def Sst.none (s : Sst) : Sst := { s with want := fun _ _ => false }
theorem stA_none (s : Sst) : setsA (stA s) 144 (falseA 36).toList = stA s.none := by
  refine rowF_sets (by omega) fun j hj => ?_
  by_cases e : 144 ≤ j ∧ j < 144 + 36
  · rw [if_pos e, stV3 _ (by omega)]; rfl
  · rw [if_neg e]
    exact stV_eq (fun _ => rfl) (fun _ _ => rfl) (fun h1 h2 => absurd (show 144 ≤ j ∧ j < 144 + 36 by omega) e) (fun _ => rfl) (fun _ => rfl)
theorem stA_fe1 (s : Sst) (k : Nat) : (stA s).setIfInBounds 181 (.int .i64 (k : Int)) = stA { s with fe := k } := rowF_set fun j hj => by
  by_cases e : j = 181
  · subst e; rfl
  · rw [if_neg e, stV, stV]
    by_cases c : j < 180
    · simp [c]
    · have : j = 180 := by omega
      subst this; rfl
/- The reference's. -/
theorem rsA_save (s : Sst) (m : Nat) {a : Nat} (v : Int) (h : a < 72) : (rsA s m).setIfInBounds a (.int .u64 v) = rsA (s.save a v) m := by
  refine rowF_set fun j hj => ?_
  by_cases e : j = a
  · subst e; rw [if_pos rfl, rsV, if_pos h]; simp [Sst.save]
  · rw [if_neg e, rsV, rsV]; simp [Sst.save, e]
theorem rsA_good1 (s : Sst) (m : Nat) {a : Nat} (v : Int) (h : a < 72) : (rsA s m).setIfInBounds (72 + a) (.int .u64 v) = rsA { s with good := fun i => if i = a then v else s.good i } m := by
  refine rowF_set fun j hj => ?_
  by_cases e : j = 72 + a
  · subst e; rw [if_pos rfl, rsV, if_neg (by omega), if_pos (by omega)]; simp
  · rw [if_neg e, rsV, rsV]
    by_cases c : j < 72
    · rw [if_pos c, if_pos c]
    · rw [if_neg c, if_neg c]
      by_cases c2 : j < 144
      · rw [if_pos c2, if_pos c2]
        have : ¬ j - 72 = a := by omega
        simp [this]
      · rw [if_neg c2, if_neg c2]
theorem rsA_fl1 (s : Sst) (m k : Nat) : (rsA s m).setIfInBounds 145 (.int .i64 (k : Int)) = rsA { s with fl := k } m := rowF_set fun j hj => by
  by_cases e : j = 145
  · subst e; rfl
  · rw [if_neg e, rsV, rsV]; simp [e]
theorem rsA_fe1 (s : Sst) (m k : Nat) : (rsA s m).setIfInBounds 146 (.int .i64 (k : Int)) = rsA { s with fe := k } m := rowF_set fun j hj => by
  by_cases e : j = 146
  · subst e; rfl
  · rw [if_neg e, rsV, rsV]
    by_cases c : j < 145
    · by_cases c1 : j < 72
      · rw [if_pos c1, if_pos c1]
      · rw [if_neg c1, if_neg c1]
        by_cases c2 : j < 144
        · rw [if_pos c2, if_pos c2]
        · have : j = 144 := by omega
          subst this; rfl
    · have : j = 145 := by omega
      subst this; rfl
theorem rsA_want (s : Sst) (m : Nat) (f : Nat → Nat → Bool) : rsA { s with want := f } m = rsA s m := rfl
theorem rsA_mapTo (s : Sst) (m m' : Nat) : (rsA s m).setIfInBounds 144 (.map (some m')) = rsA s m' := rowF_set fun j hj => by
  by_cases e : j = 144
  · subst e; rfl
  · rw [if_neg e, rsV, rsV]
    by_cases c1 : j < 72
    · rw [if_pos c1, if_pos c1]
    · rw [if_neg c1, if_neg c1]
      by_cases c2 : j < 144
      · rw [if_pos c2, if_pos c2]
      · rw [if_neg c2, if_neg c2, if_neg e, if_neg e]
def wordsA (f : Nat → Int) : Array Value := rowF 72 (fun i => .int .u64 (f i))
theorem wordsA_one (f : Nat → Int) : (wordsA f).all (·.oneCell') = true := rowF_one fun _ _ => rfl
theorem rsA_for (s : Sst) (m : Nat) : (rsA s m).extract 72 (72 + 72) = wordsA s.good := by
  rw [rsA, rowF_cut (by omega)]
  exact rowF_congr fun i hi => by rw [rsV, if_neg (by omega), if_pos (by omega), Nat.add_sub_cancel_left]
theorem rsA_nowAll (s : Sst) (m : Nat) (f : Nat → Int) : setsA (rsA s m) 0 (wordsA f).toList = rsA { s with now := f } m := by
  refine rowF_sets (by omega) fun j hj => ?_
  by_cases e : 0 ≤ j ∧ j < 0 + 72
  · rw [if_pos e, rsV, if_pos (by omega)]; rfl
  · rw [if_neg e, rsV, rsV]
    have c : ¬ j < 72 := by omega
    simp only [c, if_false]

/- The rounds. -/
namespace Sst
variable (s : Sst)
theorem lands_yes {t k : Nat} (h : s.want t k = true) : (s.lands t k).land k = s.lands t (k + 1) := by
  unfold Sst.lands Sst.land
  congr 1
  funext i
  by_cases e : i / 8 = k
  · subst e
    simp [h]
  · by_cases e2 : i / 8 < k
    · have : i / 8 < k + 1 := by omega
      simp [e, e2, this]
    · have : ¬ i / 8 < k + 1 := by omega
      simp [e, e2, this]
theorem lands_no {t k : Nat} (h : s.want t k = false) : s.lands t k = s.lands t (k + 1) := by
  unfold Sst.lands
  congr 1
  funext i
  by_cases e : i / 8 = k
  · subst e
    simp [h]
  · by_cases e2 : i / 8 < k
    · have : i / 8 < k + 1 := by omega
      simp [e2, this]
    · have : ¬ i / 8 < k + 1 := by omega
      simp [e2, this]
theorem fallK_yes {x k : Nat} (h : x / 2 ^ k % 2 = 1) : ((s.fallK x k).land k).back k = s.fallK x (k + 1) := by
  unfold Sst.fallK Sst.land Sst.back
  congr 1
  · funext i
    by_cases e : i / 8 = k
    · subst e
      simp [h]
    · by_cases e2 : i / 8 < k
      · have : i / 8 < k + 1 := by omega
        simp [e, e2, this]
      · have : ¬ i / 8 < k + 1 := by omega
        simp [e, e2, this]
  · funext i
    by_cases e : i / 8 = k
    · subst e
      simp [h]
    · by_cases e2 : i / 8 < k
      · have : i / 8 < k + 1 := by omega
        simp [e, e2, this]
      · have : ¬ i / 8 < k + 1 := by omega
        simp [e, e2, this]
theorem fallK_no {x k : Nat} (h : ¬ x / 2 ^ k % 2 = 1) : (s.fallK x k).back k = s.fallK x (k + 1) := by
  unfold Sst.fallK Sst.back
  congr 1
  · funext i
    by_cases e : i / 8 = k
    · subst e
      simp [h]
    · by_cases e2 : i / 8 < k
      · have : i / 8 < k + 1 := by omega
        simp [e, e2, this]
      · have : ¬ i / 8 < k + 1 := by omega
        simp [e, e2, this]
  · funext i
    by_cases e : i / 8 = k
    · subst e
      simp [h]
    · by_cases e2 : i / 8 < k
      · have : i / 8 < k + 1 := by omega
        simp [e2, this]
      · have : ¬ i / 8 < k + 1 := by omega
        simp [e2, this]
theorem fallR_yes {x k : Nat} (h : x / 2 ^ k % 2 = 1) : (s.fallR x k).land k = s.fallR x (k + 1) := by
  unfold Sst.fallR Sst.land
  congr 1
  funext i
  by_cases e : i / 8 = k
  · subst e
    simp [h]
  · by_cases e2 : i / 8 < k
    · have : i / 8 < k + 1 := by omega
      simp [e, e2, this]
    · have : ¬ i / 8 < k + 1 := by omega
      simp [e, e2, this]
theorem fallR_no {x k : Nat} (h : ¬ x / 2 ^ k % 2 = 1) : s.fallR x k = s.fallR x (k + 1) := by
  unfold Sst.fallR
  congr 1
  funext i
  by_cases e : i / 8 = k
  · subst e
    simp [h]
  · by_cases e2 : i / 8 < k
    · have : i / 8 < k + 1 := by omega
      simp [e2, this]
    · have : ¬ i / 8 < k + 1 := by omega
      simp [e2, this]
end Sst
theorem stA_fallen (s : Sst) (x : Nat) : stA (s.fallK x 9).none = stA (s.crash x) := rowF_congr fun j hj => by
  refine stV_eq (fun h => ?_) (fun h1 h2 => ?_) (fun _ _ => rfl) (fun _ => rfl) (fun _ => rfl)
  · have : j / 8 < 9 := by omega
    by_cases b : x / 2 ^ (j / 8) % 2 = 1 <;> simp [Sst.none, Sst.fallK, Sst.crash, this, b]
  · have : (j - 72) / 8 < 9 := by omega
    by_cases b : x / 2 ^ ((j - 72) / 8) % 2 = 1 <;> simp [Sst.none, Sst.fallK, Sst.crash, this, b]
theorem rsA_fallen (s : Sst) (x m : Nat) : rsA { s.fallR x 9 with now := (s.fallR x 9).good } m = rsA (s.crash x) m := rowF_congr fun j hj => by
  rw [rsV, rsV]
  by_cases c1 : j < 72
  · rw [if_pos c1, if_pos c1]
    have : j / 8 < 9 := by omega
    by_cases b : x / 2 ^ (j / 8) % 2 = 1 <;> simp [Sst.fallR, Sst.crash, this, b]
  · rw [if_neg c1, if_neg c1]
    by_cases c2 : j < 144
    · rw [if_pos c2, if_pos c2]
      have : (j - 72) / 8 < 9 := by omega
      by_cases b : x / 2 ^ ((j - 72) / 8) % 2 = 1 <;> simp [Sst.fallR, Sst.crash, this, b]
    · rw [if_neg c2, if_neg c2]; rfl
theorem stA_fence (s : Sst) (t : Nat) : stA { (s.lands t 9).quiet t with fe := s.fe + 1 } = stA (s.fence t) := rfl
end Go.Proofs.YtkoflhjnpilchaaDoor
