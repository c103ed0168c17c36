/-
  The plain mathematics of the heap: how the last one rises and the first one sinks. No program in sight.
-/
import Derived.Test.YtfpfhiogfjlpaaaKit
namespace Go.Proofs.Ytfpfhiogfjlpaaa

def gI (xs : List Int) (i : Nat) : Int := xs[i]?.getD 0
theorem gI_set {xs : List Int} {i j : Nat} {v : Int} (hi : i < xs.length) : gI (xs.set i v) j = if j = i then v else gI xs j := by
  unfold gI
  rw [List.getElem?_set]
  by_cases h : i = j
  · subst h; simp [hi]
  · rw [if_neg h, if_neg (fun e => h e.symm)]
theorem gI_take {xs : List Int} {n i : Nat} (h : i < n) : gI (xs.take n) i = gI xs i := by
  unfold gI; rw [List.getElem?_take, if_pos h]
theorem gI_app_lt {xs ys : List Int} {i : Nat} (h : i < xs.length) : gI (xs ++ ys) i = gI xs i := by
  unfold gI; rw [List.getElem?_append_left h]

/-- Where the lesser child stands. -/
def child (xs : List Int) (i : Nat) : Nat := if 2 * i + 2 < xs.length ∧ gI xs (2 * i + 2) < gI xs (2 * i + 1) then 2 * i + 2 else 2 * i + 1
theorem child_or (xs : List Int) (i : Nat) : (child xs i = 2 * i + 2 ∧ 2 * i + 2 < xs.length ∧ gI xs (2 * i + 2) < gI xs (2 * i + 1)) ∨ (child xs i = 2 * i + 1 ∧ ¬ (2 * i + 2 < xs.length ∧ gI xs (2 * i + 2) < gI xs (2 * i + 1))) := by
  unfold child
  by_cases h : 2 * i + 2 < xs.length ∧ gI xs (2 * i + 2) < gI xs (2 * i + 1)
  · rw [if_pos h]; exact .inl ⟨rfl, h.1, h.2⟩
  · rw [if_neg h]; exact .inr ⟨rfl, h⟩

def sink (xs : List Int) (i : Nat) (v : Int) : List Int :=
  if h : child xs i < xs.length ∧ gI xs (child xs i) < v then sink (xs.set i (gI xs (child xs i))) (child xs i) v else xs.set i v
termination_by xs.length - i
decreasing_by
  have := child_or xs i
  rw [List.length_set]
  omega
theorem sink_step {xs : List Int} {i : Nat} {v : Int} (h : child xs i < xs.length ∧ gI xs (child xs i) < v) : sink xs i v = sink (xs.set i (gI xs (child xs i))) (child xs i) v := by
  rw [sink, dif_pos h]
theorem sink_end {xs : List Int} {i : Nat} {v : Int} (h : ¬ (child xs i < xs.length ∧ gI xs (child xs i) < v)) : sink xs i v = xs.set i v := by
  rw [sink, dif_neg h]
theorem sink_nil (i : Nat) (v : Int) : sink [] i v = [] := by rw [sink_end (by simp)]; rfl

def rise (xs : List Int) (i : Nat) : List Int :=
  if h : 0 < i ∧ gI xs i < gI xs ((i - 1) / 2) then rise ((xs.set i (gI xs ((i - 1) / 2))).set ((i - 1) / 2) (gI xs i)) ((i - 1) / 2) else xs
termination_by i
decreasing_by omega
theorem rise_step {xs : List Int} {i : Nat} (h : 0 < i ∧ gI xs i < gI xs ((i - 1) / 2)) : rise xs i = rise ((xs.set i (gI xs ((i - 1) / 2))).set ((i - 1) / 2) (gI xs i)) ((i - 1) / 2) := by
  rw [rise, dif_pos h]
theorem rise_end {xs : List Int} {i : Nat} (h : ¬ (0 < i ∧ gI xs i < gI xs ((i - 1) / 2))) : rise xs i = xs := by
  rw [rise, dif_neg h]

/-- The program's list is the reference's with what sinks at place i: a swap is a step of both. -/
theorem swap_set (xs : List Int) (i k : Nat) (a v : Int) (hik : i ≠ k) : ((xs.set i v).set i a).set k v = (xs.set i a).set k v := by
  rw [List.set_set]

end Go.Proofs.Ytfpfhiogfjlpaaa
