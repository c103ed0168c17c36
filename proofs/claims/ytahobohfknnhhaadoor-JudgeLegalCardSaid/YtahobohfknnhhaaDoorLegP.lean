/-
  Deeds one behind the other: what an object is behind each. No program in sight.
-/
import Derived.Test.YtahobohfknnhhaaDoorMTD
import Derived.Test.YtahobohfknnhhaaDoorObjD
namespace Go.Proofs.YtahobohfknnhhaaDoor
set_option linter.unusedSimpArgs false
set_option linter.unusedVariables false
set_option linter.unusedSectionVars false
open Go.RowKit

/-- g is what an object of a kind is, deed by deed. -/
def Runs (kind : Int) (f : Nat → Nat → Int) (g : Nat → Nat → Int) : Prop :=
  g 0 = (fun _ => 0) ∧ ∀ i, ∃ m, (rightT (g i) = true → tabM (g i) (f i 1) (f i 2) m) ∧ g (i + 1) = doZ kind (g i) (f i 1) (f i 2) (f i 3) m
theorem rec_exists {α : Type} (a : α) (R : Nat → α → α → Prop) (h : ∀ i x, ∃ y, R i x y) : ∃ g : Nat → α, g 0 = a ∧ ∀ i, R i (g i) (g (i + 1)) :=
  ⟨fun i => Nat.rec a (fun i x => Classical.choose (h i x)) i, rfl, fun i => Classical.choose_spec (h i _)⟩
theorem runs_exists (kind : Int) (f : Nat → Nat → Int) : ∃ g, Runs kind f g :=
  rec_exists (fun _ => 0) (fun i z y => ∃ m, (rightT z = true → tabM z (f i 1) (f i 2) m) ∧ y = doZ kind z (f i 1) (f i 2) (f i 3) m) (fun i z => by
    by_cases hr : rightT z = true
    · obtain ⟨m, hm⟩ := tabM_exists hr (f i 1) (f i 2)
      exact ⟨_, m, fun _ => hm, rfl⟩
    · exact ⟨_, 0, fun h => absurd h hr, rfl⟩)
def okD (kind : Int) (f g : Nat → Nat → Int) (i : Nat) : Prop :=
  opOk (f i 1) (f i 2) (f i 3) ∧ doC kind (g i) (f i 1) (f i 2) (f i 3) = f i 4 ∧ doV kind (g i) (f i 1) (f i 2) (f i 3) = f i 5
theorem zero_ok {kind : Int} (h : 1 ≤ kind ∧ kind ≤ 6) : thingOk kind (fun _ => 0) ∧ Wds (fun _ => 0) := by
  refine ⟨?_, fun i hi => by simp⟩
  have hl : listOk (fun _ => 0) := ⟨by decide, fun i hi => ⟨show (0 : Int) ≤ 4294967295 by decide, fun _ => rfl⟩⟩
  unfold thingOk
  by_cases h5 : kind = 5
  · rw [if_pos h5]
    exact ⟨fun i hi => ⟨show (0 : Int) ≤ 1000 by decide, show (0 : Int) ≤ 4294967295 by decide⟩, rfl, by decide⟩
  rw [if_neg h5]
  by_cases h6 : kind = 6
  · rw [if_pos h6]
    exact ⟨by decide, fun i hi => by simp⟩
  rw [if_neg h6]
  by_cases h4 : kind = 4
  · rw [if_pos h4]
    exact ⟨hl, by decide⟩
  rw [if_neg h4]
  exact ⟨h.1, by omega, hl⟩
theorem runs_ok {kind : Int} {f g : Nat → Nat → Int} (hk : 1 ≤ kind ∧ kind ≤ 6) (hg : Runs kind f g) : ∀ i, (∀ j, j < i → okD kind f g j) → thingOk kind (g i) ∧ Wds (g i)
  | 0, _ => by rw [hg.1]; exact zero_ok hk
  | i + 1, h => by
    obtain ⟨h1, h2⟩ := runs_ok hk hg i (fun j hj => h j (by omega))
    obtain ⟨m, hm, he⟩ := hg.2 i
    have h3 := thing_do (m := m) h2 h1 (h i (by omega)).1 (fun h5 => hm (by
      unfold thingOk at h1
      rw [if_pos h5] at h1
      exact h1.2.2))
    rw [he]
    exact ⟨h3.1, h3.2.1⟩
theorem runs_m {kind : Int} {f g : Nat → Nat → Int} {i : Nat} (hg : Runs kind f g) (h : thingOk kind (g i)) : ∃ m, (kind = 5 → tabM (g i) (f i 1) (f i 2) m) ∧ g (i + 1) = doZ kind (g i) (f i 1) (f i 2) (f i 3) m := by
  obtain ⟨m, hm, he⟩ := hg.2 i
  exact ⟨m, fun h5 => hm (by
    unfold thingOk at h
    rw [if_pos h5] at h
    exact h.2.2), he⟩
/-- Up to K all is as told; K is the end, or the first that is not. -/
def LUpto (kind : Int) (f g : Nat → Nat → Int) (n K : Nat) : Prop := K ≤ n ∧ (∀ j, j < K → okD kind f g j) ∧ (K = n ∨ ¬ okD kind f g K)
theorem lupto_exists (kind : Int) (f g : Nat → Nat → Int) : ∀ n, ∃ K, LUpto kind f g n K
  | 0 => ⟨0, Nat.le_refl _, fun j hj => absurd hj (by omega), .inl rfl⟩
  | n + 1 => by
    obtain ⟨K, h1, h2, h3⟩ := lupto_exists kind f g n
    by_cases hK : K = n
    · subst hK
      by_cases h : okD kind f g K
      · exact ⟨K + 1, Nat.le_refl _, fun j hj => by
          by_cases e : j = K
          · rw [e]; exact h
          · exact h2 j (by omega), .inl rfl⟩
      · exact ⟨K, by omega, h2, .inr h⟩
    · exact ⟨K, by omega, h2, .inr (h3.resolve_left hK)⟩
end Go.Proofs.YtahobohfknnhhaaDoor
