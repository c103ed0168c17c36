/-
  What object.list returns: for any seventeen words.
-/
import Derived.Test.YtahobohfknnhhaaProg
import Derived.Test.YtahobohfknnhhaaKit
import Derived.Test.YtahobohfknnhhaaClone
import Derived.Test.YtahobohfknnhhaaRecA
namespace Go.Proofs.Ytahobohfknnhhaa
set_option linter.unusedSimpArgs false
set_option linter.unusedVariables false
set_option linter.unusedSectionVars false
open Go.RowKit
set_option linter.unusedSimpArgs false
set_option linter.unusedVariables false
attribute [local go_sem ↓] Go.wp_at_zero Go.wp_at_succ

/-- The numbers of words 1 .. n. -/
def upL (z : Nat → Int) (n : Nat) : List Int := (List.range n).map fun i => z (i + 1)
theorem upL_succ (z : Nat → Int) (n : Nat) : upL z (n + 1) = upL z n ++ [z (n + 1)] := by unfold upL; rw [List.range_succ, List.map_append]; rfl
theorem upL_len (z : Nat → Int) (n : Nat) : (upL z n).length = n := by unfold upL; simp
theorem upL_get (z : Nat → Int) (n i : Nat) (h : i < n) : (upL z n)[i]?.getD 0 = z (i + 1) := by unfold upL; simp [h]
/-- Word i + 1 is as a list of n0 numbers has it. -/
def wordOk (z : Nat → Int) (n0 : Nat) (i : Nat) : Prop := z (i + 1) ≤ 4294967295 ∧ (n0 ≤ i → z (i + 1) = 0)
def listOk (z : Nat → Int) : Prop := z 0 ≤ 6 ∧ ∀ i, i < 16 → wordOk z (z 0).toNat i

def ListOut (z : Nat → Int) (w : World) (e : Ending) (w' : World) : Prop :=
  Below w.heap.size w w' ∧ ((listOk z ∧ ∃ A c, e = .returned (.tuple #[.slice A (z 0).toNat c, .bool true]) ∧ Own w' (w.heap.size + 1) A (z 0).toNat c (upL z (z 0).toNat)) ∨ (¬ listOk z ∧ e = .returned (.tuple #[.slice none 0 0, .bool false])))

set_option maxRecDepth 100000 in
set_option maxHeartbeats 2000000 in
theorem list_any (C : Array Value) (z : Nat → Int) (w : World) (h : U64s C 17 z) : Calls Try.prog 14 #[.agg C] w (ListOut z w) := by
  have c0 := h.get 0 (by omega)
  obtain ⟨n0, hn0⟩ := Int.eq_ofNat_of_zero_le (h.bd 0 (by omega)).1
  have h64 := (h.bd 0 (by omega)).2
  rw [hn0] at c0 h64
  have HN := Lib.hid hn0
  have HC := Lib.hid h
  have HS := Lib.hid h.size
  have HBK : Hid (Blk (w.alloc (.cells C 24)) w.heap.size 24 C) := Blk.new _ _ _
  clear h hn0
  by_cases h6 : n0 ≤ 6
  · have d6 : decide (6 < (n0 : Int)) = false := by simp; omega
    go_enter Try.func14, Try.ntmps14
    go_wp2
    go_loopw [4, 13] (fun l i wr => ∃ k m : Nat, k ≤ 16 ∧ i = .int .i64 k ∧ Hid (m = min k n0) ∧ Hid (∃ A c, l = .slice A m c ∧ Own wr (w.heap.size + 1) A m c (upL z m)) ∧ Below (w.heap.size + 1) (w.alloc (.cells C 24)) wr ∧ Hid (∀ j, j < k → wordOk z n0 j)) (fun _ i _ => 16 - (intOf i).toNat)
    case atStart => exact ⟨0, 0, by omega, rfl, Lib.hid (by omega), Lib.hid ⟨none, 0, rfl, Own.nil _ _⟩, Below.refl _ _, Lib.hid fun j hj => absurd hj (by omega)⟩
    case round =>
      obtain ⟨k, m, hk, rfl, hm, hex, hb, hall⟩ := hrel
      obtain ⟨A, c, rfl, hown⟩ := hex.out
      have HO := Lib.hid hown
      clear hown hex
      by_cases hk16 : k < 16
      · have b1 : (k : Int) < 16 := by omega
        have s0 : wr.cell? ⟨w.heap.size, 0, none⟩ = some (.int .u64 n0) := (hb.cell (p := ⟨w.heap.size, 0, none⟩) (by simp)).trans ((HBK.out.cell 0).trans c0)
        have s1 : wr.cell? ⟨w.heap.size, k + 1, none⟩ = some (.int .u64 (z (k + 1))) := (hb.cell (p := ⟨w.heap.size, k + 1, none⟩) (by simp)).trans ((HBK.out.cell (k + 1)).trans (HC.out.get _ (by omega)))
        have s1' : wr.cell? ⟨w.heap.size, 1 + k, none⟩ = some (.int .u64 (z (k + 1))) := by rw [Nat.add_comm 1 k]; exact s1
        have bd := HC.out.bd (k + 1) (by omega)
        generalize hv : z (k + 1) = v at s1 s1' bd
        have HV := Lib.hid hv
        clear hv
        by_cases hbig : v ≤ 4294967295
        · have d1 : decide (4294967295 < v) = false := by simp; omega
          by_cases hin : k < n0
          · have b2 : (k : Int) < n0 := by omega
            have d2 : decide ((k : Int) < n0) = true := by simp; omega
            obtain rfl : m = k := by have := hm.out; omega
            have hbz := hb.size
            simp only [World.size_alloc] at hbz
            go_wp2_with (at_builtin; refine wpList_append1 rfl (.tmp 34) (.tmp 37) rfl (B := w.heap.size + 1) rfl (HO.out.alloc _) rfl ((Blk.new _ _ _).cell 0) (by omega) (by simp; omega) ?_; intro g2 c2 w2 hown2 hb2)
            go_roundw
            case rel => exact ⟨m + 1, m + 1, by omega, by go_num, Lib.hid (by omega), Lib.hid ⟨_, _, rfl, by rw [upL_succ, HV.out]; exact hown2⟩, hb.trans (Below.trans (by go_grown) hb2), Lib.hid fun j hj => by
              rcases Nat.lt_or_ge j m with h | h
              · exact hall.out j h
              · obtain rfl : j = m := by omega
                exact ⟨by rw [HV.out]; exact hbig, fun hn => absurd hn (by omega)⟩⟩
            case measure => simp [intOf]; omega
          · have b2 : ¬ (k : Int) < n0 := by omega
            have d2 : decide ((k : Int) < n0) = false := by simp; omega
            by_cases hv0 : v = 0
            · subst hv0
              go_wp2
              go_roundw
              case rel => exact ⟨k + 1, m, by omega, by go_num, Lib.hid (by have := hm.out; omega), Lib.hid ⟨A, c, rfl, HO.out⟩, hb, Lib.hid fun j hj => by
                rcases Nat.lt_or_ge j k with h | h
                · exact hall.out j h
                · obtain rfl : j = k := by omega
                  exact ⟨by rw [HV.out]; omega, fun _ => HV.out⟩⟩
              case measure => simp [intOf]; omega
            · have d3 : (v != 0) = true := by simpa using hv0
              go_wp2
              refine bodyPost_ret (by simp [results, Try.results14, go_sem]; try rfl) rfl ?_
              refine ⟨Below.trans (by go_grown) (hb.mono (by omega)), .inr ⟨fun hl => ?_, rfl⟩⟩
              have h1 := (hl.2 k hk16).2
              rw [HN.out, HV.out] at h1
              exact hv0 (h1 (by omega))
        · have d1 : decide (4294967295 < v) = true := by simp; omega
          go_wp2
          refine bodyPost_ret (by simp [results, Try.results14, go_sem]; try rfl) rfl ?_
          refine ⟨Below.trans (by go_grown) (hb.mono (by omega)), .inr ⟨fun hl => ?_, rfl⟩⟩
          have h1 := (hl.2 k hk16).1
          rw [HV.out] at h1
          omega
      · obtain rfl : k = 16 := by omega
        obtain rfl : m = n0 := by have := hm.out; omega
        go_wp2
        refine bodyPost_ret (by simp [results, Try.results14, go_sem]; try rfl) rfl ?_
        refine ⟨Below.trans (by go_grown) (hb.mono (by omega)), .inl ⟨⟨by rw [HN.out]; omega, by rw [HN.out]; exact hall.out⟩, A, c, ?_⟩⟩
        rw [HN.out]
        exact ⟨rfl, HO.out⟩
  · have d6 : decide (6 < (n0 : Int)) = true := by simp; omega
    go_enter Try.func14, Try.ntmps14
    go_wp2
    refine bodyPost_ret (by simp [results, Try.results14, go_sem]; try rfl) rfl ?_
    exact ⟨by go_grown, .inr ⟨fun h => by have := h.1; rw [HN.out] at this; omega, rfl⟩⟩
end Go.Proofs.Ytahobohfknnhhaa
