/-
  What slices.Insert (of one number, at the front) and slices.Delete (of one number) do with a slice of the call's own, at ints.
-/
import Derived.Test.YtkoflhjnpilchaaGreatDoorMWord
import Derived.Test.YtkoflhjnpilchaaGreatDoorShelf
namespace Go.Proofs.YtkoflhjnpilchaaGreatDoor
set_option linter.unusedSimpArgs false
set_option linter.unusedVariables false
set_option linter.unusedSectionVars false
open Go.RowKit

theorem size_setCells (b : Nat) : ∀ (vs : List Value) (o : Nat) (w : World), (w.setCells b o vs).heap.size = w.heap.size
  | [], _, _ => rfl
  | v :: r, o, w => (size_setCells b r (o + 1) _).trans (by simp [World.setCell])
theorem below_setCells {B b : Nat} (hb : B ≤ b) {a : World} : ∀ (vs : List Value) (o : Nat) (w : World), Below B a w → Below B a (w.setCells b o vs)
  | [], _, _, h => h
  | v :: r, o, w, h => below_setCells hb r (o + 1) _ (h.setCell (p := ⟨b, o, none⟩) hb v)
theorem IBd.cons {xs : List Int} (h : IBd xs) {v : Int} (hv : -9223372036854775808 ≤ v ∧ v ≤ 9223372036854775807) : IBd (v :: xs) := fun i => by
  cases i with
  | zero => exact hv
  | succ i => simpa using h i
theorem SlO.of_cells {w : World} {B g n c : Nat} {xs : List Int} (hg : B ≤ g) (hlt : g < w.heap.size) (hn : xs.length = n) (hc : n ≤ c) (h63 : c ≤ 9223372036854775807) (bd : IBd xs)
    (h : ∀ i, i < n → w.cell? ⟨g, i, none⟩ = some (.int .i64 (xs[i]?.getD 0))) : SlO w B (some ⟨g, 0, none⟩) n c xs :=
  ⟨⟨hn, hc, h63, bd, fun _ => ⟨g, 0, rfl, hlt, fun i hi => by rw [Nat.zero_add]; exact h i hi⟩⟩, fun _ b hA => by cases hA; exact hg⟩
theorem Own.parts {w : World} {B : Nat} {A : Option Addr} {n c : Nat} {xs : List Int} (h : Own w B A n c xs) : (A = none ∧ n = 0 ∧ c = 0) ∨ ∃ g cur, A = some ⟨g, 0, none⟩ ∧ B ≤ g ∧ Blk w g 3 cur ∧ n ≤ c ∧ c ≤ maxLen ∧ cur.size = c ∧ ∀ i, i < n → cur[i]? = some (.int .i64 (xs[i]?.getD 0)) := by
  have hl := h.len
  rcases h.2 with ⟨hv, hn⟩ | ⟨g, cap, cur, hv, hb, hg, hnc, hm, hs, ht⟩
  · cases hv
    exact .inl ⟨rfl, rfl, rfl⟩
  · cases hv
    refine .inr ⟨g, cur, rfl, hb, hg, hnc, hm, by simpa using hs, fun i hi => ?_⟩
    have : (cur.toList.take (n * 1))[i]? = (xs.map (Value.int .i64))[i]? := by rw [ht]
    rw [List.getElem?_take, if_pos (by omega), List.getElem?_map, List.getElem?_eq_getElem (show i < xs.length by omega)] at this
    rw [List.getElem?_eq_getElem (show i < xs.length by omega)]
    simpa using this
theorem mapInt_get {xs : List Int} {j : Nat} {v : Value} (h : (xs.map (Value.int .i64))[j]? = some v) : j < xs.length ∧ v = .int .i64 (xs[j]?.getD 0) := by
  have hj : j < xs.length := by simpa using (List.getElem?_eq_some_iff.1 h).1
  rw [List.getElem?_map, List.getElem?_eq_getElem hj] at h
  refine ⟨hj, ?_⟩
  rw [List.getElem?_eq_getElem hj]
  simpa using h.symm
theorem mapInt_one {xs : List Int} : ∀ v ∈ xs.map (Value.int .i64), v.oneCell' = true := fun v hv => by obtain ⟨x, _, rfl⟩ := List.mem_map.1 hv; rfl

/-- What an insertion comes to. -/
def GrewTo (w : World) (B m : Nat) (ys : List Int) (e : Ending) (w' : World) : Prop := ∃ A1 c1, e = .returned (.slice A1 m c1) ∧ SlO w' B A1 m c1 ys ∧ Below B w w'

theorem grew_new {w W : World} {B m c1 : Nat} {ys : List Int} {cs : Array Value} (hB : B ≤ w.heap.size) (hW : W = (w.drew.alloc (.cells cs 3))) (hl : ys.length = m) (hc : m ≤ c1) (h63 : c1 ≤ 9223372036854775807) (bd : IBd ys)
    (h : ∀ i, i < m → cs[i]? = some (.int .i64 (ys[i]?.getD 0))) : GrewTo w B m ys (.returned (.slice (some ⟨w.heap.size, 0, none⟩) m c1)) W := by
  subst hW
  refine ⟨_, _, rfl, SlO.of_cells hB (by simp) hl hc h63 bd fun i hi => ?_, ((Below.refl _ _).drew).alloc hB _⟩
  have := (Blk.newAt w.drew 3 cs (n := w.heap.size) rfl).cell i
  rw [this]
  exact h i hi

set_option maxHeartbeats 1000000 in
theorem insert0 {w : World} {B : Nat} {A : Option Addr} {n c g c' : Nat} {xs : List Int} {v : Int} (h : Own w B A n c xs) (bd : IBd xs) (hv : -9223372036854775808 ≤ v ∧ v ≤ 9223372036854775807) (hg : Blk w g 3 #[.int .i64 v]) (hne : ∀ a, A = some a → g ≠ a.block) (hn : n ≤ 60) (hB : B ≤ w.heap.size) :
    Calls Tryz.prog 84 #[.slice A n c, .int .i64 0, .slice (some ⟨g, 0, none⟩) 1 c'] w (GrewTo w B (n + 1) (v :: xs)) := by
  have hl := h.len
  have hvs : ∀ (j : Nat) (u : Value), [Value.int .i64 v][j]? = some u → w.cell? ⟨g, 0 + j, none⟩ = some u := fun j u hj => by
    cases j with
    | zero => simp at hj; subst hj; rw [hg.cell]; rfl
    | succ j => simp at hj
  have h1v : ∀ u ∈ [Value.int .i64 v], u.oneCell' = true := fun u hu => by simp at hu; subst hu; rfl
  have hbv := IBd.cons bd hv
  have hlen2 : (v :: xs).length = n + 1 := by simp [hl]
  have hget0 : (v :: xs)[0]?.getD 0 = v := rfl
  have hgetS : ∀ i, (v :: xs)[i + 1]?.getD 0 = xs[i]?.getD 0 := fun i => by simp
  have hcl : (xs.map (Value.int .i64)).length = n := by simp [hl]
  rcases h.parts with ⟨rfl, rfl, rfl⟩ | ⟨b, cur, rfl, hb, hblk, hnc, hm, hsz, hcur⟩
  · have hx : xs = [] := List.eq_nil_of_length_eq_zero hl
    refine (Any2.slices_Insert_int_end_grow Tryz.lays21 none 0 0 g 0 1 c' [] [.int .i64 v] w (by omega) (by omega) (by omega) (by omega) rfl rfl (fun _ => rfl) (fun a ha => by cases ha) hvs h1v).mono ?_
    rintro e w' ⟨rfl, hw⟩
    refine grew_new hB hw hlen2 (by have := grownCap_ge w (0 + 1) 0 3; exact this) (by have := grownCap_le_maxLen w (0 + 1) 0 3 (by unfold maxLen; omega); unfold maxLen at this; exact this) hbv fun i hi => ?_
    obtain rfl : i = 0 := by omega
    rw [Array.getElem?_append_left (by simp)]
    rfl
  · have hblt := hblk.lt
    have hgb : g ≠ b := hne _ rfl
    have hcs : ∀ (j : Nat) (u : Value), (xs.map (Value.int .i64))[j]? = some u → w.cell? ⟨b, 0 + j, none⟩ = some u := fun j u hj => by
      obtain ⟨hj', rfl⟩ := mapInt_get hj
      rw [Nat.zero_add, hblk.cell, hcur j (by omega)]
    have hm' := hm
    unfold maxLen at hm'
    have hsp : ∀ j, j < n + 1 → n + 1 ≤ c → (w.cell? ⟨b, 0 + j, none⟩).isSome = true := fun j hj hr => by
      rw [Nat.zero_add, hblk.cell, Array.getElem?_eq_getElem (by omega)]; rfl
    rcases Nat.eq_zero_or_pos n with rfl | hn0
    · have hx : xs = [] := List.eq_nil_of_length_eq_zero hl
      by_cases hroom : 0 + 1 ≤ c
      · refine (Any2.slices_Insert_int_end_room Tryz.lays21 b 0 0 c g 0 1 c' [.int .i64 v] w (by omega) hroom hm' rfl (fun j hj => by simpa using hsp j (by omega) hroom) (fun j hj => hblk.frozen _) hvs h1v).mono ?_
        rintro e w' ⟨rfl, rfl⟩
        refine ⟨_, _, rfl, SlO.of_cells hb (by simpa [World.setCells] using hblt) hlen2 hroom hm' hbv fun i hi => ?_, below_setCells hb _ _ _ (Below.refl _ _)⟩
        obtain rfl : i = 0 := by omega
        have := World.cell?_setCells_in b [.int .i64 v] 0 w (fun j hj => hsp j (by simpa using hj) hroom) 0 (by simp)
        simpa using this
      · refine (Any2.slices_Insert_int_end_grow Tryz.lays21 (some ⟨b, 0, none⟩) 0 c g 0 1 c' [] [.int .i64 v] w (by omega) (by omega) (by omega) (by omega) rfl rfl (fun h => by cases h) (fun a ha j u hj => by simp at hj) hvs h1v).mono ?_
        rintro e w' ⟨rfl, hw⟩
        refine grew_new hB hw hlen2 (by have := grownCap_ge w (0 + 1) c 3; exact this) (by have := grownCap_le_maxLen w (0 + 1) c 3 (by unfold maxLen; omega); unfold maxLen at this; exact this) hbv fun i hi => ?_
        obtain rfl : i = 0 := by omega
        rw [Array.getElem?_append_left (by simp)]
        rfl
    · by_cases hroom : n + 1 ≤ c
      · refine (Any2.slices_Insert_int_shift Tryz.lays21 b 0 n c 0 g 0 1 c' (xs.map (Value.int .i64)) [.int .i64 v] w hn0 (by omega) hroom hm' hgb hcl rfl hcs (fun j hj => hsp j hj hroom) (fun j hj => hblk.frozen _) hvs mapInt_one h1v 3 3 1 c (by simp [World.shape?, show w.heap[g]? = _ from hg]) (by simp [World.shape?, show w.heap[b]? = _ from hblk, hsz]) (by omega) (hg.frozen _) (hg.frozen _)).mono ?_
        rintro e w' ⟨rfl, rfl⟩
        have s1 : ∀ j, j < (xs.map (Value.int .i64)).length → (w.drew.cell? ⟨b, 1 + j, none⟩).isSome = true := fun j hj => by
          have := hsp (1 + j) (by rw [hcl] at hj; omega) hroom
          rw [Nat.zero_add] at this
          exact this
        refine ⟨_, _, rfl, SlO.of_cells hb ?_ hlen2 hroom hm' hbv fun i hi => ?_, below_setCells hb _ _ _ (below_setCells hb _ _ _ (Below.refl _ _).drew)⟩
        · have := (below_setCells (B := 0) (Nat.zero_le b) [Value.int .i64 v] 0 _ (below_setCells (Nat.zero_le b) (xs.map (Value.int .i64)) 1 w.drew (Below.refl 0 w).drew)).size
          simpa using Nat.lt_of_lt_of_le hblt this
        · cases i with
          | zero =>
            have := World.cell?_setCells_in b [.int .i64 v] 0 (w.drew.setCells b 1 (xs.map (Value.int .i64))) (fun j hj => World.isSome_setCells b _ _ _ _ (by
              have := hsp j (by have : j < 1 := hj
                                omega) hroom
              exact this)) 0 (by simp)
            simpa [hget0] using this
          | succ i =>
            have hi' : i < (xs.map (Value.int .i64)).length := by rw [hcl]; omega
            rw [World.cell?_setCells_out b [.int .i64 v] (0 + 0) _ ⟨b, i + 1, none⟩ (fun _ _ => .inr (by simp))]
            have := World.cell?_setCells_in b (xs.map (Value.int .i64)) 1 w.drew s1 i hi'
            rw [Nat.add_comm] at this
            rw [hgetS]
            simp only [List.drop_zero, Nat.zero_add]
            rw [this, List.getElem_map, List.getElem?_eq_getElem (by simpa using hi')]
            rfl
      · refine (Any2.slices_Insert_int_grow Tryz.lays21 b 0 n c 0 g 0 1 c' (xs.map (Value.int .i64)) [.int .i64 v] w hn0 (by omega) hnc (by omega) (by omega) hcl rfl hcs hvs mapInt_one h1v).mono ?_
        rintro e w' ⟨rfl, rfl⟩
        have hge := grownCap_ge w (n + 1) c 3
        have hle := grownCap_le_maxLen w (n + 1) c 3 (by unfold maxLen; omega)
        unfold maxLen at hle
        have hone : (Value.int .i64 0).cells.size = 1 := rfl
        refine ⟨_, _, rfl, SlO.of_cells hB ?_ hlen2 hge hle hbv fun i hi => ?_, ?_⟩
        · rw [size_setCells]
          show w.heap.size < (World.setCells _ _ _ _).heap.size
          rw [size_setCells]
          show w.heap.size < (w.alloc _).heap.size
          simp
        · generalize hX : ((List.take 0 (xs.map (Value.int .i64))).toArray ++ Builtin.zeroCells (Value.int .i64 0).cells (n + 1 - 0) ++ Builtin.zeroCells (Value.int .i64 0).cells (grownCap w (n + 1) c (Tryz.lays21_ren.t 3) - (n + 1))) = X
          have hXs : n + 1 ≤ X.size := by rw [← hX]; simp [size_zeroCells, hone] <;> omega
          have hbX : Blk (w.alloc (.cells X (Tryz.lays21_ren.t 3))) w.heap.size (Tryz.lays21_ren.t 3) X := Blk.new _ _ _
          have hs : ∀ j, j < n + 1 → ((w.alloc (.cells X (Tryz.lays21_ren.t 3))).cell? ⟨w.heap.size, j, none⟩).isSome = true := fun j hj => by
            rw [hbX.cell, Array.getElem?_eq_getElem (by omega)]; rfl
          have s1 : ∀ j, j < (xs.map (Value.int .i64)).length → (((w.alloc (.cells X (Tryz.lays21_ren.t 3))).drew.setCells w.heap.size 0 [.int .i64 v]).drew.cell? ⟨w.heap.size, 1 + j, none⟩).isSome = true := fun j hj => by
            refine World.isSome_setCells w.heap.size [.int .i64 v] 0 (w.alloc (.cells X (Tryz.lays21_ren.t 3))).drew ⟨w.heap.size, 1 + j, none⟩ ?_
            exact hs (1 + j) (by rw [hcl] at hj; omega)
          cases i with
          | zero =>
            rw [World.cell?_setCells_out w.heap.size _ _ _ ⟨w.heap.size, 0, none⟩ (fun _ _ => .inl (by simp))]
            have := World.cell?_setCells_in w.heap.size [.int .i64 v] 0 (w.alloc (.cells X (Tryz.lays21_ren.t 3))).drew (fun j hj => by
              have hj' : j < 1 := hj
              rw [Nat.zero_add]
              exact hs j (by omega)) 0 (by simp)
            simpa [hget0] using this
          | succ i =>
            have hi' : i < (xs.map (Value.int .i64)).length := by rw [hcl]; omega
            have := World.cell?_setCells_in w.heap.size (xs.map (Value.int .i64)) 1 _ s1 i hi'
            rw [Nat.add_comm] at this
            rw [hgetS]
            simp only [List.drop_zero, Nat.zero_add]
            rw [this, List.getElem_map, List.getElem?_eq_getElem (by simpa using hi')]
            rfl
        · exact below_setCells hB _ _ _ (Below.drew (below_setCells hB _ _ _ ((Below.refl _ _).alloc hB _).drew))

/-- One number is taken out of a slice of the call's own. -/
theorem delete1 {w : World} {B g n c i : Nat} {xs : List Int} (h : Own w B (some ⟨g, 0, none⟩) n c xs) (bd : IBd xs) (hi : i < n) :
    Calls Tryz.prog 85 #[.slice (some ⟨g, 0, none⟩) n c, .int .i64 i, .int .i64 ((i + 1 : Nat) : Int)] w fun e w' => e = .returned (.slice (some ⟨g, 0, none⟩) (n - 1) c) ∧ SlO w' B (some ⟨g, 0, none⟩) (n - 1) c (xs.take i ++ xs.drop (i + 1)) ∧ Below B w w' := by
  have hl := h.len
  rcases h.parts with ⟨h0, _, _⟩ | ⟨b, cur, hA, hb, hblk, hnc, hm, hsz, hcur⟩
  · cases h0
  · cases hA
    unfold maxLen at hm
    have hcc : ∀ j, j < xs.length → w.cell? ⟨g, 0 + j, none⟩ = some (.int .i64 (xs.getD j 0)) := fun j hj => by
      rw [Nat.zero_add, hblk.cell, hcur j (by omega), List.getD_eq_getElem?_getD]
    refine (Any.slices_Delete_int_cells Tryz.lays23 g 0 n c i (i + 1) xs w (by omega) hnc hm (by omega) (by omega) hcc (fun j hj => hblk.frozen _)).mono ?_
    rintro e w' ⟨rfl, q, rfl⟩
    have hnn : n - (i + 1 - i) = n - 1 := by omega
    rw [hnn]
    refine ⟨rfl, ?_, below_setCells hb _ _ _ (below_drewN (Below.refl _ _) _)⟩
    have ht : xs.take n = xs := List.take_of_length_le (by omega)
    rw [ht]
    generalize hys : xs.take i ++ xs.drop (i + 1) = ys
    have hyl : ys.length = n - 1 := by rw [← hys]; simp; omega
    have hbd : IBd ys := fun j => by
      rw [← hys, List.getElem?_append]
      split
      · rw [List.getElem?_take]
        split
        · exact bd j
        · decide
      · rw [List.getElem?_drop]; exact bd _
    refine SlO.of_cells hb ?_ hyl (by omega) hm hbd fun j hj => ?_
    · exact Nat.lt_of_lt_of_le hblk.lt (below_setCells (B := 0) (Nat.zero_le _) _ _ _ (below_drewN (Below.refl _ _) _)).size
    · have hlen : ((ys ++ List.replicate (i + 1 - i) 0).map (Value.int .i64)).length = n := by simp [hyl]; omega
      have := World.cell?_setCells_in g ((ys ++ List.replicate (i + 1 - i) 0).map (Value.int .i64)) 0 (w.drewN q) (fun k hk => by
        rw [hlen] at hk
        have := hcc k (by omega)
        show (w.cell? _).isSome = true
        rw [this]; rfl) j (by rw [hlen]; omega)
      rw [Nat.zero_add] at this
      rw [this, List.getElem_map, List.getElem_append_left (by omega), List.getElem?_eq_getElem (by omega)]
      rfl
end Go.Proofs.YtkoflhjnpilchaaGreatDoor
