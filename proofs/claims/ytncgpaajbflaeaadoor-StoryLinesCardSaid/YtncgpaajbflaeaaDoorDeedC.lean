/-
  story.Deeds and the reference's DeedsText, for up to 40 deeds. The tables of strings, strconv and op hold what they hold (premises on variables).
-/
import Derived.Test.YtncgpaajbflaeaaDoorPrintC
import Derived.Test.YtncgpaajbflaeaaDoorWide
import Derived.Lib.Join
namespace Go.Proofs.YtncgpaajbflaeaaDoor
set_option linter.unusedSimpArgs false
set_option linter.unusedVariables false
set_option linter.unusedSectionVars false
open Go.RowKit
attribute [local go_sem ↓] Go.wp_at_zero Go.wp_at_succ

structure DeedT (w : World) : Prop where
  say : SayT w
  prn : PrintT w
theorem DeedT.below {w w' : World} (h : DeedT w) (hb : Below w.heap.size w w') : DeedT w' := ⟨h.say.below hb, h.prn.below hb⟩

abbrev sixK : List IntKind := [.i64, .i64, .i64, .i64, .i64, .i64]
def deedZ (t a k v c x : Int) : ByteArray := itoaB t ++ (⟨#[32]⟩ : ByteArray) ++ nameZ a k v ++ (⟨#[58, 32]⟩ : ByteArray) ++ sayZ c x
def dz (f : Nat → Nat → Int) (i : Nat) : ByteArray := deedZ (f i 0) (f i 1) (f i 2) (f i 3) (f i 4) (f i 5)
def accZ (f : Nat → Nat → Int) : Nat → ByteArray
  | 0 => ⟨#[]⟩
  | k + 1 => (if 0 < k then accZ f k ++ (⟨#[44, 32]⟩ : ByteArray) else accZ f k) ++ dz f k

theorem nameZ_size (a k v : Int) : (nameZ a k v).size ≤ 50 := by
  unfold nameZ
  split
  · rename_i hr
    have hq : 1 ≤ a ∧ a ≤ 6 ∧ 0 ≤ k ∧ k ≤ 1000 ∧ 0 ≤ v ∧ v ≤ 4294967295 := by simpa [opRightB] using hr
    have h1 := op_size a
    have h2 := itoaB_size k (by omega) (by omega)
    have h3 := itoaB_size v (by omega) (by omega)
    unfold optD keyD
    (repeat' split) <;> (try simp only [ByteArray.size_append, show (⟨#[58]⟩ : ByteArray).size = 1 from rfl, show (⟨#[61]⟩ : ByteArray).size = 1 from rfl]) <;> omega
  · decide
theorem sayZ_size (c v : Int) : (sayZ c v).size ≤ 28 := by
  unfold sayZ
  split
  · rename_i hr
    have hq : 1 ≤ c ∧ c ≤ 5 ∧ 0 ≤ v ∧ v ≤ 4294967295 ∧ (c = 1 ∨ v = 0) := by simpa [fitsB] using hr
    have h1 := code_size c
    have h3 := itoaB_size v (by omega) (by omega)
    split <;> (try simp only [ByteArray.size_append, show (⟨#[32]⟩ : ByteArray).size = 1 from rfl]) <;> omega
  · decide
theorem deedZ_size (t a k v c x : Int) (h0 : -9223372036854775808 ≤ t) (h1 : t ≤ 9223372036854775807) : (deedZ t a k v c x).size ≤ 102 := by
  have h2 := itoaB_size t h0 h1
  have h3 := nameZ_size a k v
  have h4 := sayZ_size c x
  unfold deedZ
  simp only [ByteArray.size_append, show (⟨#[32]⟩ : ByteArray).size = 1 from rfl, show (⟨#[58, 32]⟩ : ByteArray).size = 2 from rfl]
  omega

theorem accZ_size (f : Nat → Nat → Int) : ∀ (k : Nat), (∀ i, i < k → -9223372036854775808 ≤ f i 0 ∧ f i 0 ≤ 9223372036854775807) → (accZ f k).size ≤ 104 * k
  | 0, _ => by unfold accZ; decide
  | k + 1, h => by
    have ih := accZ_size f k (fun i hi => h i (by omega))
    have hd := deedZ_size (f k 0) (f k 1) (f k 2) (f k 3) (f k 4) (f k 5) (h k (by omega)).1 (h k (by omega)).2
    unfold accZ dz
    split <;> simp only [ByteArray.size_append, show (⟨#[44, 32]⟩ : ByteArray).size = 2 from rfl] <;> omega

set_option maxRecDepth 100000 in
theorem deedsText_any (A : Option Addr) (n c : Nat) (f : Nat → Nat → Int) (w : World) (h : SlF sixK w A n c f) (hn : n ≤ 40) (hg : DeedT w) :
    Calls Tryd.prog 23 #[.slice A n c] w fun e w' => e = .returned (.string (accZ f n)) ∧ Below w.heap.size w w' := by
  have H := Lib.hid h
  have HG := Lib.hid hg
  clear h hg
  go_enter Tryd.func23, Tryd.ntmps23
  go_wp2
  go_loopw [3, 8] (fun s i wr => ∃ k : Nat, k ≤ n ∧ i = .int .i64 k ∧ s = .string (accZ f k) ∧ Below w.heap.size w wr) (fun _ i _ => n - (intOf i).toNat)
  case atStart => exact ⟨0, by omega, rfl, rfl, by go_grown⟩
  case round =>
    obtain ⟨k, hk, rfl, rfl, hB⟩ := hrel
    have hbz := hB.size
    by_cases hkn : k < n
    · obtain ⟨b, off, rfl, hblt, hcell⟩ := H.out.at_ (by omega)
      have hwf := bounds_i64 (H.out.wf k 0 hkn (by decide))
      have hsz := accZ_size f k (fun i hi => bounds_i64 (H.out.wf i 0 (by omega) (by decide)))
      have c0 : wr.cell? ⟨b, off + k * 6, none⟩ = some (.int .i64 (f k 0)) := (hB.cell (p := ⟨b, off + k * 6, none⟩) hblt).trans (by simpa using hcell k 0 hkn (by decide))
      have c1 : wr.cell? ⟨b, off + k * 6 + 1, none⟩ = some (.int .i64 (f k 1)) := (hB.cell (p := ⟨b, off + k * 6 + 1, none⟩) hblt).trans (by simpa using hcell k 1 hkn (by decide))
      have c2 : wr.cell? ⟨b, off + k * 6 + 2, none⟩ = some (.int .i64 (f k 2)) := (hB.cell (p := ⟨b, off + k * 6 + 2, none⟩) hblt).trans (by simpa using hcell k 2 hkn (by decide))
      have c3 : wr.cell? ⟨b, off + k * 6 + 3, none⟩ = some (.int .i64 (f k 3)) := (hB.cell (p := ⟨b, off + k * 6 + 3, none⟩) hblt).trans (by simpa using hcell k 3 hkn (by decide))
      have c4 : wr.cell? ⟨b, off + k * 6 + 4, none⟩ = some (.int .i64 (f k 4)) := (hB.cell (p := ⟨b, off + k * 6 + 4, none⟩) hblt).trans (by simpa using hcell k 4 hkn (by decide))
      have c5 : wr.cell? ⟨b, off + k * 6 + 5, none⟩ = some (.int .i64 (f k 5)) := (hB.cell (p := ⟨b, off + k * 6 + 5, none⟩) hblt).trans (by simpa using hcell k 5 hkn (by decide))
      have HD : Hid (dz f k = deedZ (f k 0) (f k 1) (f k 2) (f k 3) (f k 4) (f k 5)) := Lib.hid rfl
      have HA : Hid (accZ f (k + 1) = (if 0 < k then accZ f k ++ (⟨#[44, 32]⟩ : ByteArray) else accZ f k) ++ dz f k) := Lib.hid rfl
      have hbr : b < wr.heap.size := by omega
      clear hcell
      generalize f k 0 = x0 at *
      generalize f k 1 = x1 at *
      generalize f k 2 = x2 at *
      generalize f k 3 = x3 at *
      generalize f k 4 = x4 at *
      generalize f k 5 = x5 at *
      generalize accZ f k = s at *
      have q0 : ¬ 9223372036854775807 < s.size + 2 := by omega
      have z1 := itoaB_size x0 hwf.1 hwf.2
      have z2 := nameZ_size x1 x2 x3
      have z3 := sayZ_size x4 x5
      have HBr : Hid (Below w.heap.size w (wr.alloc (.cells #[.int .i64 x0, .int .i64 x1, .int .i64 x2, .int .i64 x3, .int .i64 x4, .int .i64 x5] 88))) := Lib.hid (hB.alloc hbz _)
      have HGr := Lib.hid (HG.out.below HBr.out)
      have hI := fun w1 (h : DeedT w1) => itoa_any x0 hwf.1 hwf.2 h.say.ten
      have hN := fun w1 (h : DeedT w1) => name_ref x1 x2 x3 h.prn
      have hS := fun w1 (h : DeedT w1) => refSay_any x4 x5 h.say.sp h.say.ten
      unfold deedZ at HD
      generalize itoaB x0 = y1 at *
      generalize nameZ x1 x2 x3 = y2 at *
      generalize sayZ x4 x5 = y3 at *
      have HI := Lib.hid hI
      have HN := Lib.hid hN
      have HS := Lib.hid hS
      clear hI hN hS hwf
      have m1 : ¬ 9223372036854775807 < y1.size + 1 := by omega
      have m2 : ¬ 9223372036854775807 < y1.size + 1 + y2.size := by omega
      have m3 : ¬ 9223372036854775807 < y1.size + 1 + y2.size + 2 := by omega
      have m4 : ¬ 9223372036854775807 < y1.size + 1 + y2.size + 2 + y3.size := by omega
      have m5 : ¬ 9223372036854775807 < s.size + 2 + (y1.size + 1 + y2.size + 2 + y3.size) := by omega
      have m6 : ¬ 9223372036854775807 < s.size + (y1.size + 1 + y2.size + 2 + y3.size) := by omega
      by_cases hk0 : 0 < k
      · have q1 : (0 : Int) < (k : Int) := by omega
        go_wp2
        refine wp_region_rely 15 nowhere [] (by kernel_rfl) (by kernel_rfl) ?_
        iterate 15
          refine wpRely_step (fun K hK => ?_)
          first
          | (refine .inl ?_
             apply Exists.intro
             refine ⟨Any, ?_, hK _ _ _ _ ?_⟩
             · simp only [RelyOp, fillE]
               refine ⟨?_, fun w9 hw9 _ => ?_⟩
               · first | rfl | (go_simp; done)
               obtain ⟨hc9, hf9⟩ := hw9.all
               go_simp
               first
               | exact ⟨⟨rfl, trivial⟩, Keeps.refl _ _⟩
               | (go_at_call 33; exact rely_det (HI.out _ (HGr.out.below hw9.same))) | (go_at_call 36; exact rely_det (HN.out _ (HGr.out.below hw9.same))) | (go_at_call 18; exact rely_det (HS.out _ (HGr.out.below hw9.same)))
             clear hK K
             try simp only [Act.put, List.setIfInBounds_toArray, List.set_cons_zero, List.set_cons_succ])
          | (refine .inr (.inl ⟨?_, hK _ _ _ _ ?_⟩)
             · simp only [fillE]
               first | rfl | (go_simp; done)
             clear hK K
             try simp only [Act.put, List.setIfInBounds_toArray, List.set_cons_zero, List.set_cons_succ])
        refine wpRely_nil ?_
        simp only [fillE]
        intro w9 hw9 _
        obtain ⟨hc9, hf9⟩ := hw9.all
        simp only [List.drop_succ_cons, List.drop_zero, List.drop]
        go_wp2
        refine ⟨⟨k + 1, by omega, by go_num, ?_, HBr.out.trans (hw9.same.mono HBr.out.size)⟩, by simp [intOf]; omega⟩
        rw [HA.out, if_pos hk0, HD.out]
      · have q1 : ¬ (0 : Int) < (k : Int) := by omega
        go_wp2
        refine wp_region_rely 15 nowhere [] (by kernel_rfl) (by kernel_rfl) ?_
        iterate 15
          refine wpRely_step (fun K hK => ?_)
          first
          | (refine .inl ?_
             apply Exists.intro
             refine ⟨Any, ?_, hK _ _ _ _ ?_⟩
             · simp only [RelyOp, fillE]
               refine ⟨?_, fun w9 hw9 _ => ?_⟩
               · first | rfl | (go_simp; done)
               obtain ⟨hc9, hf9⟩ := hw9.all
               go_simp
               first
               | exact ⟨⟨rfl, trivial⟩, Keeps.refl _ _⟩
               | (go_at_call 33; exact rely_det (HI.out _ (HGr.out.below hw9.same))) | (go_at_call 36; exact rely_det (HN.out _ (HGr.out.below hw9.same))) | (go_at_call 18; exact rely_det (HS.out _ (HGr.out.below hw9.same)))
             clear hK K
             try simp only [Act.put, List.setIfInBounds_toArray, List.set_cons_zero, List.set_cons_succ])
          | (refine .inr (.inl ⟨?_, hK _ _ _ _ ?_⟩)
             · simp only [fillE]
               first | rfl | (go_simp; done)
             clear hK K
             try simp only [Act.put, List.setIfInBounds_toArray, List.set_cons_zero, List.set_cons_succ])
        refine wpRely_nil ?_
        simp only [fillE]
        intro w9 hw9 _
        obtain ⟨hc9, hf9⟩ := hw9.all
        simp only [List.drop_succ_cons, List.drop_zero, List.drop]
        go_wp2
        refine ⟨⟨k + 1, by omega, by go_num, ?_, HBr.out.trans (hw9.same.mono HBr.out.size)⟩, by simp [intOf]; omega⟩
        rw [HA.out, if_neg hk0, HD.out]
    · obtain rfl : k = n := by omega
      go_wp2
      go_ret
      exact ⟨rfl, hB⟩

theorem infoStr : (Tryd.prog.info? 9).map (fun i => (i.zero, i.size, i.bytes)) = some (some (.string ByteArray.empty), 1, 16) := by kernel_rfl
/-- A slice of strings of the call's own. -/
def OwnS (w : World) (B : Nat) (A : Option Addr) (n c : Nat) (xs : List ByteArray) : Prop := w.ownsRow B 9 1 (.slice A n c) n (xs.map Value.string)
theorem OwnS.below {w w' : World} {B n c : Nat} {A : Option Addr} {xs : List ByteArray} (h : OwnS w B A n c xs) (hb : Below w.heap.size w w') : OwnS w' B A n c xs := ownV_below h hb
theorem own_formS {w : World} {B : Nat} {e : TypeId} {v : Value} {n : Nat} {xs : List Value} (h : w.ownsRow B e 1 v n xs) : ∃ A c, v = .slice A n c ∧ n ≤ c ∧ c ≤ maxLen ∧ (0 < n → ∃ g, A = some ⟨g, 0, none⟩ ∧ B ≤ g ∧ g < w.heap.size) := by
  rcases h.2 with ⟨rfl, rfl⟩ | ⟨g, cap, cur, rfl, hb, hg, hc, hm, _⟩
  · exact ⟨none, 0, rfl, Nat.le_refl _, Nat.zero_le _, fun h => absurd h (by omega)⟩
  · exact ⟨_, cap, rfl, hc, hm, fun _ => ⟨g, rfl, hb, (Array.getElem?_eq_some_iff.1 hg).1⟩⟩
theorem OwnS.cap {w : World} {B n c : Nat} {A : Option Addr} {xs : List ByteArray} (h : OwnS w B A n c xs) : n ≤ c := by
  obtain ⟨A', c', hv, hc, hm, hp⟩ := own_formS h
  simp only [Value.slice.injEq, true_and] at hv
  omega
theorem OwnS.at_ {w : World} {B n c : Nat} {A : Option Addr} {xs : List ByteArray} (h : OwnS w B A n c xs) (hn : 0 < n) : ∃ g, A = some ⟨g, 0, none⟩ ∧ g < w.heap.size ∧ ∀ (j : Nat) x, xs[j]? = some x → w.cell? ⟨g, j, none⟩ = some (.string x) := by
  obtain ⟨A', c', hv, hc, hm, hp⟩ := own_formS h
  simp only [Value.slice.injEq, true_and] at hv
  obtain ⟨rfl, rfl⟩ := hv
  obtain ⟨g, rfl, hb, hlt⟩ := hp hn
  refine ⟨g, rfl, hlt, fun j x hj => ?_⟩
  have := World.ownsRow.cells h (g := g) rfl j (.string x) (by rw [List.getElem?_map, hj]; rfl)
  simpa [Addr.add_lit] using this
theorem wpList_appendS {ops : Array Oper} {rest : List Oper} {o : Oper} {a : Act} {w : World} {Q : Exit → Act → World → Prop} (hgd : o.guard = none) (s x : Operand)
    (ho : o.op = .call { callee := .builtin .append, args := #[s, x], argTypes := #[71, 71] }) {B : Nat} {A : Option Addr} {n c : Nat} {xs : List ByteArray} (hs : a.eval s = .slice A n c) (hown : OwnS w B A n c xs) {g : Nat} {v : ByteArray} {c' : Nat}
    (hx : a.eval x = .slice (some ⟨g, 0, none⟩) 1 c') (hv : w.cell? ⟨g, 0, none⟩ = some (.string v)) (hn : n ≤ 1000) (hB : B ≤ w.heap.size)
    (h : ∀ g' cap w', OwnS w' B (some ⟨g', 0, none⟩) (n + 1) cap (xs ++ [v]) → Below B w w' → wpList Tryd.prog ops Q rest (a.put o.dst (.slice (some ⟨g', 0, none⟩) (n + 1) cap)) w') : wpList Tryd.prog ops Q (o :: rest) a w :=
  wpList_plain hgd fun _ hK => by
    obtain ⟨i0, hi, hz0, hz1, hz2⟩ := info_parts infoStr
    obtain ⟨g', cap, w', hr, h2, h3⟩ := ownV_append (P := Tryd.prog) Tryd.underlying71 hi hz0 hz1 hz2 rfl (by decide) (by decide) hown (g := g) (ys := [.string v]) rfl (by intro j hj; obtain rfl : j = 0 := (by omega); exact hv) (by intro u hu; simp at hu; subst hu; rfl) hn hB o.type c'
    unfold Oper.wp execOp
    simp only [ho, resolve, invoke, builtin, Sem.run_bind, Sem.run_pure, Result.andThen_ok, List.map_toArray, List.map_cons, List.map_nil, hs, hx, hr]
    exact hK _ _ (h g' cap w' (by unfold OwnS; simpa using h2) h3)

def IsS1 (v : Value) : Prop := ∃ g, v = .slice (some ⟨g, 0, none⟩) 1 1
def S1At (x : ByteArray) (v : Value) (w' : World) : Prop := ∃ g, v = .slice (some ⟨g, 0, none⟩) 1 1 ∧ Blk w' g 9 #[.string x]
def dzL (f : Nat → Nat → Int) (n : Nat) : List ByteArray := (List.range n).map (dz f)
theorem dzL_succ (f : Nat → Nat → Int) (n : Nat) : dzL f (n + 1) = dzL f n ++ [dz f n] := by unfold dzL; rw [List.range_succ, List.map_append]; rfl
def joinB (xs : List ByteArray) : ByteArray := ⟨(Lib.join (xs.map (·.data.toList)) [44, 32]).toArray⟩

theorem join_snoc (sep : List UInt8) (xs : List (List UInt8)) (x : List UInt8) (h : xs ≠ []) : Lib.join (xs ++ [x]) sep = Lib.join xs sep ++ sep ++ x := by
  cases xs with
  | nil => exact absurd rfl h
  | cons y r =>
    rw [List.cons_append, Lib.join_cons, Lib.join_cons]
    simp [Lib.joinTail]
theorem acc_join (f : Nat → Nat → Int) : ∀ n, (accZ f n).data.toList = Lib.join ((dzL f n).map (·.data.toList)) [44, 32]
  | 0 => by simp [accZ, dzL, Lib.join_nil]
  | n + 1 => by
    have ih := acc_join f n
    rw [dzL_succ, List.map_append, List.map_cons, List.map_nil]
    rcases Nat.eq_zero_or_pos n with rfl | hn
    · simp [accZ, dzL, Lib.join_one]
    · rw [join_snoc _ _ _ (by intro e; have := congrArg List.length e; simp [dzL] at this; omega), ← ih]
      simp [accZ, hn, ByteArray.append]
theorem acc_joinB (f : Nat → Nat → Int) (n : Nat) : joinB (dzL f n) = accZ f n := by
  unfold joinB
  rw [← acc_join]

set_option maxRecDepth 100000 in
theorem deeds_any (A : Option Addr) (n c : Nat) (f : Nat → Nat → Int) (w : World) (h : SlF sixK w A n c f) (hn : n ≤ 40) (hg : DeedT w) :
    Calls Tryd.prog 22 #[.slice A n c] w fun e w' => e = .returned (.string (joinB (dzL f n))) ∧ Below w.heap.size w w' := by
  have H := Lib.hid h
  have HG := Lib.hid hg
  clear h hg
  go_enter Tryd.func22, Tryd.ntmps22
  go_wp2
  go_loopw [3, 8] (fun s i wr => ∃ k : Nat, k ≤ n ∧ i = .int .i64 k ∧ Below w.heap.size w wr ∧ Hid (∃ A' c', s = .slice A' k c' ∧ OwnS wr w.heap.size A' k c' (dzL f k))) (fun _ i _ => n - (intOf i).toNat)
  case atStart => exact ⟨0, by omega, rfl, by go_grown, Lib.hid ⟨none, 0, rfl, World.ownsRow_nil _ _ _ _⟩⟩
  case round =>
    obtain ⟨k, hk, rfl, hB, hex⟩ := hrel
    obtain ⟨A1, c1x, rfl, hown⟩ := hex.out
    have HO := Lib.hid hown
    clear hown hex
    have hbz := hB.size
    by_cases hkn : k < n
    · obtain ⟨b, off, rfl, hblt, hcell⟩ := H.out.at_ (by omega)
      have hwf := bounds_i64 (H.out.wf k 0 hkn (by decide))
      have c0 : wr.cell? ⟨b, off + k * 6, none⟩ = some (.int .i64 (f k 0)) := (hB.cell (p := ⟨b, off + k * 6, none⟩) hblt).trans (by simpa using hcell k 0 hkn (by decide))
      have c1 : wr.cell? ⟨b, off + k * 6 + 1, none⟩ = some (.int .i64 (f k 1)) := (hB.cell (p := ⟨b, off + k * 6 + 1, none⟩) hblt).trans (by simpa using hcell k 1 hkn (by decide))
      have c2 : wr.cell? ⟨b, off + k * 6 + 2, none⟩ = some (.int .i64 (f k 2)) := (hB.cell (p := ⟨b, off + k * 6 + 2, none⟩) hblt).trans (by simpa using hcell k 2 hkn (by decide))
      have c3 : wr.cell? ⟨b, off + k * 6 + 3, none⟩ = some (.int .i64 (f k 3)) := (hB.cell (p := ⟨b, off + k * 6 + 3, none⟩) hblt).trans (by simpa using hcell k 3 hkn (by decide))
      have c4 : wr.cell? ⟨b, off + k * 6 + 4, none⟩ = some (.int .i64 (f k 4)) := (hB.cell (p := ⟨b, off + k * 6 + 4, none⟩) hblt).trans (by simpa using hcell k 4 hkn (by decide))
      have c5 : wr.cell? ⟨b, off + k * 6 + 5, none⟩ = some (.int .i64 (f k 5)) := (hB.cell (p := ⟨b, off + k * 6 + 5, none⟩) hblt).trans (by simpa using hcell k 5 hkn (by decide))
      have HD : Hid (dz f k = deedZ (f k 0) (f k 1) (f k 2) (f k 3) (f k 4) (f k 5)) := Lib.hid rfl
      have hbr : b < wr.heap.size := by omega
      clear hcell
      generalize f k 0 = x0 at *
      generalize f k 1 = x1 at *
      generalize f k 2 = x2 at *
      generalize f k 3 = x3 at *
      generalize f k 4 = x4 at *
      generalize f k 5 = x5 at *
      have z1 := itoaB_size x0 hwf.1 hwf.2
      have z2 := nameZ_size x1 x2 x3
      have z3 := sayZ_size x4 x5
      have HBr : Hid (Below w.heap.size w (wr.alloc (.cells #[.int .i64 x0, .int .i64 x1, .int .i64 x2, .int .i64 x3, .int .i64 x4, .int .i64 x5] 88))) := Lib.hid (hB.alloc hbz _)
      have HGr := Lib.hid (HG.out.below HBr.out)
      have HOr := Lib.hid (HO.out.below ((Below.refl _ _).alloc (Nat.le_refl _) (.cells #[.int .i64 x0, .int .i64 x1, .int .i64 x2, .int .i64 x3, .int .i64 x4, .int .i64 x5] 88)))
      have hI := fun w1 (h : DeedT w1) => itoa_any x0 hwf.1 hwf.2 h.say.ten
      have hN := fun w1 (h : DeedT w1) => name_story x1 x2 x3 h.prn
      have hS := fun w1 (h : DeedT w1) => say_any x4 x5 h.say.codes h.say.ten
      unfold deedZ at HD
      generalize itoaB x0 = y1 at *
      generalize nameZ x1 x2 x3 = y2 at *
      generalize sayZ x4 x5 = y3 at *
      have HI := Lib.hid hI
      have HN := Lib.hid hN
      have HS := Lib.hid hS
      clear hI hN hS hwf
      have m1 : ¬ 9223372036854775807 < y1.size + 1 := by omega
      have m2 : ¬ 9223372036854775807 < y1.size + 1 + y2.size := by omega
      have m3 : ¬ 9223372036854775807 < y1.size + 1 + y2.size + 2 := by omega
      have m4 : ¬ 9223372036854775807 < y1.size + 1 + y2.size + 2 + y3.size := by omega
      go_wp2
      refine wp_region_rely 15 nowhere [] (by kernel_rfl) (by kernel_rfl) ?_
      iterate 14
        refine wpRely_step (fun K hK => ?_)
        refine .inl ?_
        apply Exists.intro
        refine ⟨Any, ?_, hK _ _ _ _ ?_⟩
        · simp only [RelyOp, fillE]
          refine ⟨?_, fun w9 hw9 _ => ?_⟩
          · first | rfl | (go_simp; done)
          obtain ⟨hc9, hf9⟩ := hw9.all
          go_simp
          first
          | exact ⟨⟨rfl, trivial⟩, Keeps.refl _ _⟩
          | (go_at_call 33; exact rely_det (HI.out _ (HGr.out.below hw9.same)))
          | (go_at_call 35; exact rely_det (HN.out _ (HGr.out.below hw9.same)))
          | (go_at_call 17; exact rely_det (HS.out _ (HGr.out.below hw9.same)))
        clear hK K
        try simp only [Act.put, List.setIfInBounds_toArray, List.set_cons_zero, List.set_cons_succ]
      refine wpRely_step (fun K hK => ?_)
      refine .inr (.inr ⟨IsS1, S1At (y1 ++ (⟨#[32]⟩ : ByteArray) ++ y2 ++ (⟨#[58, 32]⟩ : ByteArray) ++ y3), ⟨_, 0, rfl⟩, ?_, hK _ _ _ _ ?_⟩)
      · simp only [RelyOp, fillE]
        refine ⟨rfl, fun w9 hw9 _ => ?_⟩
        go_simp
        exact ⟨⟨⟨_, rfl⟩, ⟨_, rfl, Blk.new _ _ _⟩⟩, Keeps.of_same ((Below.refl _ _).alloc (Nat.le_refl _) _)⟩
      clear hK K
      refine wpRely_nil ?_
      simp only [fillE]
      rintro _ ⟨g9, rfl⟩ w9 hw9 hmet
      obtain ⟨w0, k0, k1, g8, hv8, hblk⟩ := (hmet.1 rfl).out
      cases hv8
      have hcl := (hblk.below k1 hblk.lt).cell 0
      have hO9 := HOr.out.below hw9.same
      have hB9 : Below w.heap.size w w9 := HBr.out.trans (hw9.same.mono HBr.out.size)
      clear hmet hblk
      simp only [List.drop_succ_cons, List.drop_zero, List.drop, Act.put, List.setIfInBounds_toArray, List.set_cons_zero, List.set_cons_succ]
      refine wpList_appendS rfl (.tmp 12) (.tmp 26) rfl (B := w.heap.size) rfl hO9 rfl hcl (by omega) hB9.size ?_
      intro g2 c2 w2 hown2 hb2
      go_wp2
      refine ⟨⟨k + 1, by omega, by go_num, hB9.trans hb2, Lib.hid ⟨_, _, rfl, ?_⟩⟩, by simp [intOf]; omega⟩
      rw [dzL_succ, HD.out]
      exact hown2
    · obtain rfl : k = n := by omega
      have hxl : (dzL f k).length = k := by simp [dzL]
      rcases Nat.eq_zero_or_pos k with hk0 | hk0
      · subst hk0
        go_wp2_with fail
        refine (Tryd.strings_Join_none _ _ _ _).mono ?_
        rintro e w2 ⟨rfl, rfl⟩
        go_wp2
        go_ret
        exact ⟨rfl, hB⟩
      · obtain ⟨g, rfl, hlt, hcells⟩ := HO.out.at_ hk0
        have hlen : (Lib.join ((dzL f k).map (·.data.toList)) [44, 32]).length ≤ 140737488355328 := by
          rw [← acc_join]
          have := accZ_size f k (fun i hi => bounds_i64 (H.out.wf i 0 hi (by decide)))
          have e : (accZ f k).data.toList.length = (accZ f k).size := by rw [Array.length_toList]; rfl
          omega
        have hJ := Tryd.strings_Join g 0 c1x (dzL f k) ⟨#[44, 32]⟩ wr (by intro j x hj; rw [Nat.zero_add]; exact hcells j x hj) hlt (by omega) (by rw [hxl]; exact HO.out.cap) hlen
        rw [hxl] at hJ
        go_wp2_with fail
        refine hJ.mono ?_
        rintro e w2 ⟨rfl, hb2⟩
        go_wp2
        go_ret
        exact ⟨rfl, hB.trans (hb2.mono hB.size)⟩
end Go.Proofs.YtncgpaajbflaeaaDoor
