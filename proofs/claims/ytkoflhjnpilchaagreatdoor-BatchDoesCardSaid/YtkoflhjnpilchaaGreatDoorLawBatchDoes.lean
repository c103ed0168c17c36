/-
  Do returns what the reference returns, for every thirty-two words and any asks (up to thirty; of more the law is true at once). No condition beyond the tied variable.
-/
import Derived.Test.YtkoflhjnpilchaaGreatDoorRows
import Derived.Test.YtkoflhjnpilchaaGreatDoorCards
import Derived.Test.YtkoflhjnpilchaaGreatDoorTie
import Derived.Test.YtkoflhjnpilchaaGreatDoorCardB
import Derived.SevenTiedAt
import Derived.Test.YtkoflhjnpilchaaGreatDoorMBase
import Derived.Test.YtkoflhjnpilchaaGreatDoorBatW
import Derived.Test.YtkoflhjnpilchaaGreatDoorBatR
import Derived.Test.YtkoflhjnpilchaaGreatDoorRelyU
import Derived.Test.YtkoflhjnpilchaaGreatDoorRcOf
import Derived.Test.YtkoflhjnpilchaaGreatDoorRowB
namespace Go.Proofs.YtkoflhjnpilchaaGreatDoor.lawBatchDoes
set_option linter.unusedSimpArgs false
set_option linter.unusedVariables false
set_option linter.unusedSectionVars false
open Go.RowKit Go.ChangeShapes Go.WideShapes Go.ChangeAt Go.Joins

attribute [local go_sem ↓] Go.wp_at_zero Go.wp_at_succ
set_option linter.unusedSimpArgs false
set_option linter.unusedVariables false

def DoG (C : Array Value) (f : Nat → Nat → Int) (n m : Nat) (F : Array Value) (rows : List (List Value)) (e0 p0 : Int) : Prop :=
  ∀ (W : World) (A : Option Addr) (c : Nat), SlF KA5 W A n c f → ErrT W → Calls Tryz.prog 5 #[.agg C, .slice A n c] W fun e w' => ∃ A' c' er, e = .returned (.tuple #[.agg F, .slice A' m c', er]) ∧ OwnR w' 0 68 6 A' m c' rows ∧ PErr er e0 p0 w' ∧ Below W.heap.size W w'
def RbG (z : Nat → Int) (f : Nat → Nat → Int) (n m : Nat) (F : Array Value) (rows : List (List Value)) (e0 p0 : Int) : Prop :=
  ∀ (W : World) (A0 : Option Addr) (c0 : Nat) (A : Option Addr) (c : Nat), SlU W A0 32 c0 z → SlF KA5 W A n c f → Calls Tryz.prog 4 #[.slice A0 32 c0, .slice A n c] W fun e w' => ∃ A1 n1 c1 A' c' zw, e = .returned (.tuple #[.slice A1 n1 c1, .slice A' m c', .agg #[.int .i64 e0, .int .i64 p0]]) ∧ SlU w' A1 n1 c1 zw ∧ n1 ≤ 32 ∧ U64s F 32 (fun i => if i < n1 then zw i else 0) ∧ OwnR w' 0 68 6 A' m c' rows ∧ Below W.heap.size W w'
def tup (i : Nat) (v : Value) : Value := match v with | .tuple cs => cs.getD i undef | _ => undef
def IsDo (F : Array Value) (m : Nat) (v : Value) : Prop := ∃ A c er, v = .tuple #[.agg F, .slice A m c, er]
def DoAt (F : Array Value) (m : Nat) (rows : List (List Value)) (e0 p0 : Int) (v : Value) (w' : World) : Prop := ∃ A c er, v = .tuple #[.agg F, .slice A m c, er] ∧ OwnR w' 0 68 6 A m c rows ∧ PErr er e0 p0 w'
def IsV (v : Value) : Prop := v = v
def NewQ (B : Nat) (v : Value) : Prop := ∃ g, v = .pointer (some ⟨g, 0, none⟩) ∧ B ≤ g
def NewC (t : TypeId) (cs : Array Value) (v : Value) (w' : World) : Prop := ∃ g, v = .pointer (some ⟨g, 0, none⟩) ∧ Blk w' g t cs
def AskAt (n : Nat) (f : Nat → Nat → Int) (v : Value) (w' : World) : Prop := ∃ A c, v = .slice A n c ∧ SlF KA5 w' A n c f
def AllAt (F : Array Value) (m : Nat) (rows : List (List Value)) (e0 p0 : Int) (p v : Value) (w' : World) : Prop := ∃ g A c er, p = .pointer (some ⟨g, 0, none⟩) ∧ v = .tuple #[.agg F, .slice A m c, er] ∧ Blk w' g 24 F ∧ OwnR w' 0 68 6 A m c rows ∧ PErr er e0 p0 w'
theorem own_apart {w : World} {g : Nat} {cs : Array Value} {m n c : Nat} {A : Option Addr} {rows : List (List Value)} (h : Blk w g 24 cs) (ho : OwnR w 0 68 m A n c rows) : ∀ a, A = some a → a.block ≠ g := by
  rintro a rfl e
  obtain ⟨_, h2⟩ := ho.own
  rcases h2 with ⟨h2, _⟩ | ⟨g', cap, cur, hv, hb, hg, hr⟩
  · cases h2
  · simp only [Value.slice.injEq, Option.some.injEq] at hv
    obtain ⟨rfl, _, rfl⟩ := hv
    have e' : g' = g := e
    rw [e'] at hg
    unfold Blk at h
    rw [hg] at h
    have := congrArg (fun o => match o with | some (Obj.cells _ t _) => t | _ => 0) h
    have h3 : 68 = 24 := this
    exact absurd h3 (by decide)
theorem perr_far {er : Value} {e0 p0 : Int} {w : World} {g : Nat} {cs D : Array Value} (h : Blk w g 24 cs) (hp : PErr er e0 p0 w) : PErr er e0 p0 (w.setRow g D) := by
  rcases hp with h1 | ⟨g', hv, hb⟩
  · exact .inl h1
  · refine .inr ⟨g', hv, hb.far_row (fun e => ?_) D⟩
    subst e
    unfold Blk at h hb
    rw [hb] at h
    have := congrArg (fun o => match o with | some (Obj.cells _ t _) => t | _ => 0) h
    have h3 : 78 = 24 := this
    exact absurd h3 (by decide)
theorem infoRL (F : Array Value) (h : F.size = 32) : (Tryz.prog.info? 24).map (·.size) = some F.size := by rw [infoRB, h]

set_option maxRecDepth 100000 in
set_option maxHeartbeats 4000000 in
theorem walk1 (C F : Array Value) (z : Nat → Int) (f : Nat → Nat → Int) (rows : List (List Value)) (A : Option Addr) (n c m : Nat) (e0 p0 : Int) (w : World) (h : U64s C 32 z) (hl : SlF KA5 w A n c f) (hg : ErrT w) (hn : n ≤ 30) (hD : DoG C f n m F rows e0 p0) (hR : RbG z f n m F rows e0 p0) (hF : ∃ y, U64s F 32 y) (hrows : ∀ r ∈ rows, Row6 r) :
    Calls Tryz.prog 3 #[.agg C, .slice A n c] w fun e w' => e = .returned (.bool true) ∧ Below w.heap.size w w' := by
  unfold DoG at hD
  unfold RbG at hR
  have HDO := Lib.hid hD
  have HRB := Lib.hid hR
  have HRW := Lib.hid hrows
  have HL := Lib.hid hl
  have HG := Lib.hid hg
  obtain ⟨y, hFy⟩ := hF
  have HFU := Lib.hid hFy
  have HIC : Hid ((Tryz.prog.info? 24).map (·.size) = some C.size) := by show _ = _; rw [infoRL C h.size]
  have HIF : Hid ((Tryz.prog.info? 24).map (·.size) = some F.size) := by show _ = _; rw [infoRL F hFy.size]
  have HCU := Lib.hid h
  have HB0 := Lib.hid (Blk.new w 24 C)
  have q0 : ¬ (30 : Int) < n := by omega
  clear h hl hg hD hR hrows hFy
  go_enter Tryz.func3, Tryz.ntmps3
  go_wp2_with fail
  with_reducible refine (HRB.out _ _ _ _ _ (by simpa using SlU.of_blk (n := 32) (c := 32) (o := 0) HB0.out HCU.out (by omega) (by omega) (by omega)) (HL.out.below (by go_grown))).mono ?_
  rintro e w1 ⟨A1, n1, c1, A2, c2, zw, rfl, hsu, hn1, hFz, hown, hb1⟩
  have HSU := Lib.hid (hsu.below ((Below.refl w1.heap.size w1).alloc (Nat.le_refl _) (.cells #[.int .i64 e0, .int .i64 p0] 30)))
  have HFZ := Lib.hid hFz
  have HOW := Lib.hid (hown.below ((Below.refl w1.heap.size w1).alloc (Nat.le_refl _) (.cells #[.int .i64 e0, .int .i64 p0] 30)))
  have HB1 := Lib.hid ((HB0.out.below hb1 HB0.out.lt).alloc (.cells #[.int .i64 e0, .int .i64 p0] 30))
  have hW1 : Below w.heap.size w w1 := Below.trans (by go_grown) (hb1.mono (by simp))
  have HW1 := Lib.hid (hW1.alloc hW1.size (.cells #[.int .i64 e0, .int .i64 p0] 30))
  have HF1 := Lib.hid (Blk.new w1 30 #[.int .i64 e0, .int .i64 p0])
  clear hsu hFz hown hb1 hW1
  go_wp2_with fail
  show Code.wp _ _ _ _ (w1.alloc (.cells #[.int .i64 e0, .int .i64 p0] 30))
  generalize hw3 : w1.alloc (.cells #[.int .i64 e0, .int .i64 p0] 30) = w3 at *
  clear hw3
  generalize w1.heap.size = gf at *
  have hlw : w.heap.size < w3.heap.size := HB1.out.lt
  have hlf : gf < w3.heap.size := HF1.out.lt
  obtain ⟨B, hBd⟩ : ∃ B, B = w3.heap.size := ⟨_, rfl⟩
  have HBd := Lib.hid hBd
  refine wp_region_relyV 12 (fun b => B ≤ b) [9] (by kernel_rfl) (by kernel_rfl) ?_
  intro anc HA
  clear hBd
  first | (with_reducible refine wpRelyU_step (fun K hK => ?_)) | (refine wpRelyU_step (fun K hK => ?_))
  refine .inl ⟨.agg C, Any, ?_, hK _ _ _ _ ?_⟩
  · simp only [RelyOpU, fillU]
    refine ⟨?_, fun w9 hw9 _ => ?_⟩
    · first | rfl | (go_simp; done)
    with_reducible refine fRelyLoad 24 w.heap.size 24 C (by kernel_rfl) (HB1.out.below (keeps_low hw9 HBd.out) HB1.out.lt) Tryz.underlying24 (by kernel_rfl) HIC.out ?_
    exact ⟨⟨rfl, trivial⟩, Keeps.refl _ _⟩
  clear hK K
  try simp only [Act.put, List.setIfInBounds_toArray, List.set_cons_zero, List.set_cons_succ]
  first | (with_reducible refine wpRelyU_step (fun K hK => ?_)) | (refine wpRelyU_step (fun K hK => ?_))
  refine .inl ?_
  apply Exists.intro
  refine ⟨Any, ?_, hK _ _ _ _ ?_⟩
  · simp only [RelyOpU, fillU]
    refine ⟨?_, fun w9 hw9 _ => ?_⟩
    · first | rfl | (go_simp; done)
    with_reducible refine stopG ?_
    obtain ⟨hc9, hf9⟩ := bcell (keeps_low hw9 HBd.out)
    with_reducible refine Wall.mk ?_
    go_simp
    first
    | exact ⟨⟨rfl, trivial⟩, Keeps.refl _ _⟩
  clear hK K
  try simp only [Act.put, List.setIfInBounds_toArray, List.set_cons_zero, List.set_cons_succ]
  first | (with_reducible refine wpRelyU_step (fun K hK => ?_)) | (refine wpRelyU_step (fun K hK => ?_))
  refine .inr (.inr ⟨(IsSlN n), (fun _ => AskAt n f), ⟨_, none, 0, rfl⟩, ?_, hK _ _ _ _ ?_⟩)
  · simp only [RelyOpU, fillU]
    refine ⟨?_, fun w9 hw9 hmet0 => ?_⟩
    · first | rfl | (go_simp; done)
    with_reducible refine stopG ?_
    have hLw := (HL.out.below HW1.out).below (keeps_low hw9 HBd.out)
    with_reducible refine Wall.mk ?_
    go_simp
    go_at_call 6
    with_reducible refine (asksOf_any _ n _ f _ hLw (by omega)).mono ?_
    rintro e w' ⟨A', c', rfl, hA, hB'⟩
    exact ⟨_, rfl, ⟨⟨_, _, rfl⟩, ⟨_, _, rfl, asks_slf hA (fun i j hi hj => HL.out.wf i j hi hj)⟩⟩, Keeps.of_same hB'⟩
  clear hK K
  try simp only [Act.put, List.setIfInBounds_toArray, List.set_cons_zero, List.set_cons_succ]
  first | (with_reducible refine wpRelyU_step (fun K hK => ?_)) | (refine wpRelyU_step (fun K hK => ?_))
  refine .inr (.inr ⟨(IsDo F m), (fun _ => DoAt F m rows e0 p0), ⟨_, none, 0, undef, rfl⟩, ?_, hK _ _ _ _ ?_⟩)
  · simp only [RelyOpU, fillU]
    rintro _ ⟨A3, c3, rfl⟩
    refine ⟨?_, fun w9 hw9 hmet0 => ?_⟩
    · first | rfl | (go_simp; done)
    with_reducible refine stopG ?_
    obtain ⟨hst0, hmet⟩ := hmet0
    simp only [Met] at hmet
    obtain ⟨w0, k0, k1, Ax, cx, hv, hsl⟩ := hmet.1 (by rw [HA.out]; kernel_rfl)
    cases hv
    have hsl9 := hsl.below (quietB k1 (by rw [HA.out]; kernel_rfl))
    have hG9 := (HG.out.below HW1.out).below (keeps_low hw9 HBd.out)
    clear hmet hsl k0 k1
    with_reducible refine Wall.mk ?_
    go_simp
    go_at_call 5
    with_reducible refine (HDO.out w9 _ _ hsl9 hG9).mono ?_
    rintro e w' ⟨A', c', er, rfl, hO, hP, hB'⟩
    exact ⟨_, rfl, ⟨⟨_, _, _, rfl⟩, ⟨_, _, _, rfl, hO, hP⟩⟩, Keeps.of_same hB'⟩
  clear hK K
  try simp only [Act.put, List.setIfInBounds_toArray, List.set_cons_zero, List.set_cons_succ]
  first | (with_reducible refine wpRelyU_step (fun K hK => ?_)) | (refine wpRelyU_step (fun K hK => ?_))
  refine .inr (.inr ⟨(IsDo F m), (fun us v _ => v = us 3), ⟨_, none, 0, undef, rfl⟩, ?_, hK _ _ _ _ ?_⟩)
  · simp only [RelyOpU, fillU]
    rintro _ ⟨A4, c4, er4, rfl⟩
    rintro _ ⟨A3, c3, rfl⟩
    refine ⟨?_, fun w9 hw9 hmet0 => ?_⟩
    · first | rfl | (go_simp; done)
    go_simp
    refine ⟨⟨⟨_, _, _, rfl⟩, ?_⟩, Keeps.refl _ _⟩
    unfold maskV
    rw [if_pos (by rw [HA.out]; kernel_rfl)]
    rfl
  clear hK K
  try simp only [Act.put, List.setIfInBounds_toArray, List.set_cons_zero, List.set_cons_succ]
  first | (with_reducible refine wpRelyU_step (fun K hK => ?_)) | (refine wpRelyU_step (fun K hK => ?_))
  refine .inl ?_
  apply Exists.intro
  refine ⟨Any, ?_, hK _ _ _ _ ?_⟩
  · simp only [RelyOpU, fillU]
    rintro _ ⟨A5, c5, er5, rfl⟩
    rintro _ ⟨A4, c4, er4, rfl⟩
    rintro _ ⟨A3, c3, rfl⟩
    refine ⟨?_, fun w9 hw9 _ => ?_⟩
    · first | rfl | (go_simp; done)
    with_reducible refine stopG ?_
    obtain ⟨hc9, hf9⟩ := bcell (keeps_low hw9 HBd.out)
    with_reducible refine Wall.mk ?_
    go_simp
    first
    | exact ⟨⟨rfl, trivial⟩, Keeps.refl _ _⟩
  clear hK K
  try simp only [Act.put, List.setIfInBounds_toArray, List.set_cons_zero, List.set_cons_succ]
  first | (with_reducible refine wpRelyU_step (fun K hK => ?_)) | (refine wpRelyU_step (fun K hK => ?_))
  refine .inr (.inr ⟨(IsSlN m), (fun us v _ => v = tup 1 (us 3)), ⟨_, none, 0, rfl⟩, ?_, hK _ _ _ _ ?_⟩)
  · simp only [RelyOpU, fillU]
    rintro _ ⟨A5, c5, er5, rfl⟩
    rintro _ ⟨A4, c4, er4, rfl⟩
    rintro _ ⟨A3, c3, rfl⟩
    refine ⟨?_, fun w9 hw9 hmet0 => ?_⟩
    · first | rfl | (go_simp; done)
    with_reducible refine stopG ?_
    obtain ⟨hst0, hmet⟩ := hmet0
    simp only [Met] at hmet
    obtain ⟨w0, k0, k1, hq⟩ := hmet.2.2.1 (by rw [HA.out]; kernel_rfl)
    unfold maskV at hq
    rw [if_pos (by rw [HA.out]; kernel_rfl)] at hq
    clear hmet k0 k1
    have HQ := Lib.hid hq
    clear hq
    with_reducible refine Wall.mk ?_
    go_simp
    refine ⟨⟨⟨_, _, rfl⟩, ?_⟩, Keeps.refl _ _⟩
    unfold maskV
    rw [if_pos (by rw [HA.out]; kernel_rfl)]
    exact congrArg (tup 1) HQ.out
  clear hK K
  try simp only [Act.put, List.setIfInBounds_toArray, List.set_cons_zero, List.set_cons_succ]
  first | (with_reducible refine wpRelyU_step (fun K hK => ?_)) | (refine wpRelyU_step (fun K hK => ?_))
  refine .inr (.inr ⟨IsV, (fun us v _ => v = tup 2 (us 3)), ⟨undef, rfl⟩, ?_, hK _ _ _ _ ?_⟩)
  · simp only [RelyOpU, fillU]
    rintro _ ⟨A6, c6, rfl⟩
    rintro _ ⟨A5, c5, er5, rfl⟩
    rintro _ ⟨A4, c4, er4, rfl⟩
    rintro _ ⟨A3, c3, rfl⟩
    refine ⟨?_, fun w9 hw9 hmet0 => ?_⟩
    · first | rfl | (go_simp; done)
    with_reducible refine stopG ?_
    obtain ⟨hst0, hmet⟩ := hmet0
    simp only [Met] at hmet
    obtain ⟨w0, k0, k1, hq⟩ := hmet.2.2.1 (by rw [HA.out]; kernel_rfl)
    unfold maskV at hq
    rw [if_pos (by rw [HA.out]; kernel_rfl)] at hq
    clear hmet k0 k1
    have HQ := Lib.hid hq
    clear hq
    with_reducible refine Wall.mk ?_
    go_simp
    refine ⟨⟨rfl, ?_⟩, Keeps.refl _ _⟩
    unfold maskV
    rw [if_pos (by rw [HA.out]; kernel_rfl)]
    exact congrArg (tup 2) HQ.out
  clear hK K
  try simp only [Act.put, List.setIfInBounds_toArray, List.set_cons_zero, List.set_cons_succ]
  first | (with_reducible refine wpRelyU_step (fun K hK => ?_)) | (refine wpRelyU_step (fun K hK => ?_))
  refine .inr (.inr ⟨(NewQ B), (fun _ => NewC 24 #[.int .u64 0, .int .u64 0, .int .u64 0, .int .u64 0, .int .u64 0, .int .u64 0, .int .u64 0, .int .u64 0, .int .u64 0, .int .u64 0, .int .u64 0, .int .u64 0, .int .u64 0, .int .u64 0, .int .u64 0, .int .u64 0, .int .u64 0, .int .u64 0, .int .u64 0, .int .u64 0, .int .u64 0, .int .u64 0, .int .u64 0, .int .u64 0, .int .u64 0, .int .u64 0, .int .u64 0, .int .u64 0, .int .u64 0, .int .u64 0, .int .u64 0, .int .u64 0]), ⟨_, B, rfl, Nat.le_refl _⟩, ?_, hK _ _ _ _ ?_⟩)
  · simp only [RelyOpU, fillU]
    rintro er7 _
    rintro _ ⟨A6, c6, rfl⟩
    rintro _ ⟨A5, c5, er5, rfl⟩
    rintro _ ⟨A4, c4, er4, rfl⟩
    rintro _ ⟨A3, c3, rfl⟩
    refine ⟨?_, fun w9 hw9 hmet0 => ?_⟩
    · first | rfl | (go_simp; done)
    with_reducible refine stopG ?_
    have hz9 : B ≤ w9.heap.size := by rw [HBd.out]; exact hw9.size
    with_reducible refine Wall.mk ?_
    go_simp
    exact ⟨⟨⟨_, rfl, hz9⟩, ⟨_, rfl, Blk.new _ _ _⟩⟩, Keeps.of_same ((Below.refl _ _).alloc (Nat.le_refl _) _)⟩
  clear hK K
  try simp only [Act.put, List.setIfInBounds_toArray, List.set_cons_zero, List.set_cons_succ]
  first | (with_reducible refine wpRelyU_step (fun K hK => ?_)) | (refine wpRelyU_step (fun K hK => ?_))
  refine .inl ⟨undef, (fun us w' => AllAt F m rows e0 p0 (us 8) (us 3) w'), ?_, hK _ _ _ _ ?_⟩
  · simp only [RelyOpU, fillU]
    rintro _ ⟨g8, rfl, hg8⟩
    rintro er7 _
    rintro _ ⟨A6, c6, rfl⟩
    rintro _ ⟨A5, c5, er5, rfl⟩
    rintro _ ⟨A4, c4, er4, rfl⟩
    rintro _ ⟨A3, c3, rfl⟩
    refine ⟨?_, fun w9 hw9 hmet0 => ?_⟩
    · first | rfl | (go_simp; done)
    with_reducible refine stopG ?_
    obtain ⟨hst0, hmet⟩ := hmet0
    simp only [Met] at hmet
    have x1 := hmet.2.1
    have x2 := x1 (by rw [HA.out]; kernel_rfl)
    obtain ⟨w0, k0, k1, x3⟩ := x2
    obtain ⟨A', c', er', hv3, hO, hP⟩ := x3
    have kq := quietB k1 (by rw [HA.out]; kernel_rfl)
    have hO9 := hO.below kq
    have hP9 := hP.below kq
    obtain ⟨w0', k0', k1', ga, hv, hb8⟩ := hmet.2.2.2.2.2.1 (by rw [HA.out]; kernel_rfl)
    cases hv
    have hl8 := hb8.below (quietB k1' (by rw [HA.out]; kernel_rfl)) hb8.lt
    clear hmet hO hP hb8 k0 k0' k1 k1' kq
    with_reducible refine Wall.mk ?_
    with_reducible refine fRelyStore 24 g8 F 24 #[.int .u64 0, .int .u64 0, .int .u64 0, .int .u64 0, .int .u64 0, .int .u64 0, .int .u64 0, .int .u64 0, .int .u64 0, .int .u64 0, .int .u64 0, .int .u64 0, .int .u64 0, .int .u64 0, .int .u64 0, .int .u64 0, .int .u64 0, .int .u64 0, .int .u64 0, .int .u64 0, .int .u64 0, .int .u64 0, .int .u64 0, .int .u64 0, .int .u64 0, .int .u64 0, .int .u64 0, .int .u64 0, .int .u64 0, .int .u64 0, .int .u64 0, .int .u64 0] (by kernel_rfl) (by kernel_rfl) hl8 HIF.out (by rw [HFU.out.size]; kernel_rfl) HFU.out.one ?_
    refine ⟨⟨rfl, g8, A', c', er', by unfold maskV; rw [if_pos (by rw [HA.out]; kernel_rfl)]; rfl, by unfold maskV; rw [if_pos (by rw [HA.out]; kernel_rfl)]; exact hv3, Blk.setRow hl8 F, hO9.kept (keepsRow _ _ _) (own_apart hl8 hO9), perr_far hl8 hP9⟩, (keepsRow w9 g8 F).mono (fun b hb => ⟨by decide, by have hb' : b = g8 := hb; omega⟩)⟩
  clear hK K
  try simp only [Act.put, List.setIfInBounds_toArray, List.set_cons_zero, List.set_cons_succ]
  first | (with_reducible refine wpRelyU_step (fun K hK => ?_)) | (refine wpRelyU_step (fun K hK => ?_))
  refine .inr (.inr ⟨(IsSlN m), (fun us v _ => v = tup 1 (us 3)), ⟨_, none, 0, rfl⟩, ?_, hK _ _ _ _ ?_⟩)
  · simp only [RelyOpU, fillU]
    rintro _ ⟨g8, rfl, hg8⟩
    rintro er7 _
    rintro _ ⟨A6, c6, rfl⟩
    rintro _ ⟨A5, c5, er5, rfl⟩
    rintro _ ⟨A4, c4, er4, rfl⟩
    rintro _ ⟨A3, c3, rfl⟩
    refine ⟨?_, fun w9 hw9 hmet0 => ?_⟩
    · first | rfl | (go_simp; done)
    with_reducible refine stopG ?_
    obtain ⟨hst0, hmet⟩ := hmet0
    simp only [Met] at hmet
    obtain ⟨w0, k0, k1, hq⟩ := hmet.2.2.2.1 (by rw [HA.out]; kernel_rfl)
    unfold maskV at hq
    rw [if_pos (by rw [HA.out]; kernel_rfl)] at hq
    clear hmet k0 k1
    have HQ := Lib.hid hq
    clear hq
    with_reducible refine Wall.mk ?_
    go_simp
    refine ⟨⟨⟨_, _, rfl⟩, ?_⟩, Keeps.refl _ _⟩
    unfold maskV
    rw [if_pos (by rw [HA.out]; kernel_rfl)]
    exact HQ.out
  clear hK K
  try simp only [Act.put, List.setIfInBounds_toArray, List.set_cons_zero, List.set_cons_succ]
  first | (with_reducible refine wpRelyU_step (fun K hK => ?_)) | (refine wpRelyU_step (fun K hK => ?_))
  refine .inr (.inr ⟨IsV, (fun us v _ => v = tup 2 (us 3)), ⟨undef, rfl⟩, ?_, hK _ _ _ _ ?_⟩)
  · simp only [RelyOpU, fillU]
    rintro _ ⟨A10, c10, rfl⟩
    rintro _ ⟨g8, rfl, hg8⟩
    rintro er7 _
    rintro _ ⟨A6, c6, rfl⟩
    rintro _ ⟨A5, c5, er5, rfl⟩
    rintro _ ⟨A4, c4, er4, rfl⟩
    rintro _ ⟨A3, c3, rfl⟩
    refine ⟨?_, fun w9 hw9 hmet0 => ?_⟩
    · first | rfl | (go_simp; done)
    with_reducible refine stopG ?_
    obtain ⟨hst0, hmet⟩ := hmet0
    simp only [Met] at hmet
    obtain ⟨w0, k0, k1, hq⟩ := hmet.2.2.2.2.1 (by rw [HA.out]; kernel_rfl)
    unfold maskV at hq
    rw [if_pos (by rw [HA.out]; kernel_rfl)] at hq
    clear hmet k0 k1
    have HQ := Lib.hid hq
    clear hq
    with_reducible refine Wall.mk ?_
    go_simp
    refine ⟨⟨rfl, ?_⟩, Keeps.refl _ _⟩
    unfold maskV
    rw [if_pos (by rw [HA.out]; kernel_rfl)]
    exact HQ.out
  clear hK K
  try simp only [Act.put, List.setIfInBounds_toArray, List.set_cons_zero, List.set_cons_succ]
  refine wpRelyU_nil ?_
  simp only [fillU]
  rintro er11 _ _ ⟨A10, c10, rfl⟩ _ ⟨g8, rfl, hg8⟩ er7 _ _ ⟨A6, c6, rfl⟩ _ ⟨A5, c5, er5, rfl⟩ _ ⟨A4, c4, er4, rfl⟩ _ ⟨A3, c3, rfl⟩ w9 hw9 hmet
  simp only [List.drop_succ_cons, List.drop_zero, List.drop, Act.put, List.setIfInBounds_toArray, List.set_cons_zero, List.set_cons_succ]
  with_reducible refine stopG ?_
  simp only [Met] at hmet
  obtain ⟨w0, k0, k1, g8', A', c', er', hp8, hv3, hBF, hOF, hPF⟩ := hmet.2.2.2.2.2.2.2.2.1 trivial
  unfold maskV at hp8 hv3
  rw [if_pos (by rw [HA.out]; kernel_rfl)] at hp8 hv3
  have kq := quietB k1 (by rw [HA.out]; kernel_rfl)
  obtain ⟨_, _, _, hq10⟩ := hmet.2.2.2.2.2.2.1 trivial
  obtain ⟨_, _, _, hq11⟩ := hmet.2.2.2.2.2.2.2.1 trivial
  unfold maskV at hq10 hq11
  rw [if_pos (by rw [HA.out]; kernel_rfl)] at hq10 hq11
  have hp8' : Value.pointer (some ⟨g8, 0, none⟩) = .pointer (some ⟨g8', 0, none⟩) := hp8
  have hv3' : Value.tuple #[.agg F, .slice A4 m c4, er4] = .tuple #[.agg F, .slice A' m c', er'] := hv3
  have hq10' : Value.slice A10 m c10 = .slice A4 m c4 := hq10
  have hq11' : er11 = er4 := hq11
  clear hp8 hv3 hq10 hq11 hmet
  cases hp8'
  cases hv3'
  cases hq10'
  subst hq11'
  have hb9 := keeps_low hw9 HBd.out
  have HBF := Lib.hid (hBF.below kq hBF.lt)
  have HOF := Lib.hid (hOF.below kq)
  have HPF := Lib.hid (hPF.below kq)
  have HWq := Lib.hid (HW1.out.trans (hb9.mono HW1.out.size))
  have HSUq := Lib.hid (HSU.out.below hb9)
  have HOWq := Lib.hid (HOW.out.below hb9)
  have HGq := Lib.hid (HG.out.below HWq.out)
  have hF9 := HF1.out.below hb9 HF1.out.lt
  have f0 := hF9.cell 0
  have f1 := hF9.cell 1
  simp only [List.getElem?_toArray, List.getElem?_cons_zero, List.getElem?_cons_succ] at f0 f1
  have hlf9 : gf < w9.heap.size := hF9.lt
  have hl8 := HBF.out.lt
  clear hBF hOF hPF kq k0 k1 hb9 hF9 hw9 HBd HSU HOW HB1 HF1 HG HW1 hlw hlf
  obtain ⟨wq, rfl⟩ : ∃ wq, wq = w9 := ⟨_, rfl⟩
  have heq : ∀ w, (Op.equalIn 10000 24 (.agg F) (.agg F)).run Tryz.prog w = .ok true w := eqRecD HFU.out HFU.out
  with_reducible refine Wall.mk ?_
  go_wp2
  refine wp_region_rely 14 nowhere [] (by kernel_rfl) (by kernel_rfl) ?_
  first | (with_reducible refine wpRely_step (fun K hK => ?_)) | (refine wpRely_step (fun K hK => ?_))
  refine .inl ?_
  apply Exists.intro
  refine ⟨Any, ?_, hK _ _ _ _ ?_⟩
  · simp only [RelyOp, fillE]
    refine ⟨?_, fun w9 hw9 _ => ?_⟩
    · first | rfl | (go_simp; done)
    with_reducible refine stopG ?_
    obtain ⟨hc9, hf9⟩ := hw9.all
    with_reducible refine Wall.mk ?_
    go_simp
    first
    | exact ⟨⟨rfl, trivial⟩, Keeps.refl _ _⟩
    | (go_at_call 7; exact rely_det (placed_any _ _ _ _ (HPF.out.below hw9.same) (HGq.out.below hw9.same)))
    | (go_at_call 8; exact rely_det (recordOf_any _ n1 c1 zw _ (HSUq.out.below hw9.same) hn1 F HFZ.out))
    | (go_at_call 9; exact rely_det (sameDeeds_any _ _ m _ _ rows _ (HOF.out.below hw9.same).slr (HOWq.out.below hw9.same).slr HRW.out))
  clear hK K
  try simp only [Act.put, List.setIfInBounds_toArray, List.set_cons_zero, List.set_cons_succ]
  first | (with_reducible refine wpRely_step (fun K hK => ?_)) | (refine wpRely_step (fun K hK => ?_))
  refine .inl ?_
  apply Exists.intro
  refine ⟨Any, ?_, hK _ _ _ _ ?_⟩
  · simp only [RelyOp, fillE]
    refine ⟨?_, fun w9 hw9 _ => ?_⟩
    · first | rfl | (go_simp; done)
    with_reducible refine stopG ?_
    obtain ⟨hc9, hf9⟩ := hw9.all
    with_reducible refine Wall.mk ?_
    go_simp
    first
    | exact ⟨⟨rfl, trivial⟩, Keeps.refl _ _⟩
    | (go_at_call 7; exact rely_det (placed_any _ _ _ _ (HPF.out.below hw9.same) (HGq.out.below hw9.same)))
    | (go_at_call 8; exact rely_det (recordOf_any _ n1 c1 zw _ (HSUq.out.below hw9.same) hn1 F HFZ.out))
    | (go_at_call 9; exact rely_det (sameDeeds_any _ _ m _ _ rows _ (HOF.out.below hw9.same).slr (HOWq.out.below hw9.same).slr HRW.out))
  clear hK K
  try simp only [Act.put, List.setIfInBounds_toArray, List.set_cons_zero, List.set_cons_succ]
  first | (with_reducible refine wpRely_step (fun K hK => ?_)) | (refine wpRely_step (fun K hK => ?_))
  refine .inl ?_
  apply Exists.intro
  refine ⟨Any, ?_, hK _ _ _ _ ?_⟩
  · simp only [RelyOp, fillE]
    refine ⟨?_, fun w9 hw9 _ => ?_⟩
    · first | rfl | (go_simp; done)
    with_reducible refine stopG ?_
    obtain ⟨hc9, hf9⟩ := hw9.all
    with_reducible refine Wall.mk ?_
    go_simp
    first
    | exact ⟨⟨rfl, trivial⟩, Keeps.refl _ _⟩
    | (go_at_call 7; exact rely_det (placed_any _ _ _ _ (HPF.out.below hw9.same) (HGq.out.below hw9.same)))
    | (go_at_call 8; exact rely_det (recordOf_any _ n1 c1 zw _ (HSUq.out.below hw9.same) hn1 F HFZ.out))
    | (go_at_call 9; exact rely_det (sameDeeds_any _ _ m _ _ rows _ (HOF.out.below hw9.same).slr (HOWq.out.below hw9.same).slr HRW.out))
  clear hK K
  try simp only [Act.put, List.setIfInBounds_toArray, List.set_cons_zero, List.set_cons_succ]
  first | (with_reducible refine wpRely_step (fun K hK => ?_)) | (refine wpRely_step (fun K hK => ?_))
  refine .inl ?_
  apply Exists.intro
  refine ⟨Any, ?_, hK _ _ _ _ ?_⟩
  · simp only [RelyOp, fillE]
    refine ⟨?_, fun w9 hw9 _ => ?_⟩
    · first | rfl | (go_simp; done)
    with_reducible refine stopG ?_
    obtain ⟨hc9, hf9⟩ := hw9.all
    with_reducible refine Wall.mk ?_
    go_simp
    first
    | exact ⟨⟨rfl, trivial⟩, Keeps.refl _ _⟩
    | (go_at_call 7; exact rely_det (placed_any _ _ _ _ (HPF.out.below hw9.same) (HGq.out.below hw9.same)))
    | (go_at_call 8; exact rely_det (recordOf_any _ n1 c1 zw _ (HSUq.out.below hw9.same) hn1 F HFZ.out))
    | (go_at_call 9; exact rely_det (sameDeeds_any _ _ m _ _ rows _ (HOF.out.below hw9.same).slr (HOWq.out.below hw9.same).slr HRW.out))
  clear hK K
  try simp only [Act.put, List.setIfInBounds_toArray, List.set_cons_zero, List.set_cons_succ]
  first | (with_reducible refine wpRely_step (fun K hK => ?_)) | (refine wpRely_step (fun K hK => ?_))
  refine .inl ⟨.agg F, Any, ?_, hK _ _ _ _ ?_⟩
  · simp only [RelyOp, fillE]
    refine ⟨?_, fun w9 hw9 _ => ?_⟩
    · first | rfl | (go_simp; done)
    exact relyAt_load_rowB 24 _ rfl g8 rfl 24 F _ (HBF.out.below hw9.same HBF.out.lt) Tryz.underlying24 rfl HIF.out ⟨⟨rfl, trivial⟩, Keeps.refl _ _⟩
  clear hK K
  try simp only [Act.put, List.setIfInBounds_toArray, List.set_cons_zero, List.set_cons_succ]
  first | (with_reducible refine wpRely_step (fun K hK => ?_)) | (refine wpRely_step (fun K hK => ?_))
  refine .inl ?_
  apply Exists.intro
  refine ⟨Any, ?_, hK _ _ _ _ ?_⟩
  · simp only [RelyOp, fillE]
    refine ⟨?_, fun w9 hw9 _ => ?_⟩
    · first | rfl | (go_simp; done)
    with_reducible refine stopG ?_
    obtain ⟨hc9, hf9⟩ := hw9.all
    with_reducible refine Wall.mk ?_
    go_simp
    first
    | exact ⟨⟨rfl, trivial⟩, Keeps.refl _ _⟩
    | (go_at_call 7; exact rely_det (placed_any _ _ _ _ (HPF.out.below hw9.same) (HGq.out.below hw9.same)))
    | (go_at_call 8; exact rely_det (recordOf_any _ n1 c1 zw _ (HSUq.out.below hw9.same) hn1 F HFZ.out))
    | (go_at_call 9; exact rely_det (sameDeeds_any _ _ m _ _ rows _ (HOF.out.below hw9.same).slr (HOWq.out.below hw9.same).slr HRW.out))
  clear hK K
  try simp only [Act.put, List.setIfInBounds_toArray, List.set_cons_zero, List.set_cons_succ]
  first | (with_reducible refine wpRely_step (fun K hK => ?_)) | (refine wpRely_step (fun K hK => ?_))
  refine .inl ?_
  apply Exists.intro
  refine ⟨Any, ?_, hK _ _ _ _ ?_⟩
  · simp only [RelyOp, fillE]
    refine ⟨?_, fun w9 hw9 _ => ?_⟩
    · first | rfl | (go_simp; done)
    with_reducible refine stopG ?_
    obtain ⟨hc9, hf9⟩ := hw9.all
    with_reducible refine Wall.mk ?_
    go_simp
    first
    | exact ⟨⟨rfl, trivial⟩, Keeps.refl _ _⟩
    | (go_at_call 7; exact rely_det (placed_any _ _ _ _ (HPF.out.below hw9.same) (HGq.out.below hw9.same)))
    | (go_at_call 8; exact rely_det (recordOf_any _ n1 c1 zw _ (HSUq.out.below hw9.same) hn1 F HFZ.out))
    | (go_at_call 9; exact rely_det (sameDeeds_any _ _ m _ _ rows _ (HOF.out.below hw9.same).slr (HOWq.out.below hw9.same).slr HRW.out))
  clear hK K
  try simp only [Act.put, List.setIfInBounds_toArray, List.set_cons_zero, List.set_cons_succ]
  first | (with_reducible refine wpRely_step (fun K hK => ?_)) | (refine wpRely_step (fun K hK => ?_))
  refine .inl ?_
  apply Exists.intro
  refine ⟨Any, ?_, hK _ _ _ _ ?_⟩
  · simp only [RelyOp, fillE]
    refine ⟨?_, fun w9 hw9 _ => ?_⟩
    · first | rfl | (go_simp; done)
    with_reducible refine stopG ?_
    obtain ⟨hc9, hf9⟩ := hw9.all
    with_reducible refine Wall.mk ?_
    go_simp
    first
    | exact ⟨⟨rfl, trivial⟩, Keeps.refl _ _⟩
    | (go_at_call 7; exact rely_det (placed_any _ _ _ _ (HPF.out.below hw9.same) (HGq.out.below hw9.same)))
    | (go_at_call 8; exact rely_det (recordOf_any _ n1 c1 zw _ (HSUq.out.below hw9.same) hn1 F HFZ.out))
    | (go_at_call 9; exact rely_det (sameDeeds_any _ _ m _ _ rows _ (HOF.out.below hw9.same).slr (HOWq.out.below hw9.same).slr HRW.out))
  clear hK K
  try simp only [Act.put, List.setIfInBounds_toArray, List.set_cons_zero, List.set_cons_succ]
  first | (with_reducible refine wpRely_step (fun K hK => ?_)) | (refine wpRely_step (fun K hK => ?_))
  refine .inl ?_
  apply Exists.intro
  refine ⟨Any, ?_, hK _ _ _ _ ?_⟩
  · simp only [RelyOp, fillE]
    refine ⟨?_, fun w9 hw9 _ => ?_⟩
    · first | rfl | (go_simp; done)
    with_reducible refine stopG ?_
    obtain ⟨hc9, hf9⟩ := hw9.all
    with_reducible refine Wall.mk ?_
    go_simp
    first
    | exact ⟨⟨rfl, trivial⟩, Keeps.refl _ _⟩
    | (go_at_call 7; exact rely_det (placed_any _ _ _ _ (HPF.out.below hw9.same) (HGq.out.below hw9.same)))
    | (go_at_call 8; exact rely_det (recordOf_any _ n1 c1 zw _ (HSUq.out.below hw9.same) hn1 F HFZ.out))
    | (go_at_call 9; exact rely_det (sameDeeds_any _ _ m _ _ rows _ (HOF.out.below hw9.same).slr (HOWq.out.below hw9.same).slr HRW.out))
  clear hK K
  try simp only [Act.put, List.setIfInBounds_toArray, List.set_cons_zero, List.set_cons_succ]
  first | (with_reducible refine wpRely_step (fun K hK => ?_)) | (refine wpRely_step (fun K hK => ?_))
  refine .inl ?_
  apply Exists.intro
  refine ⟨Any, ?_, hK _ _ _ _ ?_⟩
  · simp only [RelyOp, fillE]
    refine ⟨?_, fun w9 hw9 _ => ?_⟩
    · first | rfl | (go_simp; done)
    with_reducible refine stopG ?_
    obtain ⟨hc9, hf9⟩ := hw9.all
    with_reducible refine Wall.mk ?_
    go_simp
    first
    | exact ⟨⟨rfl, trivial⟩, Keeps.refl _ _⟩
    | (go_at_call 7; exact rely_det (placed_any _ _ _ _ (HPF.out.below hw9.same) (HGq.out.below hw9.same)))
    | (go_at_call 8; exact rely_det (recordOf_any _ n1 c1 zw _ (HSUq.out.below hw9.same) hn1 F HFZ.out))
    | (go_at_call 9; exact rely_det (sameDeeds_any _ _ m _ _ rows _ (HOF.out.below hw9.same).slr (HOWq.out.below hw9.same).slr HRW.out))
  clear hK K
  try simp only [Act.put, List.setIfInBounds_toArray, List.set_cons_zero, List.set_cons_succ]
  first | (with_reducible refine wpRely_step (fun K hK => ?_)) | (refine wpRely_step (fun K hK => ?_))
  refine .inl ?_
  apply Exists.intro
  refine ⟨Any, ?_, hK _ _ _ _ ?_⟩
  · simp only [RelyOp, fillE]
    refine ⟨?_, fun w9 hw9 _ => ?_⟩
    · first | rfl | (go_simp; done)
    with_reducible refine stopG ?_
    obtain ⟨hc9, hf9⟩ := hw9.all
    with_reducible refine Wall.mk ?_
    go_simp
    first
    | exact ⟨⟨rfl, trivial⟩, Keeps.refl _ _⟩
    | (go_at_call 7; exact rely_det (placed_any _ _ _ _ (HPF.out.below hw9.same) (HGq.out.below hw9.same)))
    | (go_at_call 8; exact rely_det (recordOf_any _ n1 c1 zw _ (HSUq.out.below hw9.same) hn1 F HFZ.out))
    | (go_at_call 9; exact rely_det (sameDeeds_any _ _ m _ _ rows _ (HOF.out.below hw9.same).slr (HOWq.out.below hw9.same).slr HRW.out))
  clear hK K
  try simp only [Act.put, List.setIfInBounds_toArray, List.set_cons_zero, List.set_cons_succ]
  first | (with_reducible refine wpRely_step (fun K hK => ?_)) | (refine wpRely_step (fun K hK => ?_))
  refine .inl ?_
  apply Exists.intro
  refine ⟨Any, ?_, hK _ _ _ _ ?_⟩
  · simp only [RelyOp, fillE]
    refine ⟨?_, fun w9 hw9 _ => ?_⟩
    · first | rfl | (go_simp; done)
    with_reducible refine stopG ?_
    obtain ⟨hc9, hf9⟩ := hw9.all
    with_reducible refine Wall.mk ?_
    go_simp
    first
    | exact ⟨⟨rfl, trivial⟩, Keeps.refl _ _⟩
    | (go_at_call 7; exact rely_det (placed_any _ _ _ _ (HPF.out.below hw9.same) (HGq.out.below hw9.same)))
    | (go_at_call 8; exact rely_det (recordOf_any _ n1 c1 zw _ (HSUq.out.below hw9.same) hn1 F HFZ.out))
    | (go_at_call 9; exact rely_det (sameDeeds_any _ _ m _ _ rows _ (HOF.out.below hw9.same).slr (HOWq.out.below hw9.same).slr HRW.out))
  clear hK K
  try simp only [Act.put, List.setIfInBounds_toArray, List.set_cons_zero, List.set_cons_succ]
  first | (with_reducible refine wpRely_step (fun K hK => ?_)) | (refine wpRely_step (fun K hK => ?_))
  refine .inl ?_
  apply Exists.intro
  refine ⟨Any, ?_, hK _ _ _ _ ?_⟩
  · simp only [RelyOp, fillE]
    refine ⟨?_, fun w9 hw9 _ => ?_⟩
    · first | rfl | (go_simp; done)
    with_reducible refine stopG ?_
    obtain ⟨hc9, hf9⟩ := hw9.all
    with_reducible refine Wall.mk ?_
    go_simp
    first
    | exact ⟨⟨rfl, trivial⟩, Keeps.refl _ _⟩
    | (go_at_call 7; exact rely_det (placed_any _ _ _ _ (HPF.out.below hw9.same) (HGq.out.below hw9.same)))
    | (go_at_call 8; exact rely_det (recordOf_any _ n1 c1 zw _ (HSUq.out.below hw9.same) hn1 F HFZ.out))
    | (go_at_call 9; exact rely_det (sameDeeds_any _ _ m _ _ rows _ (HOF.out.below hw9.same).slr (HOWq.out.below hw9.same).slr HRW.out))
  clear hK K
  try simp only [Act.put, List.setIfInBounds_toArray, List.set_cons_zero, List.set_cons_succ]
  first | (with_reducible refine wpRely_step (fun K hK => ?_)) | (refine wpRely_step (fun K hK => ?_))
  refine .inl ?_
  apply Exists.intro
  refine ⟨Any, ?_, hK _ _ _ _ ?_⟩
  · simp only [RelyOp, fillE]
    refine ⟨?_, fun w9 hw9 _ => ?_⟩
    · first | rfl | (go_simp; done)
    with_reducible refine stopG ?_
    obtain ⟨hc9, hf9⟩ := hw9.all
    with_reducible refine Wall.mk ?_
    go_simp
    first
    | exact ⟨⟨rfl, trivial⟩, Keeps.refl _ _⟩
    | (go_at_call 7; exact rely_det (placed_any _ _ _ _ (HPF.out.below hw9.same) (HGq.out.below hw9.same)))
    | (go_at_call 8; exact rely_det (recordOf_any _ n1 c1 zw _ (HSUq.out.below hw9.same) hn1 F HFZ.out))
    | (go_at_call 9; exact rely_det (sameDeeds_any _ _ m _ _ rows _ (HOF.out.below hw9.same).slr (HOWq.out.below hw9.same).slr HRW.out))
  clear hK K
  try simp only [Act.put, List.setIfInBounds_toArray, List.set_cons_zero, List.set_cons_succ]
  refine wpRely_nil ?_
  simp only [fillE]
  rintro w9 hw9 _
  simp only [List.drop_succ_cons, List.drop_zero, List.drop, Act.put, List.setIfInBounds_toArray, List.set_cons_zero, List.set_cons_succ]
  go_wp2
  go_ret
  exact ⟨rfl, HWq.out.trans (hw9.same.mono HWq.out.size)⟩

theorem bd_rows (f : Nat → Nat → Int) (z : Nat → Int) : ∀ k, ∀ r ∈ bd f z k, Row6 r
  | 0, r, h => by simp [bd] at h
  | k + 1, r, h => by
    rw [bd] at h
    split at h
    · rcases List.mem_append.1 h with h | h
      · exact bd_rows f z k r h
      · simp only [List.mem_cons, List.not_mem_nil, or_false] at h
        subst h
        exact ⟨_, _, _, _, _, _, rfl⟩
    · exact bd_rows f z k r h
theorem first_bad (f : Nat → Nat → Int) (z : Nat → Int) : ∀ n, (∀ j, j < n → askE (bz f z j) (f j) = 0) ∨ ∃ k, k < n ∧ (∀ j, j < k → askE (bz f z j) (f j) = 0) ∧ askE (bz f z k) (f k) ≠ 0
  | 0 => .inl fun j hj => absurd hj (by omega)
  | n + 1 => by
    rcases first_bad f z n with h | ⟨k, hk, h⟩
    · by_cases hn : askE (bz f z n) (f n) = 0
      · left
        intro j hj
        rcases Nat.lt_or_ge j n with q | q
        · exact h j q
        · obtain rfl : j = n := by omega
          exact hn
      · exact .inr ⟨n, by omega, h, hn⟩
    · exact .inr ⟨k, by omega, h⟩
theorem bz_ok {f : Nat → Nat → Int} {z : Nat → Int} (hr : recOk z) (hb : ∀ i, i < 32 → 0 ≤ z i ∧ z i < 18446744073709551616) : ∀ k, (∀ j, j < k → askE (bz f z j) (f j) = 0) → recL (bz f z k) ∧ ∀ i, i < 32 → 0 ≤ bz f z k i ∧ bz f z k i < 18446744073709551616
  | 0, _ => ⟨(recOk_iff.1 hr).1, hb⟩
  | k + 1, h => by
    obtain ⟨h1, h2⟩ := bz_ok (f := f) hr hb k (fun j hj => h j (by omega))
    refine ⟨recL_ask h1 h2 (h k (by omega)), ?_⟩
    rw [bz]
    unfold askZ
    split
    · rename_i ho
      obtain ⟨q1, q2, q3, q4, q5⟩ := askE_open (h k (by omega)) ho
      exact fun i hi => dZ_bd (recOk_iff.2 ⟨h1, q5⟩) h2 q4 i hi
    · exact h2
set_option maxRecDepth 100000 in
set_option maxHeartbeats 4000000 in
theorem walk (C : Array Value) (z : Nat → Int) (A : Option Addr) (n c : Nat) (f : Nat → Nat → Int) (w : World) (h : U64s C 32 z) (hl : SlF KA5 w A n c f) (hg : ErrT w) :
    Calls Tryz.prog 3 #[.agg C, .slice A n c] w fun e w' => e = .returned (.bool true) ∧ Below w.heap.size w w' := by
  by_cases hn : 30 < n
  · have q0 : (30 : Int) < n := by omega
    go_enter Tryz.func3, Tryz.ntmps3
    go_wp2
    go_ret
    exact ⟨rfl, by go_grown⟩
  by_cases hr : recOk z
  · rcases first_bad f z n with hall | ⟨k, hk, hgd, hbd⟩
    · obtain ⟨hL, hB⟩ := bz_ok (f := f) hr h.bd n hall
      obtain ⟨F, hF⟩ := U64s.ex (nextV (bz f z n)) 32 (nextV_bd hL hB)
      refine walk1 C F z f (bd f z n) A n c (bd f z n).length 0 (-1) w h hl hg (by omega) ?_ ?_ ⟨_, hF⟩ (bd_rows f z n)
      · intro W A' c' hs hg'
        refine (bdo_ok C z A' n c' f W h hr hs (by omega) hg').mono ?_
        rintro e w' ⟨hb, h1 | ⟨_, D, A2, c2, he, hD, ho⟩⟩
        · obtain ⟨k, g, hk, _, hne, _⟩ := h1
          exact absurd (hall k hk) hne
        · obtain rfl := hD.ext hF
          exact ⟨A2, c2, _, he, ho.mono (Nat.zero_le _), .inl ⟨by simp [errV], rfl⟩, hb⟩
      · intro W A0 c0 A' c' h0 hs
        refine (rbatch_ok A0 c0 z A' n c' f W h0 hr hs (by omega)).mono ?_
        rintro e w' ⟨hb, h1 | ⟨_, g, D, A2, c2, he, hD, hU, _, ho⟩⟩
        · obtain ⟨k, hk, _, hne, _⟩ := h1
          exact absurd (hall k hk) hne
        · refine ⟨_, 32, 32, A2, c2, nextV (bz f z n), he, by simpa using SlU.of_blk (n := 32) (c := 32) (o := 0) hD hU (by omega) (by omega) (by omega), by omega, hF.congr (fun i hi => by rw [if_pos hi]), ho.mono (Nat.zero_le _), hb⟩
    · refine walk1 C #[.int .u64 0, .int .u64 0, .int .u64 0, .int .u64 0, .int .u64 0, .int .u64 0, .int .u64 0, .int .u64 0, .int .u64 0, .int .u64 0, .int .u64 0, .int .u64 0, .int .u64 0, .int .u64 0, .int .u64 0, .int .u64 0, .int .u64 0, .int .u64 0, .int .u64 0, .int .u64 0, .int .u64 0, .int .u64 0, .int .u64 0, .int .u64 0, .int .u64 0, .int .u64 0, .int .u64 0, .int .u64 0, .int .u64 0, .int .u64 0, .int .u64 0, .int .u64 0] z f [] A n c 0 (askE (bz f z k) (f k)) k w h hl hg (by omega) ?_ ?_ ⟨_, U64s.zero 32⟩ (fun r hr => by simp at hr)
      · intro W A' c' hs hg'
        refine (bdo_ok C z A' n c' f W h hr hs (by omega) hg').mono ?_
        rintro e w' ⟨hb, ⟨k', g, hk', hg1, hne, he, hB⟩ | ⟨hall, _⟩⟩
        · obtain rfl : k' = k := by
            rcases Nat.lt_trichotomy k' k with q | q | q
            · exact absurd (hgd k' q) hne
            · exact q
            · exact absurd (hg1 k q) hbd
          exact ⟨none, 0, _, he, OwnR.nil _ _ _ _, .inr ⟨g, rfl, hB⟩, hb⟩
        · exact absurd (hall k hk) hbd
      · intro W A0 c0 A' c' h0 hs
        refine (rbatch_ok A0 c0 z A' n c' f W h0 hr hs (by omega)).mono ?_
        rintro e w' ⟨hb, ⟨k', hk', hg1, hne, he⟩ | ⟨hall, _⟩⟩
        · obtain rfl : k' = k := by
            rcases Nat.lt_trichotomy k' k with q | q | q
            · exact absurd (hgd k' q) hne
            · exact q
            · exact absurd (hg1 k q) hbd
          exact ⟨none, 0, 0, none, 0, fun _ => 0, he, ⟨Nat.le_refl _, by omega, fun i hi => absurd hi (by omega), fun h => absurd h (by omega)⟩, by omega, (U64s.zero 32).congr (fun i hi => by rw [if_neg (by omega)]), OwnR.nil _ _ _ _, hb⟩
        · exact absurd (hall k hk) hbd
  · refine walk1 C #[.int .u64 0, .int .u64 0, .int .u64 0, .int .u64 0, .int .u64 0, .int .u64 0, .int .u64 0, .int .u64 0, .int .u64 0, .int .u64 0, .int .u64 0, .int .u64 0, .int .u64 0, .int .u64 0, .int .u64 0, .int .u64 0, .int .u64 0, .int .u64 0, .int .u64 0, .int .u64 0, .int .u64 0, .int .u64 0, .int .u64 0, .int .u64 0, .int .u64 0, .int .u64 0, .int .u64 0, .int .u64 0, .int .u64 0, .int .u64 0, .int .u64 0, .int .u64 0] z f [] A n c 0 1 (-1) w h hl hg (by omega) ?_ ?_ ⟨_, U64s.zero 32⟩ (fun r hr => by simp at hr)
    · intro W A' c' hs hg'
      refine (bdo_bad C z A' n c' W h hr).mono ?_
      rintro e w' ⟨he, hb⟩
      exact ⟨none, 0, _, he, OwnR.nil _ _ _ _, .inl ⟨by simp [errV], rfl⟩, hb⟩
    · intro W A0 c0 A' c' h0 hs
      refine (rbatch_bad A0 c0 z A' n c' W h0 hr).mono ?_
      rintro e w' ⟨he, hb⟩
      exact ⟨none, 0, 0, none, 0, fun _ => 0, he, ⟨Nat.le_refl _, by omega, fun i hi => absurd hi (by omega), fun h => absurd h (by omega)⟩, by omega, (U64s.zero 32).congr (fun i hi => by rw [if_neg (by omega)]), OwnR.nil _ _ _ _, hb⟩

theorem own : ownKnob Tryz.prog.godebug = none := by kernel_rfl

set_option maxHeartbeats 2000000 in
set_option maxRecDepth 100000 in
theorem lifted (os : Os) (started : os.Started) (H : Type) (enc : TypeId × Value → H) :
    ReturnsInHanded {} Tryz.checked os 3 .any (fun w args => (Rows.batchDoesSpec.pre enc Tryz.prog Tryz.f3 [] false w args ∧ laidMetH Tryz.prog laidE w) ∧ sizedMet enc Tryz.prog Tryz.f3 (OpenSpec.ofChange Rows.batchDoesSpec) false w args) (Rows.batchDoesSpec.post enc Tryz.prog Tryz.f3 false true false false) := by
  refine law_lifted_and (C := Tryz.checked) (X := fun w _ => laidMetH Tryz.prog laidE w) (fun _ _ _ hh h => h.of_heap hh) own started (by kernel_rfl) Tryz.func3
    (ChangeSpec.witness_at (enc := enc) (C := Tryz.checked) (os := os) (X := fun w _ => laidMetH Tryz.prog laidE w) false (laidWorld os) #[.agg #[.int .u64 0, .int .u64 0, .int .u64 0, .int .u64 0, .int .u64 0, .int .u64 0, .int .u64 0, .int .u64 0, .int .u64 0, .int .u64 0, .int .u64 0, .int .u64 0, .int .u64 0, .int .u64 0, .int .u64 0, .int .u64 0, .int .u64 0, .int .u64 0, .int .u64 0, .int .u64 0, .int .u64 0, .int .u64 0, .int .u64 0, .int .u64 0, .int .u64 0, .int .u64 0, .int .u64 0, .int .u64 0, .int .u64 0, .int .u64 0, .int .u64 0, .int .u64 0], .slice none 0 0] 8 rfl (by kernel_rfl) (by kernel_rfl) (by kernel_rfl) (by kernel_rfl) (by kernel_rfl) (laidWorld_met os _))
    (by kernel_rfl) (by kernel_rfl) rfl rfl Tryz.underlying4 ?_
  intro W base args ds ps hval0 hA0 hsz0 hL
  have hg := errT_of_laid hL
  have hval : ∀ (j : Nat) t v, Tryz.f3.params[j]? = some t → args[j]? = some v → Value.okWide Tryz.prog W .any base t v := hval0
  have hA : DataW.TrodAll enc Tryz.prog W 0 (fun _ => true) true Tryz.f3.params.toList args.toList ds ps := hA0
  rw [Tryz.params3] at hA hval
  obtain ⟨v0, v1, d0, d1, p0, p1, rfl, rfl, rfl, h0, h1⟩ := trodAll_two hA
  obtain ⟨r, rfl, wr⟩ := open_flat 4 (K := List.replicate 32 .u64) (by kernel_rfl) (by kernel_rfl) (by kernel_rfl) (hval 0 24 v0 rfl rfl) h0
  obtain ⟨lA, ln, lc, l, rfl, lh⟩ := open_slF (K := KA5) 4 Tryz.underlying25 (by kernel_rfl) (by kernel_rfl) (by decide) (hval 1 25 v1 rfl rfl) h1
  have hU := flatU 32 wr
  exact ⟨rfl, walk _ r lA ln lc l W hU lh hg⟩

theorem kinPlace : (Rows.batchDoesRow.inPlace == Tryz.pinned.checked.prog.inPlace 3) = true := by kernel_rfl
theorem kunfollowed : (Rows.batchDoesRow.unfollowed == Tryz.pinned.checked.prog.unfollowed 3) = true := by kernel_rfl
theorem krecurses : (Rows.batchDoesRow.recurses == Tryz.pinned.checked.prog.recurses 3) = true := by kernel_rfl
theorem knamed : (Rows.batchDoesRow.named == Tryz.pinned.checked.prog.varsNamed 3) = true := by kernel_rfl
theorem closed : joinedFacts Tryz.pinned.checked.prog 3 Tryz.f3 Rows.batchDoesSpec Rows.batchDoesRow = true := by
  unfold joinedFacts
  simp only [Bool.and_eq_true]
  repeat' apply And.intro
  all_goals first | (with_reducible exact kinPlace) | (with_reducible exact kunfollowed) | (with_reducible exact krecurses) | (with_reducible exact knamed) | (with_reducible exact laidOutP) | (with_reducible exact mapsRowedP) | kernel_rfl
theorem goes : false = Rows.batchDoesRow.goesBy Tryz.pinned.checked.prog := by kernel_rfl
theorem wfText : Rows.batchDoesRow.wfByText (OpenSpec.ofChange Rows.batchDoesSpec) = true := by kernel_rfl

theorem row : Rows.BatchDoesSaid :=
  OpenClaim.holds_of_wide 3 Tryz.f3 rfl rfl rfl rfl rfl rfl rfl ⟨rfl, rfl, rfl, rfl, rfl⟩ rfl rfl rfl rfl rfl (by kernel_rfl) Tryz.func3 closed
    (of_decide_eq_true (by kernel_rfl)) (by unfold Func.isWrapper; first | (rw [if_pos (by decide +kernel)]; kernel_rfl) | (rw [if_neg (by decide +kernel)]; exact ⟨rfl, rfl⟩))
    (fun os started H enc _ => lifted os started H enc)
theorem holds : Rows.BatchDoesCardSaid :=
  Claim7.holds_tied_plain_at .later [] [.handle] true Rows.batchDoesCard.stood.harness true
    row (fun _ h => by cases h) wfText (fun _ h => by cases h) batchDoes_row_tie rfl ⟨rfl, rfl⟩ (by kernel_rfl) rfl
    (fun f fn hf hfn => by
      obtain rfl : f = 3 := Option.some.inj ((show Tryz.prog.funcNamed Rows.batchDoesRow.func = some 3 by kernel_rfl).symm.trans hf) |>.symm
      obtain rfl : fn = Tryz.f3 := (Option.some.inj (Tryz.func3.symm.trans hfn)).symm
      refine ⟨looksP, fun j t ht => ?_⟩
      have hall : (Tryz.f3.params.toList.all fun t => !(Tryz.prog.wantsStandIn t)) = true := by kernel_rfl
      have hm : t ∈ Tryz.f3.params.toList := List.mem_of_getElem? (by simpa using ht)
      have h := List.all_eq_true.1 hall t hm
      show Tryz.prog.wantsStandIn t = false
      simpa using h)
    goes
#print axioms holds
end Go.Proofs.YtkoflhjnpilchaaGreatDoor.lawBatchDoes
