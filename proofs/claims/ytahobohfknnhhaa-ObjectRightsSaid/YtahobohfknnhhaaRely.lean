/-
  A region that draws its order, for any program: one walk in the order of the text serves every order. Of each operation it is told what it yields by a predicate, and which blocks it may turn; what stands behind the first m operations is walked as it stands. Conditions: closed facts on the region (Rely.okB).
-/
import Derived.Orders
import Derived.Tactics
import Derived.Below
import Derived.Deep.Draws
import Derived.Attr
namespace Go.Proofs.Ytahobohfknnhhaa
set_option linter.unusedSimpArgs false
set_option linter.unusedVariables false
set_option linter.unusedSectionVars false
open Go Go.RowKit

/-- Outside S, what was there is as it was. -/
structure Keeps (S : Nat → Prop) (w w' : World) : Prop where
  os : w'.os = w.os
  tape : w'.tape = w.tape
  output : w'.output = w.output
  size : w.heap.size ≤ w'.heap.size
  block : ∀ k, k < w.heap.size → ¬ S k → w'.heap[k]? = w.heap[k]?

def nowhere : Nat → Prop := fun _ => False

theorem Keeps.refl (S : Nat → Prop) (w : World) : Keeps S w w := ⟨rfl, rfl, rfl, Nat.le_refl _, fun _ _ _ => rfl⟩
theorem Keeps.trans {S : Nat → Prop} {a b c : World} (h : Keeps S a b) (k : Keeps S b c) : Keeps S a c :=
  ⟨k.os.trans h.os, k.tape.trans h.tape, k.output.trans h.output, Nat.le_trans h.size k.size, fun i hi hs => (k.block i (Nat.lt_of_lt_of_le hi h.size) hs).trans (h.block i hi hs)⟩
theorem Keeps.mono {S S' : Nat → Prop} {w w' : World} (h : Keeps S w w') (hs : ∀ b, S b → S' b) : Keeps S' w w' := ⟨h.os, h.tape, h.output, h.size, fun k hk hn => h.block k hk (fun hh => hn (hs k hh))⟩
theorem Keeps.of_below {w w' : World} {B : Nat} (h : Below B w w') : Keeps (fun b => B ≤ b) w w' := ⟨h.os, h.tape, h.output, h.size, fun k _ hn => h.block k (by omega)⟩
theorem Keeps.of_same {S : Nat → Prop} {w w' : World} (h : Below w.heap.size w w') : Keeps S w w' := ⟨h.os, h.tape, h.output, h.size, fun k hk _ => h.block k hk⟩
theorem Keeps.below {S : Nat → Prop} {w w' : World} {B : Nat} (h : Keeps S w w') (hB : B ≤ w.heap.size) (hS : ∀ b, b < B → ¬ S b) : Below B w w' := ⟨h.os, h.tape, h.output, h.size, fun k hk => h.block k (Nat.lt_of_lt_of_le hk hB) (hS k hk)⟩
theorem Keeps.cell {S : Nat → Prop} {w w' : World} (h : Keeps S w w') {p : Addr} (hp : p.block < w.heap.size) (hS : ¬ S p.block) : w'.cell? p = w.cell? p := World.cell?_of_block (w := w) (h.block p.block hp hS)
theorem Keeps.frozen {S : Nat → Prop} {w w' : World} (h : Keeps S w w') {p : Addr} (hp : p.block < w.heap.size) (hS : ¬ S p.block) : w'.frozen? p = w.frozen? p := World.frozen?_of_block (w := w) (h.block p.block hp hS)
theorem Keeps.drew {S : Nat → Prop} {w w' : World} (h : Keeps S w w') : Keeps S w w'.drew := ⟨h.os, h.tape, h.output, h.size, h.block⟩
theorem Keeps.drewN {S : Nat → Prop} {w w' : World} (h : Keeps S w w') (n : Nat) : Keeps S w (w'.drewN n) := ⟨h.os, h.tape, h.output, h.size, h.block⟩
theorem Keeps.alloc {S : Nat → Prop} {w w' : World} (h : Keeps S w w') (o : Obj) : Keeps S w (w'.alloc o) :=
  h.trans (Keeps.of_same ((Below.refl _ _).alloc (Nat.le_refl _) o))
theorem Keeps.setCell {S : Nat → Prop} {w w' : World} (h : Keeps S w w') {p : Addr} (hp : S p.block ∨ w.heap.size ≤ p.block) (u : Value) : Keeps S w (w'.setCell p u) :=
  ⟨h.os, h.tape, h.output, by simpa using h.size, fun k hk hs => (Below.heap_setCell w' p u k (fun e => by
    rcases hp with hp | hp
    · exact hs (e ▸ hp)
    · omega)).trans (h.block k hk hs)⟩

/-! ### The frame behind some of the operations -/

structure Filled (a0 : Act) (dst : Nat → Option Tmp) (L : Nat → Prop) (vs : Nat → Value) (a : Act) : Prop where
  defers : a.defers = a0.defers
  size : a.tmps.size = a0.tmps.size
  hit : ∀ j t, L j → dst j = some t → t < a0.tmps.size → a.tmps[t]? = some (vs j)
  miss : ∀ t, (∀ j, L j → dst j ≠ some t) → a.tmps[t]? = a0.tmps[t]?

section
variable {a0 a a' : Act} {dst : Nat → Option Tmp} {L L' : Nat → Prop} {vs vs' : Nat → Value}

theorem Filled.unique (h : Filled a0 dst L vs a) (h' : Filled a0 dst L vs a') : a = a' := by
  obtain ⟨t, d⟩ := a
  obtain ⟨t', d'⟩ := a'
  have hd : d = d' := h.defers.trans h'.defers.symm
  have ht : t = t' := by
    apply Array.ext_getElem?
    intro i
    by_cases hi : i < a0.tmps.size
    · by_cases hj : ∃ j, L j ∧ dst j = some i
      · obtain ⟨j, hl, hdj⟩ := hj
        exact (h.hit j i hl hdj hi).trans (h'.hit j i hl hdj hi).symm
      · exact (h.miss i (fun j hl e => hj ⟨j, hl, e⟩)).trans (h'.miss i (fun j hl e => hj ⟨j, hl, e⟩)).symm
    · have e1 : t.size = a0.tmps.size := h.size
      have e2 : t'.size = a0.tmps.size := h'.size
      rw [Array.getElem?_eq_none (by omega), Array.getElem?_eq_none (by omega)]
  rw [hd, ht]

theorem Filled.start : Filled a0 dst (fun _ => False) vs a0 := ⟨rfl, rfl, fun _ _ h => h.elim, fun _ _ => rfl⟩

theorem Filled.put (h : Filled a0 dst L vs a) (k : Nat) (hd : ∀ j t, L j → dst j = some t → dst k ≠ some t) (v : Value) (hv : vs' k = v) (hvs : ∀ j, L j → vs' j = vs j) (hL : ∀ j, L' j ↔ j = k ∨ L j) :
    Filled a0 dst L' vs' (a.put (dst k) v) := by
  cases hk : dst k with
  | none =>
    refine ⟨h.defers, h.size, fun j t hl hdj ht => ?_, fun t hm => h.miss t fun j hl => hm j ((hL j).2 (.inr hl))⟩
    rcases (hL j).1 hl with rfl | hl'
    · rw [hk] at hdj; cases hdj
    · rw [hvs j hl']; exact h.hit j t hl' hdj ht
  | some d =>
    refine ⟨h.defers, by simp [Act.put, h.size], fun j t hl hdj ht => ?_, fun t hm => ?_⟩
    · rcases (hL j).1 hl with rfl | hl'
      · rw [hk] at hdj
        cases hdj
        simp [Act.put, h.size, ht, hv]
      · have hne : d ≠ t := fun e => hd j t hl' hdj (by rw [hk, e])
        simp only [Act.put, Array.getElem?_setIfInBounds_ne hne, hvs j hl']
        exact h.hit j t hl' hdj ht
    · have hne : d ≠ t := fun e => hm k ((hL k).2 (.inl rfl)) (by rw [hk, e])
      simp only [Act.put, Array.getElem?_setIfInBounds_ne hne]
      exact h.miss t fun j hl => hm j ((hL j).2 (.inr hl))

theorem Filled.congr (h : Filled a0 dst L vs a) (hL : ∀ j, L' j ↔ L j) (hvs : ∀ j, L j → vs' j = vs j) : Filled a0 dst L' vs' a :=
  ⟨h.defers, h.size, fun j t hl hdj ht => by rw [hvs j ((hL j).1 hl)]; exact h.hit j t ((hL j).1 hl) hdj ht, fun t hm => h.miss t fun j hl => hm j ((hL j).2 hl)⟩
end

section
variable {P : Program} {ops : Array Oper}

theorem same_view (o : Oper) (hs : ∀ cs b, o.op ≠ .select cs b) {a a' : Act} (h : ∀ t ∈ o.looksAt ops, a.tmps[t]? = a'.tmps[t]?) :
    execOp a.eval o = execOp a'.eval o ∧ Region.wanted o (yielded ops a.tmps) = Region.wanted o (yielded ops a'.tmps) := by
  constructor
  · refine execOp_congr o hs fun x hx => ?_
    cases x with
    | tmp t =>
      have := h t (List.mem_append_left _ (List.mem_filterMap.2 ⟨.tmp t, by simpa using hx, rfl⟩))
      simp [Act.eval, this]
    | _ => rfl
  · unfold Region.wanted
    cases hg : o.guard with
    | none => rfl
    | some gw =>
      obtain ⟨g, want⟩ := gw
      have hy : yielded ops a.tmps g = yielded ops a'.tmps g := by
        unfold yielded
        cases ht : (ops[g]?).bind (·.dst) with
        | none => rfl
        | some t =>
          have := h t (by simp [Oper.looksAt, hg, ht])
          simp only [Option.bind_some, this]
      simp only [hy]

def KnF (v0 : Value) (F0 : World → Prop) (v : Value) (w : World) : Prop := v = v0 ∧ F0 w
def UnF (pv : Value → Prop) (F : Value → World → Prop) (v : Value) (w : World) : Prop := pv v ∧ F v w
def Any : (Nat → Value) → World → Prop := fun _ _ => True
/-- The call hands back a value of which T holds. -/
def EndsV (T : Value → World → Prop) (e : Ending) (w : World) : Prop := ∃ v, e = .returned v ∧ T v w
/-- T, and outside Z all that was there is as it was. -/
def Post (T : Value → World → Prop) (Z : Nat → Prop) (w : World) (v : Value) (w' : World) : Prop := T v w' ∧ Keeps Z w w'
/-- What an operation comes to, told by T. -/
def relyUpon (P : Program) (T : Value → World → Prop) : Result Next → Prop
  | .ok (.value u) w' => T u w'
  | .ok .skip w' => T undef w'
  | .ok (.enter f args) w' => Calls P f args w' (EndsV T)
  | _ => False
def relyAt (P : Program) (o : Oper) (a : Act) (w : World) (T : Value → World → Prop) : Prop := relyUpon P T ((execOp a.eval o).run P w)

theorem wp_of_relyAt {o : Oper} {a : Act} {w : World} {T : Value → World → Prop} {K : Act → World → Prop} {Q : Exit → Act → World → Prop} (h : relyAt P o a w T) (hK : ∀ v w', T v w' → K (a.put o.dst v) w') : o.wp P a w K Q := by
  unfold relyAt at h
  unfold Oper.wp
  generalize (execOp a.eval o).run P w = r at *
  cases r with
  | ok n w' =>
    cases n <;> simp only [relyUpon] at h <;> simp only [Oper.upon]
    case value u => exact hK _ _ h
    case skip => exact hK _ _ h
    case enter f args => exact h.mono fun e w'' ⟨v, he, ht⟩ => by subst he; exact hK _ _ ht
  | halt x w' => simp only [relyUpon] at h

/-! ### Who must come ahead of whom -/

def depsOf (ops : Array Oper) (k : Nat) : List Nat := match ops[k]? with | some o => (o.after.toList.filter fun e => Region.binds .any e).map (·.on) | none => []
def maskOf (T : List Nat) (ds : List Nat) : Nat := ds.foldl (fun m d => m ||| (1 <<< d) ||| T.getD d 0) 0
def masks (ops : Array Oper) : Nat → List Nat
  | 0 => []
  | k + 1 => let T := masks ops k
             T ++ [maskOf T (depsOf ops k)]
def ancB (T : List Nat) (k j : Nat) : Bool := (T.getD k 0).testBit j

/-- j must have come up ahead of k. -/
def Anc (ops : Array Oper) (k j : Nat) : Prop := ∀ L : Nat → Prop, (∀ i, L i → ∀ d ∈ depsOf ops i, L d) → (∀ d ∈ depsOf ops k, L d) → L j

theorem testBit_fold (T : List Nat) (j : Nat) : ∀ (ds : List Nat) (m : Nat), (ds.foldl (fun m d => m ||| (1 <<< d) ||| T.getD d 0) m).testBit j = true → m.testBit j = true ∨ ∃ d ∈ ds, j = d ∨ (T.getD d 0).testBit j = true
  | [], m, h => .inl h
  | d :: r, m, h => by
    simp only [List.foldl_cons] at h
    rcases testBit_fold T j r _ h with h | ⟨d', hd, h⟩
    · rw [Nat.testBit_or, Nat.testBit_or] at h
      simp only [Bool.or_eq_true] at h
      rcases h with (h | h) | h
      · exact .inl h
      · refine .inr ⟨d, by simp, .inl ?_⟩
        rw [Nat.one_shiftLeft, Nat.testBit_two_pow] at h
        have := of_decide_eq_true h
        omega
      · exact .inr ⟨d, by simp, .inr h⟩
    · exact .inr ⟨d', by simp [hd], h⟩

theorem masks_length (ops : Array Oper) : ∀ n, (masks ops n).length = n
  | 0 => rfl
  | n + 1 => by simp [masks, masks_length ops n]

theorem masks_anc (ops : Array Oper) : ∀ n k j, ancB (masks ops n) k j = true → Anc ops k j
  | 0, k, j, h => by simp [ancB, masks] at h
  | n + 1, k, j, h => by
    have ih := masks_anc ops n
    unfold ancB at h
    simp only [masks] at h
    rcases Nat.lt_trichotomy k n with hk | hk | hk
    · refine ih k j ?_
      unfold ancB
      rw [List.getD_eq_getElem?_getD, List.getElem?_append_left (by rw [masks_length]; exact hk), ← List.getD_eq_getElem?_getD] at h
      exact h
    · subst hk
      rw [List.getD_eq_getElem?_getD, List.getElem?_append_right (by rw [masks_length]; omega), masks_length, Nat.sub_self] at h
      simp only [List.getElem?_cons_zero, Option.getD_some] at h
      rcases testBit_fold _ _ _ _ h with h | ⟨d, hd, h⟩
      · simp at h
      · intro L hL hk
        rcases h with rfl | h
        · exact hk _ hd
        · exact ih d j h L hL (hL d (hk d hd))
    · rw [List.getD_eq_getElem?_getD, List.getElem?_eq_none (by simp [masks_length]; omega)] at h
      simp at h

def dstAt (ops : Array Oper) (j : Nat) : Option Tmp := (ops[j]?).bind (·.dst)

def Rely.okB (ops : Array Oper) (m : Nat) : Bool :=
  let T := masks ops ops.size
  Region.noSelect ops && decide (m ≤ ops.size) &&
  ((List.range ops.size).all fun k => (depsOf ops k).all fun d => decide (d < k)) &&
  ((List.range ops.size).all fun k => decide (k < m) || (List.range k).all fun j => ancB T k j) &&
  ((List.range m).all fun k => (List.range m).all fun j => j == k || match dstAt ops j with
    | none => true
    | some t => (dstAt ops k != some t) && (match ops[k]? with | some o => !(o.looksAt ops).contains t || ancB T k j | none => true))

structure Rely.Ok (ops : Array Oper) (m : Nat) (anc : Nat → Nat → Bool) : Prop where
  nosel : Region.noSelect ops = true
  le : m ≤ ops.size
  deps : ∀ k, k < ops.size → ∀ d ∈ depsOf ops k, d < k
  sound : ∀ k j, anc k j = true → Anc ops k j
  tail : ∀ k, m ≤ k → k < ops.size → ∀ j, j < k → anc k j = true
  dist : ∀ k j t, k < m → j < m → j ≠ k → dstAt ops j = some t → dstAt ops k ≠ some t
  looks : ∀ k j t o, k < m → j < m → j ≠ k → dstAt ops j = some t → ops[k]? = some o → t ∈ o.looksAt ops → anc k j = true

theorem Rely.ok {m : Nat} (h : Rely.okB ops m = true) : Rely.Ok ops m (ancB (masks ops ops.size)) := by
  simp only [Rely.okB, Bool.and_eq_true, List.all_eq_true, List.mem_range, decide_eq_true_eq, Bool.or_eq_true, beq_iff_eq] at h
  obtain ⟨⟨⟨⟨h1, h2⟩, h3⟩, h4⟩, h5⟩ := h
  refine ⟨h1, h2, h3, fun k j => masks_anc ops _ k j, fun k hk hkn j hj => ?_, fun k j t hk hj hne hd => ?_, fun k j t o hk hj hne hd ho ht => ?_⟩
  · rcases h4 k hkn with h | h
    · omega
    · exact h j hj
  · have := (h5 k hk j hj).resolve_left hne
    simp only [hd, Bool.and_eq_true, bne_iff_ne, ne_eq] at this
    exact this.1
  · have := (h5 k hk j hj).resolve_left hne
    simp only [hd, Bool.and_eq_true, ho, Bool.or_eq_true, Bool.not_eq_true', List.contains_eq_mem, decide_eq_false_iff_not] at this
    exact this.2.resolve_left (fun h => h ht)

/-! ### The tail: no choice is left -/

def Upto (n k : Nat) (listed : Array Bool) : Prop := listed.size = n ∧ ∀ j, j < n → listed.getD j true = decide (j < k)

theorem Upto.next {n k : Nat} {listed : Array Bool} (h : Upto n k listed) (hk : k < n) : Upto n (k + 1) (listed.setIfInBounds k true) := by
  refine ⟨by simp [h.1], fun j hj => ?_⟩
  by_cases e : k = j
  · subst e
    simp [h.1, hk]
  · rw [getD_set_ne true e, h.2 j hj]
    simp only [decide_eq_decide]
    omega

theorem getD_ft {listed : Array Bool} {j : Nat} (h : j < listed.size) : listed.getD j false = listed.getD j true := by simp [h]

theorem mem_ready' {listed : Array Bool} {k : Nat} : k ∈ Region.ready .any ops listed ↔ listed.getD k true = false ∧ k < ops.size ∧ ∀ d ∈ depsOf ops k, listed.getD d false = true := by
  rw [mem_ready]
  constructor
  · rintro ⟨h0, o, ho, h⟩
    refine ⟨h0, (Array.getElem?_eq_some_iff.1 ho).1, fun d hd => ?_⟩
    simp only [depsOf, ho, List.mem_map, List.mem_filter, Array.mem_toList_iff] at hd
    obtain ⟨e, ⟨he, hb⟩, rfl⟩ := hd
    exact h e he hb
  · rintro ⟨h0, hlt, h⟩
    refine ⟨h0, ops[k], Array.getElem?_eq_getElem hlt, fun e he hb => h e.on ?_⟩
    simp only [depsOf, Array.getElem?_eq_getElem hlt, List.mem_map, List.mem_filter, Array.mem_toList_iff]
    exact ⟨e, ⟨he, hb⟩, rfl⟩

theorem wpAny_tail {m : Nat} {anc : Nat → Nat → Bool} {Q : Exit → Act → World → Prop} (ok : Rely.Ok ops m anc) : ∀ (f k : Nat) (listed : Array Bool) (a : Act) (w : World), m ≤ k → k + f = ops.size → Upto ops.size k listed →
    wpOps P ops Q (List.range' k f) a w → wpAny P .any ops Q f listed a w
  | 0, k, listed, a, w, hm, hk, hu, h => by
    refine ⟨?_, by simpa [wpOps] using h⟩
    rw [List.eq_nil_iff_forall_not_mem]
    intro i hi
    obtain ⟨h0, hlt, _⟩ := mem_ready'.1 hi
    rw [hu.2 i hlt] at h0
    have := of_decide_eq_false h0
    omega
  | f + 1, k, listed, a, w, hm, hk, hu, h => by
    have hkn : k < ops.size := by omega
    have hready : k ∈ Region.ready .any ops listed := by
      refine mem_ready'.2 ⟨by rw [hu.2 k hkn]; simp, hkn, fun d hd => ?_⟩
      have hdk := ok.deps k hkn d hd
      rw [getD_ft (by rw [hu.1]; omega), hu.2 d (by omega)]
      simpa using hdk
    refine ⟨fun h0 => (by rw [h0] at hready; cases hready), fun i hi => ?_⟩
    have hik : i = k := by
      obtain ⟨h0, hlt, hd⟩ := mem_ready'.1 hi
      rw [hu.2 i hlt] at h0
      have hle : k ≤ i := by have := of_decide_eq_false h0; omega
      rcases Nat.lt_or_ge k i with hki | hki
      · have := ok.sound i k (ok.tail i (by omega) hlt k hki) (fun j => listed.getD j false = true) (fun q hq d hd => by
          have hqn : q < ops.size := by
            rcases Nat.lt_or_ge q ops.size with h | h
            · exact h
            · simp [Array.getElem?_eq_none (show listed.size ≤ q by rw [hu.1]; exact h)] at hq
          rw [getD_ft (by rw [hu.1]; exact hqn), hu.2 q hqn] at hq
          have hdq := ok.deps q hqn d hd
          have := of_decide_eq_true hq
          rw [getD_ft (by rw [hu.1]; omega), hu.2 d (by omega)]
          simp; omega) hd
        rw [getD_ft (by rw [hu.1]; omega), hu.2 k hkn] at this
        simp at this
      · omega
    subst hik
    rw [List.range'_succ, wpOps_cons] at h
    exact wpOp_mono (fun a' w' h' => wpAny_tail ok f (i + 1) _ a' w' (by omega) (by omega) (hu.next hkn) h') h

/-! ### Any order -/

structure Spec where
  pv : Value → Prop
  f : (Nat → Value) → Value → World → Prop
/-- The values of those that must have come up ahead of k. -/
def maskV (anc : Nat → Nat → Bool) (k : Nat) (vs : Nat → Value) : Nat → Value := fun i => if anc k i = true then vs i else undef
theorem maskV_congr {anc : Nat → Nat → Bool} {k : Nat} {vs vs' : Nat → Value} (h : ∀ i, anc k i = true → vs i = vs' i) : maskV anc k vs = maskV anc k vs' := by
  funext i
  unfold maskV
  by_cases e : anc k i = true
  · rw [if_pos e, if_pos e, h i e]
  · rw [if_neg e, if_neg e]
theorem maskV_at {anc : Nat → Nat → Bool} {k i : Nat} {vs : Nat → Value} (h : anc k i = true) : maskV anc k vs i = vs i := if_pos h
/-- An ancestor stands ahead. -/
theorem Rely.Ok.lt {m : Nat} {anc : Nat → Nat → Bool} (ok : Rely.Ok ops m anc) {k q : Nat} (hk : k < ops.size) (h : anc k q = true) : q < k :=
  ok.sound k q h (fun i => i < k) (fun i hi d hd => by have hi' : i < k := hi; have := ok.deps i (by omega) d hd; show d < k; omega) (fun d hd => ok.deps k hk d hd)

def FactAt (W0 : World) (S : Nat → Prop) (calm : Bool) (Φ : World → Prop) (w : World) : Prop := ∃ w0, Keeps S W0 w0 ∧ Keeps (fun b => calm = false ∧ S b) w0 w ∧ Φ w0
theorem FactAt.weak {W0 : World} {S : Nat → Prop} {c c' : Bool} {Φ : World → Prop} {w : World} (h : FactAt W0 S c Φ w) (hc : c' = true → c = true) : FactAt W0 S c' Φ w := by
  obtain ⟨w0, k0, k1, hf⟩ := h
  refine ⟨w0, k0, k1.mono fun b ⟨h1, h2⟩ => ⟨?_, h2⟩, hf⟩
  cases c' with
  | false => rfl
  | true => rw [hc rfl] at h1; cases h1

def calmAt (wl : List Nat) (anc : Nat → Nat → Bool) (k j : Nat) : Bool := wl.all fun i => i == k || i == j || anc i k || anc j i
/-- No other writer has run when k runs. -/
def startAt (wl : List Nat) (anc : Nat → Nat → Bool) (k : Nat) : Bool := wl.all fun i => i == k || anc i k
def calmEnd (wl : List Nat) (anc : Nat → Nat → Bool) (j : Nat) : Bool := wl.all fun i => i == j || anc j i

def OpOk (P : Program) (ops : Array Oper) (W0 : World) (S : Nat → Prop) (wl : List Nat) (anc : Nat → Nat → Bool) (a0 : Act) (spec : Nat → Spec) (k : Nat) : Prop :=
  (∃ v, (spec k).pv v) ∧ ∀ o, ops[k]? = some o → ∀ vs : Nat → Value, (∀ j, j < k → (spec j).pv (vs j)) → ∀ a', Filled a0 (dstAt ops) (fun j => j < k) vs a' →
    (Region.wanted o (yielded ops a'.tmps) = true ∧ ∀ w, Keeps S W0 w → Keeps (fun b => startAt wl anc k = false ∧ S b) W0 w → (∀ j, j < k → anc k j = true → FactAt W0 S (calmAt wl anc k j) ((spec j).f (maskV anc j vs) (vs j)) w) →
      relyAt P o a' w fun v w' => (spec k).pv v ∧ (spec k).f (maskV anc k vs) v w' ∧ Keeps (fun b => wl.contains k = true ∧ S b) w w') ∨
    (Region.wanted o (yielded ops a'.tmps) = false ∧ (spec k).pv undef ∧ ∀ w, (spec k).f (maskV anc k vs) undef w)

structure Inv (ops : Array Oper) (m : Nat) (W0 : World) (S : Nat → Prop) (wl : List Nat) (anc : Nat → Nat → Bool) (a0 : Act) (spec : Nat → Spec) (listed : Array Bool) (vs : Nat → Value) (a : Act) (w : World) : Prop where
  size : listed.size = ops.size
  pv : ∀ j, j < m → (spec j).pv (vs j)
  filled : Filled a0 (dstAt ops) (fun j => j < m ∧ listed.getD j false = true) vs a
  kept : Keeps S W0 w
  start : Keeps (fun b => (wl.all fun i => !listed.getD i false) = false ∧ S b) W0 w
  high : ∀ j, m ≤ j → listed.getD j false = false
  closed : ∀ i, listed.getD i false = true → ∀ d ∈ depsOf ops i, listed.getD d false = true
  facts : ∀ j, j < m → listed.getD j false = true → FactAt W0 S (wl.all fun i => i == j || anc j i || !listed.getD i false) ((spec j).f (maskV anc j vs) (vs j)) w

def cnt (n : Nat) (listed : Array Bool) : Nat := ((List.range n).filter fun j => !listed.getD j true).length

theorem filter_drop {p q : Nat → Bool} {i : Nat} : ∀ (l : List Nat), l.Nodup → i ∈ l → p i = true → q i = false → (∀ j, j ≠ i → q j = p j) → (l.filter p).length = (l.filter q).length + 1
  | [], _, h, _, _, _ => by cases h
  | x :: r, hn, hi, hp, hq, hpq => by
    rw [List.nodup_cons] at hn
    by_cases e : x = i
    · subst e
      have : r.filter q = r.filter p := List.filter_congr fun j hj => hpq j (fun e => hn.1 (e ▸ hj))
      simp [hp, hq, this]
    · have hir : i ∈ r := by simpa [Ne.symm e] using hi
      have ih := filter_drop r hn.2 hir hp hq hpq
      simp only [List.filter_cons, hpq x e]
      split
      · simp [ih]
      · exact ih

theorem cnt_set {n i : Nat} {listed : Array Bool} (hs : listed.size = n) (hi : i < n) (h0 : listed.getD i true = false) : cnt n listed = cnt n (listed.setIfInBounds i true) + 1 := by
  unfold cnt
  refine filter_drop (i := i) _ List.nodup_range (by simpa using hi) (by simp [h0]) (by simp [hs, hi]) (fun j hj => ?_)
  rw [getD_set_ne true (Ne.symm hj)]

theorem Inv.done {m : Nat} {W0 : World} {S : Nat → Prop} {wl : List Nat} {anc : Nat → Nat → Bool} {a0 : Act} {spec : Nat → Spec} {listed : Array Bool} {vs : Nat → Value} {a : Act} {w : World} (h : Inv ops m W0 S wl anc a0 spec listed vs a w)
    (hall : ∀ j, j < m → listed.getD j false = true) : Upto ops.size m listed ∧ Filled a0 (dstAt ops) (fun j => j < m) vs a ∧ ∀ j, j < m → FactAt W0 S (calmEnd wl anc j) ((spec j).f (maskV anc j vs) (vs j)) w := by
  refine ⟨⟨h.size, fun j hj => ?_⟩, h.filled.congr (fun j => ⟨fun hj => ⟨hj, hall j hj⟩, fun hj => hj.1⟩) (fun _ _ => rfl), fun j hj => (h.facts j hj (hall j hj)).weak fun hc => ?_⟩
  · rw [← getD_ft (by rw [h.size]; exact hj)]
    rcases Nat.lt_or_ge j m with hjm | hjm
    · rw [hall j hjm]; simp [hjm]
    · rw [h.high j hjm]; simp; omega
  · unfold calmEnd at hc
    rw [List.all_eq_true] at hc ⊢
    intro i hi
    have := hc i hi
    simp only [Bool.or_eq_true] at this ⊢
    exact .inl this

theorem any_order {m : Nat} {W0 : World} {S : Nat → Prop} {wl : List Nat} {anc : Nat → Nat → Bool} {a0 : Act} {spec : Nat → Spec} {Q : Exit → Act → World → Prop} (ok : Rely.Ok ops m anc)
    (hop : ∀ k, k < m → OpOk P ops W0 S wl anc a0 spec k)
    (hend : ∀ vs : Nat → Value, (∀ j, j < m → (spec j).pv (vs j)) → ∀ a w, Filled a0 (dstAt ops) (fun j => j < m) vs a → Keeps S W0 w → (∀ j, j < m → FactAt W0 S (calmEnd wl anc j) ((spec j).f (maskV anc j vs) (vs j)) w) → wpOps P ops Q (List.range' m (ops.size - m)) a w) :
    ∀ (f : Nat) (listed : Array Bool) (vs : Nat → Value) (a : Act) (w : World), cnt ops.size listed = f → Inv ops m W0 S wl anc a0 spec listed vs a w → wpAny P .any ops Q f listed a w := by
  intro f
  induction f with
  | zero =>
    intro listed vs a w hc inv
    have hall : ∀ j, j < ops.size → listed.getD j false = true := fun j hj => by
      unfold cnt at hc
      rw [List.length_eq_zero_iff, List.filter_eq_nil_iff] at hc
      have := hc j (by simpa using hj)
      rw [getD_ft (by rw [inv.size]; exact hj)]
      simpa using this
    have hmn : m = ops.size := by
      rcases Nat.lt_or_ge m ops.size with h | h
      · have h1 := inv.high m (Nat.le_refl _)
        rw [hall m h] at h1
        cases h1
      · have := ok.le; omega
    obtain ⟨hu, hf, hfacts⟩ := inv.done (fun j hj => hall j (by omega))
    have := hend vs inv.pv a w hf inv.kept hfacts
    exact wpAny_tail ok 0 m listed a w (Nat.le_refl _) (by omega) hu (by rw [hmn, Nat.sub_self] at this; exact this)
  | succ f ih =>
    intro listed vs a w hc inv
    by_cases hdone : ∀ j, j < m → listed.getD j false = true
    · obtain ⟨hu, hf, hfacts⟩ := inv.done hdone
      have hcm : cnt ops.size listed = ops.size - m := by
        unfold cnt
        have e : (List.range ops.size).filter (fun j => !listed.getD j true) = (List.range ops.size).filter (fun j => decide (m ≤ j)) := List.filter_congr fun j hj => by
          rw [hu.2 j (by simpa using hj)]
          rw [Bool.eq_iff_iff]; simp
        rw [e]
        have key : ∀ n, m ≤ n → ((List.range n).filter (fun j => decide (m ≤ j))).length = n - m := by
          intro n
          induction n with
          | zero => intro h; simp
          | succ n ihn =>
            intro h
            rw [List.range_succ, List.filter_append, List.length_append]
            rcases Nat.lt_or_ge n m with h' | h'
            · have : m = n + 1 := by omega
              subst this
              rw [List.filter_eq_nil_iff.2 (by intro x hx; simp at hx ⊢; omega)]
              simp
            · rw [ihn h']; simp [h']; omega
        exact key _ ok.le
      rw [← hc, hcm]
      exact wpAny_tail ok _ m listed a w (Nat.le_refl _) (by have := ok.le; omega) hu (hend vs inv.pv a w hf inv.kept hfacts)
    · have hex : ∃ k, k < m ∧ listed.getD k false = false ∧ ∀ j, j < k → listed.getD j false = true := by
        have key : ∀ n, n ≤ m → (∀ j, j < n → listed.getD j false = true) ∨ ∃ k, k < m ∧ listed.getD k false = false ∧ ∀ j, j < k → listed.getD j false = true := by
          intro n
          induction n with
          | zero => intro _; exact .inl fun j hj => absurd hj (by omega)
          | succ n ihn =>
            intro hn
            rcases ihn (by omega) with h | h
            · by_cases hx : listed.getD n false = true
              · refine .inl fun j hj => ?_
                rcases Nat.lt_or_ge j n with h' | h'
                · exact h j h'
                · rw [show j = n by omega]; exact hx
              · exact .inr ⟨n, by omega, by simpa using hx, h⟩
            · exact .inr h
        rcases key m (Nat.le_refl _) with h | h
        · exact absurd h hdone
        · exact h
      obtain ⟨k0, hk0, hk0f, hk0b⟩ := hex
      have hmn := ok.le
      have hready : k0 ∈ Region.ready .any ops listed := mem_ready'.2 ⟨by rw [← getD_ft (by rw [inv.size]; omega)]; exact hk0f, by omega, fun d hd => hk0b d (ok.deps k0 (by omega) d hd)⟩
      refine ⟨fun h0 => (by rw [h0] at hready; cases hready), fun k hk => ?_⟩
      obtain ⟨hkun, hkn, hkd⟩ := mem_ready'.1 hk
      have hkf : listed.getD k false = false := by rw [getD_ft (by rw [inv.size]; exact hkn)]; exact hkun
      have hanc : ∀ j, anc k j = true → listed.getD j false = true := fun j hj => ok.sound k j hj (fun i => listed.getD i false = true) inv.closed hkd
      have hup : ∀ i, listed.getD i false = true → anc i k = true → False := fun i hi hik => by
        have := ok.sound i k hik (fun i => listed.getD i false = true) inv.closed (inv.closed i hi)
        rw [hkf] at this; cases this
      have hkm : k < m := by
        rcases Nat.lt_or_ge k m with h | h
        · exact h
        · have := hanc k0 (ok.tail k h hkn k0 (by omega))
          rw [hk0f] at this; cases this
      obtain ⟨o, ho⟩ : ∃ o, ops[k]? = some o := ⟨ops[k], Array.getElem?_eq_getElem hkn⟩
      have hdk : dstAt ops k = o.dst := by simp [dstAt, ho]
      -- the frame in the text's order
      have hlex : ∀ n, n ≤ m → ∃ a', Filled a0 (dstAt ops) (fun j => j < n) vs a' := by
        intro n
        induction n with
        | zero => intro _; exact ⟨a0, (Filled.start (vs := vs)).congr (fun j => by simp) (fun _ h => h.elim)⟩
        | succ n ihn =>
          intro hn
          obtain ⟨a', ha'⟩ := ihn (by omega)
          exact ⟨_, ha'.put n (fun j t hj hd => ok.dist n j t (by omega) (by omega) (by omega) hd) (vs n) rfl (fun _ _ => rfl) (fun j => by omega)⟩
      obtain ⟨a', ha'⟩ := hlex k (by omega)
      have hview := same_view (ops := ops) o (fun cs b => Region.noSelect_spec ok.nosel k o cs b ho) (a := a') (a' := a) (fun t ht => by
        by_cases hex : ∃ j, j < m ∧ dstAt ops j = some t ∧ (j < k ∨ listed.getD j false = true)
        · obtain ⟨j, hjm, hdj, hj⟩ := hex
          have hjk : j ≠ k := by
            rintro rfl
            rcases hj with h | h
            · omega
            · rw [hkf] at h; cases h
          have hkj := ok.looks k j t o hkm hjm hjk hdj ho ht
          have hjl := hanc j hkj
          by_cases hts : t < a0.tmps.size
          · rw [inv.filled.hit j t ⟨hjm, hjl⟩ hdj hts]
            have hjlt : j < k := by
              rcases Nat.lt_or_ge j k with h | h
              · exact h
              · exfalso
                -- an ancestor stands ahead
                have : ∀ q, anc k q = true → q < k := fun q hq => ok.sound k q hq (fun i => i < k) (fun i hi d hd => by have hi' : i < k := hi; have := ok.deps i (by omega) d hd; show d < k; omega) (fun d hd => ok.deps k hkn d hd)
                have := this j hkj
                omega
            exact ha'.hit j t hjlt hdj hts
          · rw [Array.getElem?_eq_none (show a'.tmps.size ≤ t by rw [ha'.size]; exact Nat.le_of_not_lt hts), Array.getElem?_eq_none (show a.tmps.size ≤ t by rw [inv.filled.size]; exact Nat.le_of_not_lt hts)]
        · rw [ha'.miss t (fun j hj e => hex ⟨j, by omega, e, .inl hj⟩), inv.filled.miss t (fun j hj e => hex ⟨j, hj.1, e, .inr hj.2⟩)])
      obtain ⟨⟨v1, hv1⟩, hspec⟩ := hop k hkm
      have hs := hspec o ho vs (fun j hj => inv.pv j (by omega)) a' ha'
      rw [hview.2] at hs
      have hnext : ∀ v w', (spec k).pv v → (spec k).f (maskV anc k vs) v w' → Keeps (fun b => wl.contains k = true ∧ S b) w w' → wpAny P .any ops Q f (listed.setIfInBounds k true) (a.put o.dst v) w' := by
        intro v w' hpv hfv hkeep
        have hgs : ∀ j, (listed.setIfInBounds k true).getD j false = true ↔ j = k ∨ listed.getD j false = true := by
          intro j
          by_cases e : k = j
          · subst e; simp [inv.size, hkn]
          · rw [getD_set_ne false e]
            exact ⟨.inr, fun h => h.resolve_left (Ne.symm e)⟩
        have hstart' : Keeps (fun b => (wl.all fun i => !(listed.setIfInBounds k true).getD i false) = false ∧ S b) W0 w' := by
          cases hx : (wl.all fun i => !(listed.setIfInBounds k true).getD i false) with
          | false => exact inv.kept.trans (hkeep.mono fun b h => h.2) |>.mono fun b h => ⟨rfl, h⟩
          | true =>
            rw [List.all_eq_true] at hx
            have h1 : (wl.all fun i => !listed.getD i false) = true := by
              rw [List.all_eq_true]
              intro i hi
              have := hx i hi
              cases hy : listed.getD i false with
              | false => rfl
              | true => rw [(hgs i).2 (.inr hy)] at this; cases this
            refine (inv.start.mono fun b h => ?_).trans (hkeep.mono fun b h => ?_)
            · have h2 := h.1
              rw [h1] at h2
              cases h2
            · have := hx k (by simpa using h.1)
              rw [(hgs k).2 (.inl rfl)] at this
              cases this
        refine ih _ (fun j => if j = k then v else vs j) _ _ ?_ ⟨by simp [inv.size], fun j hj => ?_, ?_, inv.kept.trans (hkeep.mono fun b h => h.2), hstart', fun j hj => ?_, fun i hi d hd => ?_, fun j hj hjl => ?_⟩
        · have := cnt_set inv.size hkn hkun
          omega
        · by_cases e : j = k
          · subst e; simpa using hpv
          · simpa [e] using inv.pv j hj
        · rw [← hdk]
          refine inv.filled.put k (fun j t hj hd => ok.dist k j t hkm hj.1 (fun e => by rw [e, hkf] at hj; cases hj.2) hd) v (by simp) (fun j hj => ?_) (fun j => ?_)
          · have : j ≠ k := fun e => by rw [e, hkf] at hj; cases hj.2
            simp [this]
          · rw [hgs]
            constructor
            · rintro ⟨h1, h2 | h2⟩
              · exact .inl h2
              · exact .inr ⟨h1, h2⟩
            · rintro (h | h)
              · exact ⟨by omega, .inl h⟩
              · exact ⟨h.1, .inr h.2⟩
        · cases hx : (listed.setIfInBounds k true).getD j false with
          | false => rfl
          | true =>
            rcases (hgs j).1 hx with h | h
            · omega
            · rw [inv.high j hj] at h; cases h
        · rw [hgs]
          rcases (hgs i).1 hi with rfl | h
          · exact .inr (hkd d hd)
          · exact .inr (inv.closed i h d hd)
        · rcases (hgs j).1 hjl with rfl | hjl'
          · rw [if_pos rfl, show maskV anc j (fun i => if i = j then v else vs i) = maskV anc j vs from maskV_congr (fun i hi => by
              have h1 := hanc i hi
              have : i ≠ j := fun e => by rw [e, hkf] at h1; cases h1
              simp [this])]
            exact ⟨w', inv.kept.trans (hkeep.mono fun b h => h.2), Keeps.refl _ _, hfv⟩
          · have hjk : j ≠ k := fun e => by rw [e, hkf] at hjl'; cases hjl'
            rw [show maskV anc j (fun i => if i = k then v else vs i) = maskV anc j vs from maskV_congr (fun i hi => by
              have h1 := ok.sound j i hi (fun i => listed.getD i false = true) inv.closed (inv.closed j hjl')
              have : i ≠ k := fun e => by
                have h1 : listed.getD i false = true := h1
                rw [e, hkf] at h1; cases h1
              simp [this])]
            simp only [hjk, if_false]
            obtain ⟨w0, q0, q1, hF⟩ := inv.facts j hj hjl'
            refine ⟨w0, q0, ?_, hF⟩
            have hjl2 : anc j k = true → False := fun h => by
              have := ok.sound j k h (fun i => listed.getD i false = true) inv.closed (inv.closed j hjl')
              rw [hkf] at this; cases this
            have hweak : (wl.all fun i => i == j || anc j i || !(listed.setIfInBounds k true).getD i false) = true → (wl.all fun i => i == j || anc j i || !listed.getD i false) = true := fun h => by
              rw [List.all_eq_true] at h ⊢
              intro i hi
              have := h i hi
              simp only [Bool.or_eq_true, Bool.not_eq_true'] at this ⊢
              rcases this with h | h
              · exact .inl h
              · right
                cases hx : listed.getD i false with
                | false => rfl
                | true => rw [(hgs i).2 (.inr hx)] at h; cases h
            refine Keeps.trans (b := w) (q1.mono fun b h => ⟨?_, h.2⟩) (hkeep.mono fun b h => ⟨?_, h.2⟩)
            · have h := h.1
              cases hx : (wl.all fun i => i == j || anc j i || !(listed.setIfInBounds k true).getD i false) with
              | false => rfl
              | true => rw [hweak hx] at h; cases h
            · cases hx : (wl.all fun i => i == j || anc j i || !(listed.setIfInBounds k true).getD i false) with
              | false => rfl
              | true =>
                rw [List.all_eq_true] at hx
                have := hx k (by simpa using h.1)
                rw [(hgs k).2 (.inl rfl)] at this
                simp only [Bool.or_eq_true, beq_iff_eq, Bool.not_true, Bool.false_eq_true, or_false] at this
                rcases this with h | h
                · exact absurd h.symm hjk
                · exact (hjl2 h).elim
      unfold wpOp
      simp only [ho]
      rcases hs with ⟨hw, hrel⟩ | ⟨hw, hpu, hfu⟩
      · rw [if_pos hw]
        have hrel' : relyAt P o a w fun v w' => (spec k).pv v ∧ (spec k).f (maskV anc k vs) v w' ∧ Keeps (fun b => wl.contains k = true ∧ S b) w w' := ?_
        · exact .inl (wp_of_relyAt hrel' (fun v w' h => hnext v w' h.1 h.2.1 h.2.2))
        have := hrel w inv.kept (inv.start.mono fun b h => ⟨?_, h.2⟩) (fun j hj hkj => (inv.facts j (by omega) (hanc j hkj)).weak fun hc => ?_)
        · unfold relyAt at this ⊢
          rw [hview.1] at this
          exact this
        · cases hx : startAt wl anc k with
          | false => rfl
          | true =>
            have h1 := h.1
            have : (wl.all fun i => !listed.getD i false) = true := by
              unfold startAt at hx
              rw [List.all_eq_true] at hx ⊢
              intro i hi
              have := hx i hi
              simp only [Bool.or_eq_true, beq_iff_eq] at this
              rcases this with e | e
              · rw [e, hkf]; rfl
              · cases hy : listed.getD i false with
                | false => rfl
                | true => exact (hup i hy e).elim
            rw [this] at h1; cases h1
        · unfold calmAt at hc
          rw [List.all_eq_true] at hc ⊢
          intro i hi
          have := hc i hi
          simp only [Bool.or_eq_true, beq_iff_eq, Bool.not_eq_true'] at this ⊢
          rcases this with ((h | h) | h) | h
          · right; rw [h]; exact hkf
          · exact .inl (.inl h)
          · right
            cases hx : listed.getD i false with
            | false => rfl
            | true => exact (hup i hx h).elim
          · exact .inl (.inr h)
      · rw [if_neg (by rw [hw]; simp)]
        exact hnext undef w hpu (hfu w) (Keeps.refl _ _)

/-! ### The walk in the text's order -/

structure Ent where
  k : Nat
  dst : Option Tmp
  pv : Value → Prop
  f : Value → World → Prop

/-- What holds behind an operation, told by the values of those that came up ahead of it. -/
abbrev Fact := Nat × ((Nat → Value) → World → Prop)
/-- Every value that the entries let be is put into the frame. -/
def fillE : List Ent → List Fact → Act → (Nat → Value) → (List Fact → Act → (Nat → Value) → Prop) → Prop
  | [], H, a, u, K => K H a u
  | e :: r, H, a, u, K => ∀ v, e.pv v → fillE r ((e.k, fun _ => e.f v) :: H) (a.put e.dst v) (fun i => if i = e.k then v else u i) K

/-- The facts that may be leant on. -/
def Met (W0 : World) (S : Nat → Prop) (see calm : Nat → Bool) (anc : Nat → Nat → Bool) (u : Nat → Value) : List Fact → World → Prop
  | [], _ => True
  | x :: r, w => (see x.1 = true → FactAt W0 S (calm x.1) (x.2 (maskV anc x.1 u)) w) ∧ Met W0 S see calm anc u r w

def RelyOp (P : Program) (ops : Array Oper) (W0 : World) (S : Nat → Prop) (wl : List Nat) (anc : Nat → Nat → Bool) (k : Nat) (o : Oper) (E : List Ent) (H : List Fact) (a : Act) (u : Nat → Value) (T : (Nat → Value) → Value → World → Prop) : Prop :=
  fillE E H a u fun H' a' u' => Region.wanted o (yielded ops a'.tmps) = true ∧ ∀ w, Keeps S W0 w → (Keeps (fun b => startAt wl anc k = false ∧ S b) W0 w ∧ Met W0 S (anc k) (calmAt wl anc k) anc u' H' w) → relyAt P o a' w (Post (T (maskV anc k u')) (fun b => wl.contains k = true ∧ S b) w)

def wpRely (P : Program) (ops : Array Oper) (W0 : World) (S : Nat → Prop) (wl : List Nat) (anc : Nat → Nat → Bool) (Q : Act → World → Prop) : List Oper → Nat → List Ent → List Fact → Act → (Nat → Value) → Prop
  | [], _, E, H, a, u => fillE E H a u fun H' a' u' => ∀ w, Keeps S W0 w → Met W0 S (fun _ => true) (calmEnd wl anc) anc u' H' w → Q a' w
  | o :: r, k, E, H, a, u =>
    (∃ (v0 : Value) (F0 : (Nat → Value) → World → Prop), RelyOp P ops W0 S wl anc k o E H a u (fun u' => KnF v0 (F0 u')) ∧ wpRely P ops W0 S wl anc Q r (k + 1) E ((k, F0) :: H) (a.put o.dst v0) (fun i => if i = k then v0 else u i)) ∨
    (fillE E H a u (fun _ a' _ => Region.wanted o (yielded ops a'.tmps) = false) ∧ wpRely P ops W0 S wl anc Q r (k + 1) E H (a.put o.dst undef) (fun i => if i = k then undef else u i)) ∨
    (∃ (pv : Value → Prop) (F : Value → World → Prop), (∃ v, pv v) ∧ RelyOp P ops W0 S wl anc k o E H a u (fun _ => UnF pv F) ∧ wpRely P ops W0 S wl anc Q r (k + 1) (⟨k, o.dst, pv, F⟩ :: E) H a u)

theorem met_of {W0 : World} {S : Nat → Prop} {see calm : Nat → Bool} {anc : Nat → Nat → Bool} {u : Nat → Value} {w : World} : ∀ (H : List Fact), (∀ x ∈ H, see x.1 = true → FactAt W0 S (calm x.1) (x.2 (maskV anc x.1 u)) w) → Met W0 S see calm anc u H w
  | [], _ => trivial
  | x :: r, h => ⟨h x (by simp), met_of r fun y hy => h y (by simp [hy])⟩

theorem FactAt.imp {W0 : World} {S : Nat → Prop} {c : Bool} {Φ Φ' : World → Prop} {w : World} (h : FactAt W0 S c Φ w) (hi : ∀ w, Φ w → Φ' w) : FactAt W0 S c Φ' w := by
  obtain ⟨w0, k0, k1, hf⟩ := h
  exact ⟨w0, k0, k1, hi _ hf⟩

theorem fill_spec {m : Nat} {anc : Nat → Nat → Bool} (ok : Rely.Ok ops m anc) {a0 : Act} {vs : Nat → Value} {K : List Fact → Act → (Nat → Value) → Prop} : ∀ (E : List Ent) (H : List Fact) (a : Act) (u : Nat → Value) (L : Nat → Prop),
    (∀ e ∈ E, e.k < m ∧ e.dst = dstAt ops e.k ∧ e.pv (vs e.k) ∧ ¬ L e.k) → (E.map (·.k)).Nodup → (∀ j, L j → j < m) → Filled a0 (dstAt ops) L vs a → (∀ j, L j → u j = vs j) → fillE E H a u K →
    ∃ H' a' u', K H' a' u' ∧ Filled a0 (dstAt ops) (fun j => L j ∨ ∃ e ∈ E, e.k = j) vs a' ∧ (∀ j, (L j ∨ ∃ e ∈ E, e.k = j) → u' j = vs j) ∧ ∀ x ∈ H', x ∈ H ∨ ∃ e ∈ E, x = (e.k, fun _ => e.f (vs e.k))
  | [], H, a, u, L, _, _, _, hf, hu, h => ⟨H, a, u, h, hf.congr (fun j => by simp) (fun _ _ => rfl), fun j hj => by simp at hj; exact hu j hj, fun x hx => .inl hx⟩
  | e :: r, H, a, u, L, hE, hn, hL, hf, hu, h => by
    obtain ⟨h1, h2, h3, h4⟩ := hE e (by simp)
    rw [List.map_cons, List.nodup_cons] at hn
    have h' := h (vs e.k) h3
    rw [h2] at h'
    have hf' : Filled a0 (dstAt ops) (fun j => j = e.k ∨ L j) vs (a.put (dstAt ops e.k) (vs e.k)) :=
      hf.put e.k (fun j t hj hd => ok.dist e.k j t h1 (hL j hj) (fun q => h4 (q ▸ hj)) hd) _ rfl (fun _ _ => rfl) (fun j => Iff.rfl)
    obtain ⟨H', a', u', hK, hfill, hu', hH⟩ := fill_spec ok r _ _ _ (fun j => j = e.k ∨ L j) (fun x hx => by
      obtain ⟨q1, q2, q3, q4⟩ := hE x (by simp [hx])
      refine ⟨q1, q2, q3, ?_⟩
      rintro (q | q)
      · exact hn.1 (by rw [← q]; exact List.mem_map.2 ⟨x, hx, rfl⟩)
      · exact q4 q) hn.2 (fun j hj => by
      rcases hj with rfl | hj
      · exact h1
      · exact hL j hj) hf' (fun j hj => by
      by_cases q : j = e.k
      · simp [q]
      · simp only [q, if_false]
        exact hu j (hj.resolve_left q)) h'
    refine ⟨H', a', u', hK, hfill.congr (fun j => ?_) (fun _ _ => rfl), fun j hj => hu' j ?_, fun x hx => ?_⟩
    · constructor
      · rintro (q | ⟨x, hx, rfl⟩)
        · exact .inl (.inr q)
        · rcases List.mem_cons.1 hx with rfl | hx
          · exact .inl (.inl rfl)
          · exact .inr ⟨x, hx, rfl⟩
      · rintro ((rfl | q) | ⟨x, hx, rfl⟩)
        · exact .inr ⟨e, by simp, rfl⟩
        · exact .inl q
        · exact .inr ⟨x, by simp [hx], rfl⟩
    · rcases hj with q | ⟨x, hx, rfl⟩
      · exact .inl (.inr q)
      · rcases List.mem_cons.1 hx with rfl | hx
        · exact .inl (.inl rfl)
        · exact .inr ⟨x, hx, rfl⟩
    · rcases hH x hx with q | ⟨y, hy, rfl⟩
      · rcases List.mem_cons.1 q with rfl | q
        · exact .inr ⟨e, by simp, rfl⟩
        · exact .inl q
      · exact .inr ⟨y, by simp [hy], rfl⟩

structure St (ops : Array Oper) (a0 : Act) (spec : Nat → Spec) (k : Nat) (E : List Ent) (H : List Fact) (a : Act) (u : Nat → Value) : Prop where
  ent : ∀ e ∈ E, e.k < k ∧ e.dst = dstAt ops e.k ∧ (∀ v, (spec e.k).pv v → e.pv v) ∧ ∀ vs v w, (spec e.k).f vs v w → e.f v w
  nodup : (E.map (·.k)).Nodup
  facts : ∀ x ∈ H, x.1 < k ∧ ∀ vs v w, (spec x.1).pv v → (spec x.1).f vs v w → x.2 vs w
  frame : Filled a0 (dstAt ops) (fun j => j < k ∧ ∀ e ∈ E, e.k ≠ j) u a
  known : ∀ j, j < k → (∀ e ∈ E, e.k ≠ j) → ∀ v, (spec j).pv v → v = u j

theorem St.fill {m : Nat} {anc : Nat → Nat → Bool} (ok : Rely.Ok ops m anc) {a0 : Act} {spec : Nat → Spec} {k : Nat} {E : List Ent} {H : List Fact} {a : Act} {u : Nat → Value} (st : St ops a0 spec k E H a u) (hk : k ≤ m) {vs : Nat → Value} (hvs : ∀ j, j < k → (spec j).pv (vs j))
    {K : List Fact → Act → (Nat → Value) → Prop} (h : fillE E H a u K) :
    ∃ H' a' u', K H' a' u' ∧ Filled a0 (dstAt ops) (fun j => j < k) vs a' ∧ (∀ j, j < k → u' j = vs j) ∧ ∀ x ∈ H', x.1 < k ∧ ∀ us w, (spec x.1).f us (vs x.1) w → x.2 us w := by
  have hfl' : Filled a0 (dstAt ops) (fun j => j < k ∧ ∀ e ∈ E, e.k ≠ j) vs a := st.frame.congr (fun _ => Iff.rfl) (fun j hj => st.known j hj.1 hj.2 _ (hvs j hj.1))
  have hall : ∀ j, j < k → ((j < k ∧ ∀ e ∈ E, e.k ≠ j) ∨ ∃ e ∈ E, e.k = j) := fun j hj => by
    by_cases hex : ∃ e ∈ E, e.k = j
    · exact .inr hex
    · exact .inl ⟨hj, fun e he q => hex ⟨e, he, q⟩⟩
  obtain ⟨H', a', u', hK, hf, hu, hH⟩ := fill_spec ok E H a u _ (fun e he => by
    obtain ⟨h1, h2, h3, _⟩ := st.ent e he
    exact ⟨by omega, h2, h3 _ (hvs _ h1), fun q => q.2 e he rfl⟩) st.nodup (fun j hj => by have := hj.1; omega) hfl' (fun j hj => (st.known j hj.1 hj.2 _ (hvs j hj.1)).symm) h
  refine ⟨H', a', u', hK, hf.congr (fun j => ?_) (fun _ _ => rfl), fun j hj => hu j (hall j hj), fun x hx => ?_⟩
  · constructor
    · exact hall j
    · rintro (q | ⟨e, he, rfl⟩)
      · exact q.1
      · exact (st.ent e he).1
  · rcases hH x hx with q | ⟨e, he, rfl⟩
    · obtain ⟨h1, h2⟩ := st.facts x q
      exact ⟨h1, fun us w hw => h2 us _ w (hvs _ h1) hw⟩
    · obtain ⟨h1, _, _, h4⟩ := st.ent e he
      exact ⟨h1, fun us w hw => h4 us _ w hw⟩

theorem OpOk.congr {W0 : World} {S : Nat → Prop} {wl : List Nat} {anc : Nat → Nat → Bool} {a0 : Act} {spec spec' : Nat → Spec} {k : Nat} (h : OpOk P ops W0 S wl anc a0 spec k) (e : ∀ j, j ≤ k → spec' j = spec j) : OpOk P ops W0 S wl anc a0 spec' k := by
  obtain ⟨h1, h2⟩ := h
  unfold OpOk
  rw [e k (Nat.le_refl _)]
  refine ⟨h1, fun o ho vs hvs a' ha' => ?_⟩
  rcases h2 o ho vs (fun j hj => by rw [← e j (by omega)]; exact hvs j hj) a' ha' with ⟨hw, h⟩ | h
  · exact .inl ⟨hw, fun w hk hs hf => h w hk hs fun j hj hkj => by rw [← e j (by omega)]; exact hf j hj hkj⟩
  · exact .inr h

theorem opOk_rely {m : Nat} {W0 : World} {S : Nat → Prop} {wl : List Nat} {anc : Nat → Nat → Bool} (ok : Rely.Ok ops m anc) {a0 : Act} {spec spec' : Nat → Spec} {k : Nat} {E : List Ent} {H : List Fact} {a : Act} {u : Nat → Value} {o : Oper} (st : St ops a0 spec k E H a u) (hk : k < m) (ho : ops[k]? = some o)
    {s : Spec} (hs' : spec' k = s) (hs : ∀ j, j < k → spec' j = spec j) (hne : ∃ v, s.pv v) (h : RelyOp P ops W0 S wl anc k o E H a u (fun us v w' => s.pv v ∧ s.f us v w')) : OpOk P ops W0 S wl anc a0 spec' k := by
  have hkn : k < ops.size := Nat.lt_of_lt_of_le hk ok.le
  unfold OpOk
  rw [hs']
  refine ⟨hne, fun o' ho' vs hvs a' ha' => ?_⟩
  rw [ho] at ho'
  cases ho'
  obtain ⟨H', a'', u', hK, hf, hu, hH⟩ := st.fill ok (by omega) (vs := vs) (fun j hj => by rw [← hs j hj]; exact hvs j hj) h
  have e := hf.unique ha'
  subst e
  have hmk : ∀ j, j ≤ k → maskV anc j u' = maskV anc j vs := fun j hj => maskV_congr (fun i hi => hu i (by have := ok.lt (by omega) hi; omega))
  refine .inl ⟨hK.1, fun w hw hst hfa => ?_⟩
  have := hK.2 w hw (.intro hst <| met_of H' fun x hx hsee => (hfa x.1 (hH x hx).1 hsee).imp fun w0 hw0 => (hH x hx).2 _ w0 (by rw [hmk x.1 (by have := (hH x hx).1; omega), ← hs x.1 (hH x hx).1]; exact hw0))
  rw [hmk k (Nat.le_refl _)] at this
  unfold relyAt at this ⊢
  generalize (execOp a''.eval o).run P w = r at *
  cases r with
  | ok n w' =>
    cases n <;> simp only [relyUpon] at this ⊢
    case value v => exact ⟨this.1.1, this.1.2, this.2⟩
    case skip => exact ⟨this.1.1, this.1.2, this.2⟩
    case enter f args => exact this.mono fun e w'' ⟨v, he, ht⟩ => ⟨v, he, ht.1.1, ht.1.2, ht.2⟩
  | halt x w' => simp only [relyUpon] at this

theorem rely_tab {m : Nat} {W0 : World} {S : Nat → Prop} {wl : List Nat} {anc : Nat → Nat → Bool} {Q : Act → World → Prop} (ok : Rely.Ok ops m anc) {a0 : Act} : ∀ (l : List Oper) (k : Nat) (E : List Ent) (H : List Fact) (a : Act) (u : Nat → Value) (spec : Nat → Spec),
    (∀ j o, l[j]? = some o → ops[k + j]? = some o) → k + l.length = m → St ops a0 spec k E H a u → (∀ k', k' < k → OpOk P ops W0 S wl anc a0 spec k') → wpRely P ops W0 S wl anc Q l k E H a u →
    ∃ spec' : Nat → Spec, (∀ k', k' < m → OpOk P ops W0 S wl anc a0 spec' k') ∧
      ∀ vs : Nat → Value, (∀ j, j < m → (spec' j).pv (vs j)) → ∀ a w, Filled a0 (dstAt ops) (fun j => j < m) vs a → Keeps S W0 w → (∀ j, j < m → FactAt W0 S (calmEnd wl anc j) ((spec' j).f (maskV anc j vs) (vs j)) w) → Q a w
  | [], k, E, H, a, u, spec, _, hk, st, hop, h => by
    simp only [List.length_nil, Nat.add_zero] at hk
    subst hk
    refine ⟨spec, hop, fun vs hvs a' w ha' hw hfa => ?_⟩
    obtain ⟨H', a'', u', hK, hf, hu, hH⟩ := st.fill ok (Nat.le_refl _) hvs h
    have e := hf.unique ha'
    subst e
    refine hK w hw (met_of H' fun x hx _ => (hfa x.1 (hH x hx).1).imp fun w0 hw0 => (hH x hx).2 _ w0 ?_)
    have hxk := (hH x hx).1
    rw [show maskV anc x.1 u' = maskV anc x.1 vs from maskV_congr (fun i hi => hu i (by have := ok.lt (Nat.lt_of_lt_of_le hxk ok.le) hi; omega))]
    exact hw0
  | o :: r, k, E, H, a, u, spec, hl, hk, st, hop, h => by
    have ho : ops[k]? = some o := by simpa using hl 0 o (by simp)
    have hkm : k < m := by simp at hk; omega
    have hdk : o.dst = dstAt ops k := by simp [dstAt, ho]
    have hl' : ∀ j o', r[j]? = some o' → ops[k + 1 + j]? = some o' := fun j o' hj => by
      have := hl (j + 1) o' (by simpa using hj)
      rwa [show k + 1 + j = k + (j + 1) by omega]
    have hk' : k + 1 + r.length = m := by simp at hk; omega
    have keyLt : ∀ (s : Spec) j, j < k → (fun j => if j = k then s else spec j) j = spec j := fun s j hj => by simp [show j ≠ k by omega]
    have hop' : ∀ s : Spec, OpOk P ops W0 S wl anc a0 (fun j => if j = k then s else spec j) k → ∀ k', k' < k + 1 → OpOk P ops W0 S wl anc a0 (fun j => if j = k then s else spec j) k' := fun s hs k' hlt => by
      rcases Nat.lt_or_ge k' k with q | q
      · exact (hop k' q).congr fun j hj => keyLt s j (by omega)
      · rw [show k' = k by omega]; exact hs
    have stKnown : ∀ (v0 : Value) (F0 : (Nat → Value) → World → Prop) (H' : List Fact), (∀ x ∈ H', x ∈ H ∨ x = (k, F0)) → St ops a0 (fun j => if j = k then ⟨fun v => v = v0, fun us _ => F0 us⟩ else spec j) (k + 1) E H' (a.put o.dst v0) (fun i => if i = k then v0 else u i) := fun v0 F0 H' hH' => by
      refine ⟨fun e he => ?_, st.nodup, fun x hx => ?_, ?_, fun j hj hE v hv => ?_⟩
      · obtain ⟨h1, h2, h3, h4⟩ := st.ent e he
        simp only [if_neg (Nat.ne_of_lt h1)]
        exact ⟨by omega, h2, h3, h4⟩
      · rcases hH' x hx with q | rfl
        · obtain ⟨h1, h2⟩ := st.facts x q
          simp only [if_neg (Nat.ne_of_lt h1)]
          exact ⟨by omega, h2⟩
        · refine ⟨by simp, fun us v w _ hw => ?_⟩
          simpa using hw
      · rw [hdk]
        refine st.frame.put k (fun j t hj hd => ok.dist k j t hkm (by omega) (by omega) hd) v0 (by simp) (fun j hj => by simp [show j ≠ k by omega]) (fun j => ?_)
        constructor
        · rintro ⟨h1, h2⟩
          by_cases e : j = k
          · exact .inl e
          · exact .inr ⟨by omega, h2⟩
        · rintro (rfl | ⟨h1, h2⟩)
          · exact ⟨by omega, fun e he q => by have := (st.ent e he).1; omega⟩
          · exact ⟨by omega, h2⟩
      · by_cases e : j = k
        · subst e; simpa using hv
        · simp only [e, if_false] at hv ⊢
          exact st.known j (by omega) hE v hv
    rcases h with ⟨v0, F0, hr, hn⟩ | ⟨hw, hn⟩ | ⟨pv, F, hne, hr, hn⟩
    · exact rely_tab ok r (k + 1) E _ _ _ _ hl' hk' (stKnown v0 F0 ((k, F0) :: H) (fun x hx => (List.mem_cons.1 hx).symm))
        (hop' _ (opOk_rely ok st hkm ho (s := ⟨fun v => v = v0, fun us _ => F0 us⟩) (by simp) (fun j hj => keyLt _ j hj) ⟨v0, rfl⟩ hr)) hn
    · refine rely_tab ok r (k + 1) E _ _ _ _ hl' hk' (stKnown undef (fun _ _ => True) H (fun x hx => .inl hx)) (hop' _ ?_) hn
      unfold OpOk
      simp only [if_true]
      refine ⟨⟨undef, rfl⟩, fun o' ho' vs hvs a' ha' => ?_⟩
      rw [ho] at ho'
      cases ho'
      obtain ⟨H', a'', u', hK, hf, hu, hH⟩ := st.fill ok (by omega) (vs := vs) (fun j hj => by have := hvs j hj; simpa [show j ≠ k by omega] using this) hw
      have e := hf.unique ha'
      subst e
      exact .inr ⟨hK, trivial, fun _ => trivial⟩
    · refine rely_tab ok r (k + 1) _ H a u _ hl' hk' ⟨fun e he => ?_, ?_, fun x hx => ?_, ?_, fun j hj hE v hv => ?_⟩
        (hop' ⟨pv, fun _ => F⟩ (opOk_rely ok st hkm ho (s := ⟨pv, fun _ => F⟩) (by simp) (fun j hj => keyLt _ j hj) hne hr)) hn
      · rcases List.mem_cons.1 he with rfl | he
        · exact ⟨by simp, hdk, fun v hv => by simpa using hv, fun us v w hw => by simpa using hw⟩
        · obtain ⟨h1, h2, h3, h4⟩ := st.ent e he
          simp only [if_neg (Nat.ne_of_lt h1)]
          exact ⟨by omega, h2, h3, h4⟩
      · rw [List.map_cons, List.nodup_cons]
        refine ⟨fun q => ?_, st.nodup⟩
        obtain ⟨e, he, q⟩ := List.mem_map.1 q
        have := (st.ent e he).1
        simp only at q
        omega
      · obtain ⟨h1, h2⟩ := st.facts x hx
        simp only [if_neg (Nat.ne_of_lt h1)]
        exact ⟨by omega, h2⟩
      · refine st.frame.congr (fun j => ?_) (fun _ _ => rfl)
        constructor
        · rintro ⟨h1, h2⟩
          have hjk : j ≠ k := fun q => h2 ⟨k, o.dst, pv, F⟩ (by simp) q.symm
          exact ⟨by omega, fun e he => h2 e (by simp [he])⟩
        · rintro ⟨h1, h2⟩
          refine ⟨by omega, fun e he => ?_⟩
          rcases List.mem_cons.1 he with rfl | he
          · simp only; omega
          · exact h2 e he
      · have hjk : j ≠ k := fun q => hE ⟨k, o.dst, pv, F⟩ (by simp) q.symm
        simp only [hjk, if_false] at hv
        exact st.known j (by omega) (fun e he => hE e (by simp [he])) v hv

/-- One walk serves every order: the first m operations by what they yield, the others as they stand. -/
theorem wp_region_rely {id : Nat} {l : List Oper} {Q : Exit → Act → World → Prop} {a : Act} {w : World} (m : Nat) (S : Nat → Prop) (wl : List Nat) (hm : P.follows .mixedOrders = true) (hB : Rely.okB l.toArray m = true)
    (h : wpRely P l.toArray w S wl (ancB (masks l.toArray l.toArray.size)) (fun a w => wpList P l.toArray Q (l.drop m) a w) (l.take m) 0 [] [] a (fun _ => undef)) : (Code.region id l.toArray true).wp P Q a w := by
  have ok := Rely.ok hB
  have hle := ok.le
  simp only [List.size_toArray] at hle
  obtain ⟨spec, hop, hend⟩ := rely_tab (P := P) ok (a0 := a) (l.take m) 0 [] [] a (fun _ => undef) (fun _ => ⟨fun _ => True, fun _ _ _ => True⟩) (fun j o hj => by
    rw [List.getElem?_take] at hj
    split at hj
    · simpa using hj
    · cases hj) (by rw [List.length_take]; omega)
    ⟨fun e he => absurd he (by simp), List.nodup_nil, fun x hx => absurd hx (by simp), (Filled.start (vs := fun _ => undef)).congr (fun j => by simp) (fun _ h => h.elim), fun j hj => absurd hj (by omega)⟩ (fun k hk => absurd hk (by omega)) h
  refine wp_region_any hm ?_
  have hex : ∀ j, ∃ v, j < m → (spec j).pv v := fun j => by
    by_cases hj : j < m
    · obtain ⟨v, hv⟩ := (hop j hj).1
      exact ⟨v, fun _ => hv⟩
    · exact ⟨undef, fun h => absurd h hj⟩
  obtain ⟨vs, hvs⟩ := Classical.axiomOfChoice hex
  refine any_order ok hop (fun vs hvs a w hf hk hfa => ?_) _ _ vs _ _ ?_ ⟨by simp, hvs, ?_, ?_, ⟨rfl, rfl, rfl, Nat.le_refl _, fun _ _ _ => rfl⟩, fun j hj => ?_, fun i hi => ?_, fun j hj hl => ?_⟩
  · have := hend vs hvs a w hf hk hfa
    have e := wpOps_eq_wpList (P := P) (ops := l.toArray) (Q := Q) (l.drop m) m (fun j => by rw [List.getElem?_drop]; simp)
    rw [List.length_drop] at e
    rw [List.size_toArray, e]
    exact this
  · unfold cnt
    rw [List.filter_eq_self.2 (fun j hj => by simp at hj; simp [hj])]
    simp
  · exact (Filled.start (vs := vs)).congr (fun j => by simp [Array.getElem?_replicate]; intro _; split <;> simp) (fun _ h => h.elim)
  · exact ⟨rfl, rfl, rfl, Nat.le_refl _, fun _ _ _ => rfl⟩
  · simp [Array.getElem?_replicate]; split <;> simp
  · exfalso; simp [Array.getElem?_replicate] at hi; split at hi <;> simp at hi
  · exfalso; simp [Array.getElem?_replicate] at hl; split at hl <;> simp at hl

attribute [go_sem] relyAt relyUpon

/-! ### Steps -/

theorem wpRely_step {W0 : World} {S : Nat → Prop} {wl : List Nat} {anc : Nat → Nat → Bool} {Q : Act → World → Prop} {o : Oper} {r : List Oper} {k : Nat} {E : List Ent} {H : List Fact} {a : Act} {u : Nat → Value}
    (h : ∀ K : List Ent → List Fact → Act → (Nat → Value) → Prop, (∀ E H a u, wpRely P ops W0 S wl anc Q r (k + 1) E H a u → K E H a u) →
      (∃ (v0 : Value) (F0 : (Nat → Value) → World → Prop), RelyOp P ops W0 S wl anc k o E H a u (fun u' => KnF v0 (F0 u')) ∧ K E ((k, F0) :: H) (a.put o.dst v0) (fun i => if i = k then v0 else u i)) ∨
      (fillE E H a u (fun _ a' _ => Region.wanted o (yielded ops a'.tmps) = false) ∧ K E H (a.put o.dst undef) (fun i => if i = k then undef else u i)) ∨
      (∃ (pv : Value → Prop) (F : Value → World → Prop), (∃ v, pv v) ∧ RelyOp P ops W0 S wl anc k o E H a u (fun _ => UnF pv F) ∧ K (⟨k, o.dst, pv, F⟩ :: E) H a u)) :
    wpRely P ops W0 S wl anc Q (o :: r) k E H a u := h _ (fun _ _ _ _ h => h)

theorem relyAt_value {o : Oper} {a : Act} {w : World} {u : Value} {T : Value → World → Prop} (h : (execOp a.eval o).run P w = .ok (.value u) w) (ht : T u w) : relyAt P o a w T := by
  unfold relyAt
  rw [h]
  exact ht
theorem relyAt_value' {o : Oper} {a : Act} {w w' : World} {u : Value} {T : Value → World → Prop} (h : (execOp a.eval o).run P w = .ok (.value u) w') (ht : T u w') : relyAt P o a w T := by
  unfold relyAt
  rw [h]
  exact ht
/-- A call that hands back one value and makes memory at most. -/
theorem rely_det {S : Nat → Prop} {u : Nat → Value} {f : FuncId} {args : Array Value} {w : World} {v0 : Value} (h : Calls P f args w fun e w' => e = .returned v0 ∧ Below w.heap.size w w') :
    Calls P f args w (EndsV (Post (KnF v0 (Any u)) S w)) := h.mono fun _ _ ⟨he, hb⟩ => ⟨v0, he, ⟨rfl, trivial⟩, Keeps.of_same hb⟩

theorem Keeps.rules {S : Nat → Prop} {w w' : World} (h : Keeps S w w') {B : Nat} (hB : B ≤ w.heap.size) (hS : ∀ b, b < B → ¬ S b) :
    (∀ b o, b < B → w'.cell? ⟨b, o, none⟩ = w.cell? ⟨b, o, none⟩) ∧ (∀ b o, b < B → w'.frozen? ⟨b, o, none⟩ = w.frozen? ⟨b, o, none⟩) :=
  ⟨fun b o hb => h.cell (p := ⟨b, o, none⟩) (Nat.lt_of_lt_of_le hb hB) (hS b hb), fun b o hb => h.frozen (p := ⟨b, o, none⟩) (Nat.lt_of_lt_of_le hb hB) (hS b hb)⟩
theorem Keeps.all {w w' : World} (h : Keeps nowhere w w') :
    (∀ b o, b < w.heap.size → w'.cell? ⟨b, o, none⟩ = w.cell? ⟨b, o, none⟩) ∧ (∀ b o, b < w.heap.size → w'.frozen? ⟨b, o, none⟩ = w.frozen? ⟨b, o, none⟩) :=
  h.rules (Nat.le_refl _) (fun _ _ h => h)
theorem Keeps.same {w w' : World} (h : Keeps nowhere w w') : Below w.heap.size w w' := h.below (Nat.le_refl _) (fun _ _ h => h)
theorem wpRely_nil {W0 : World} {S : Nat → Prop} {wl : List Nat} {anc : Nat → Nat → Bool} {Q : Act → World → Prop} {k : Nat} {E : List Ent} {H : List Fact} {a : Act} {u : Nat → Value}
    (h : fillE E H a u fun H' a' u' => ∀ w, Keeps S W0 w → Met W0 S (fun _ => true) (calmEnd wl anc) anc u' H' w → Q a' w) : wpRely P ops W0 S wl anc Q [] k E H a u := h
theorem FactAt.out {W0 : World} {c : Bool} {Φ : World → Prop} {w : World} (h : FactAt W0 nowhere c Φ w) : ∃ w0, Below W0.heap.size W0 w0 ∧ Below w0.heap.size w0 w ∧ Φ w0 := by
  obtain ⟨w0, k0, k1, hf⟩ := h
  exact ⟨w0, k0.same, (k1.mono (S' := nowhere) fun b h => h.2).same, hf⟩
end
end Go.Proofs.Ytahobohfknnhhaa
