/-
  The region law once more, where what is known of a value that is not told may speak of the values ahead of it: for regions whose results are taken apart by operations that no edge binds ahead of a store.
-/
import Derived.Test.YtdogjdgfidbfhaaDoorMBase
namespace Go.Proofs.YtdogjdgfidbfhaaDoor
set_option linter.unusedSimpArgs false
set_option linter.unusedVariables false
set_option linter.unusedSectionVars false
open Go.RowKit Go.Maps
/-- A goal put behind a wall, so that nothing looks into it. -/
structure Wall (p : Prop) : Prop where
  out : p
theorem stopG {p : Prop} (h : Wall p) : p := h.out
section
variable {P : Program} {ops : Array Oper}
/-! ### The walk in the text's order -/

structure EntU where
  k : Nat
  dst : Option Tmp
  pv : Value → Prop
  f : (Nat → Value) → Value → World → Prop

/-- Every value that the entries let be is put into the frame. -/
def fillU : List EntU → List Fact → Act → (Nat → Value) → (List Fact → Act → (Nat → Value) → Prop) → Prop
  | [], H, a, u, K => K H a u
  | e :: r, H, a, u, K => ∀ v, e.pv v → fillU r ((e.k, fun us => e.f us v) :: H) (a.put e.dst v) (fun i => if i = e.k then v else u i) K

def RelyOpU (P : Program) (ops : Array Oper) (W0 : World) (S : Nat → Prop) (wl : List Nat) (anc : Nat → Nat → Bool) (k : Nat) (o : Oper) (E : List EntU) (H : List Fact) (a : Act) (u : Nat → Value) (T : (Nat → Value) → Value → World → Prop) : Prop :=
  fillU E H a u fun H' a' u' => Region.wanted o (yielded ops a'.tmps) = true ∧ ∀ w, Keeps S W0 w → (Keeps (fun b => startAt wl anc k = false ∧ S b) W0 w ∧ Met W0 S (anc k) (calmAt wl anc k) anc u' H' w) → relyAt P o a' w (Post (T (maskV anc k u')) (fun b => wl.contains k = true ∧ S b) w)

def wpRelyU (P : Program) (ops : Array Oper) (W0 : World) (S : Nat → Prop) (wl : List Nat) (anc : Nat → Nat → Bool) (Q : Act → World → Prop) : List Oper → Nat → List EntU → List Fact → Act → (Nat → Value) → Prop
  | [], _, E, H, a, u => fillU E H a u fun H' a' u' => ∀ w, Keeps S W0 w → Met W0 S (fun _ => true) (calmEnd wl anc) anc u' H' w → Q a' w
  | o :: r, k, E, H, a, u =>
    (∃ (v0 : Value) (F0 : (Nat → Value) → World → Prop), RelyOpU P ops W0 S wl anc k o E H a u (fun u' => KnF v0 (F0 u')) ∧ wpRelyU P ops W0 S wl anc Q r (k + 1) E ((k, F0) :: H) (a.put o.dst v0) (fun i => if i = k then v0 else u i)) ∨
    (fillU E H a u (fun _ a' _ => Region.wanted o (yielded ops a'.tmps) = false) ∧ wpRelyU P ops W0 S wl anc Q r (k + 1) E H (a.put o.dst undef) (fun i => if i = k then undef else u i)) ∨
    (∃ (pv : Value → Prop) (F : (Nat → Value) → Value → World → Prop), (∃ v, pv v) ∧ RelyOpU P ops W0 S wl anc k o E H a u (fun us => UnF pv (F us)) ∧ wpRelyU P ops W0 S wl anc Q r (k + 1) (⟨k, o.dst, pv, F⟩ :: E) H a u)

theorem fill_specU {m : Nat} {anc : Nat → Nat → Bool} (ok : Rely.Ok ops m anc) {a0 : Act} {vs : Nat → Value} {K : List Fact → Act → (Nat → Value) → Prop} : ∀ (E : List EntU) (H : List Fact) (a : Act) (u : Nat → Value) (L : Nat → Prop),
    (∀ e ∈ E, e.k < m ∧ e.dst = dstAt ops e.k ∧ e.pv (vs e.k) ∧ ¬ L e.k) → (E.map (·.k)).Nodup → (∀ j, L j → j < m) → Filled a0 (dstAt ops) L vs a → (∀ j, L j → u j = vs j) → fillU E H a u K →
    ∃ H' a' u', K H' a' u' ∧ Filled a0 (dstAt ops) (fun j => L j ∨ ∃ e ∈ E, e.k = j) vs a' ∧ (∀ j, (L j ∨ ∃ e ∈ E, e.k = j) → u' j = vs j) ∧ ∀ x ∈ H', x ∈ H ∨ ∃ e ∈ E, x = (e.k, fun us => e.f us (vs e.k))
  | [], H, a, u, L, _, _, _, hf, hu, h => ⟨H, a, u, h, hf.congr (fun j => by simp) (fun _ _ => rfl), fun j hj => by simp at hj; exact hu j hj, fun x hx => .inl hx⟩
  | e :: r, H, a, u, L, hE, hn, hL, hf, hu, h => by
    obtain ⟨h1, h2, h3, h4⟩ := hE e (by simp)
    rw [List.map_cons, List.nodup_cons] at hn
    have h' := h (vs e.k) h3
    rw [h2] at h'
    have hf' : Filled a0 (dstAt ops) (fun j => j = e.k ∨ L j) vs (a.put (dstAt ops e.k) (vs e.k)) :=
      hf.put e.k (fun j t hj hd => ok.dist e.k j t h1 (hL j hj) (fun q => h4 (q ▸ hj)) hd) _ rfl (fun _ _ => rfl) (fun j => Iff.rfl)
    obtain ⟨H', a', u', hK, hfill, hu', hH⟩ := fill_specU ok r _ _ _ (fun j => j = e.k ∨ L j) (fun x hx => by
      obtain ⟨q1, q2, q3, q4⟩ := hE x (by simp [hx])
      refine ⟨q1, q2, q3, ?_⟩
      rintro (q | q)
      · exact hn.1 (by rw [← q]; exact List.mem_map.2 ⟨x, hx, rfl⟩)
      · exact q4 q) hn.2 (fun j hj => by
      rcases hj with rfl | hj
      · exact h1
      · exact hL j hj) hf' (fun j hj => by
      by_cases q : j = e.k
      · simp [q]
      · simp only [q, if_false]
        exact hu j (hj.resolve_left q)) h'
    refine ⟨H', a', u', hK, hfill.congr (fun j => ?_) (fun _ _ => rfl), fun j hj => hu' j ?_, fun x hx => ?_⟩
    · constructor
      · rintro (q | ⟨x, hx, rfl⟩)
        · exact .inl (.inr q)
        · rcases List.mem_cons.1 hx with rfl | hx
          · exact .inl (.inl rfl)
          · exact .inr ⟨x, hx, rfl⟩
      · rintro ((rfl | q) | ⟨x, hx, rfl⟩)
        · exact .inr ⟨e, by simp, rfl⟩
        · exact .inl q
        · exact .inr ⟨x, by simp [hx], rfl⟩
    · rcases hj with q | ⟨x, hx, rfl⟩
      · exact .inl (.inr q)
      · rcases List.mem_cons.1 hx with rfl | hx
        · exact .inl (.inl rfl)
        · exact .inr ⟨x, hx, rfl⟩
    · rcases hH x hx with q | ⟨y, hy, rfl⟩
      · rcases List.mem_cons.1 q with rfl | q
        · exact .inr ⟨e, by simp, rfl⟩
        · exact .inl q
      · exact .inr ⟨y, by simp [hy], rfl⟩

structure StU (ops : Array Oper) (a0 : Act) (spec : Nat → Spec) (k : Nat) (E : List EntU) (H : List Fact) (a : Act) (u : Nat → Value) : Prop where
  ent : ∀ e ∈ E, e.k < k ∧ e.dst = dstAt ops e.k ∧ (∀ v, (spec e.k).pv v → e.pv v) ∧ ∀ vs v w, (spec e.k).f vs v w → e.f vs v w
  nodup : (E.map (·.k)).Nodup
  facts : ∀ x ∈ H, x.1 < k ∧ ∀ vs v w, (spec x.1).pv v → (spec x.1).f vs v w → x.2 vs w
  frame : Filled a0 (dstAt ops) (fun j => j < k ∧ ∀ e ∈ E, e.k ≠ j) u a
  known : ∀ j, j < k → (∀ e ∈ E, e.k ≠ j) → ∀ v, (spec j).pv v → v = u j

theorem StU.fill {m : Nat} {anc : Nat → Nat → Bool} (ok : Rely.Ok ops m anc) {a0 : Act} {spec : Nat → Spec} {k : Nat} {E : List EntU} {H : List Fact} {a : Act} {u : Nat → Value} (st : StU ops a0 spec k E H a u) (hk : k ≤ m) {vs : Nat → Value} (hvs : ∀ j, j < k → (spec j).pv (vs j))
    {K : List Fact → Act → (Nat → Value) → Prop} (h : fillU E H a u K) :
    ∃ H' a' u', K H' a' u' ∧ Filled a0 (dstAt ops) (fun j => j < k) vs a' ∧ (∀ j, j < k → u' j = vs j) ∧ ∀ x ∈ H', x.1 < k ∧ ∀ us w, (spec x.1).f us (vs x.1) w → x.2 us w := by
  have hfl' : Filled a0 (dstAt ops) (fun j => j < k ∧ ∀ e ∈ E, e.k ≠ j) vs a := st.frame.congr (fun _ => Iff.rfl) (fun j hj => st.known j hj.1 hj.2 _ (hvs j hj.1))
  have hall : ∀ j, j < k → ((j < k ∧ ∀ e ∈ E, e.k ≠ j) ∨ ∃ e ∈ E, e.k = j) := fun j hj => by
    by_cases hex : ∃ e ∈ E, e.k = j
    · exact .inr hex
    · exact .inl ⟨hj, fun e he q => hex ⟨e, he, q⟩⟩
  obtain ⟨H', a', u', hK, hf, hu, hH⟩ := fill_specU ok E H a u _ (fun e he => by
    obtain ⟨h1, h2, h3, _⟩ := st.ent e he
    exact ⟨by omega, h2, h3 _ (hvs _ h1), fun q => q.2 e he rfl⟩) st.nodup (fun j hj => by have := hj.1; omega) hfl' (fun j hj => (st.known j hj.1 hj.2 _ (hvs j hj.1)).symm) h
  refine ⟨H', a', u', hK, hf.congr (fun j => ?_) (fun _ _ => rfl), fun j hj => hu j (hall j hj), fun x hx => ?_⟩
  · constructor
    · exact hall j
    · rintro (q | ⟨e, he, rfl⟩)
      · exact q.1
      · exact (st.ent e he).1
  · rcases hH x hx with q | ⟨e, he, rfl⟩
    · obtain ⟨h1, h2⟩ := st.facts x q
      exact ⟨h1, fun us w hw => h2 us _ w (hvs _ h1) hw⟩
    · obtain ⟨h1, _, _, h4⟩ := st.ent e he
      exact ⟨h1, fun us w hw => h4 us _ w hw⟩

theorem opOk_relyU {m : Nat} {W0 : World} {S : Nat → Prop} {wl : List Nat} {anc : Nat → Nat → Bool} (ok : Rely.Ok ops m anc) {a0 : Act} {spec spec' : Nat → Spec} {k : Nat} {E : List EntU} {H : List Fact} {a : Act} {u : Nat → Value} {o : Oper} (st : StU ops a0 spec k E H a u) (hk : k < m) (ho : ops[k]? = some o)
    {s : Spec} (hs' : spec' k = s) (hs : ∀ j, j < k → spec' j = spec j) (hne : ∃ v, s.pv v) (h : RelyOpU P ops W0 S wl anc k o E H a u (fun us v w' => s.pv v ∧ s.f us v w')) : OpOk P ops W0 S wl anc a0 spec' k := by
  have hkn : k < ops.size := Nat.lt_of_lt_of_le hk ok.le
  unfold OpOk
  rw [hs']
  refine ⟨hne, fun o' ho' vs hvs a' ha' => ?_⟩
  rw [ho] at ho'
  cases ho'
  obtain ⟨H', a'', u', hK, hf, hu, hH⟩ := st.fill ok (by omega) (vs := vs) (fun j hj => by rw [← hs j hj]; exact hvs j hj) h
  have e := hf.unique ha'
  subst e
  have hmk : ∀ j, j ≤ k → maskV anc j u' = maskV anc j vs := fun j hj => maskV_congr (fun i hi => hu i (by have := ok.lt (by omega) hi; omega))
  refine .inl ⟨hK.1, fun w hw hst hfa => ?_⟩
  have := hK.2 w hw (.intro hst <| met_of H' fun x hx hsee => (hfa x.1 (hH x hx).1 hsee).imp fun w0 hw0 => (hH x hx).2 _ w0 (by rw [hmk x.1 (by have := (hH x hx).1; omega), ← hs x.1 (hH x hx).1]; exact hw0))
  rw [hmk k (Nat.le_refl _)] at this
  unfold relyAt at this ⊢
  generalize (execOp a''.eval o).run P w = r at *
  cases r with
  | ok n w' =>
    cases n <;> simp only [relyUpon] at this ⊢
    case value v => exact ⟨this.1.1, this.1.2, this.2⟩
    case skip => exact ⟨this.1.1, this.1.2, this.2⟩
    case enter f args => exact this.mono fun e w'' ⟨v, he, ht⟩ => ⟨v, he, ht.1.1, ht.1.2, ht.2⟩
  | halt x w' => simp only [relyUpon] at this

theorem rely_tabU {m : Nat} {W0 : World} {S : Nat → Prop} {wl : List Nat} {anc : Nat → Nat → Bool} {Q : Act → World → Prop} (ok : Rely.Ok ops m anc) {a0 : Act} : ∀ (l : List Oper) (k : Nat) (E : List EntU) (H : List Fact) (a : Act) (u : Nat → Value) (spec : Nat → Spec),
    (∀ j o, l[j]? = some o → ops[k + j]? = some o) → k + l.length = m → StU ops a0 spec k E H a u → (∀ k', k' < k → OpOk P ops W0 S wl anc a0 spec k') → wpRelyU P ops W0 S wl anc Q l k E H a u →
    ∃ spec' : Nat → Spec, (∀ k', k' < m → OpOk P ops W0 S wl anc a0 spec' k') ∧
      ∀ vs : Nat → Value, (∀ j, j < m → (spec' j).pv (vs j)) → ∀ a w, Filled a0 (dstAt ops) (fun j => j < m) vs a → Keeps S W0 w → (∀ j, j < m → FactAt W0 S (calmEnd wl anc j) ((spec' j).f (maskV anc j vs) (vs j)) w) → Q a w
  | [], k, E, H, a, u, spec, _, hk, st, hop, h => by
    simp only [List.length_nil, Nat.add_zero] at hk
    subst hk
    refine ⟨spec, hop, fun vs hvs a' w ha' hw hfa => ?_⟩
    obtain ⟨H', a'', u', hK, hf, hu, hH⟩ := st.fill ok (Nat.le_refl _) hvs h
    have e := hf.unique ha'
    subst e
    refine hK w hw (met_of H' fun x hx _ => (hfa x.1 (hH x hx).1).imp fun w0 hw0 => (hH x hx).2 _ w0 ?_)
    have hxk := (hH x hx).1
    rw [show maskV anc x.1 u' = maskV anc x.1 vs from maskV_congr (fun i hi => hu i (by have := ok.lt (Nat.lt_of_lt_of_le hxk ok.le) hi; omega))]
    exact hw0
  | o :: r, k, E, H, a, u, spec, hl, hk, st, hop, h => by
    have ho : ops[k]? = some o := by simpa using hl 0 o (by simp)
    have hkm : k < m := by simp at hk; omega
    have hdk : o.dst = dstAt ops k := by simp [dstAt, ho]
    have hl' : ∀ j o', r[j]? = some o' → ops[k + 1 + j]? = some o' := fun j o' hj => by
      have := hl (j + 1) o' (by simpa using hj)
      rwa [show k + 1 + j = k + (j + 1) by omega]
    have hk' : k + 1 + r.length = m := by simp at hk; omega
    have keyLt : ∀ (s : Spec) j, j < k → (fun j => if j = k then s else spec j) j = spec j := fun s j hj => by simp [show j ≠ k by omega]
    have hop' : ∀ s : Spec, OpOk P ops W0 S wl anc a0 (fun j => if j = k then s else spec j) k → ∀ k', k' < k + 1 → OpOk P ops W0 S wl anc a0 (fun j => if j = k then s else spec j) k' := fun s hs k' hlt => by
      rcases Nat.lt_or_ge k' k with q | q
      · exact (hop k' q).congr fun j hj => keyLt s j (by omega)
      · rw [show k' = k by omega]; exact hs
    have stKnown : ∀ (v0 : Value) (F0 : (Nat → Value) → World → Prop) (H' : List Fact), (∀ x ∈ H', x ∈ H ∨ x = (k, F0)) → StU ops a0 (fun j => if j = k then ⟨fun v => v = v0, fun us _ => F0 us⟩ else spec j) (k + 1) E H' (a.put o.dst v0) (fun i => if i = k then v0 else u i) := fun v0 F0 H' hH' => by
      refine ⟨fun e he => ?_, st.nodup, fun x hx => ?_, ?_, fun j hj hE v hv => ?_⟩
      · obtain ⟨h1, h2, h3, h4⟩ := st.ent e he
        simp only [if_neg (Nat.ne_of_lt h1)]
        exact ⟨by omega, h2, h3, h4⟩
      · rcases hH' x hx with q | rfl
        · obtain ⟨h1, h2⟩ := st.facts x q
          simp only [if_neg (Nat.ne_of_lt h1)]
          exact ⟨by omega, h2⟩
        · refine ⟨by simp, fun us v w _ hw => ?_⟩
          simpa using hw
      · rw [hdk]
        refine st.frame.put k (fun j t hj hd => ok.dist k j t hkm (by omega) (by omega) hd) v0 (by simp) (fun j hj => by simp [show j ≠ k by omega]) (fun j => ?_)
        constructor
        · rintro ⟨h1, h2⟩
          by_cases e : j = k
          · exact .inl e
          · exact .inr ⟨by omega, h2⟩
        · rintro (rfl | ⟨h1, h2⟩)
          · exact ⟨by omega, fun e he q => by have := (st.ent e he).1; omega⟩
          · exact ⟨by omega, h2⟩
      · by_cases e : j = k
        · subst e; simpa using hv
        · simp only [e, if_false] at hv ⊢
          exact st.known j (by omega) hE v hv
    rcases h with ⟨v0, F0, hr, hn⟩ | ⟨hw, hn⟩ | ⟨pv, F, hne, hr, hn⟩
    · exact rely_tabU ok r (k + 1) E _ _ _ _ hl' hk' (stKnown v0 F0 ((k, F0) :: H) (fun x hx => (List.mem_cons.1 hx).symm))
        (hop' _ (opOk_relyU ok st hkm ho (s := ⟨fun v => v = v0, fun us _ => F0 us⟩) (by simp) (fun j hj => keyLt _ j hj) ⟨v0, rfl⟩ hr)) hn
    · refine rely_tabU ok r (k + 1) E _ _ _ _ hl' hk' (stKnown undef (fun _ _ => True) H (fun x hx => .inl hx)) (hop' _ ?_) hn
      unfold OpOk
      simp only [if_true]
      refine ⟨⟨undef, rfl⟩, fun o' ho' vs hvs a' ha' => ?_⟩
      rw [ho] at ho'
      cases ho'
      obtain ⟨H', a'', u', hK, hf, hu, hH⟩ := st.fill ok (by omega) (vs := vs) (fun j hj => by have := hvs j hj; simpa [show j ≠ k by omega] using this) hw
      have e := hf.unique ha'
      subst e
      exact .inr ⟨hK, trivial, fun _ => trivial⟩
    · refine rely_tabU ok r (k + 1) _ H a u _ hl' hk' ⟨fun e he => ?_, ?_, fun x hx => ?_, ?_, fun j hj hE v hv => ?_⟩
        (hop' ⟨pv, fun us => F us⟩ (opOk_relyU ok st hkm ho (s := ⟨pv, fun us => F us⟩) (by simp) (fun j hj => keyLt _ j hj) hne hr)) hn
      · rcases List.mem_cons.1 he with rfl | he
        · exact ⟨by simp, hdk, fun v hv => by simpa using hv, fun us v w hw => by simpa using hw⟩
        · obtain ⟨h1, h2, h3, h4⟩ := st.ent e he
          simp only [if_neg (Nat.ne_of_lt h1)]
          exact ⟨by omega, h2, h3, h4⟩
      · rw [List.map_cons, List.nodup_cons]
        refine ⟨fun q => ?_, st.nodup⟩
        obtain ⟨e, he, q⟩ := List.mem_map.1 q
        have := (st.ent e he).1
        simp only at q
        omega
      · obtain ⟨h1, h2⟩ := st.facts x hx
        simp only [if_neg (Nat.ne_of_lt h1)]
        exact ⟨by omega, h2⟩
      · refine st.frame.congr (fun j => ?_) (fun _ _ => rfl)
        constructor
        · rintro ⟨h1, h2⟩
          have hjk : j ≠ k := fun q => h2 ⟨k, o.dst, pv, F⟩ (by simp) q.symm
          exact ⟨by omega, fun e he => h2 e (by simp [he])⟩
        · rintro ⟨h1, h2⟩
          refine ⟨by omega, fun e he => ?_⟩
          rcases List.mem_cons.1 he with rfl | he
          · simp only; omega
          · exact h2 e he
      · have hjk : j ≠ k := fun q => hE ⟨k, o.dst, pv, F⟩ (by simp) q.symm
        simp only [hjk, if_false] at hv
        exact st.known j (by omega) (fun e he => hE e (by simp [he])) v hv

/-- One walk serves every order: the first m operations by what they yield, the others as they stand. -/
theorem wp_region_relyU {id : Nat} {l : List Oper} {Q : Exit → Act → World → Prop} {a : Act} {w : World} (m : Nat) (S : Nat → Prop) (wl : List Nat) (hm : P.follows .mixedOrders = true) (hB : Rely.okB l.toArray m = true)
    (h : wpRelyU P l.toArray w S wl (ancB (masks l.toArray l.toArray.size)) (fun a w => wpList P l.toArray Q (l.drop m) a w) (l.take m) 0 [] [] a (fun _ => undef)) : (Code.region id l.toArray true).wp P Q a w := by
  have ok := Rely.ok hB
  have hle := ok.le
  simp only [List.size_toArray] at hle
  obtain ⟨spec, hop, hend⟩ := rely_tabU (P := P) ok (a0 := a) (l.take m) 0 [] [] a (fun _ => undef) (fun _ => ⟨fun _ => True, fun _ _ _ => True⟩) (fun j o hj => by
    rw [List.getElem?_take] at hj
    split at hj
    · simpa using hj
    · cases hj) (by rw [List.length_take]; omega)
    ⟨fun e he => absurd he (by simp), List.nodup_nil, fun x hx => absurd hx (by simp), (Filled.start (vs := fun _ => undef)).congr (fun j => by simp) (fun _ h => h.elim), fun j hj => absurd hj (by omega)⟩ (fun k hk => absurd hk (by omega)) h
  refine wp_region_any hm ?_
  have hex : ∀ j, ∃ v, j < m → (spec j).pv v := fun j => by
    by_cases hj : j < m
    · obtain ⟨v, hv⟩ := (hop j hj).1
      exact ⟨v, fun _ => hv⟩
    · exact ⟨undef, fun h => absurd h hj⟩
  obtain ⟨vs, hvs⟩ := Classical.axiomOfChoice hex
  refine any_order ok hop (fun vs hvs a w hf hk hfa => ?_) _ _ vs _ _ ?_ ⟨by simp, hvs, ?_, ?_, ⟨rfl, rfl, rfl, Nat.le_refl _, fun _ _ _ => rfl⟩, fun j hj => ?_, fun i hi => ?_, fun j hj hl => ?_⟩
  · have := hend vs hvs a w hf hk hfa
    have e := wpOps_eq_wpList (P := P) (ops := l.toArray) (Q := Q) (l.drop m) m (fun j => by rw [List.getElem?_drop]; simp)
    rw [List.length_drop] at e
    rw [List.size_toArray, e]
    exact this
  · unfold cnt
    rw [List.filter_eq_self.2 (fun j hj => by simp at hj; simp [hj])]
    simp
  · exact (Filled.start (vs := vs)).congr (fun j => by simp [Array.getElem?_replicate]; intro _; split <;> simp) (fun _ h => h.elim)
  · exact ⟨rfl, rfl, rfl, Nat.le_refl _, fun _ _ _ => rfl⟩
  · simp [Array.getElem?_replicate]; split <;> simp
  · exfalso; simp [Array.getElem?_replicate] at hi; split at hi <;> simp at hi
  · exfalso; simp [Array.getElem?_replicate] at hl; split at hl <;> simp at hl



theorem wpRelyU_step {W0 : World} {S : Nat → Prop} {wl : List Nat} {anc : Nat → Nat → Bool} {Q : Act → World → Prop} {o : Oper} {r : List Oper} {k : Nat} {E : List EntU} {H : List Fact} {a : Act} {u : Nat → Value}
    (h : ∀ K : List EntU → List Fact → Act → (Nat → Value) → Prop, (∀ E H a u, wpRelyU P ops W0 S wl anc Q r (k + 1) E H a u → K E H a u) →
      (∃ (v0 : Value) (F0 : (Nat → Value) → World → Prop), RelyOpU P ops W0 S wl anc k o E H a u (fun u' => KnF v0 (F0 u')) ∧ K E ((k, F0) :: H) (a.put o.dst v0) (fun i => if i = k then v0 else u i)) ∨
      (fillU E H a u (fun _ a' _ => Region.wanted o (yielded ops a'.tmps) = false) ∧ K E H (a.put o.dst undef) (fun i => if i = k then undef else u i)) ∨
      (∃ (pv : Value → Prop) (F : (Nat → Value) → Value → World → Prop), (∃ v, pv v) ∧ RelyOpU P ops W0 S wl anc k o E H a u (fun us => UnF pv (F us)) ∧ K (⟨k, o.dst, pv, F⟩ :: E) H a u)) :
    wpRelyU P ops W0 S wl anc Q (o :: r) k E H a u := h _ (fun _ _ _ _ h => h)
theorem wpRelyU_nil {W0 : World} {S : Nat → Prop} {wl : List Nat} {anc : Nat → Nat → Bool} {Q : Act → World → Prop} {k : Nat} {E : List EntU} {H : List Fact} {a : Act} {u : Nat → Value}
    (h : fillU E H a u fun H' a' u' => ∀ w, Keeps S W0 w → Met W0 S (fun _ => true) (calmEnd wl anc) anc u' H' w → Q a' w) : wpRelyU P ops W0 S wl anc Q [] k E H a u := h
/-- The order of the operations behind a name: what must have come up ahead is asked for one by one ('by rw [HA.out]; kernel_rfl'). -/
theorem wp_region_relyV {id : Nat} {l : List Oper} {Q : Exit → Act → World → Prop} {a : Act} {w : World} (m : Nat) (S : Nat → Prop) (wl : List Nat) (hm : P.follows .mixedOrders = true) (hB : Rely.okB l.toArray m = true)
    (h : ∀ anc : Nat → Nat → Bool, Hid (anc = ancB (masks l.toArray l.toArray.size)) → wpRelyU P l.toArray w S wl anc (fun a w => wpList P l.toArray Q (l.drop m) a w) (l.take m) 0 [] [] a (fun _ => undef)) : (Code.region id l.toArray true).wp P Q a w :=
  wp_region_relyU m S wl hm hB (h _ (Lib.hid rfl))
theorem fRelyStore {a : Act} {w : World} {T : Value → World → Prop} {ty' : TypeId} {pos : String} {af : Array Edge} {d : Option Tmp} {gd : Option (Tmp × Bool)} (ty : TypeId) {x y : Operand} (g : Nat) (cells : Array Value) (t : TypeId) (old : Array Value) (hx : a.eval x = .pointer (some ⟨g, 0, none⟩)) (hy : a.eval y = .agg cells)
    (hg : Blk w g t old) (hi : (P.info? ty).map (·.size) = some cells.size) (hold : old.size = cells.size) (h1 : cells.all (·.oneCell') = true)
    (hT : T undef (w.setRow g cells)) : relyAt P { dst := d, op := .store ty x y, type := ty', pos := pos, after := af, guard := gd } a w T := by
  unfold relyAt execOp
  simp only [hx, hy, Instr.storeAt, Instr.sureAddr, Sem.run_bind, Sem.run_pure, Result.andThen_ok, run_storeVar_row w g t ty old cells hg hi hold h1]
  exact hT
theorem fRelyLoad {a : Act} {w : World} {T : Value → World → Prop} {ty' : TypeId} {pos : String} {af : Array Edge} {d : Option Tmp} {gd : Option (Tmp × Bool)} (ty : TypeId) {x : Operand} (g : Nat) (t : TypeId) (cs : Array Value) {dd : TypeDesc} (hx : a.eval x = .pointer (some ⟨g, 0, none⟩))
    (hg : Blk w g t cs) (hu : P.underlying ty = some dd) (hd : (match dd with | .struct _ | .array _ _ => true | _ => false) = true) (hi : (P.info? ty).map (·.size) = some cs.size)
    (hT : T (.agg cs) w) : relyAt P { dst := d, op := .load ty x, type := ty', pos := pos, after := af, guard := gd } a w T := by
  unfold relyAt execOp
  simp only [hx, Instr.loadAt, Instr.sureAddr, Sem.run_bind, Sem.run_pure, Result.andThen_ok, run_loadVar_row w g t ty cs (0, 0) dd hg hu hd hi, relyUpon]
  exact hT
end
end Go.Proofs.YtdogjdgfidbfhaaDoor
