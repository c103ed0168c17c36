/-
  Part of a proof: ShRe ShRw ShCa. For all values.
-/
import Derived.Test.YtplpimkgihnmhaaGreatDoorA28
import Derived.Test.YtplpimkgihnmhaaGreatDoorA30
import Derived.Test.YtplpimkgihnmhaaGreatDoorA31
set_option maxRecDepth 100000
set_option maxHeartbeats 2000000
set_option linter.all false
namespace Go.Proofs.YtplpimkgihnmhaaGreatDoor
open Go.Proofs.Tryz Go.RowKit
section
attribute [local go_sem↓] Go.wp_at_zero Go.wp_at_succ
theorem GM(g0:Nat)(z:Nat->Int)(A:Option Addr)(n c:Nat)(f:Nat->Nat->Int)(w:World)(h:qY w (some ⟨g0,0,none⟩) 32 32 z)(hb:∀i,i<32->0<=z i/\z i<18446744073709551616)(hr:eE z)(hs:PQ LG w A n c f)(ha:jL f n)(hn:n<=4)(hc:z 28+n<=1099511627776):
 Calls prog 149 #[.slice (some ⟨g0,0,none⟩) 32 32,.slice A n c] w fun e w'=>∃g A' c',e=.returned (.tuple #[.slice (some ⟨g,0,none⟩) 32 32,.slice A' (bd f z n).length c',.agg #[.int .i64 0,.int .i64 (-1)]])/\(∃D,aY w' g 23 D/\cH D 32 (dW (bz f z n))/\w.heap.size<=g)/\cU w' w.heap.size 159 6 A' (bd f z n).length c' (bd f z n)/\Below w.heap.size w w':=by
 obtain⟨h1,h2,h3,h4,h5⟩:=tZ hr hb ha hc n (Nat.le_refl _)
 refine(MS _ _ z A n c f w h hr hs I).mono ?_
 rintro e w' ⟨hb,h⟩
 rcases h with⟨k,hk,_,hne,_⟩|⟨_,g,D,A',c',rfl,hB,hU,hg,hO⟩
 .exact absurd (h5 k hk) hne
 exact⟨g,A',c',rfl,⟨D,hB,hU,hg⟩,hO,hb⟩
def Dk(n:Nat)(v:Value):Prop:=∃g A c,v=.tuple #[.slice (some ⟨g,0,none⟩) 32 32,.slice A n c,.agg #[.int .i64 0,.int .i64 (-1)]]
def Ez(B:Nat)(z:Nat->Int)(rows:List (List Value))(v:Value)(w':World):Prop:=∃g A c,v=.tuple #[.slice (some ⟨g,0,none⟩) 32 32,.slice A rows.length c,.agg #[.int .i64 0,.int .i64 (-1)]]/\(∃D,aY w' g 23 D/\cH D 32 z/\B<=g)/\cU w' B 159 6 A rows.length c rows
def ZB(v:Value):Prop:=∃b,v=.pointer (some ⟨b,0,none⟩)
def TN(B:Nat)(ty:TypeId)(C:Array Value)(v:Value)(w':World):Prop:=∃b,v=.pointer (some ⟨b,0,none⟩)/\aY w' b ty C/\B<=b
noncomputable def cQ.recked (θ:cQ) (t:Nat):cQ:={θ with r:=dW (bz θ.asks θ.r θ.na),deeds:=bd θ.asks θ.r θ.na,o1:=nV (dW (bz θ.asks θ.r θ.na)) t,o2:=nW (dW (bz θ.asks θ.r θ.na)) t,wn:=nL (dW (bz θ.asks θ.r θ.na)) t}
theorem QP{w:World}{a b:Nat}{t u:TypeId}{C E:Array Value}(h1:aY w a t C)(h2:aY w b u E)(h:t≠u):a≠b:=by
 intro e
 subst e
 have:=h1.symm.trans h2
 simp at this
 exact h this.2
theorem RK{w:World}{B:Nat}{e:TypeId}{m n c:Nat}{A:Option Addr}{rows:List (List Value)}(h:cU w B e m A n c rows){b:Nat}{u:TypeId}{C:Array Value}(h2:aY w b u C)(hn:e≠u):¬iI A b:=by
 rintro⟨a,ha,rfl⟩
 obtain⟨h1,h3⟩:=h.own
 rcases h3 with⟨h3,_⟩|⟨g',cap,cur,hv,hb,hg,_⟩
 .simp only[Value.slice.injEq]at h3
  rw[h3.1]at ha;cases ha
 simp only[Value.slice.injEq]at hv
 rw[hv.1]at ha
 cases ha
 exact QP (show aY w g' e cur from hg) h2 hn rfl
section
variable{w:World}{tag:Nat->Nat}{t:Nat}{θ:cQ}{last:Int}{q:Nat}{RA:Option Addr}{cr:Nat}{D:Option Addr}{cd:Nat}{Jh:List (List Value)}{ended:Bool}
theorem OR (e0 : mG) (h : lT w tag t θ last e0.q RA cr D cd [] ended) (i : Nat) (i' : Int) (hi' : i' = i) (h4 : i = 4) (ht : t < 4) (hv : oM w tag e0.v (130 + t) θ.ver) (hL : rN w tag t e0.l (eH θ.asks θ.na)) (hW : lF w tag t e0.w θ.r)
    (hr : eE θ.r) (ha : jL θ.asks θ.na) (hn : θ.na <= 4) (hc : θ.r 28 + θ.na <= 1099511627776) (Qx : θ.r 27 + 1 <= 1099511627776) (hvb : θ.ver <= 1099511627776) :
    Calls Tryz.prog 139 #[.pointer (some ⟨e0.p, 0, none⟩), .pointer (some ⟨e0.q, 0, none⟩), .int .i64 i', .pointer (some ⟨e0.l, 0, none⟩), .slice (some ⟨e0.w, 0, none⟩) 32 32, .pointer (some ⟨e0.v, 0, none⟩)] w fun e w' => e = .returned (.tuple #[]) /\ ∃ tag' env RA' cr' D' cd' rows', Kg (eJ t) w tag w' tag' /\ (env.p = e0.p /\ env.q = e0.q) /\ lT w' tag' t (θ.recked t) last e0.q RA' cr' D' cd' rows' ended /\ dD w' tag' env (kB (θ.ver + 1) 0 ++ (jP (θ.ver + 1) 0 ++ qI (θ.ver + 1))) rows' /\ lF w' tag' t env.w (θ.recked t).r := by
  subst hi'
  have hbd : ∀ i, i < 32 -> 0 <= θ.r i /\ θ.r i < 18446744073709551616 := by
    obtain ⟨_, E, _, hu⟩ := hW
    exact hu.bd
  obtain ⟨x1, x2, x3, x4, x5⟩ := tZ hr hbd ha hc θ.na (Nat.le_refl _)
  have hzr : eE (dW (bz θ.asks θ.r θ.na)) := rK x1 (by omega) (by rw [x3]; exact Qx)
  have hzb := sZ x1 x2
  clear x1 x2 x3 x4 x5
  have Rf := Lib.hid (fun (A : Option Addr) (c : Nat) (W : World) (hW : qY W (some ⟨e0.w, 0, none⟩) 32 32 θ.r) (hs : PQ LG W A θ.na c θ.asks) => GM e0.w θ.r A θ.na c θ.asks W hW hbd hr hs ha hn hc)
  have HAW := Lib.hid (CG ha)
  have HQ4 : Hid ((i : Int) = 4) := Lib.hid (by omega)
  clear h4
  have Hd := Lib.hid (KV e0 i w tag)
  have Pv := Lib.hid (h.below (GD e0 i w) (dX w tag [106, 106, 106, 106, 106, 106]))
  have Kz : Hid (Kg (eJ t) w tag ((((((w.alloc (.cells #[.pointer (some ⟨e0.p, 0, none⟩)] 47)).alloc (.cells #[.pointer (some ⟨e0.q, 0, none⟩)] 63)).alloc (.cells #[.int .i64 (i : Int)] 3)).alloc (.cells #[.pointer (some ⟨e0.l, 0, none⟩)] 248)).alloc (.cells #[.slice (some ⟨e0.w, 0, none⟩) 32 32] 91)).alloc (.cells #[.pointer (some ⟨e0.v, 0, none⟩)] 249)) _) := Lib.hid (Kg.start (GD e0 i w) (dX w tag [106, 106, 106, 106, 106, 106]))
  have HV0 : Hid (oM ((((((w.alloc (.cells #[.pointer (some ⟨e0.p, 0, none⟩)] 47)).alloc (.cells #[.pointer (some ⟨e0.q, 0, none⟩)] 63)).alloc (.cells #[.int .i64 (i : Int)] 3)).alloc (.cells #[.pointer (some ⟨e0.l, 0, none⟩)] 248)).alloc (.cells #[.slice (some ⟨e0.w, 0, none⟩) 32 32] 91)).alloc (.cells #[.pointer (some ⟨e0.v, 0, none⟩)] 249)) (fH w tag [106, 106, 106, 106, 106, 106]) e0.v (130 + t) θ.ver) := Lib.hid (hv.kept (S := bN) (aD.of_same (GD e0 i w)) (dX _ _ _) (fun _ x => x.elim))
  have Zn : Hid (rN ((((((w.alloc (.cells #[.pointer (some ⟨e0.p, 0, none⟩)] 47)).alloc (.cells #[.pointer (some ⟨e0.q, 0, none⟩)] 63)).alloc (.cells #[.int .i64 (i : Int)] 3)).alloc (.cells #[.pointer (some ⟨e0.l, 0, none⟩)] 248)).alloc (.cells #[.slice (some ⟨e0.w, 0, none⟩) 32 32] 91)).alloc (.cells #[.pointer (some ⟨e0.v, 0, none⟩)] 249)) (fH w tag [106, 106, 106, 106, 106, 106]) t e0.l (eH θ.asks θ.na)) := Lib.hid (hL.kept (S := bN) (aD.of_same (GD e0 i w)) (dX _ _ _) (fun _ x => x.elim))
  have Nr : Hid (lF ((((((w.alloc (.cells #[.pointer (some ⟨e0.p, 0, none⟩)] 47)).alloc (.cells #[.pointer (some ⟨e0.q, 0, none⟩)] 63)).alloc (.cells #[.int .i64 (i : Int)] 3)).alloc (.cells #[.pointer (some ⟨e0.l, 0, none⟩)] 248)).alloc (.cells #[.slice (some ⟨e0.w, 0, none⟩) 32 32] 91)).alloc (.cells #[.pointer (some ⟨e0.v, 0, none⟩)] 249)) (fH w tag [106, 106, 106, 106, 106, 106]) t e0.w θ.r) := Lib.hid (hW.kept (S := bN) (aD.of_same (GD e0 i w)) (dX _ _ _) (fun _ x => x.elim))
  have HRK : Hid ((θ.recked t).r = dW (bz θ.asks θ.r θ.na) /\ (θ.recked t).deeds = bd θ.asks θ.r θ.na /\ ∀ R D e, vN t (θ.recked t) last R D e = #[.int .i64 t, R, .int .i64 θ.a, .int .i64 θ.k, .int .i64 θ.v, .int .i64 θ.tg, .int .i64 last, .bool θ.said, .int .i64 (nV (dW (bz θ.asks θ.r θ.na)) t), .int .i64 (nW (dW (bz θ.asks θ.r θ.na)) t), .int .i64 (nL (dW (bz θ.asks θ.r θ.na)) t), D, .bool e]) := Lib.hid ⟨rfl, rfl, fun _ _ _ => rfl⟩
  have HZR := Lib.hid hzr
  have HZB := Lib.hid hzb
  clear h hv hL hW hr ha hc Qx hbd hzr hzb
  generalize hz : dW (bz θ.asks θ.r θ.na) = z at *
  generalize hdd : bd θ.asks θ.r θ.na = dd at *
  generalize hth' : θ.recked t = θ' at *
  clear hz hdd hth'
  go_enter Tryz.func139, Tryz.ntmps139
  go_upto_region 1 with (fail)
  show Code.wp _ _ _ _ ((((((w.alloc (.cells #[.pointer (some ⟨e0.p, 0, none⟩)] 47)).alloc (.cells #[.pointer (some ⟨e0.q, 0, none⟩)] 63)).alloc (.cells #[.int .i64 (i : Int)] 3)).alloc (.cells #[.pointer (some ⟨e0.l, 0, none⟩)] 248)).alloc (.cells #[.slice (some ⟨e0.w, 0, none⟩) 32 32] 91)).alloc (.cells #[.pointer (some ⟨e0.v, 0, none⟩)] 249))
  generalize ((((((w.alloc (.cells #[.pointer (some ⟨e0.p, 0, none⟩)] 47)).alloc (.cells #[.pointer (some ⟨e0.q, 0, none⟩)] 63)).alloc (.cells #[.int .i64 (i : Int)] 3)).alloc (.cells #[.pointer (some ⟨e0.l, 0, none⟩)] 248)).alloc (.cells #[.slice (some ⟨e0.w, 0, none⟩) 32 32] 91)).alloc (.cells #[.pointer (some ⟨e0.v, 0, none⟩)] 249)) = w0 at *
  generalize fH w tag [106, 106, 106, 106, 106, 106] = Gu at *
  generalize w.heap.size = b0 at *
  have q4 := HQ4.out
  obtain ⟨B, hB⟩ : ∃ B : Nat, B = w0.heap.size := ⟨_, rfl⟩
  have Ji := Lib.hid hB
  clear hB
  have ci : w0.cell? ⟨b0 + 1 + 1, 0, none⟩ = some (.int .i64 (i : Int)) := Hd.out.cell (b := b0 + 2) (k := 106) (ty := 3) (by simp [lB])
  have lw : b0 + 1 + 1 + 1 + 1 < w0.heap.size := Hd.out.lt (b := b0 + 4) (k := 106) (ty := 91) (v := e0.W) (by simp [lB])
  have cw : w0.cell? ⟨b0 + 1 + 1 + 1 + 1, 0, none⟩ = some (.slice (some ⟨e0.w, 0, none⟩) 32 32) := Hd.out.cell (b := b0 + 4) (k := 106) (ty := 91) (by simp [lB, mG.W])
  have ll : b0 + 1 + 1 + 1 < w0.heap.size := by omega
  have cl : w0.cell? ⟨b0 + 1 + 1 + 1, 0, none⟩ = some (.pointer (some ⟨e0.l, 0, none⟩)) := Hd.out.cell (b := b0 + 3) (k := 106) (ty := 248) (by simp [lB, cR])
  obtain ⟨tgl, A0, c0, hbl, hol, htA⟩ := Zn.out
  rw [oE] at hbl hol
  have cl2 : w0.cell? ⟨e0.l, 0, none⟩ = some (.slice A0 θ.na c0) := by rw [hbl.cell]; rfl
  have ll2 := hbl.lt
  have HSF := Lib.hid (AE hol HAW.out)
  have Wb : Hid (qY w0 (some ⟨e0.w, 0, none⟩) 32 32 θ.r) := Lib.hid (by
    obtain ⟨_, E, hE, hu⟩ := Nr.out
    have := qY.of_blk (o := 0) (n := 32) (c := 32) (m := 32) hE hu (by omega) (by omega) (by omega)
    simpa only [Nat.zero_add] using this)
  clear tgl hbl hol htA Zn HAW
  go_wp2
  refine hJ 12 bN [] (by kernel_rfl) (by kernel_rfl) ?_
  intro anc HA
  first | (with_reducible refine aI (fun K hK => ?_)) | (refine aI (fun K hK => ?_))
  refine .inl ?_
  apply Exists.intro
  refine ⟨cX, ?_, hK _ _ _ _ ?_⟩
  . simp only [bW, cM]
    refine ⟨?_, fun w9 Gq Gr => ?_⟩
    . first | rfl | (go_simp; done)
    with_reducible refine cC ?_
    have q := (Gq.cell (p := ⟨b0 + 1 + 1 + 1 + 1, 0, none⟩) lw (fun x => x)).trans cw
    with_reducible refine cL.mk ?_
    go_simp
    first
    | exact ⟨⟨rfl, trivial⟩, aD.refl _ _⟩
  clear hK K
  try simp only [Act.put, List.setIfInBounds_toArray, List.set_cons_zero, List.set_cons_succ]
  first | (with_reducible refine aI (fun K hK => ?_)) | (refine aI (fun K hK => ?_))
  refine .inl ?_
  apply Exists.intro
  refine ⟨cX, ?_, hK _ _ _ _ ?_⟩
  . simp only [bW, cM]
    refine ⟨?_, fun w9 Gq Gr => ?_⟩
    . first | rfl | (go_simp; done)
    with_reducible refine cC ?_
    have q := (Gq.cell (p := ⟨b0 + 1 + 1 + 1, 0, none⟩) ll (fun x => x)).trans cl
    with_reducible refine cL.mk ?_
    go_simp
    first
    | exact ⟨⟨rfl, trivial⟩, aD.refl _ _⟩
  clear hK K
  try simp only [Act.put, List.setIfInBounds_toArray, List.set_cons_zero, List.set_cons_succ]
  first | (with_reducible refine aI (fun K hK => ?_)) | (refine aI (fun K hK => ?_))
  refine .inl ?_
  apply Exists.intro
  refine ⟨cX, ?_, hK _ _ _ _ ?_⟩
  . simp only [bW, cM]
    refine ⟨?_, fun w9 Gq Gr => ?_⟩
    . first | rfl | (go_simp; done)
    go_simp
    first
    | exact ⟨⟨rfl, trivial⟩, aD.refl _ _⟩
  clear hK K
  try simp only [Act.put, List.setIfInBounds_toArray, List.set_cons_zero, List.set_cons_succ]
  first | (with_reducible refine aI (fun K hK => ?_)) | (refine aI (fun K hK => ?_))
  refine .inl ?_
  apply Exists.intro
  refine ⟨cX, ?_, hK _ _ _ _ ?_⟩
  . simp only [bW, cM]
    refine ⟨?_, fun w9 Gq Gr => ?_⟩
    . first | rfl | (go_simp; done)
    with_reducible refine cC ?_
    have q := (Gq.cell (p := ⟨e0.l, 0, none⟩) ll2 (fun x => x)).trans cl2
    with_reducible refine cL.mk ?_
    go_simp
    first
    | exact ⟨⟨rfl, trivial⟩, aD.refl _ _⟩
  clear hK K
  try simp only [Act.put, List.setIfInBounds_toArray, List.set_cons_zero, List.set_cons_succ]
  first | (with_reducible refine aI (fun K hK => ?_)) | (refine aI (fun K hK => ?_))
  refine .inr (.inr ⟨(Dk dd.length), (fun _ => Ez B z dd), ⟨_, 0, none, 0, rfl⟩, ?_, hK _ _ _ _ ?_⟩)
  . simp only [bW, cM]
    refine ⟨?_, fun w9 Gq Gr => ?_⟩
    . first | rfl | (go_simp; done)
    with_reducible refine cC ?_
    have Vt := HSF.out.below Gq.same
    have hu9 := Wb.out.below Gq.same
    have Ie : B <= w9.heap.size := by rw [Ji.out]; exact Gq.size
    with_reducible refine cL.mk ?_
    go_simp
    go_at_call 149
    with_reducible refine (Rf.out _ _ w9 hu9 Vt).mono ?_
    rintro e w' ⟨g', A', c', rfl, ⟨E', h1, h2, h3⟩, hO, hB'⟩
    exact ⟨_, rfl, ⟨⟨_, _, _, rfl⟩, ⟨_, _, _, rfl, ⟨E', h1, h2, Nat.le_trans Ie h3⟩, hO.mono Ie⟩⟩, aD.of_same hB'⟩
  clear hK K
  try simp only [Act.put, List.setIfInBounds_toArray, List.set_cons_zero, List.set_cons_succ]
  first | (with_reducible refine aI (fun K hK => ?_)) | (refine aI (fun K hK => ?_))
  refine .inr (.inr ⟨(Dk dd.length), (fun us v _ => v = us 4), ⟨_, 0, none, 0, rfl⟩, ?_, hK _ _ _ _ ?_⟩)
  . simp only [bW, cM]
    rintro _ ⟨g4, A4, c4, rfl⟩
    refine ⟨?_, fun w9 Gq Gr => ?_⟩
    . first | rfl | (go_simp; done)
    go_simp
    refine ⟨⟨⟨_, _, _, rfl⟩, ?_⟩, aD.refl _ _⟩
    unfold cV
    rw [if_pos (by rw [HA.out]; kernel_rfl)]
    rfl
  clear hK K
  try simp only [Act.put, List.setIfInBounds_toArray, List.set_cons_zero, List.set_cons_succ]
  first | (with_reducible refine aI (fun K hK => ?_)) | (refine aI (fun K hK => ?_))
  refine .inr (.inr ⟨TC, (fun us v _ => v = Ck 0 (us 4)), ⟨_, 0, rfl⟩, ?_, hK _ _ _ _ ?_⟩)
  . simp only [bW, cM]
    rintro _ ⟨g5, A5, c5, rfl⟩
    rintro _ ⟨g4, A4, c4, rfl⟩
    refine ⟨?_, fun w9 Gq Gr => ?_⟩
    . first | rfl | (go_simp; done)
    with_reducible refine cC ?_
    obtain ⟨Ru, hmet⟩ := Gr
    simp only [BX] at hmet
    obtain ⟨Yy, k0, k1, hq⟩ := hmet.2.1 (by rw [HA.out]; kernel_rfl)
    unfold cV at hq
    rw [if_pos (by rw [HA.out]; kernel_rfl)] at hq
    clear hmet k0 k1
    have HQ := Lib.hid hq
    clear hq
    with_reducible refine cL.mk ?_
    go_simp
    refine ⟨⟨⟨_, rfl⟩, ?_⟩, aD.refl _ _⟩
    unfold cV
    rw [if_pos (by rw [HA.out]; kernel_rfl)]
    exact congrArg (Ck 0) HQ.out
  clear hK K
  try simp only [Act.put, List.setIfInBounds_toArray, List.set_cons_zero, List.set_cons_succ]
  first | (with_reducible refine aI (fun K hK => ?_)) | (refine aI (fun K hK => ?_))
  refine .inr (.inr ⟨(RM dd.length), (fun us v _ => v = Ck 1 (us 4)), ⟨_, none, 0, rfl⟩, ?_, hK _ _ _ _ ?_⟩)
  . simp only [bW, cM]
    rintro _ ⟨g6, rfl⟩
    rintro _ ⟨g5, A5, c5, rfl⟩
    rintro _ ⟨g4, A4, c4, rfl⟩
    refine ⟨?_, fun w9 Gq Gr => ?_⟩
    . first | rfl | (go_simp; done)
    with_reducible refine cC ?_
    obtain ⟨Ru, hmet⟩ := Gr
    simp only [BX] at hmet
    obtain ⟨Yy, k0, k1, hq⟩ := hmet.2.1 (by rw [HA.out]; kernel_rfl)
    unfold cV at hq
    rw [if_pos (by rw [HA.out]; kernel_rfl)] at hq
    clear hmet k0 k1
    have HQ := Lib.hid hq
    clear hq
    with_reducible refine cL.mk ?_
    go_simp
    refine ⟨⟨⟨_, _, rfl⟩, ?_⟩, aD.refl _ _⟩
    unfold cV
    rw [if_pos (by rw [HA.out]; kernel_rfl)]
    exact congrArg (Ck 1) HQ.out
  clear hK K
  try simp only [Act.put, List.setIfInBounds_toArray, List.set_cons_zero, List.set_cons_succ]
  first | (with_reducible refine aI (fun K hK => ?_)) | (refine aI (fun K hK => ?_))
  refine .inl ?_
  apply Exists.intro
  refine ⟨cX, ?_, hK _ _ _ _ ?_⟩
  . simp only [bW, cM]
    rintro _ ⟨A7, c7, rfl⟩
    rintro _ ⟨g6, rfl⟩
    rintro _ ⟨g5, A5, c5, rfl⟩
    rintro _ ⟨g4, A4, c4, rfl⟩
    refine ⟨?_, fun w9 Gq Gr => ?_⟩
    . first | rfl | (go_simp; done)
    go_simp
    first
    | exact ⟨⟨rfl, trivial⟩, aD.refl _ _⟩
  clear hK K
  try simp only [Act.put, List.setIfInBounds_toArray, List.set_cons_zero, List.set_cons_succ]
  first | (with_reducible refine aI (fun K hK => ?_)) | (refine aI (fun K hK => ?_))
  refine .inr (.inr ⟨ZB, (fun _ => TN B 270 #[.int .i64 0, .int .i64 0]), ⟨_, 0, rfl⟩, ?_, hK _ _ _ _ ?_⟩)
  . simp only [bW, cM]
    rintro _ ⟨A7, c7, rfl⟩
    rintro _ ⟨g6, rfl⟩
    rintro _ ⟨g5, A5, c5, rfl⟩
    rintro _ ⟨g4, A4, c4, rfl⟩
    refine ⟨?_, fun w9 Gq Gr => ?_⟩
    . first | rfl | (go_simp; done)
    with_reducible refine cC ?_
    have Ie : B <= w9.heap.size := by rw [Ji.out]; exact Gq.size
    with_reducible refine cL.mk ?_
    go_simp
    refine ⟨⟨⟨_, rfl⟩, ⟨_, rfl, aY.new _ _ _, Ie⟩⟩, aD.of_same ((Below.refl _ _).alloc (Nat.le_refl _) _)⟩
  clear hK K
  try simp only [Act.put, List.setIfInBounds_toArray, List.set_cons_zero, List.set_cons_succ]
  first | (with_reducible refine aI (fun K hK => ?_)) | (refine aI (fun K hK => ?_))
  refine .inr (.inr ⟨TC, (fun us v _ => v = us 6), ⟨_, 0, rfl⟩, ?_, hK _ _ _ _ ?_⟩)
  . simp only [bW, cM]
    rintro _ ⟨b9, rfl⟩
    rintro _ ⟨A7, c7, rfl⟩
    rintro _ ⟨g6, rfl⟩
    rintro _ ⟨g5, A5, c5, rfl⟩
    rintro _ ⟨g4, A4, c4, rfl⟩
    refine ⟨?_, fun w9 Gq Gr => ?_⟩
    . first | rfl | (go_simp; done)
    go_simp
    refine ⟨⟨⟨_, rfl⟩, ?_⟩, aD.refl _ _⟩
    unfold cV
    rw [if_pos (by rw [HA.out]; kernel_rfl)]
    rfl
  clear hK K
  try simp only [Act.put, List.setIfInBounds_toArray, List.set_cons_zero, List.set_cons_succ]
  first | (with_reducible refine aI (fun K hK => ?_)) | (refine aI (fun K hK => ?_))
  refine .inr (.inr ⟨(RM dd.length), (fun us v _ => v = us 7), ⟨_, none, 0, rfl⟩, ?_, hK _ _ _ _ ?_⟩)
  . simp only [bW, cM]
    rintro _ ⟨g10, rfl⟩
    rintro _ ⟨b9, rfl⟩
    rintro _ ⟨A7, c7, rfl⟩
    rintro _ ⟨g6, rfl⟩
    rintro _ ⟨g5, A5, c5, rfl⟩
    rintro _ ⟨g4, A4, c4, rfl⟩
    refine ⟨?_, fun w9 Gq Gr => ?_⟩
    . first | rfl | (go_simp; done)
    go_simp
    refine ⟨⟨⟨_, _, rfl⟩, ?_⟩, aD.refl _ _⟩
    unfold cV
    rw [if_pos (by rw [HA.out]; kernel_rfl)]
    rfl
  clear hK K
  try simp only [Act.put, List.setIfInBounds_toArray, List.set_cons_zero, List.set_cons_succ]
  refine kS ?_
  simp only [cM]
  rintro _ ⟨Uk, Tr, rfl⟩ _ ⟨g10, rfl⟩ _ ⟨b9, rfl⟩ _ ⟨A7, c7, rfl⟩ _ ⟨g6, rfl⟩ _ ⟨g5, A5, c5, rfl⟩ _ ⟨g4, A4, c4, rfl⟩ w9 Gq hmet
  simp only [List.drop_succ_cons, List.drop_zero, List.drop, Act.put, List.setIfInBounds_toArray, List.set_cons_zero, List.set_cons_succ]
  with_reducible refine cC ?_
  simp only [BX] at hmet
  obtain ⟨wa, ka, kb, g', A', c', hv4, ⟨E', Gx, hE2, hE3⟩, hO⟩ := hmet.1 trivial
  obtain ⟨wb, _, _, h6⟩ := hmet.2.2.1 trivial
  obtain ⟨wb', _, _, h7⟩ := hmet.2.2.2.1 trivial
  obtain ⟨wc, kc, kd, b', Kx, hP, Oj⟩ := hmet.2.2.2.2.1 trivial
  obtain ⟨wd, _, _, h10⟩ := hmet.2.2.2.2.2.1 trivial
  obtain ⟨wd', _, _, Xc⟩ := hmet.2.2.2.2.2.2.1 trivial
  unfold cV at h6 h7 h10 Xc
  rw [if_pos (by rw [HA.out]; kernel_rfl)] at h6 h7 h10 Xc
  have e4 : g4 = g' /\ A4 = A' /\ c4 = c' := by
    have h := hv4
    simpa using h
  have e6 : g6 = g4 := by
    have h : Value.slice (some ⟨g6, 0, none⟩) 32 32 = .slice (some ⟨g4, 0, none⟩) 32 32 := h6
    simpa using h
  have e7 : A7 = A4 /\ c7 = c4 := by
    have h : Value.slice A7 dd.length c7 = .slice A4 dd.length c4 := h7
    simpa using h
  have e10 : g10 = g6 := by
    have h : Value.slice (some ⟨g10, 0, none⟩) 32 32 = .slice (some ⟨g6, 0, none⟩) 32 32 := h10
    simpa using h
  have Yk : Uk = A7 /\ Tr = c7 := by
    have h : Value.slice Uk dd.length Tr = .slice A7 dd.length c7 := Xc
    simpa using h
  have e9 : b9 = b' := by
    have h := Kx
    simpa using h
  have eg := e10.trans (e6.trans e4.1)
  have eA := Yk.1.trans (e7.1.trans e4.2.1)
  have ec := Yk.2.trans (e7.2.trans e4.2.2)
  clear h6 h7 h10 Xc hv4 Kx e4 e6 e7 e10 Yk hmet
  subst eg eA ec e9
  have kb' := (kb.mono (S' := bN) fun b hb => hb.2).same
  have kd' := (kd.mono (S' := bN) fun b hb => hb.2).same
  have Pp := hP.below kd' hP.lt
  have hE9 := Gx.below kb' Gx.lt
  have hO9 := hO.below kb'
  have HPF := Lib.hid Pp
  have hbw := Gq.same
  have hPB' : w0.heap.size <= b9 := by rw [<- Ji.out]; exact Oj
  have Hq : Hid (Below w0.heap.size w0 (w9.setRow b9 #[.int .i64 0, .int .i64 (-1)])) := Lib.hid (aL hbw hPB' _)
  have No : Hid (aY (w9.setRow b9 #[.int .i64 0, .int .i64 (-1)]) g10 23 E' /\ cH E' 32 z /\ B <= g10) := Lib.hid ⟨hE9.far_row (QP hE9 Pp (by decide)) _, hE2, hE3⟩
  have Ph : Hid (cU (w9.setRow b9 #[.int .i64 0, .int .i64 (-1)]) B 159 6 Uk dd.length Tr dd) := Lib.hid (hO9.kept (jD w9 b9 _) (fun a ha e => RK hO9 Pp (by decide) ⟨a, ha, e⟩))
  clear Pp hE9 hO9 kb kd kb' kd' ka kc hP Oj hPB' Gx hE2 hE3 hO hbw ci cw cl cl2 ll2 lw ll HSF Wb Rf
  with_reducible refine cL.mk ?_
  go_wp2_with (first
    | (with_reducible refine fK 270 b9 #[.int .i64 0, .int .i64 (-1)] 270 #[.int .i64 0, .int .i64 0] (by kernel_rfl) (by kernel_rfl) HPF.out (by kernel_rfl) (by kernel_rfl) (qD _ _) ?_)
    | fail)
  generalize w9.setRow b9 #[.int .i64 0, .int .i64 (-1)] = w1 at *
  with_reducible refine (zB (some ⟨g10, 0, none⟩) 32 z true w1 (by have := qY.of_blk (o := 0) (n := 32) (c := 32) (m := 32) No.out.1 No.out.2.1 (by omega) (by omega) (by omega); simpa only [Nat.zero_add] using this) ⟨fun _ => HZR.out, fun _ => rfl⟩).mono ?_
  rintro e w2 ⟨Gt, R, hsz, hone, rfl, hT⟩
  have HI : Hid ((Tryz.prog.info? 136).map (·.size) = some R.size) := by show _ = _; rw [mU, hsz]
  have Wk := Lib.hid hsz
  have Kn := Lib.hid hone
  have HRC := Lib.hid (hT rfl).1
  have In : B <= w2.heap.size := by rw [Ji.out]; exact Nat.le_trans Hq.out.size Gt.size
  have Hp : aD (cI w2.heap.size) w2 ((w2.alloc (.cells #[.int .i64 0, .slice none 0 0, .int .i64 0, .int .i64 0, .int .i64 0, .int .i64 0, .int .i64 0, .int .i64 0, .int .i64 0, .int .i64 0, .int .i64 0, .int .i64 0, .int .i64 0, .int .i64 0, .int .i64 0, .int .i64 0, .int .i64 0, .int .i64 0, .int .i64 0, .int .i64 0, .int .i64 0, .int .i64 0, .int .i64 0, .int .i64 0, .int .i64 0, .int .i64 0, .int .i64 0, .int .u64 0, .int .u64 0, .int .u64 0, .int .u64 0, .int .i64 0, .int .i64 0, .int .i64 0, .int .i64 0, .int .u64 0, .int .u64 0] 136)).setRow w2.heap.size R) := (aD.of_same (S := cI w2.heap.size) ((Below.refl _ _).alloc (Nat.le_refl _) _)).trans (jD _ _ _)
  have Vg := Hq.out.trans (Gt.mono Hq.out.size)
  have Mh : Hid (Below w0.heap.size w0 ((w2.alloc (.cells #[.int .i64 0, .slice none 0 0, .int .i64 0, .int .i64 0, .int .i64 0, .int .i64 0, .int .i64 0, .int .i64 0, .int .i64 0, .int .i64 0, .int .i64 0, .int .i64 0, .int .i64 0, .int .i64 0, .int .i64 0, .int .i64 0, .int .i64 0, .int .i64 0, .int .i64 0, .int .i64 0, .int .i64 0, .int .i64 0, .int .i64 0, .int .i64 0, .int .i64 0, .int .i64 0, .int .i64 0, .int .u64 0, .int .u64 0, .int .u64 0, .int .u64 0, .int .i64 0, .int .i64 0, .int .i64 0, .int .i64 0, .int .u64 0, .int .u64 0] 136)).setRow w2.heap.size R)) := Lib.hid (aL (Vg.alloc Vg.size _) Vg.size R)
  have Yl : Below w1.heap.size w1 ((w2.alloc (.cells #[.int .i64 0, .slice none 0 0, .int .i64 0, .int .i64 0, .int .i64 0, .int .i64 0, .int .i64 0, .int .i64 0, .int .i64 0, .int .i64 0, .int .i64 0, .int .i64 0, .int .i64 0, .int .i64 0, .int .i64 0, .int .i64 0, .int .i64 0, .int .i64 0, .int .i64 0, .int .i64 0, .int .i64 0, .int .i64 0, .int .i64 0, .int .i64 0, .int .i64 0, .int .i64 0, .int .i64 0, .int .u64 0, .int .u64 0, .int .u64 0, .int .u64 0, .int .i64 0, .int .i64 0, .int .i64 0, .int .i64 0, .int .u64 0, .int .u64 0] 136)).setRow w2.heap.size R) := aL (Gt.alloc Gt.size _) Gt.size R
  have Zv : Hid (aY ((w2.alloc (.cells #[.int .i64 0, .slice none 0 0, .int .i64 0, .int .i64 0, .int .i64 0, .int .i64 0, .int .i64 0, .int .i64 0, .int .i64 0, .int .i64 0, .int .i64 0, .int .i64 0, .int .i64 0, .int .i64 0, .int .i64 0, .int .i64 0, .int .i64 0, .int .i64 0, .int .i64 0, .int .i64 0, .int .i64 0, .int .i64 0, .int .i64 0, .int .i64 0, .int .i64 0, .int .i64 0, .int .i64 0, .int .u64 0, .int .u64 0, .int .u64 0, .int .u64 0, .int .i64 0, .int .i64 0, .int .i64 0, .int .i64 0, .int .u64 0, .int .u64 0] 136)).setRow w2.heap.size R) g10 23 E' /\ cH E' 32 z /\ B <= g10) := Lib.hid ⟨No.out.1.below Yl No.out.1.lt, No.out.2⟩
  have Qs := Lib.hid (Ph.out.below Yl)
  have Og : Hid (aY ((w2.alloc (.cells #[.int .i64 0, .slice none 0 0, .int .i64 0, .int .i64 0, .int .i64 0, .int .i64 0, .int .i64 0, .int .i64 0, .int .i64 0, .int .i64 0, .int .i64 0, .int .i64 0, .int .i64 0, .int .i64 0, .int .i64 0, .int .i64 0, .int .i64 0, .int .i64 0, .int .i64 0, .int .i64 0, .int .i64 0, .int .i64 0, .int .i64 0, .int .i64 0, .int .i64 0, .int .i64 0, .int .i64 0, .int .u64 0, .int .u64 0, .int .u64 0, .int .u64 0, .int .i64 0, .int .i64 0, .int .i64 0, .int .i64 0, .int .u64 0, .int .u64 0] 136)).setRow w2.heap.size R) w2.heap.size 136 R) := Lib.hid (aY.setRow (aY.new _ _ _) R)
  clear Gt hsz hone hT Hp Vg Yl No Ph Hq HPF
  go_wp2_with (with_reducible refine fK 136 w2.heap.size R 136 #[.int .i64 0, .slice none 0 0, .int .i64 0, .int .i64 0, .int .i64 0, .int .i64 0, .int .i64 0, .int .i64 0, .int .i64 0, .int .i64 0, .int .i64 0, .int .i64 0, .int .i64 0, .int .i64 0, .int .i64 0, .int .i64 0, .int .i64 0, .int .i64 0, .int .i64 0, .int .i64 0, .int .i64 0, .int .i64 0, .int .i64 0, .int .i64 0, .int .i64 0, .int .i64 0, .int .i64 0, .int .u64 0, .int .u64 0, .int .u64 0, .int .u64 0, .int .i64 0, .int .i64 0, .int .i64 0, .int .i64 0, .int .u64 0, .int .u64 0] (by kernel_rfl) (by kernel_rfl) (aY.new _ _ _) HI.out (by rw [Wk.out]; kernel_rfl) Kn.out ?_)
  generalize (w2.alloc (.cells #[.int .i64 0, .slice none 0 0, .int .i64 0, .int .i64 0, .int .i64 0, .int .i64 0, .int .i64 0, .int .i64 0, .int .i64 0, .int .i64 0, .int .i64 0, .int .i64 0, .int .i64 0, .int .i64 0, .int .i64 0, .int .i64 0, .int .i64 0, .int .i64 0, .int .i64 0, .int .i64 0, .int .i64 0, .int .i64 0, .int .i64 0, .int .i64 0, .int .i64 0, .int .i64 0, .int .i64 0, .int .u64 0, .int .u64 0, .int .u64 0, .int .u64 0, .int .i64 0, .int .i64 0, .int .i64 0, .int .i64 0, .int .u64 0, .int .u64 0] 136)).setRow w2.heap.size R = w3 at *
  generalize w2.heap.size = b2 at *
  have Ih : Hid (bI w0 Gu (fun b => if b < B then Gu b else if b = g10 then 150 + t else 105)) := Lib.hid (fun b hb => if_pos (by rw [Ji.out]; exact hb))
  have Np : Hid ((fun b => if b < B then Gu b else if b = g10 then 150 + t else 105) g10 = 150 + t /\ ∀ b, iI Uk b -> (fun b => if b < B then Gu b else if b = g10 then 150 + t else 105) b = 105) := Lib.hid ⟨by
    show (if g10 < B then _ else _) = _
    rw [if_neg (by have := Zv.out.2.2; omega), if_pos rfl], fun b hb => by
    have hn : b ≠ g10 := fun e => RK Qs.out Zv.out.1 (by decide) (e ▸ hb)
    show (if b < B then _ else _) = _
    obtain ⟨a, ha, rfl⟩ := hb
    rw [if_neg (by have := (Qs.out.lt a ha).1; omega), if_neg hn]⟩
  generalize (fun b => if b < B then Gu b else if b = g10 then 150 + t else 105) = Ha at *
  have Ho := Lib.hid (Pv.out.below Mh.out Ih.out)
  have Mt := Lib.hid (Kz.out.go Ih.out (aD.of_same (S := bN) Mh.out) (fun _ x => x.elim))
  have Hi := Lib.hid (Hd.out.kept (S := bN) (aD.of_same Mh.out) Ih.out (fun _ x => x.elim))
  have HV3 := Lib.hid (HV0.out.kept (S := bN) (aD.of_same Mh.out) Ih.out (fun _ x => x.elim))
  have hbq : e0.q < B := by rw [Ji.out]; exact Pv.out.blk.lt
  clear Pv Kz Hd HV0 Ih Mh Nr HI Wk Kn
  have c7 : w3.cell? ⟨b0 + 1, 0, none⟩ = some (.pointer (some ⟨e0.q, 0, none⟩)) := Hi.out.cell (b := b0 + 1) (k := 106) (ty := 63) (by simp [lB, cR])
  have l7 := Hi.out.lt (b := b0 + 1) (k := 106) (ty := 63) (v := cR e0.q) (by simp [lB])
  have n7 : ¬ cI e0.q (b0 + 1) := fun e => by
    have h1 := (Hi.out (b0 + 1, 106, 63, cR e0.q) (by simp [lB])).1
    have h2 := Ho.out.tg
    have e' : b0 + 1 = e0.q := e
    dsimp only at h1
    rw [e'] at h1
    omega
  have lq := Ho.out.blk.lt
  have n2 : ¬ cI e0.q b2 := fun e => by
    have e' : b2 = e0.q := e
    omega
  have Oi := Lib.hid Ho.out.blk
  have ht4i : (t : Int) < 4 := by omega
  have ht4j : (0 : Int) <= t := by omega
  have HWH : Hid (0 <= nL z t /\ nL z t <= 1099511627776) := Lib.hid (by
    obtain ⟨⟨_, _, Xz, _⟩, hall, _⟩ := HZR.out
    obtain ⟨⟨a1, a2, a3⟩, _⟩ := hall t ht
    have := (HZB.out (22 + t) (by omega)).1
    unfold nL
    constructor <;> omega)
  have wI : IntKind.i64.wrap (nL z t) = nL z t := dE (by have := HWH.out; omega) (by have := HWH.out; omega)
  have wU : IntKind.u64.wrap ((θ.ver : Int) + 1) = (θ.ver : Int) + 1 := sS (by omega) (by omega)
  have HRL : Hid (w3.rangeAt b2 (19 + t * 2) [.int .i64 (nV z t), .int .i64 (nW z t)]) := Lib.hid (by
    intro j v hv
    rcases (by have := (List.getElem?_eq_some_iff.1 hv).1; simp at this; omega : j = 0 \/ j = 1) with rfl | rfl
    . cases hv
      show w3.cell? ⟨b2, 19 + t * 2, none⟩ = _
      rw [Og.out.cell, show 19 + t * 2 = 19 + 2 * t by omega, HRC.out.ac_ t ht]
    . cases hv
      rw [Og.out.cell, show 19 + t * 2 + 1 = 20 + 2 * t by omega, HRC.out.av_ t ht])
  have cwh : w3.cell? ⟨b2, 27 + t, none⟩ = some (.int .u64 (nL z t)) := by rw [Og.out.cell, HRC.out.wh_ t ht]
  have l2 := Og.out.lt
  refine bK 25 (cI e0.q) [21, 24] (by kernel_rfl) (by kernel_rfl) ?_
  first | (with_reducible refine aC (fun K hK => ?_)) | (refine aC (fun K hK => ?_))
  refine .inl ?_
  apply Exists.intro
  refine ⟨cX, ?_, hK _ _ _ _ ?_⟩
  . simp only [bJ, bM]
    refine ⟨?_, fun w9 Gq Gw => ?_⟩
    . first | rfl | (go_simp; done)
    with_reducible refine cC ?_
    have q7 := (Gq.cell (p := ⟨b0 + 1, 0, none⟩) l7 n7).trans c7
    with_reducible refine cL.mk ?_
    go_simp
    first
    | exact ⟨⟨rfl, trivial⟩, aD.refl _ _⟩
  clear hK K
  try simp only [Act.put, List.setIfInBounds_toArray, List.set_cons_zero, List.set_cons_succ]
  first | (with_reducible refine aC (fun K hK => ?_)) | (refine aC (fun K hK => ?_))
  refine .inl ?_
  apply Exists.intro
  refine ⟨cX, ?_, hK _ _ _ _ ?_⟩
  . simp only [bJ, bM]
    refine ⟨?_, fun w9 Gq Gw => ?_⟩
    . first | rfl | (go_simp; done)
    with_reducible refine cC ?_
    have q7 := (Gq.cell (p := ⟨b0 + 1, 0, none⟩) l7 n7).trans c7
    with_reducible refine cL.mk ?_
    go_simp
    first
    | exact ⟨⟨rfl, trivial⟩, aD.refl _ _⟩
  clear hK K
  try simp only [Act.put, List.setIfInBounds_toArray, List.set_cons_zero, List.set_cons_succ]
  first | (with_reducible refine aC (fun K hK => ?_)) | (refine aC (fun K hK => ?_))
  refine .inl ?_
  apply Exists.intro
  refine ⟨cX, ?_, hK _ _ _ _ ?_⟩
  . simp only [bJ, bM]
    refine ⟨?_, fun w9 Gq Gw => ?_⟩
    . first | rfl | (go_simp; done)
    with_reducible refine cC ?_
    have q7 := (Gq.cell (p := ⟨b0 + 1, 0, none⟩) l7 n7).trans c7
    with_reducible refine cL.mk ?_
    go_simp
    first
    | exact ⟨⟨rfl, trivial⟩, aD.refl _ _⟩
  clear hK K
  try simp only [Act.put, List.setIfInBounds_toArray, List.set_cons_zero, List.set_cons_succ]
  first | (with_reducible refine aC (fun K hK => ?_)) | (refine aC (fun K hK => ?_))
  refine .inl ?_
  apply Exists.intro
  refine ⟨cX, ?_, hK _ _ _ _ ?_⟩
  . simp only [bJ, bM]
    refine ⟨?_, fun w9 Gq Gw => ?_⟩
    . first | rfl | (go_simp; done)
    go_simp
    first
    | exact ⟨⟨rfl, trivial⟩, aD.refl _ _⟩
  clear hK K
  try simp only [Act.put, List.setIfInBounds_toArray, List.set_cons_zero, List.set_cons_succ]
  first | (with_reducible refine aC (fun K hK => ?_)) | (refine aC (fun K hK => ?_))
  refine .inl ?_
  apply Exists.intro
  refine ⟨cX, ?_, hK _ _ _ _ ?_⟩
  . simp only [bJ, bM]
    refine ⟨?_, fun w9 Gq Gw => ?_⟩
    . first | rfl | (go_simp; done)
    with_reducible refine cC ?_
    have q7 := (Gq.cell (p := ⟨b0 + 1, 0, none⟩) l7 n7).trans c7
    with_reducible refine cL.mk ?_
    go_simp
    first
    | exact ⟨⟨rfl, trivial⟩, aD.refl _ _⟩
  clear hK K
  try simp only [Act.put, List.setIfInBounds_toArray, List.set_cons_zero, List.set_cons_succ]
  first | (with_reducible refine aC (fun K hK => ?_)) | (refine aC (fun K hK => ?_))
  refine .inl ?_
  apply Exists.intro
  refine ⟨cX, ?_, hK _ _ _ _ ?_⟩
  . simp only [bJ, bM]
    refine ⟨?_, fun w9 Gq Gw => ?_⟩
    . first | rfl | (go_simp; done)
    go_simp
    first
    | exact ⟨⟨rfl, trivial⟩, aD.refl _ _⟩
  clear hK K
  try simp only [Act.put, List.setIfInBounds_toArray, List.set_cons_zero, List.set_cons_succ]
  first | (with_reducible refine aC (fun K hK => ?_)) | (refine aC (fun K hK => ?_))
  refine .inl ?_
  apply Exists.intro
  refine ⟨cX, ?_, hK _ _ _ _ ?_⟩
  . simp only [bJ, bM]
    refine ⟨?_, fun w9 Gq Gw => ?_⟩
    . first | rfl | (go_simp; done)
    go_simp
    first
    | exact ⟨⟨rfl, trivial⟩, aD.refl _ _⟩
  clear hK K
  try simp only [Act.put, List.setIfInBounds_toArray, List.set_cons_zero, List.set_cons_succ]
  first | (with_reducible refine aC (fun K hK => ?_)) | (refine aC (fun K hK => ?_))
  refine .inl ?_
  apply Exists.intro
  refine ⟨cX, ?_, hK _ _ _ _ ?_⟩
  . simp only [bJ, bM]
    refine ⟨?_, fun w9 Gq Gw => ?_⟩
    . first | rfl | (go_simp; done)
    with_reducible refine cC ?_
    have q0 : w9.cell? ⟨e0.q, 0, none⟩ = some (.int .i64 (t : Int)) := (Oi.out.below (cA Gw.1 (by kernel_rfl)) lq).cell 0
    with_reducible refine cL.mk ?_
    go_simp
    first
    | exact ⟨⟨rfl, trivial⟩, aD.refl _ _⟩
  clear hK K
  try simp only [Act.put, List.setIfInBounds_toArray, List.set_cons_zero, List.set_cons_succ]
  first | (with_reducible refine aC (fun K hK => ?_)) | (refine aC (fun K hK => ?_))
  refine .inl ?_
  apply Exists.intro
  refine ⟨cX, ?_, hK _ _ _ _ ?_⟩
  . simp only [bJ, bM]
    refine ⟨?_, fun w9 Gq Gw => ?_⟩
    . first | rfl | (go_simp; done)
    go_simp
    first
    | exact ⟨⟨rfl, trivial⟩, aD.refl _ _⟩
  clear hK K
  try simp only [Act.put, List.setIfInBounds_toArray, List.set_cons_zero, List.set_cons_succ]
  first | (with_reducible refine aC (fun K hK => ?_)) | (refine aC (fun K hK => ?_))
  refine .inl ?_
  apply Exists.intro
  refine ⟨cX, ?_, hK _ _ _ _ ?_⟩
  . simp only [bJ, bM]
    refine ⟨?_, fun w9 Gq Gw => ?_⟩
    . first | rfl | (go_simp; done)
    go_simp
    first
    | exact ⟨⟨rfl, trivial⟩, aD.refl _ _⟩
  clear hK K
  try simp only [Act.put, List.setIfInBounds_toArray, List.set_cons_zero, List.set_cons_succ]
  first | (with_reducible refine aC (fun K hK => ?_)) | (refine aC (fun K hK => ?_))
  refine .inl ⟨.agg #[.int .i64 (nV z t), .int .i64 (nW z t)], cX, ?_, hK _ _ _ _ ?_⟩
  . simp only [bJ, bM]
    refine ⟨?_, fun w9 Gq Gw => ?_⟩
    . first | rfl | (go_simp; done)
    with_reducible refine cC ?_
    have HX : Hid (w9.rangeAt b2 (19 + t * 2) [.int .i64 (nV z t), .int .i64 (nW z t)]) := Lib.hid (fun j v hv => (Gq.cell (p := ⟨b2, 19 + t * 2 + j, none⟩) l2 n2).trans (HRL.out j v hv))
    with_reducible refine cL.mk ?_
    refine eG 44 _ rfl b2 (19 + t * 2) ?_ #[.int .i64 (nV z t), .int .i64 (nW z t)] _ HX.out Tryz.underlying44 rfl (by kernel_rfl) ⟨⟨rfl, trivial⟩, aD.refl _ _⟩
    first | rfl | (go_simp; done)
  clear hK K
  try simp only [Act.put, List.setIfInBounds_toArray, List.set_cons_zero, List.set_cons_succ]
  first | (with_reducible refine aC (fun K hK => ?_)) | (refine aC (fun K hK => ?_))
  refine .inl ?_
  apply Exists.intro
  refine ⟨cX, ?_, hK _ _ _ _ ?_⟩
  . simp only [bJ, bM]
    refine ⟨?_, fun w9 Gq Gw => ?_⟩
    . first | rfl | (go_simp; done)
    with_reducible refine cC ?_
    have q7 := (Gq.cell (p := ⟨b0 + 1, 0, none⟩) l7 n7).trans c7
    with_reducible refine cL.mk ?_
    go_simp
    first
    | exact ⟨⟨rfl, trivial⟩, aD.refl _ _⟩
  clear hK K
  try simp only [Act.put, List.setIfInBounds_toArray, List.set_cons_zero, List.set_cons_succ]
  first | (with_reducible refine aC (fun K hK => ?_)) | (refine aC (fun K hK => ?_))
  refine .inl ?_
  apply Exists.intro
  refine ⟨cX, ?_, hK _ _ _ _ ?_⟩
  . simp only [bJ, bM]
    refine ⟨?_, fun w9 Gq Gw => ?_⟩
    . first | rfl | (go_simp; done)
    go_simp
    first
    | exact ⟨⟨rfl, trivial⟩, aD.refl _ _⟩
  clear hK K
  try simp only [Act.put, List.setIfInBounds_toArray, List.set_cons_zero, List.set_cons_succ]
  first | (with_reducible refine aC (fun K hK => ?_)) | (refine aC (fun K hK => ?_))
  refine .inl ?_
  apply Exists.intro
  refine ⟨cX, ?_, hK _ _ _ _ ?_⟩
  . simp only [bJ, bM]
    refine ⟨?_, fun w9 Gq Gw => ?_⟩
    . first | rfl | (go_simp; done)
    go_simp
    first
    | exact ⟨⟨rfl, trivial⟩, aD.refl _ _⟩
  clear hK K
  try simp only [Act.put, List.setIfInBounds_toArray, List.set_cons_zero, List.set_cons_succ]
  first | (with_reducible refine aC (fun K hK => ?_)) | (refine aC (fun K hK => ?_))
  refine .inl ?_
  apply Exists.intro
  refine ⟨cX, ?_, hK _ _ _ _ ?_⟩
  . simp only [bJ, bM]
    refine ⟨?_, fun w9 Gq Gw => ?_⟩
    . first | rfl | (go_simp; done)
    with_reducible refine cC ?_
    have q0 : w9.cell? ⟨e0.q, 0, none⟩ = some (.int .i64 (t : Int)) := (Oi.out.below (cA Gw.1 (by kernel_rfl)) lq).cell 0
    with_reducible refine cL.mk ?_
    go_simp
    first
    | exact ⟨⟨rfl, trivial⟩, aD.refl _ _⟩
  clear hK K
  try simp only [Act.put, List.setIfInBounds_toArray, List.set_cons_zero, List.set_cons_succ]
  first | (with_reducible refine aC (fun K hK => ?_)) | (refine aC (fun K hK => ?_))
  refine .inl ?_
  apply Exists.intro
  refine ⟨cX, ?_, hK _ _ _ _ ?_⟩
  . simp only [bJ, bM]
    refine ⟨?_, fun w9 Gq Gw => ?_⟩
    . first | rfl | (go_simp; done)
    go_simp
    first
    | exact ⟨⟨rfl, trivial⟩, aD.refl _ _⟩
  clear hK K
  try simp only [Act.put, List.setIfInBounds_toArray, List.set_cons_zero, List.set_cons_succ]
  first | (with_reducible refine aC (fun K hK => ?_)) | (refine aC (fun K hK => ?_))
  refine .inl ?_
  apply Exists.intro
  refine ⟨cX, ?_, hK _ _ _ _ ?_⟩
  . simp only [bJ, bM]
    refine ⟨?_, fun w9 Gq Gw => ?_⟩
    . first | rfl | (go_simp; done)
    go_simp
    first
    | exact ⟨⟨rfl, trivial⟩, aD.refl _ _⟩
  clear hK K
  try simp only [Act.put, List.setIfInBounds_toArray, List.set_cons_zero, List.set_cons_succ]
  first | (with_reducible refine aC (fun K hK => ?_)) | (refine aC (fun K hK => ?_))
  refine .inl ?_
  apply Exists.intro
  refine ⟨cX, ?_, hK _ _ _ _ ?_⟩
  . simp only [bJ, bM]
    refine ⟨?_, fun w9 Gq Gw => ?_⟩
    . first | rfl | (go_simp; done)
    with_reducible refine cC ?_
    have q27 := (Gq.cell (p := ⟨b2, 27 + t, none⟩) l2 n2).trans cwh
    with_reducible refine cL.mk ?_
    go_simp
    first
    | exact ⟨⟨rfl, trivial⟩, aD.refl _ _⟩
  clear hK K
  try simp only [Act.put, List.setIfInBounds_toArray, List.set_cons_zero, List.set_cons_succ]
  first | (with_reducible refine aC (fun K hK => ?_)) | (refine aC (fun K hK => ?_))
  refine .inl ?_
  apply Exists.intro
  refine ⟨cX, ?_, hK _ _ _ _ ?_⟩
  . simp only [bJ, bM]
    refine ⟨?_, fun w9 Gq Gw => ?_⟩
    . first | rfl | (go_simp; done)
    go_simp
    first
    | exact ⟨⟨rfl, trivial⟩, aD.refl _ _⟩
  clear hK K
  try simp only [Act.put, List.setIfInBounds_toArray, List.set_cons_zero, List.set_cons_succ]
  first | (with_reducible refine aC (fun K hK => ?_)) | (refine aC (fun K hK => ?_))
  refine .inl ?_
  apply Exists.intro
  refine ⟨cX, ?_, hK _ _ _ _ ?_⟩
  . simp only [bJ, bM]
    refine ⟨?_, fun w9 Gq Gw => ?_⟩
    . first | rfl | (go_simp; done)
    go_simp
    first
    | exact ⟨⟨rfl, trivial⟩, aD.refl _ _⟩
  clear hK K
  try simp only [Act.put, List.setIfInBounds_toArray, List.set_cons_zero, List.set_cons_succ]
  first | (with_reducible refine aC (fun K hK => ?_)) | (refine aC (fun K hK => ?_))
  refine .inl ?_
  apply Exists.intro
  refine ⟨cX, ?_, hK _ _ _ _ ?_⟩
  . simp only [bJ, bM]
    refine ⟨?_, fun w9 Gq Gw => ?_⟩
    . first | rfl | (go_simp; done)
    go_simp
    first
    | exact ⟨⟨rfl, trivial⟩, aD.refl _ _⟩
  clear hK K
  try simp only [Act.put, List.setIfInBounds_toArray, List.set_cons_zero, List.set_cons_succ]
  first | (with_reducible refine aC (fun K hK => ?_)) | (refine aC (fun K hK => ?_))
  refine .inl ⟨undef, (fun _ w' => aY w' e0.q 140 (vN t θ last (.slice RA ([] : List (List Value)).length cr) (.slice Uk dd.length Tr) ended)), ?_, hK _ _ _ _ ?_⟩
  . simp only [bJ, bM]
    refine ⟨?_, fun w9 Gq Gw => ?_⟩
    . first | rfl | (go_simp; done)
    with_reducible refine cC ?_
    have HX := Lib.hid (Oi.out.below (cA Gw.1 (by kernel_rfl)) lq)
    have q11 : w9.cell? ⟨e0.q, 11, none⟩ = some (.slice D θ.deeds.length cd) := HX.out.cell 11
    have f11 := HX.out.frozen 11
    with_reducible refine cL.mk ?_
    go_simp
    refine ⟨⟨rfl, ?_⟩, (bP _ e0.q 11 _).mono fun b hb => by first | exact hb | exact ⟨by decide, hb⟩⟩
    exact HX.out.set_ 11 (.slice Uk dd.length Tr)
  clear hK K
  try simp only [Act.put, List.setIfInBounds_toArray, List.set_cons_zero, List.set_cons_succ]
  first | (with_reducible refine aC (fun K hK => ?_)) | (refine aC (fun K hK => ?_))
  refine .inl ?_
  apply Exists.intro
  refine ⟨cX, ?_, hK _ _ _ _ ?_⟩
  . simp only [bJ, bM]
    refine ⟨?_, fun w9 Gq Gw => ?_⟩
    . first | rfl | (go_simp; done)
    go_simp
    first
    | exact ⟨⟨rfl, trivial⟩, aD.refl _ _⟩
  clear hK K
  try simp only [Act.put, List.setIfInBounds_toArray, List.set_cons_zero, List.set_cons_succ]
  first | (with_reducible refine aC (fun K hK => ?_)) | (refine aC (fun K hK => ?_))
  refine .inl ?_
  apply Exists.intro
  refine ⟨cX, ?_, hK _ _ _ _ ?_⟩
  . simp only [bJ, bM]
    refine ⟨?_, fun w9 Gq Gw => ?_⟩
    . first | rfl | (go_simp; done)
    go_simp
    first
    | exact ⟨⟨rfl, trivial⟩, aD.refl _ _⟩
  clear hK K
  try simp only [Act.put, List.setIfInBounds_toArray, List.set_cons_zero, List.set_cons_succ]
  first | (with_reducible refine aC (fun K hK => ?_)) | (refine aC (fun K hK => ?_))
  refine .inl ⟨undef, (fun _ w' => aY w' e0.q 140 (vN t { θ with o1 := nV z t, o2 := nW z t } last (.slice RA ([] : List (List Value)).length cr) (.slice Uk dd.length Tr) ended)), ?_, hK _ _ _ _ ?_⟩
  . simp only [bJ, bM]
    refine ⟨?_, fun w9 Gq Gw => ?_⟩
    . first | rfl | (go_simp; done)
    with_reducible refine cC ?_
    obtain ⟨Yy, Sj, My, Gs⟩ := Gw.2.2.2.1 (by kernel_rfl)
    have HX := Lib.hid (Gs.below (cA My (by kernel_rfl)) Gs.lt)
    clear Gw Sj My Gs
    have HY : Hid (w9.there e0.q 8 2) := Lib.hid (HX.out.there (by show 8 + 2 <= 13; omega))
    with_reducible refine cL.mk ?_
    refine dA 44 _ _ rfl e0.q 8 #[.int .i64 (nV z t), .int .i64 (nW z t)] rfl rfl HY.out (by kernel_rfl) (by kernel_rfl) ?_
    refine ⟨⟨rfl, ?_⟩, (cE (S := cI e0.q) (.inl rfl) 8 _).mono fun b hb => ⟨by decide, hb⟩⟩
    exact aY.setCells (vs := [.int .i64 (nV z t), .int .i64 (nW z t)]) (o := 8) HX.out
  clear hK K
  try simp only [Act.put, List.setIfInBounds_toArray, List.set_cons_zero, List.set_cons_succ]
  refine cP ?_
  simp only [bM]
  rintro w9 Gq hmet
  simp only [List.drop_succ_cons, List.drop_zero, List.drop, Act.put, List.setIfInBounds_toArray, List.set_cons_zero, List.set_cons_succ]
  with_reducible refine cC ?_
  obtain ⟨wc, ke, kf, h24⟩ := hmet.1 rfl
  have Vh := h24.below (cA kf (by kernel_rfl)) h24.lt
  clear hmet ke kf h24
  have c10 : w9.cell? ⟨e0.q, 10, none⟩ = some (.int .i64 θ.wn) := Vh.cell 10
  have f10 := Vh.frozen 10
  have Jf : aD (cI e0.q) w3 (w9.setCell ⟨e0.q, 10, none⟩ (.int .i64 (nL z t))) := Gq.trans (bP _ _ _ _)
  have Ma : ∀ b, cI e0.q b -> Ha b = 110 + t := fun b hb => by rw [show b = e0.q from hb]; exact Ho.out.tg
  have Wa : Hid (lT (w9.setCell ⟨e0.q, 10, none⟩ (.int .i64 (nL z t))) Ha t θ' last e0.q RA cr Uk Tr [] ended) := Lib.hid (by
    refine ⟨?_, Ho.out.row.keptT Jf Ho.out.tR (fun b hb => by rw [Ma b hb]; omega), ?_, Ho.out.tg, Ho.out.tR, Np.out.2⟩
    . rw [HRK.out.2.2, HRK.out.2.1]
      exact Vh.set_ 10 (.int .i64 (nL z t))
    . rw [HRK.out.2.1]
      exact ((Qs.out).mono (Nat.zero_le _)).keptT (tag := Ha) (k := 105) Jf Np.out.2 (fun b hb => by rw [Ma b hb]; omega))
  have Pi := Lib.hid (Mt.out.go (bI.refl _ _) Jf (fun b hb => .inl (Ma b hb)))
  have Kj := Lib.hid (Hi.out.kept Jf (bI.refl _ _) (fun b hb x hx => by rw [Ma b hb]; exact (YW t e0 i b0 ht x hx).1.symm))
  have HV4 := Lib.hid (HV3.out.kept Jf (bI.refl _ _) (fun b hb => by rw [Ma b hb]; omega))
  have Se : Hid (lF (w9.setCell ⟨e0.q, 10, none⟩ (.int .i64 (nL z t))) Ha t g10 z) := Lib.hid ⟨Np.out.1, E', (Jf.block g10 Zv.out.1.lt (fun e => by have := Ma g10 e; have := Np.out.1; omega)).trans Zv.out.1, Zv.out.2.1⟩
  clear Jf Ma Vh Ho Mt Hi HV3 Zv Qs Og HRC HRL Np Oi n2 n7 l2 l7 c7 cwh lq Gq
  with_reducible refine cL.mk ?_
  go_wp2
  generalize w9.setCell ⟨e0.q, 10, none⟩ (.int .i64 (nL z t)) = w4 at *
  have c0 : w4.cell? ⟨b0, 0, none⟩ = some (.pointer (some ⟨e0.p, 0, none⟩)) := Kj.out.cell (b := b0) (k := 106) (ty := 47) (by simp [lB, cR])
  have l0 := Kj.out.lt (b := b0) (k := 106) (ty := 47) (v := cR e0.p) (by simp [lB])
  have c1 : w4.cell? ⟨b0 + 1, 0, none⟩ = some (.pointer (some ⟨e0.q, 0, none⟩)) := Kj.out.cell (b := b0 + 1) (k := 106) (ty := 63) (by simp [lB, cR])
  have l1 := Kj.out.lt (b := b0 + 1) (k := 106) (ty := 63) (v := cR e0.q) (by simp [lB])
  have c5 : w4.cell? ⟨b0 + 1 + 1 + 1 + 1 + 1, 0, none⟩ = some (.pointer (some ⟨e0.v, 0, none⟩)) := Kj.out.cell (b := b0 + 5) (k := 106) (ty := 249) (by simp [lB, cR])
  have l5 : b0 + 1 + 1 + 1 + 1 + 1 < w4.heap.size := Kj.out.lt (b := b0 + 5) (k := 106) (ty := 249) (v := cR e0.v) (by simp [lB])
  have cv : w4.cell? ⟨e0.v, 0, none⟩ = some (.int .u64 (θ.ver : Int)) := by rw [HV4.out.2.cell]; rfl
  have lv := HV4.out.2.lt
  refine bK 7 bN [] (by kernel_rfl) (by kernel_rfl) ?_
  iterate 7
    refine aC (fun K hK => ?_)
    first
    | (refine .inl ?_
       apply Exists.intro
       refine ⟨cX, ?_, hK _ _ _ _ ?_⟩
       . simp only [bJ, bM]
         refine ⟨?_, fun w9 Gq _ => ?_⟩
         . first | rfl | (go_simp; done)
         obtain ⟨Gy, Gz⟩ := Gq.all
         go_simp
         first
         | exact ⟨⟨rfl, trivial⟩, aD.refl _ _⟩
       clear hK K
       try simp only [Act.put, List.setIfInBounds_toArray, List.set_cons_zero, List.set_cons_succ])
    | (refine .inr (.inl ⟨?_, hK _ _ _ _ ?_⟩)
       . simp only [bM]
         first | rfl | (go_simp; done)
       clear hK K
       try simp only [Act.put, List.setIfInBounds_toArray, List.set_cons_zero, List.set_cons_succ])
  refine cP ?_
  simp only [bM]
  intro w9 Gq _
  obtain ⟨Gy, Gz⟩ := Gq.all
  with_reducible refine cC ?_
  have Xq := Lib.hid (Wa.out.below Gq.same (bI.refl _ _))
  have Ri := Lib.hid (Pi.out.below Gq.same)
  have Ud := Lib.hid (Se.out.kept (S := bN) Gq (bI.refl _ _) (fun _ x => x.elim))
  have hwc := WR Xq.out e0.p g10 (θ.ver + 1) ht
  rw [show (((θ.ver + 1 : Nat)) : Int) = (θ.ver : Int) + 1 by omega] at hwc
  have HWC := Lib.hid hwc
  clear hwc Wa Pi Kj HV4 Se Gq Gy Gz c0 c1 c5 cv l0 l1 l5 lv
  with_reducible refine cL.mk ?_
  simp only [List.drop_succ_cons, List.drop_zero, List.drop]
  go_wp2_with fail
  with_reducible refine HWC.out.mono ?_
  rintro e w6 ⟨rfl, Jb, env, R6, cr6, Ll, hk, hen, hth, hrr⟩
  have HF : Hid (Kg (eJ t) w tag w6 Jb /\ (env.p = e0.p /\ env.q = e0.q) /\ lT w6 Jb t θ' last e0.q R6 cr6 Uk Tr Ll ended /\ dD w6 Jb env (kB (θ.ver + 1) 0 ++ (jP (θ.ver + 1) 0 ++ qI (θ.ver + 1))) Ll /\ lF w6 Jb t env.w θ'.r) := Lib.hid ⟨Ri.out.trans hk, ⟨hen.1, hen.2.1⟩, hth, hrr, by
    rw [HRK.out.1, hen.2.2]
    exact Ud.out.kept hk.k hk.t (fun b hb => by rcases hb with hb | hb <;> omega)⟩
  clear hk hen hth hrr HWC Ri Xq Ud
  go_wp2
  refine bodyPost_ret (v := .tuple #[]) (by simp [results, Tryz.results139, go_sem]) rfl ?_
  exact ⟨rfl, Jb, env, R6, cr6, Uk, Tr, Ll, HF.out.1, HF.out.2.1, HF.out.2.2.1, HF.out.2.2.2.1, HF.out.2.2.2.2⟩
end
end
section
def yL(t k:Nat):Prop:=k=100\/k=101\/k=102\/k=110+t\/k=120+t\/k=130+t\/k=140+t\/k=150+t\/k=160+t\/k=170+t\/k=180+t\/k=190+t
def rR(t k:Nat):Prop:=k=130+t\/k=140+t\/k=150+t\/k=160+t\/k=170+t\/k=180+t\/k=190+t
structure RC (w0:World) (Gu:Nat->Nat) (w:World) (tag:Nat->Nat) (t:Nat) (θ:cQ) (last:Int) (e:mG) (gs mp:Nat) (m:Nat->Int) (pt:Nat->Nat) (s:cN) (st:Int) (E O:Value) (R:Option Addr) (cr:Nat) (D:Option Addr) (cd:Nat) (rows:List (List Value)) (cs:List Cl) (fin:Bool):Prop where
 k:Kg (yL t) w0 Gu w tag
 sh:aY w e.p 68 (yJ gs m pt st E O)
 st_:aY w gs 74 (kD s mp)
 wm:gP s.want mp s.fl w
 tp:tag e.p=102
 ts:tag gs=100
 tm:tag mp=101
 th:lT w tag t θ last e.q R cr D cd rows fin
 rs:dD w tag e cs rows
 t4:t<4
def gE(w0:World)(Gu:Nat->Nat)(t:Nat)(last:Int)(e:mG)(gs mp:Nat)(pt:Nat->Nat)(st:Int)(E O:Value)(L:ZV)(w:World):Prop:=
 ∃tag env R cr D cd rows,RC w0 Gu w tag t L.t last env gs mp L.m pt L.s st E O R cr D cd rows (gF L.t) L.fin/\iF w tag t L.t env/\env.p=e.p/\env.q=e.q
section
variable{w0 w w':World}{Gu tag tag':Nat->Nat}{t:Nat}{θ θ':cQ}{last:Int}{e e':mG}{gs mp:Nat}{m:Nat->Int}{pt:Nat->Nat}{s:cN}{st:Int}{E O:Value}{R:Option Addr}{cr:Nat}{D:Option Addr}{cd:Nat}{rows:List (List Value)}{cs:List Cl}{fin fin':Bool}
theorem RC.out(h:RC w0 Gu w tag t θ last e' gs mp m pt s st E O R cr D cd rows cs fin)(hcs:gF θ=cs)(hn:iF w tag t θ e')(he:e'.p=e.p/\e'.q=e.q):gE w0 Gu t last e gs mp pt st E O ⟨m,s,θ,fin⟩ w:=
 ⟨tag,e',R,cr,D,cd,rows,by show RC _ _ _ _ _ _ _ _ _ _ _ _ _ _ _ _ _ _ _ _ _ (gF θ) _;rw[hcs];exact h,hn,he.1,he.2⟩
theorem RC.kept(h:RC w0 Gu w tag t θ last e gs mp m pt s st E O R cr D cd rows cs fin){S:Nat->Prop}(hk:aD S w w')(ht:bI w tag tag')(hS:∀b,S b->rR t (tag b)):RC w0 Gu w' tag' t θ last e gs mp m pt s st E O R cr D cd rows cs fin:=by
 have h4:=h.t4
 have hn:∀b,S b->tag b≠100/\tag b≠101/\tag b≠102/\tag b≠105/\tag b≠106/\tag b≠110+t/\tag b≠120+t:=fun b hb=>by
  have:=hS b hb
  unfold rR at this
  omega
 refine⟨h.k.go ht hk (fun b hb=>?_),(hk.block e.p h.sh.lt fun z=>(hn _ z).2.2.1 h.tp).trans h.sh,(hk.block gs h.st_.lt fun z=>(hn _ z).1 h.ts).trans h.st_,h.wm.kept hk (fun z=>(hn _ z).2.1 h.tm),(ht _ h.sh.lt).trans h.tp,(ht _ h.st_.lt).trans h.ts,(ht _ h.wm.lt).trans h.tm,h.th.kept hk ht (fun b z=>(hn b z).2.2.2.2.2.1) (fun b z=>(hn b z).2.2.2.2.2.2) (fun b z=>(hn b z).2.2.2.1),h.rs.kept hk ht (fun b z=>(hn b z).2.2.2.2.1),h4⟩
 have:=hS b hb
 unfold rR at this
 unfold yL
 omega
theorem RC.below(h:RC w0 Gu w tag t θ last e gs mp m pt s st E O R cr D cd rows cs fin)(hb:Below w w w')(ht:bI w tag tag'):RC w0 Gu w' tag' t θ last e gs mp m pt s st E O R cr D cd rows cs fin:=
 h.kept (S:=bN) (aD.of_same hb) ht (fun _ x=>x.elim)
theorem RC.keep1(h:RC w0 Gu w tag t θ last e gs mp m pt s st E O R cr D cd rows cs fin)(hk:aD bN w w'):RC w0 Gu w' tag t θ last e gs mp m pt s st E O R cr D cd rows cs fin:=h.below hk.same (bI.refl _ _)
theorem RC.store(h:RC w0 Gu w tag t θ last e gs mp m pt s st E O R cr D cd rows cs fin){s':cN}(hb:aY w' gs 74 (kD s' mp))(hm:gP s'.want mp s'.fl w')(hk:aD (NC gs mp) w w'):RC w0 Gu w' tag t θ last e gs mp m pt s' st E O R cr D cd rows cs fin:=by
 have h4:=h.t4
 have hn:∀b,NC gs mp b->tag b=100\/tag b=101:=fun b hb=>by
  rcases hb with rfl|rfl
  .exact .inl h.ts
  exact .inr h.tm
 have htl:=bI.refl w tag
 refine⟨h.k.go htl hk (fun b hb=>by have:=hn b hb;unfold yL;omega),(hk.block e.p h.sh.lt fun z=>by have:=hn _ z;have:=h.tp;omega).trans h.sh,hb,hm,h.tp,h.ts,h.tm,h.th.kept hk htl (fun b z=>by have:=hn _ z;omega) (fun b z=>by have:=hn _ z;omega) (fun b z=>by have:=hn _ z;omega),h.rs.kept hk htl (fun b z=>by have:=hn _ z;omega),h4⟩
theorem RC.setNow(h:RC w0 Gu w tag t θ last e gs mp m pt s st E O R cr D cd rows cs fin){a:Nat}(ha:a<72)(x:Int):RC w0 Gu (w.setCell (gs,a) [x]) tag t θ last e gs mp m pt (s.save a x) st E O R cr D cd rows cs fin:=by
 have hk:=bP w gs a [x]
 refine h.store ?_ ?_ (hk.mono fun b hb=>.inl hb)
 .have:=h.st_.set_ a [x]
  rw[RL _ _ _ ha]at this
  exact this
 exact(h.wm.kept hk (fun z=>by have h1:=h.tm;have h2:=h.ts;rw[show mp=gs from z]at h1;omega))
theorem RC.setRam(h:RC w0 Gu w tag t θ last e gs mp m pt s st E O R cr D cd rows cs fin){k:Nat}(hk:k<16)(x:Int):RC w0 Gu (w.setCell (e.p,1+k) [x]) tag t θ last e gs mp (eI m k x) pt s st E O R cr D cd rows cs fin:=by
 have h4:=h.t4
 have hkk:=bP w e.p (1+k) [x]
 have hn:∀b,cI e.p b->tag b=102:=fun b hb=>by rw[show b=e.p from hb];exact h.tp
 have htl:=bI.refl w tag
 have hb:=h.sh.set_ (1+k) [x]
 rw[IC _ _ _ _ _ _ hk]at hb
 exact⟨h.k.go htl hkk (fun b hb=>by have:=hn b hb;unfold yL;omega),hb,(hkk.block gs h.st_.lt fun z=>by have:=hn _ z;have:=h.ts;omega).trans h.st_,h.wm.kept hkk (fun z=>by have:=hn _ z;have:=h.tm;omega),h.tp,h.ts,h.tm,h.th.kept hkk htl (fun b z=>by have:=hn _ z;omega) (fun b z=>by have:=hn _ z;omega) (fun b z=>by have:=hn _ z;omega),h.rs.kept hkk htl (fun b z=>by have:=hn _ z;omega),h4⟩
theorem RC.own(h:RC w0 Gu w tag t θ last e gs mp m pt s st E O R cr D cd rows cs fin)(hk:aD (cI e.q) w w')(hb:aY w' e.q 140 (vN t θ' last (.slice R rows.length cr) (.slice D θ'.deeds.length cd) fin'))(hd:θ'.deeds=θ.deeds):RC w0 Gu w' tag t θ' last e gs mp m pt s st E O R cr D cd rows cs fin':=by
 have h4:=h.t4
 have hn:∀b,cI e.q b->tag b=110+t:=fun b hb=>by rw[show b=e.q from hb];exact h.th.tg
 have htl:=bI.refl w tag
 refine⟨h.k.go htl hk (fun b hb=>by have:=hn b hb;unfold yL;omega),(hk.block e.p h.sh.lt fun z=>by have:=hn _ z;have:=h.tp;omega).trans h.sh,(hk.block gs h.st_.lt fun z=>by have:=hn _ z;have:=h.ts;omega).trans h.st_,h.wm.kept hk (fun z=>by have:=hn _ z;have:=h.tm;omega),h.tp,h.ts,h.tm,⟨hb,h.th.row.keptT hk h.th.tR (fun b z=>by have:=hn _ z;omega),?_,h.th.tg,h.th.tR,h.th.tD⟩,h.rs.kept hk htl (fun b z=>by have:=hn _ z;omega),h4⟩
 rw[hd]
 exact h.th.deeds.keptT hk h.th.tD (fun b z=>by have:=hn _ z;omega)
theorem RC.setTh(h:RC w0 Gu w tag t θ last e gs mp m pt s st E O R cr D cd rows cs fin)(i:Nat)(v:Value)(hb:∀Rv Dv,(vN t θ last Rv Dv fin).setIfInBounds i v=vN t θ' last Rv Dv fin')(hd:θ'.deeds=θ.deeds):RC w0 Gu (w.setCell (e.q,i) v) tag t θ' last e gs mp m pt s st E O R cr D cd rows cs fin':=by
 refine h.own (bP _ _ _ _) ?_ hd
 have:=h.th.blk.set_ i v
 rw[hb]at this
 rw[hd]
 exact this
theorem RC.as(h:RC w0 Gu w tag t θ last e gs mp m pt s st E O R cr D cd rows cs fin)(hb:∀Rv Dv,vN t θ last Rv Dv fin=vN t θ' last Rv Dv fin')(hd:θ'.deeds=θ.deeds):RC w0 Gu w tag t θ' last e gs mp m pt s st E O R cr D cd rows cs fin':=
 ⟨h.k,h.sh,h.st_,h.wm,h.tp,h.ts,h.tm,⟨by have:=h.th.blk;rw[hb,<-hd]at this;exact this,h.th.row,by rw[hd];exact h.th.deeds,h.th.tg,h.th.tR,h.th.tD⟩,h.rs,h.t4⟩
theorem RC.rowed(h:RC w0 Gu w tag t θ last e gs mp m pt s st E O R cr D cd rows cs fin)(hk:Kg (eJ t) w tag w' tag'){R' D':Option Addr}{cr' cd':Nat}{rows':List (List Value)}{cs':List Cl}{e':mG}(he:e'.p=e.p/\e'.q=e.q)(hth:lT w' tag' t θ' last e.q R' cr' D' cd' rows' fin')(hrs:dD w' tag' e' cs' rows'):RC w0 Gu w' tag' t θ' last e' gs mp m pt s st E O R' cr' D' cd' rows' cs' fin':=by
 have h4:=h.t4
 have hn:∀b,eJ t (tag b)->tag b=110+t\/tag b=120+t:=fun b hb=>hb
 have ht:=hk.t
 refine⟨h.k.trans (hk.mono fun k hk=>by unfold eJ at hk;unfold yL;omega),by rw[he.1];exact(hk.k.block e.p h.sh.lt fun z=>by have:=hn _ z;have:=h.tp;omega).trans h.sh,(hk.k.block gs h.st_.lt fun z=>by have:=hn _ z;have:=h.ts;omega).trans h.st_,h.wm.kept hk.k (fun z=>by have:=hn _ z;have:=h.tm;omega),by rw[he.1];exact(ht _ h.sh.lt).trans h.tp,(ht _ h.st_.lt).trans h.ts,(ht _ h.wm.lt).trans h.tm,by rw[he.2];exact hth,hrs,h4⟩
theorem RC.cp0(h:RC w0 Gu w tag t θ last e gs mp m pt s st E O R cr D cd rows cs fin):w.cell? (e.p,0)=(gs,0):=by rw[h.sh.cell,Dq];rfl
theorem RC.cram(h:RC w0 Gu w tag t θ last e gs mp m pt s st E O R cr D cd rows cs fin){k:Nat}(hk:k<16):w.cell? (e.p,1+k)=[m k]:=by rw[h.sh.cell,YN _ _ _ _ _ _ hk]
theorem RC.cnow(h:RC w0 Gu w tag t θ last e gs mp m pt s st E O R cr D cd rows cs fin){a:Nat}(ha:a<72):w.cell? (gs,a)=[s.now a]:=by rw[h.st_.cell,KU _ _ ha]
theorem RC.cth(h:RC w0 Gu w tag t θ last e gs mp m pt s st E O R cr D cd rows cs fin)(i:Nat){v:Value}(hv:∀Rv Dv,(vN t θ last Rv Dv fin)[i]? =some v):w.cell? (e.q,i)=v:=by rw[h.th.blk.cell,hv]
end
end
section
attribute [local go_sem↓] Go.wp_at_zero Go.wp_at_succ
section
variable{w:World}{tag:Nat->Nat}{t:Nat}{θ:cQ}{last:Int}{e:mG}{gs mp:Nat}{m:Nat->Int}{pt:Nat->Nat}{s:cN}{st:Int}{E O:Value}{R:Option Addr}{cr:Nat}{D:Option Addr}{cd:Nat}{rows:List (List Value)}{cs:List Cl}{r:List Value}
theorem OG(H:RC w tag w tag t θ last e gs mp m pt s st E O R cr D cd rows [.reply] false)(hn:iF w tag t θ e)(d:θ.does=15)(hr:(Cl.unlock).At w tag e r):
 ∃N caps,r=td 15 (fv N caps)/\Calls prog N caps w fun e' w'=>e'=.returned (.tuple #[])/\gE w tag t last e gs mp pt st E O (stp t m s θ) w':=by
 obtain⟨bp,rfl,hp⟩:=hr
 refine⟨_,_,rfl,?_⟩
 simp only[cR]
 rw[show stp t m s θ=⟨eI m 0 0,s,θ.go 16,false⟩ by simp only[stp,d]]
 have h4:=H.t4
 have HH:=aH H
 have cbp:w.cell? (bp,0)=(e.p,0):=hp.cell
 have lbp:=hp.2.lt
 have p0:=H.cp0
 have lp:=H.sh.lt
 have ls:=H.st_.lt
 have Tl:w.cell? (e.p,1)=[m 0]:=H.cram (k:=0) I
 have Wm:w.frozen? ⟨e.p,1,none⟩=false:=H.sh.frozen _
 have HF:Hid (gE w tag t last e gs mp pt st E O ⟨eI m 0 0,s,θ.go 16,false⟩ (w.setCell (e.p,1) (.int .u64 0))):=aH (((HH.setRam (k:=0) I 0).as (θ':=θ.go 16) (fun _ _=>rfl) rfl).out rfl (by simp only[iF,cQ.go]) ⟨rfl,rfl⟩)
 clear H hn d
 go_enter func180,ntmps180
 go_wp2
 refine bodyPost_end (v:=.tuple #[]) (by simp [results,results180,go_sem]) rfl ?_
 exact⟨rfl,HF.out⟩
theorem WG(H:RC w tag w tag t θ last e gs mp m pt s st E O R cr D cd rows [.unlock,.reply] false)(hn:iF w tag t θ e)(d:θ.does=14)(hr:(Cl.tell (θ.ver+1)).At w tag e r):
 ∃N caps,r=td 14 (fv N caps)/\Calls prog N caps w fun e' w'=>e'=.returned (.tuple #[])/\gE w tag t last e gs mp pt st E O (stp t m s θ) w':=by
 obtain⟨bv,bp,rfl,hv,hp⟩:=hr
 refine⟨_,_,rfl,?_⟩
 simp only[cR]
 rw[show stp t m s θ=⟨eI m 1 (θ.ver+1:Nat),s,θ.go 15,false⟩ by simp only[stp,d]]
 have h4:=H.t4
 have HH:=aH H
 have cbp:w.cell? (bp,0)=(e.p,0):=hp.cell
 have lbp:=hp.2.lt
 have cbv:=hv.cell
 have lbv:=hv.2.lt
 have p0:=H.cp0
 have lp:=H.sh.lt
 have ls:=H.st_.lt
 obtain⟨V,hV⟩:=aO (((θ.ver+1:Nat):Int):Int)
 rw[<-hV]at cbv⊢
 clear hV
 clear H hn d
 go_enter func179,ntmps179
 go_wp2
 refine aA 4 ?_
 iterate 4
  first
  |(refine aR1 ?_;constructor
    .intro w9 Gq Gy Gz
     go_simp
     first
     |exact aE)
  |refine aU ?_
 refine bZ ?_
 intro w9 Gq Gy Gz
 refine aS ?_
 have H1:=aH (HH.keep1 Gq)
 have Tl:w9.cell? (e.p,2)=[m 1]:=H1.cram (k:=1) I
 have Wm:w9.frozen? ⟨e.p,2,none⟩=false:=H1.sh.frozen _
 have HF:Hid (gE w tag t last e gs mp pt st E O ⟨eI m 1 V,s,θ.go 15,false⟩ (w9.setCell (e.p,2) [V])):=aH (((H1.setRam (k:=1) I V).as (θ':=θ.go 15) (fun _ _=>rfl) rfl).out rfl (by simp only[iF,cQ.go]) ⟨rfl,rfl⟩)
 clear Gq Gy Gz
 refine aW ?_
 simp only[List.drop_succ_cons,List.drop_zero,List.drop]
 go_wp2
 refine bodyPost_end (v:=.tuple #[]) (by simp [results,results179,go_sem]) rfl ?_
 exact⟨rfl,HF.out⟩
theorem RV(H:RC w tag w tag t θ last e gs mp m pt s st E O R cr D cd rows [] false)(hn:iF w tag t θ e)(d:θ.does=16)(hr:(Cl.reply).At w tag e r):
 ∃N caps,r=td 16 (fv N caps)/\Calls prog N caps w fun e' w'=>e'=.returned (.tuple #[])/\gE w tag t last e gs mp pt st E O (stp t m s θ) w':=by
 obtain⟨bq,rfl,hq⟩:=hr
 refine⟨_,_,rfl,?_⟩
 simp only[cR]
 rw[show stp t m s θ=⟨m,s,θ.go 0,true⟩ by simp only[stp,d]]
 have h4:=H.t4
 have HH:=aH H
 have cbq:w.cell? (bq,0)=(e.q,0):=hq.cell
 have lbq:=hq.2.lt
 have q12:=H.cth 12 (fun _ _=>rfl)
 have f12:=H.th.blk.frozen 12
 have HF:=aH ((HH.setTh (θ':=θ.go 0) (fin':=true) 12 true (fun _ _=>rfl) rfl).out rfl (by simp only[iF,cQ.go]) ⟨rfl,rfl⟩)
 clear H hn d
 go_enter func181,ntmps181
 go_wp2
 refine bodyPost_end (v:=.tuple #[]) (by simp [results,results181,go_sem]) rfl ?_
 exact⟨rfl,HF.out⟩
theorem YP(H:RC w tag w tag t θ last e gs mp m pt s st E O R cr D cd rows [.index (θ.ver+1),.wish2,.firm2,.tell (θ.ver+1),.unlock,.reply] false)(hn:iF w tag t θ e)(d:θ.does=10)(hr:(Cl.firm).At w tag e r)(hfe:s.fe<=1000000000):
 ∃N caps,r=td 10 (fv N caps)/\Calls prog N caps w fun e' w'=>e'=.returned (.tuple #[])/\gE w tag t last e gs mp pt st E O (stp t m s θ) w':=by
 obtain⟨bp,bq,rfl,hp,hq⟩:=hr
 refine⟨_,_,rfl,?_⟩
 simp only[cR]
 rw[show stp t m s θ=⟨m,s.fence t,θ.go 11,false⟩ by simp only[stp,d]]
 have h4:=H.t4
 have HH:=aH H
 have cbp:w.cell? (bp,0)=(e.p,0):=hp.cell
 have lbp:=hp.2.lt
 have cbq:w.cell? (bq,0)=(e.q,0):=hq.cell
 have lbq:=hq.2.lt
 have p0:=H.cp0
 have lp:=H.sh.lt
 have ls:=H.st_.lt
 have q0:=H.cth 0 (fun _ _=>rfl)
 have lq:=H.th.blk.lt
 have hne:gs≠mp:=fun e=>by have h1:=H.ts;have h2:=H.tm;rw[e]at h1;omega
 clear H hn d
 go_enter func174,ntmps174
 go_wp2
 refine aA 8 ?_
 iterate 8
  first
  |(refine aR1 ?_;constructor
    .intro w9 Gq Gy Gz
     go_simp
     first
     |exact aE)
  |refine aU ?_
 refine bZ ?_
 intro w9 Gq Gy Gz
 refine aS ?_
 have H1:=aH (HH.keep1 Gq)
 have HC:=aH (wG gs mp s.fl t s w9 H1.st_ (by have:=H1.wm;exact this) hne h4 hfe)
 clear Gq Gy Gz cbp cbq p0 q0
 refine aW ?_
 simp only[List.drop_succ_cons,List.drop_zero,List.drop]
 go_wp2_with fail
 with_reducible refine HC.out.mono ?_
 rintro e2 w2 ⟨rfl,h1,h2,h3⟩
 have HF:=aH (((H1.store h1 h2 h3).as (θ':=θ.go 11) (fun _ _=>rfl) rfl).out rfl (by simp only[iF,cQ.go]) ⟨rfl,rfl⟩)
 clear h1 h2 h3
 go_wp2
 refine bodyPost_end (v:=.tuple #[]) (by simp [results,results174,go_sem]) rfl ?_
 exact⟨rfl,HF.out⟩
theorem VF(H:RC w tag w tag t θ last e gs mp m pt s st E O R cr D cd rows [.tell (θ.ver+1),.unlock,.reply] false)(hn:iF w tag t θ e)(d:θ.does=13)(hr:(Cl.firm2).At w tag e r)(hfe:s.fe<=1000000000):
 ∃N caps,r=td 13 (fv N caps)/\Calls prog N caps w fun e' w'=>e'=.returned (.tuple #[])/\gE w tag t last e gs mp pt st E O (stp t m s θ) w':=by
 obtain⟨bp,bq,rfl,hp,hq⟩:=hr
 refine⟨_,_,rfl,?_⟩
 simp only[cR]
 rw[show stp t m s θ=⟨m,s.fence t,θ.go 14,false⟩ by simp only[stp,d]]
 have h4:=H.t4
 have HH:=aH H
 have cbp:w.cell? (bp,0)=(e.p,0):=hp.cell
 have lbp:=hp.2.lt
 have cbq:w.cell? (bq,0)=(e.q,0):=hq.cell
 have lbq:=hq.2.lt
 have p0:=H.cp0
 have lp:=H.sh.lt
 have ls:=H.st_.lt
 have q0:=H.cth 0 (fun _ _=>rfl)
 have lq:=H.th.blk.lt
 have hne:gs≠mp:=fun e=>by have h1:=H.ts;have h2:=H.tm;rw[e]at h1;omega
 clear H hn d
 go_enter func178,ntmps178
 go_wp2
 refine aA 8 ?_
 iterate 8
  first
  |(refine aR1 ?_;constructor
    .intro w9 Gq Gy Gz
     go_simp
     first
     |exact aE)
  |refine aU ?_
 refine bZ ?_
 intro w9 Gq Gy Gz
 refine aS ?_
 have H1:=aH (HH.keep1 Gq)
 have HC:=aH (wG gs mp s.fl t s w9 H1.st_ (by have:=H1.wm;exact this) hne h4 hfe)
 clear Gq Gy Gz cbp cbq p0 q0
 refine aW ?_
 simp only[List.drop_succ_cons,List.drop_zero,List.drop]
 go_wp2_with fail
 with_reducible refine HC.out.mono ?_
 rintro e2 w2 ⟨rfl,h1,h2,h3⟩
 have HF:=aH (((H1.store h1 h2 h3).as (θ':=θ.go 14) (fun _ _=>rfl) rfl).out rfl (by simp only[iF,cQ.go]) ⟨rfl,rfl⟩)
 clear h1 h2 h3
 go_wp2
 refine bodyPost_end (v:=.tuple #[]) (by simp [results,results178,go_sem]) rfl ?_
 exact⟨rfl,HF.out⟩
theorem PX(H:RC w tag w tag t θ last e gs mp m pt s st E O R cr D cd rows [.firm2,.tell (θ.ver+1),.unlock,.reply] false)(hn:iF w tag t θ e)(d:θ.does=12)(hr:(Cl.wish2).At w tag e r)(hfl:s.fl<=1000000000):
 ∃N caps,r=td 12 (fv N caps)/\Calls prog N caps w fun e' w'=>e'=.returned (.tuple #[])/\gE w tag t last e gs mp pt st E O (stp t m s θ) w':=by
 obtain⟨bp,bq,rfl,hp,hq⟩:=hr
 refine⟨_,_,rfl,?_⟩
 simp only[cR]
 rw[show stp t m s θ=⟨m,s.flush t 0,θ.go 13,false⟩ by simp only[stp,d]]
 have h4:=H.t4
 have HH:=aH H
 have cbp:w.cell? (bp,0)=(e.p,0):=hp.cell
 have lbp:=hp.2.lt
 have cbq:w.cell? (bq,0)=(e.q,0):=hq.cell
 have lbq:=hq.2.lt
 have p0:=H.cp0
 have lp:=H.sh.lt
 have ls:=H.st_.lt
 have q0:=H.cth 0 (fun _ _=>rfl)
 have lq:=H.th.blk.lt
 have hne:gs≠mp:=fun e=>by have h1:=H.ts;have h2:=H.tm;rw[e]at h1;omega
 clear H hn d
 go_enter func177,ntmps177
 go_wp2
 refine aA 8 ?_
 iterate 8
  first
  |(refine aR1 ?_;constructor
    .intro w9 Gq Gy Gz
     go_simp
     first
     |exact aE)
  |refine aU ?_
 refine bZ ?_
 intro w9 Gq Gy Gz
 refine aS ?_
 have H1:=aH (HH.keep1 Gq)
 have HC:Hid (Calls prog 173 #[(gs,0),t,(0:Int)] w9 _):=aH (xH gs mp s.fl t 0 s w9 H1.st_ H1.wm hne h4 I hfl hfl)
 clear Gq Gy Gz cbp cbq p0 q0
 refine aW ?_
 simp only[List.drop_succ_cons,List.drop_zero,List.drop]
 go_wp2_with fail
 with_reducible refine HC.out.mono ?_
 rintro e2 w2 ⟨rfl,h1,h2,h3⟩
 have HF:=aH (((H1.store (s':=s.flush t 0) h1 h2 h3).as (θ':=θ.go 13) (fun _ _=>rfl) rfl).out rfl (by simp only[iF,cQ.go]) ⟨rfl,rfl⟩)
 clear h1 h2 h3
 go_wp2
 refine bodyPost_end (v:=.tuple #[]) (by simp [results,results177,go_sem]) rfl ?_
 exact⟨rfl,HF.out⟩
theorem RH(H:RC w tag w tag t θ last e gs mp m pt s st E O R cr D cd rows [.look2,.look3,.look4,.look5] false)(hn:iF w tag t θ e)(d:θ.does=17)(hr:(Cl.look1).At w tag e r)(hm:0<=m 1):
 ∃N caps,r=td 17 (fv N caps)/\Calls prog N caps w fun e' w'=>e'=.returned (.tuple #[])/\gE w tag t last e gs mp pt st E O (stp t m s θ) w':=by
 obtain⟨bp,rfl,hp⟩:=hr
 refine⟨_,_,rfl,?_⟩
 simp only[cR]
 rw[show stp t m s θ=⟨m,s,{θ with ver:=(m 1).toNat,does:=18},false⟩ by simp only[stp,d]]
 have h4:=H.t4
 have HH:=aH H
 have cbp:w.cell? (bp,0)=(e.p,0):=hp.cell
 have lbp:=hp.2.lt
 have p0:=H.cp0
 have lp:=H.sh.lt
 have ls:=H.st_.lt
 have Tl:w.cell? (e.p,2)=[m 1]:=H.cram (k:=1) I
 have Wm:w.frozen? ⟨e.p,2,none⟩=false:=H.sh.frozen _
 simp only[iF,d]at hn
 obtain⟨n1,n2,n3,n4⟩:=hn
 have cv:w.cell? (e.v,0)=some (.int .u64 0):=by rw[n1.2.cell];rfl
 have lv:=n1.2.lt
 have fv:=n1.2.frozen 0
 have hk:=bP w e.v 0 [m 1]
 have Jj:∀b,cI e.v b->tag b=130+t:=fun b hb=>by rw[show b=e.v from hb];exact n1.1
 have hmm:((m 1).toNat:Int)=m 1:=I
 have HF:Hid (gE w tag t last e gs mp pt st E O ⟨m,s,{θ with ver:=(m 1).toNat,does:=18},false⟩ (w.setCell (e.v,0) [m 1])):=aH (((HH.kept hk (bI.refl _ _) (fun b hb=>by have:=Jj b hb;unfold rR;omega)).as (θ':={θ with ver:=(m 1).toNat,does:=18}) (fun _ _=>rfl) rfl).out rfl (by
  show _/\_
  refine⟨⟨n1.1,by show aY _ _ _ #[[((m 1).toNat:Int)]];rw[hmm];exact n1.2.set_ 0 _⟩,n2.kept hk (bI.refl _ _) (fun b hb=>by have:=Jj b hb;omega),n3.kept hk (bI.refl _ _) (fun b hb=>by have:=Jj b hb;omega),n4.kept hk (bI.refl _ _) (fun b hb=>by have:=Jj b hb;omega)⟩) ⟨rfl,rfl⟩)
 clear H n1 n2 n3 n4 d hk Jj hmm
 go_enter func108,ntmps108
 go_wp2
 refine bodyPost_end (v:=.tuple #[]) (by simp [results,results108,go_sem]) rfl ?_
 exact⟨rfl,HF.out⟩
theorem VN(H:RC w tag w tag t θ last e gs mp m pt s st E O R cr D cd rows (kG 0) false)(hn:iF w tag t θ e)(d:θ.does=4)(hr:(Cl.which).At w tag e r)(hm:0<=m 1):
 ∃N caps,r=td 4 (fv N caps)/\Calls prog N caps w fun e' w'=>e'=.returned (.tuple #[])/\gE w tag t last e gs mp pt st E O (stp t m s θ) w':=by
 obtain⟨bp,rfl,hp⟩:=hr
 refine⟨_,_,rfl,?_⟩
 simp only[cR]
 rw[show stp t m s θ=⟨m,s,{θ with ver:=(m 1).toNat,i:=0,does:=5,na:=0,asks:=fun _ _=>0},false⟩ by simp only[stp,d]]
 have h4:=H.t4
 have HH:=aH H
 have cbp:w.cell? (bp,0)=(e.p,0):=hp.cell
 have lbp:=hp.2.lt
 have p0:=H.cp0
 have lp:=H.sh.lt
 have ls:=H.st_.lt
 have Tl:w.cell? (e.p,2)=[m 1]:=H.cram (k:=1) I
 have Wm:w.frozen? ⟨e.p,2,none⟩=false:=H.sh.frozen _
 simp only[iF,d]at hn
 obtain⟨n1,n2,n3⟩:=hn
 have cv:w.cell? (e.v,0)=some (.int .u64 0):=by rw[n1.2.cell];rfl
 have lv:=n1.2.lt
 have fv:=n1.2.frozen 0
 have hk:=bP w e.v 0 [m 1]
 have Jj:∀b,cI e.v b->tag b=130+t:=fun b hb=>by rw[show b=e.v from hb];exact n1.1
 have hmm:((m 1).toNat:Int)=m 1:=I
 have HF:Hid (gE w tag t last e gs mp pt st E O ⟨m,s,{θ with ver:=(m 1).toNat,i:=0,does:=5,na:=0,asks:=fun _ _=>0},false⟩ (w.setCell (e.v,0) [m 1])):=aH (((HH.kept hk (bI.refl _ _) (fun b hb=>by have:=Jj b hb;unfold rR;omega)).as (θ':={θ with ver:=(m 1).toNat,i:=0,does:=5,na:=0,asks:=fun _ _=>0}) (fun _ _=>rfl) rfl).out rfl (by
  show _/\_
  refine⟨⟨n1.1,by show aY _ _ _ #[[((m 1).toNat:Int)]];rw[hmm];exact n1.2.set_ 0 _⟩,n2.kept hk (bI.refl _ _) (fun b hb=>by have:=Jj b hb;omega),_,n3.kept hk (bI.refl _ _) (fun b hb=>by have:=Jj b hb;omega),fun j hj=>absurd hj (Nat.not_lt_zero _)⟩) ⟨rfl,rfl⟩)
 clear H n1 n2 n3 d hk Jj hmm
 go_enter func137,ntmps137
 go_wp2
 refine bodyPost_end (v:=.tuple #[]) (by simp [results,results137,go_sem]) rfl ?_
 exact⟨rfl,HF.out⟩
theorem RY(H:RC w tag w tag t θ last e gs mp m pt s st E O R cr D cd rows (kB (θ.ver+1) (θ.i+1)++(jP (θ.ver+1) 0++qI (θ.ver+1))) false)(hn:iF w tag t θ e)(d:θ.does=8)(hr:(Cl.write (θ.ver+1) θ.i).At w tag e r)(Nk:θ.i<32)(hvb:θ.ver<=1099511627776):
 ∃N caps,r=td 8 (fv N caps)/\Calls prog N caps w fun e' w'=>e'=.returned (.tuple #[])/\gE w tag t last e gs mp pt st E O (stp t m s θ) w':=by
 obtain⟨bw,bi,bp,bv,rfl,hw,hi,hp,hv⟩:=hr
 refine⟨_,_,rfl,?_⟩
 simp only[cR]
 rw[show stp t m s θ=⟨m,s.save (dU (θ.ver+1)+θ.i) (θ.r θ.i),θ.next 32 9,false⟩ by simp only[stp,d]]
 have h4:=H.t4
 have HH:=aH H
 simp only[iF,d]at hn
 have cbw:w.cell? (bw,0)=some (.slice (some ⟨e.w,0,none⟩) 32 32):=hw.cell
 have lbw:=hw.2.lt
 have cbi:=hi.cell
 have lbi:=hi.2.lt
 have cbp:w.cell? (bp,0)=(e.p,0):=hp.cell
 have lbp:=hp.2.lt
 have cbv:=hv.cell
 have lbv:=hv.2.lt
 have p0:=H.cp0
 have lp:=H.sh.lt
 have ls:=H.st_.lt
 obtain⟨wt,We,wb,wu⟩:=hn
 have cwi:w.cell? (e.w,θ.i)=[θ.r θ.i]:=by rw[wb.cell,wu.get _ Nk]
 have lw:=wb.lt
 obtain⟨B,hB⟩:=aO (dU (θ.ver+1):Nat)
 have Jg:B<=40:=by rw[hB];unfold dU;omega
 have Lz:=aH (fun W=>ZY (θ.ver+1) _ rfl B hB W)
 rw[<-hB]
 have Zw:=aH (fun(w':World) (h:RC w tag w' tag t θ last e gs mp m pt (s.save (B+θ.i) (θ.r θ.i)) st E O R cr D cd rows (kB (θ.ver+1) (θ.i+1)++(jP (θ.ver+1) 0++qI (θ.ver+1))) false) (hw:lF w' tag t e.w θ.r)=>show gE w tag t last e gs mp pt st E O ⟨m,s.save (B+θ.i) (θ.r θ.i),θ.next 32 9,false⟩ w' from by
  by_cases Qi:θ.i+1=32
  .have e1:θ.next 32 9={θ with i:=0,does:=9}:=iP Qi
   rw[e1]
   refine(h.as (θ':={θ with i:=0,does:=9}) (fun _ _=>rfl) rfl).out ?_ (by simp only[iF]) ⟨rfl,rfl⟩
   rw[Qi];rfl
  have e1:θ.next 32 9={θ with i:=θ.i+1}:=iN Qi
  rw[e1]
  exact(h.as (θ':={θ with i:=θ.i+1}) (fun _ _=>rfl) rfl).out (by simp only[gF,d]) (by simp only[iF,d];exact hw) ⟨rfl,rfl⟩)
 have HWB:=aH (show lF w tag t e.w θ.r from⟨wt,We,wb,wu⟩)
 generalize hV:((θ.ver+1:Nat):Int)=V at cbv Lz
 have i32:(θ.i:Int)<32:=I
 have kb:IntKind.i64.wrap ((B:Int)+(θ.i:Int))=(B:Int)+θ.i:=dE I I
 have kc:(B:Int)+(θ.i:Int)<72:=I
 clear hB hV wt wb wu
 clear H d hw hi hp hv
 go_enter func171,ntmps171
 go_wp2
 refine aA 14 ?_
 iterate 14
  first
  |(refine aR1 ?_;constructor
    .intro w9 Gq Gy Gz
     go_simp
     first
     |exact aE
     |(go_at_call 72;exact bS (Lz.out _)))
  |refine aU ?_
 refine bZ ?_
 intro w9 Gq Gy Gz
 refine aS ?_
 have H1:=aH (HH.keep1 Gq)
 have Tl:w9.cell? (gs,B+θ.i)=[s.now (B+θ.i)]:=H1.cnow I
 have Wm:w9.frozen? ⟨gs,B+θ.i,none⟩=false:=H1.st_.frozen _
 have HF:=aH (Zw.out _ (H1.setNow (a:=B+θ.i) I (θ.r θ.i)) ((HWB.kept (S:=bN) Gq (bI.refl _ _) (fun _ x=>x.elim)).kept (bP w9 gs (B+θ.i) [θ.r θ.i]) (bI.refl _ _) (fun b hb=>by rw[show b=gs from hb,H1.ts];omega)))
 clear Gq Gy Gz
 refine aW ?_
 simp only[List.drop_succ_cons,List.drop_zero,List.drop]
 go_wp2
 refine bodyPost_end (v:=.tuple #[]) (by simp [results,results171,go_sem]) rfl ?_
 exact⟨rfl,HF.out⟩
end
end
end Go.Proofs.YtplpimkgihnmhaaGreatDoor
