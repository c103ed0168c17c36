/-
  Parts of a proof. For all values.
-/
import Derived.Test.YtplpimkgihnmhaaGreatDoorA20
import Derived.Test.YtplpimkgihnmhaaGreatDoorA21
import Derived.Test.YtplpimkgihnmhaaGreatDoorA22
set_option maxRecDepth 100000
set_option maxHeartbeats 4000000
set_option linter.all false
namespace Go.Proofs.YtplpimkgihnmhaaGreatDoor
open Go.Proofs.Tryz Go.RowKit
variable{w w' w0:World}{tag tag' tag0:Nat->Nat}{b t p g V:Nat}{rows:List (List Value)}{T:Nat->Prop}{R:Option Addr}{ty:TypeId}
section
attribute [local go_sem↓] Go.wp_at_zero Go.wp_at_succ
theorem ZY(v:Nat)(Y:Int)(e:Y=v)(B:Nat)(W:B=dU v)(w:World):Calls prog 72 #[[Y]] w fun e w'=>e=.returned B/\Below w w w':=by
 subst e W;rcases(by omega:v%2=0\/v%2=1)with h|h
 .have X:(v:Int)%2=0:=I;have Z:(dU v:Int)=8:=by unfold dU;omega
  rw[Z]
  go_enter func72,ntmps72
  go_wp2;go_ret;exact⟨rfl,Below.refl _ _⟩
 have X:(v:Int)%2=1:=I;have Z:(dU v:Int)=40:=by unfold dU;omega
 rw[Z]
 go_enter func72,ntmps72
 go_wp2;go_ret;exact⟨rfl,Below.refl _ _⟩
structure Kg (T:Nat->Prop) (w0:World) (tag0:Nat->Nat) (w:World) (tag:Nat->Nat):Prop where
 t:bI w0 tag0 tag
 k:aD (fun b=>T (tag0 b)) w0 w
theorem Kg.refl(T:Nat->Prop)(w:World)(tag:Nat->Nat):Kg T w tag w tag:=⟨bI.refl _ _,aD.refl _ _⟩
theorem Kg.go{S:Nat->Prop}(h:Kg T w0 tag0 w tag)(W:bI w tag tag')(Z:aD S w w')(V:∀b,S b->T (tag b)):Kg T w0 tag0 w' tag':=by
 refine⟨h.t.trans W h.k.size,⟨Z.os.trans h.k.os,Z.tape.trans h.k.tape,Z.output.trans h.k.output,Nat.le_trans h.k.size Z.size,fun b Y X=>?_⟩⟩;refine(Z.block b (Nat.lt_of_lt_of_le Y h.k.size) fun e=>X ?_).trans (h.k.block b Y X);have:=V b e;rw[h.t b Y]at this;exact this
theorem Kg.trans(h:Kg T w0 tag0 w tag)(Z:Kg T w tag w' tag'):Kg T w0 tag0 w' tag':=h.go Z.t Z.k (fun _ x=>x)
theorem Kg.mono{Z:Nat->Prop}(h:Kg T w0 tag0 w tag)(X:∀k,T k->Z k):Kg Z w0 tag0 w tag:=⟨h.t,h.k.mono fun b Y=>X _ Y⟩
theorem Kg.below(h:Kg T w0 tag0 w tag)(Z:Below w w w'):Kg T w0 tag0 w' tag:=h.go (S:=bN) (bI.refl _ _) (aD.of_same Z) (fun _ x=>x.elim)
def FG(w:World)(tag:Nat->Nat)(l:List (Nat×Nat×TypeId×Value)):Prop:=∀x∈l,tag x.1=x.2.1/\aY w x.1 x.2.2.1 #[x.2.2.2]
theorem FG.kept{S:Nat->Prop}{l:List (Nat×Nat×TypeId×Value)}(h:FG w tag l)(W:aD S w w')(V:bI w tag tag')(U:∀b,S b->∀x∈l,tag b≠x.2.1):FG w' tag' l:=fun x Y=>by
 obtain⟨X,Z⟩:=h x Y;exact⟨(V _ Z.lt).trans X,(W.block _ Z.lt fun e=>U _ e x Y X).trans Z⟩
theorem FG.cell{l:List (Nat×Nat×TypeId×Value)}(h:FG w tag l){k:Nat}{v:Value}(Z:(b,k,ty,v)∈l):w.cell? (b,0)=v:=by rw[(h _ Z).2.cell];rfl
theorem FG.lt{l:List (Nat×Nat×TypeId×Value)}(h:FG w tag l){k:Nat}{v:Value}(Z:(b,k,ty,v)∈l):b<w:=(h _ Z).2.lt
def fH(w:World)(tag:Nat->Nat)(l:List Nat)(b:Nat):Nat:=if b<w then tag b else l.getD (b-w) 0
theorem dX(w:World)(tag:Nat->Nat)(l:List Nat):bI w tag (fH w tag l):=fun b Z=>iP Z
theorem fB(w:World)(tag:Nat->Nat)(l:List Nat)(i:Nat):fH w tag l (w+i)=l.getD i 0:=by
 unfold fH;rw[iN I,Nat.add_sub_cancel_left]
theorem WU:(prog.info? 142).map (fun i=>(i.zero,i.size,i.bytes))=some (some (.agg #[(0:Int),.nilFunc]),2,16):=J
theorem wL:∃Z,prog.info? 142=some Z/\Z.zero=some (.agg #[(0:Int),.nilFunc])/\Z.size=2/\Z.bytes=16:=by
 have h:=WU;cases hq:prog.info? 142 with
 |none=>simp [hq]at h
 |some i=>simp [hq]at h;exact⟨i,rfl,h.1,h.2.1,h.2.2⟩
def eJ(t k:Nat):Prop:=k=110+t\/k=120+t
theorem jF{Z:cQ}{last:Int}{q:Nat}{Q:Option Addr}{P:Nat}{D:Option Addr}{cd:Nat}{ended:Bool}(h:lT w tag t Z last q Q P D cd rows ended)(k:Nat)(N:Nat)(Y:Array Value)(k':Int)(S:k'=k)(hl:rows.length<=1000):
 Calls prog 107 #[(q,0),k',.func (.func N) #[] Y] w fun e w'=>e=.returned (.tuple #[])/\∃O R' zz,Kg (eJ t) w tag w' O/\lT w' O t Z last q R' zz D cd (rows++[td k (fv N Y)]) ended:=by
 subst S;have V:=aH h;have c1:w.cell? (q,1)=some (.slice Q rows.length P):=h.blk.cell 1;have f1:=h.blk.frozen 1;have s:=h.blk.lt;have r:¬iI Q q:=fun e=>by have:=h.tR q e;have:=h.tg;omega
 obtain⟨i0,F,E,C,B⟩:=wL;have HI:=aH F;have HZ:=aH E;have HS:=aH C;have HY:=aH B;clear h F E C B
 go_enter func107,ntmps107
 have HV:Hid (∀j,j<2->(w.alloc (.cells #[k,.func (.func N) #[] Y] 142)).cell? (w.heap.size,j)=[Value.int .i64 (k:Int),.func (.func N) #[] Y][j]?):=aH (fun j _=>by
  rw[(aY.new w 142 #[k,.func (.func N) #[] Y]).cell j];simp)
 have H1:Hid (∀u∈[Value.int .i64 (k:Int),.func (.func N) #[] Y],u.oneCell'=true):=aH (fun u hu=>by
  simp only[List.mem_cons,List.not_mem_nil,or_false]at hu;rcases hu with rfl|rfl<;>rfl)
 have K:Hid (Below w w (w.alloc (.cells #[k,.func (.func N) #[] Y] 142))):=aH ((Below.refl _ _).alloc (Nat.le_refl _) _);have p:=aH (V.row.below K);have HQ:Hid (aY (w.alloc (.cells #[k,.func (.func N) #[] Y] 142)) q 140 (vN t Z last (.slice Q rows.length P) (.slice D Z.deeds.length cd) ended)):=aH (V.blk.alloc _);have o:Hid (∀W,aY W q 140 (vN t Z last (.slice Q rows.length P) (.slice D Z.deeds.length cd) ended)->W.cell? (q,1)=some (.slice Q rows.length P)):=aH (fun W h=>h.cell 1);have m:Hid (∀W,aY W q 140 (vN t Z last (.slice Q rows.length P) (.slice D Z.deeds.length cd) ended)->W.frozen? ⟨q,1,none⟩=false):=aH (fun W h=>h.frozen 1);have l:Hid (∀W,aY W q 140 (vN t Z last (.slice Q rows.length P) (.slice D Z.deeds.length cd) ended)->q<W):=aH (fun W h=>h.lt)
 go_wp2_with (refine qJ (.tmp 10) (.tmp 14) rfl rfl underlying138 HI HZ HS HY rfl aJ aJ (A:=Q) (n:=rows.length) (c:=P) (rows:=rows) rfl p (g:=w) (c':=1) rfl (ys:=[.int .i64 (k:Int),.func (.func N) #[] Y]) rfl HV H1 I (Nat.zero_le _) ?_;rintro R L w9 z S y;have U:=(S.block q HQ.lt r).trans HQ;have zy:=o.out w9 U;have zx:=m.out w9 U;have zw:=l.out w9 U;have i:=aH U;clear U)
 have H:=aH ((aD.of_same K).trans S);have f:Hid (cU w9 0 142 2 (some ⟨R,0,none⟩) (rows.length+1) L (rows++[[.int .i64 (k:Int),.func (.func N) #[] Y]])):=aH z;have d:Hid (∀b,iI (some ⟨R,0,none⟩) b->iI Q b\/w<=b):=aH (fun b X=>by
  obtain⟨a,x,rfl⟩:=X;cases x;rcases y with⟨a,x,e⟩|e
  .exact .inl ⟨a,x,e⟩
  exact .inr (by show w<=R;rw[e];simp))
 clear z S y;have hR:=V.tR;have T:=cO w tag (120+t);have G:=(T q s).trans V.tg;have M:∀b,cI q b->cG w tag (120+t) b=110+t:=fun b X=>by rw[show b=q from X];exact G
 have tA:∀b,iI (some ⟨R,0,none⟩) b->cG w tag (120+t) b=120+t:=fun b X=>by
  rcases d.out b X with e|e
  .exact(T b (by obtain⟨a,x,rfl⟩:=e;exact(V.row.lt a x).2)).trans (hR b e)
  exact dT _ _ _ e
 have HF:Hid (Kg (eJ t) w tag (w9.setCell (q,1) (.slice (some ⟨R,0,none⟩) (rows.length+1) L)) (cG w tag (120+t))/\lT (w9.setCell (q,1) (.slice (some ⟨R,0,none⟩) (rows.length+1) L)) (cG w tag (120+t)) t Z last q (some ⟨R,0,none⟩) L D cd (rows++[td k (fv N Y)]) ended):=aH ⟨((Kg.refl (eJ t) w tag).go T H (fun b X=>.inr (hR b X))).go (bI.refl _ _) (bP w9 q 1 _) (fun b X=>.inl (M b X)),by
  refine⟨?_,?_,?_,G,tA,V.deeds.tagT T V.tD⟩
  .have hx:=aY.set_ i 1 (.slice (some ⟨R,0,none⟩) (rows.length+1) L);show aY _ q _ (vN t Z last (.slice (some ⟨R,0,none⟩) (rows++[_]).length L) _ ended);rw[show(rows++[td k (fv N Y)]).length=rows.length+1 by simp];exact hx
  .show cU _ 0 _ 2 (some ⟨R,0,none⟩) (rows++[_]).length L _;rw[show(rows++[td k (fv N Y)]).length=rows.length+1 by simp];exact f.keptT (bP w9 q 1 _) tA (fun b X=>by rw[M b X];omega)
  exact(V.deeds.keptT H V.tD (fun b X=>by rw[hR b X];omega)).keptT (bP w9 q 1 _) (V.deeds.tagT T V.tD) (fun b X=>by rw[M b X];omega)⟩
 refine bodyPost_end (v:=.tuple #[]) (by simp [results,results107,go_sem]) rfl ⟨rfl,_,_,_,HF.out.1,HF.out.2⟩
theorem KH:∀(fn:Fn) (first cap:Array Value) (w:World),(Instr.makeFunc fn first cap).run prog w=.ok (.func fn first cap) w:=fun _ _ _ _=>rfl
def yD(t:Nat)(l:List (Nat×Nat×TypeId×Value)):Prop:=∀x∈l,x.2.1≠110+t/\x.2.1≠120+t
theorem FG.then_{l:List (Nat×Nat×TypeId×Value)}(h:FG w tag l)(Z:Kg (eJ t) w tag w' tag')(X:yD t l):FG w' tag' l:=
 h.kept Z.k Z.t (fun b hb x Y e=>by have:=X x Y;rcases hb with hb|hb<;>omega)
theorem dD.then_(X:t<4){e:mG}{cs:List Cl}{Z:List (List Value)}(h:dD w tag e cs Z)(Y:Kg (eJ t) w tag w' tag'):dD w' tag' e cs Z:=
 h.kept Y.k Y.t (fun b hb=>by rcases hb with hb|hb<;>omega)
theorem lT.below{Z:cQ}{last:Int}{q:Nat}{Y:Option Addr}{X:Nat}{D:Option Addr}{cd:Nat}{ended:Bool}(h:lT w tag t Z last q Y X D cd rows ended)(W:Below w w w')(V:bI w tag tag'):lT w' tag' t Z last q Y X D cd rows ended:=
 h.kept (S:=bN) (aD.of_same W) V (fun _ x=>x.elim) (fun _ x=>x.elim) (fun _ x=>x.elim)
theorem dD.below{e:mG}{cs:List Cl}{Z:List (List Value)}(h:dD w tag e cs Z)(Y:Below w w w')(X:bI w tag tag'):dD w' tag' e cs Z:=
 h.kept (S:=bN) (aD.of_same Y) X (fun _ x=>x.elim)
theorem Kg.start(Z:Below w w w')(Y:bI w tag tag'):Kg T w tag w' tag':=(Kg.refl T w tag).go (S:=bN) Y (aD.of_same Z) (fun _ x=>x.elim)
section
variable{w:World}{tag:Nat->Nat}{t:Nat}{Z:cQ}{last:Int}{q:Nat}{RA:Option Addr}{cr:Nat}{D:Option Addr}{cd:Nat}{rows0:List (List Value)}{ended:Bool}
theorem PW(h:lT w tag t Z last q RA cr D cd [] ended)(p:Nat)(ht:t<4):
 Calls prog 88 #[.pointer (some ⟨p,0,none⟩),.pointer (some ⟨q,0,none⟩)] w fun e w'=>e=.returned (.tuple #[])/\∃V Q zz zy O,Kg (eJ t) w tag w' V/\(Q.p=p/\Q.q=q)/\lT w' V t Z last q zz zy D cd O ended/\dD w' V Q [.look1,.look2,.look3,.look4,.look5] O/\oM w' V Q.v (130+t) 0/\oM w' V Q.g (170+t) 0/\oM w' V Q.a (180+t) 0/\oM w' V Q.n (190+t) 0:=by
 have F:Below w.heap.size w ((((((w.alloc (.cells #[.pointer (some ⟨p,0,none⟩)] 47)).alloc (.cells #[.pointer (some ⟨q,0,none⟩)] 63)).alloc (.cells #[.int .u64 0] 23)).alloc (.cells #[.int .u64 0] 23)).alloc (.cells #[.int .u64 0] 23)).alloc (.cells #[.int .u64 0] 23)):=(((((((Below.refl w.heap.size w).alloc (Nat.le_refl _) (.cells #[.pointer (some ⟨p,0,none⟩)] 47)).alloc (by simp;try omega) (.cells #[.pointer (some ⟨q,0,none⟩)] 63)).alloc (by simp;try omega) (.cells #[.int .u64 0] 23)).alloc (by simp;try omega) (.cells #[.int .u64 0] 23)).alloc (by simp;try omega) (.cells #[.int .u64 0] 23)).alloc (by simp;try omega) (.cells #[.int .u64 0] 23));have N:Hid (FG ((((((w.alloc (.cells #[.pointer (some ⟨p,0,none⟩)] 47)).alloc (.cells #[.pointer (some ⟨q,0,none⟩)] 63)).alloc (.cells #[.int .u64 0] 23)).alloc (.cells #[.int .u64 0] 23)).alloc (.cells #[.int .u64 0] 23)).alloc (.cells #[.int .u64 0] 23)) (fH w tag [106,106,130+t,170+t,180+t,190+t]) [(w.heap.size,106,47,.pointer (some ⟨p,0,none⟩)),(w.heap.size+1,106,63,.pointer (some ⟨q,0,none⟩)),(w.heap.size+2,130+t,23,.int .u64 0),(w.heap.size+3,170+t,23,.int .u64 0),(w.heap.size+4,180+t,23,.int .u64 0),(w.heap.size+5,190+t,23,.int .u64 0)]):=aH (by
  intro x i;simp only[List.mem_cons,List.not_mem_nil,or_false]at i;rcases i with rfl|rfl|rfl|rfl|rfl|rfl
  .exact⟨fB w tag [106,106,130+t,170+t,180+t,190+t] 0,(((((aY.newAt _ _ _ (by simp)).alloc _).alloc _).alloc _).alloc _).alloc _⟩
  .exact⟨fB w tag [106,106,130+t,170+t,180+t,190+t] 1,((((aY.newAt _ _ _ (by simp)).alloc _).alloc _).alloc _).alloc _⟩
  .exact⟨fB w tag [106,106,130+t,170+t,180+t,190+t] 2,(((aY.newAt _ _ _ (by simp)).alloc _).alloc _).alloc _⟩
  .exact⟨fB w tag [106,106,130+t,170+t,180+t,190+t] 3,((aY.newAt _ _ _ (by simp)).alloc _).alloc _⟩
  .exact⟨fB w tag [106,106,130+t,170+t,180+t,190+t] 4,(aY.newAt _ _ _ (by simp)).alloc _⟩
  exact⟨fB w tag [106,106,130+t,170+t,180+t,190+t] 5,aY.newAt _ _ _ (by simp)⟩)
 have C:=aH (h.below F (dX w tag [106,106,130+t,170+t,180+t,190+t]));have B:Hid (Kg (eJ t) w tag ((((((w.alloc (.cells #[.pointer (some ⟨p,0,none⟩)] 47)).alloc (.cells #[.pointer (some ⟨q,0,none⟩)] 63)).alloc (.cells #[.int .u64 0] 23)).alloc (.cells #[.int .u64 0] 23)).alloc (.cells #[.int .u64 0] 23)).alloc (.cells #[.int .u64 0] 23)) (fH w tag [106,106,130+t,170+t,180+t,190+t])):=aH (Kg.start F (dX w tag [106,106,130+t,170+t,180+t,190+t]));have hn:yD t [(w.heap.size,106,47,.pointer (some ⟨p,0,none⟩)),(w.heap.size+1,106,63,.pointer (some ⟨q,0,none⟩)),(w.heap.size+2,130+t,23,.int .u64 0),(w.heap.size+3,170+t,23,.int .u64 0),(w.heap.size+4,180+t,23,.int .u64 0),(w.heap.size+5,190+t,23,.int .u64 0)]:=by
  intro x i;simp only[List.mem_cons,List.not_mem_nil,or_false]at i;rcases i with rfl|rfl|rfl|rfl|rfl|rfl<;>(constructor<;>(try dsimp only)<;>omega)
 have A:=aH hn;clear h F hn;have zs:=KH
 go_enter func88,ntmps88
 go_upto_region 2 with(fail)
 show Code.wp _ _ _ _ ((((((w.alloc (.cells #[.pointer (some ⟨p,0,none⟩)] 47)).alloc (.cells #[.pointer (some ⟨q,0,none⟩)] 63)).alloc (.cells #[.int .u64 0] 23)).alloc (.cells #[.int .u64 0] 23)).alloc (.cells #[.int .u64 0] 23)).alloc (.cells #[.int .u64 0] 23));generalize((((((w.alloc (.cells #[.pointer (some ⟨p,0,none⟩)] 47)).alloc (.cells #[.pointer (some ⟨q,0,none⟩)] 63)).alloc (.cells #[.int .u64 0] 23)).alloc (.cells #[.int .u64 0] 23)).alloc (.cells #[.int .u64 0] 23)).alloc (.cells #[.int .u64 0] 23))=w0 at*;generalize fH w tag [106,106,130+t,170+t,180+t,190+t]=zt at*;generalize w.heap.size=Y at*;have M:w0.cell? ⟨Y+1,0,none⟩=some (.pointer (some ⟨q,0,none⟩)):=N.cell (k:=106) (ty:=63) (by simp [cR]);have U:Y+1<w0.heap.size:=N.lt (k:=106) (ty:=63) (v:=cR q) (by simp [cR]);have P:=aH (jF C 17 108 #[.pointer (some ⟨Y,0,none⟩),.pointer (some ⟨Y+2,0,none⟩)] 17 rfl (by simp));go_wp2_with fail
 with_reducible refine P.out.mono ?_
 rintro e w1 ⟨rfl,zx,R1,zr,T,X⟩;have z:=aH X;have y:=aH (B.trans T);have L:=aH (N.then_ T A);clear T X P M U C B N;have M:w1.cell? ⟨Y+1,0,none⟩=some (.pointer (some ⟨q,0,none⟩)):=L.cell (k:=106) (ty:=63) (by simp [cR]);have U:Y+1<w1.heap.size:=L.lt (k:=106) (ty:=63) (v:=cR q) (by simp [cR]);have P:=aH (jF z 18 109 #[.pointer (some ⟨Y,0,none⟩),.pointer (some ⟨Y+2,0,none⟩),.pointer (some ⟨Y+3,0,none⟩)] 18 rfl (by simp));go_wp2_with fail
 with_reducible refine P.out.mono ?_
 rintro e w2 ⟨rfl,zw,R2,zq,T,X⟩;have u:=aH X;have s:=aH (y.trans T);have K:=aH (L.then_ T A);clear T X P M U z y L;have M:w2.cell? ⟨Y+1,0,none⟩=some (.pointer (some ⟨q,0,none⟩)):=K.cell (k:=106) (ty:=63) (by simp [cR]);have U:Y+1<w2.heap.size:=K.lt (k:=106) (ty:=63) (v:=cR q) (by simp [cR]);have P:=aH (jF u 19 110 #[.pointer (some ⟨Y,0,none⟩),.pointer (some ⟨Y+2,0,none⟩),.pointer (some ⟨Y+1,0,none⟩),.pointer (some ⟨Y+4,0,none⟩)] 19 rfl (by simp));go_wp2_with fail
 with_reducible refine P.out.mono ?_
 rintro e w3 ⟨rfl,zv,R3,zp,T,X⟩;have r:=aH X;have o:=aH (s.trans T);have H:=aH (K.then_ T A);clear T X P M U u s K;have M:w3.cell? ⟨Y+1,0,none⟩=some (.pointer (some ⟨q,0,none⟩)):=H.cell (k:=106) (ty:=63) (by simp [cR]);have U:Y+1<w3.heap.size:=H.lt (k:=106) (ty:=63) (v:=cR q) (by simp [cR]);have P:=aH (jF r 20 111 #[.pointer (some ⟨Y,0,none⟩),.pointer (some ⟨Y+2,0,none⟩),.pointer (some ⟨Y+1,0,none⟩),.pointer (some ⟨Y+5,0,none⟩)] 20 rfl (by simp));go_wp2_with fail
 with_reducible refine P.out.mono ?_
 rintro e w4 ⟨rfl,zu,R4,zo,T,X⟩;have m:=aH X;have l:=aH (o.trans T);have G:=aH (H.then_ T A);clear T X P M U r o H;have M:w4.cell? ⟨Y+1,0,none⟩=some (.pointer (some ⟨q,0,none⟩)):=G.cell (k:=106) (ty:=63) (by simp [cR]);have U:Y+1<w4.heap.size:=G.lt (k:=106) (ty:=63) (v:=cR q) (by simp [cR]);have P:=aH (jF m 21 112 #[.pointer (some ⟨Y,0,none⟩),.pointer (some ⟨Y+2,0,none⟩),.pointer (some ⟨Y+3,0,none⟩),.pointer (some ⟨Y+1,0,none⟩),.pointer (some ⟨Y+4,0,none⟩),.pointer (some ⟨Y+5,0,none⟩)] 21 rfl (by simp));go_wp2_with fail
 with_reducible refine P.out.mono ?_
 rintro e E ⟨rfl,W,R5,b,T,X⟩;have f:=aH X;have d:=aH (l.trans T);have R:=aH (G.then_ T A);clear T X P M U m l G;have j:RO E W Y 47 (cR p)/\RO E W (Y+1) 63 (cR q):=⟨R.out (Y,106,47,.pointer (some ⟨p,0,none⟩)) (by simp),R.out (Y+1,106,63,.pointer (some ⟨q,0,none⟩)) (by simp)⟩;have S:=aH j;have c:Hid (oM E W (Y+2) (130+t) 0/\oM E W (Y+3) (170+t) 0/\oM E W (Y+4) (180+t) 0/\oM E W (Y+5) (190+t) 0):=aH ⟨R.out (Y+2,130+t,23,.int .u64 0) (by simp),R.out (Y+3,170+t,23,.int .u64 0) (by simp),R.out (Y+4,180+t,23,.int .u64 0) (by simp),R.out (Y+5,190+t,23,.int .u64 0) (by simp)⟩;clear j R;go_wp2;refine bodyPost_end (v:=.tuple #[]) (by simp [results,results88,go_sem]) rfl ⟨rfl,W,⟨p,q,Y+2,0,0,Y+3,Y+4,Y+5⟩,R5,b,_,d.out,⟨rfl,rfl⟩,f.out,⟨⟨Y,rfl,S.out.1⟩,⟨Y,rfl,S.out.1⟩,⟨Y,Y+1,rfl,S.out.1,S.out.2⟩,⟨Y,Y+1,rfl,S.out.1,S.out.2⟩,⟨Y,Y+1,rfl,S.out.1,S.out.2⟩,trivial⟩,c.out⟩
theorem GK(h:lT w tag t Z last q RA cr D cd rows0 ended)(p:Nat)(f:t<4){e0:mG}(n:e0.p=p/\e0.q=q){cls:List Cl}(m:dD w tag e0 cls rows0)(d:rows0.length<=900):
 Calls prog 114 #[(p,0),(q,0)] w fun e w'=>e=.returned (.tuple #[])/\∃X B A W,Kg (eJ t) w tag w' X/\lT w' X t Z last q B A D cd W ended/\dD w' X e0 (cls++[.lock]) W:=by
 have z:=aH n;clear n;have U:Below w w ((w.alloc (.cells #[(p,0)] 47)).alloc (.cells #[(q,0)] 63)):=(((Below.refl w w).alloc (Nat.le_refl _) (.cells #[(p,0)] 47)).alloc (by simp;try omega) (.cells #[(q,0)] 63));have T:Hid (FG ((w.alloc (.cells #[(p,0)] 47)).alloc (.cells #[(q,0)] 63)) (fH w tag [106,106]) [(w.heap.size,106,47,(p,0)),(w+1,106,63,(q,0))]):=aH (by
  intro x O;simp only[List.mem_cons,List.not_mem_nil,or_false]at O;rcases O with rfl|rfl
  .exact⟨fB w tag [106,106] 0,(aY.newAt _ _ _ (by simp)).alloc _⟩
  exact⟨fB w tag [106,106] 1,aY.newAt _ _ _ (by simp)⟩)
 have Q:=aH (h.below U (dX w tag [106,106]));have P:Hid (Kg (eJ t) w tag ((w.alloc (.cells #[(p,0)] 47)).alloc (.cells #[(q,0)] 63)) (fH w tag [106,106])):=aH (Kg.start U (dX w tag [106,106]));have y:yD t [(w.heap.size,106,47,(p,0)),(w+1,106,63,(q,0))]:=by
  intro x O;simp only[List.mem_cons,List.not_mem_nil,or_false]at O;rcases O with rfl|rfl<;>(constructor<;>(try dsimp only)<;>omega)
 have l:=aH y;have L:=aH (m.below U (dX w tag [106,106]));clear m;clear h U y;have j:=KH
 go_enter func114,ntmps114
 go_upto_region 1 with(fail)
 show Code.wp _ _ _ _ ((w.alloc (.cells #[(p,0)] 47)).alloc (.cells #[(q,0)] 63));generalize((w.alloc (.cells #[(p,0)] 47)).alloc (.cells #[(q,0)] 63))=r at*;generalize fH w tag [106,106]=o at*;generalize w.heap.size=V at*;have i:r.cell? (V+1,0)=(q,0):=T.cell (k:=106) (ty:=63) (by simp [cR]);have K:V+1<r:=T.lt (k:=106) (ty:=63) (v:=cR q) (by simp [cR]);have u:=aH (jF Q 3 126 #[(V,0),(V+1,0)] 3 rfl I);go_wp2_with fail
 with_reducible refine u.out.mono ?_
 rintro e s ⟨rfl,Y,g,C,M,N⟩;have H:=aH N;have G:=aH (P.trans M);have S:=aH (T.then_ M l);have F:=aH (L.then_ f M);clear M N u i K Q P T;have R:RO s Y V 47 (cR e0.p)/\RO s Y (V+1) 63 (cR e0.q):=by
  rw[z.out.1,z.out.2];exact⟨S.out (V,106,47,.pointer (some ⟨p,0,none⟩)) (by simp),S.out (V+1,106,63,.pointer (some ⟨q,0,none⟩)) (by simp)⟩
 have E:=aH (F.add (c:=.lock) ⟨V,V+1,rfl,R.1,R.2⟩);clear R S;go_wp2;refine bodyPost_end (v:=.tuple #[]) (by simp [results,results114,go_sem]) rfl ⟨rfl,Y,g,C,_,G.out,H.out,E.out⟩
theorem RQ(h:lT w tag t Z last q RA cr D cd [] ended)(p:Nat)(ht:t<4):
 Calls prog 89 #[(p,0),(q,0)] w fun e w'=>e=.returned (.tuple #[])/\∃V L j i U,Kg (eJ t) w tag w' V/\(L.p=p/\L.q=q)/\lT w' V t Z last q j i D cd U ended/\dD w' V L [.says1,.says2,.lock] U:=by
 have O:Below w w ((w.alloc (.cells #[(p,0)] 47)).alloc (.cells #[(q,0)] 63)):=(((Below.refl w w).alloc (Nat.le_refl _) (.cells #[(p,0)] 47)).alloc (by simp;try omega) (.cells #[(q,0)] 63));have S:Hid (FG ((w.alloc (.cells #[(p,0)] 47)).alloc (.cells #[(q,0)] 63)) (fH w tag [106,106]) [(w.heap.size,106,47,(p,0)),(w+1,106,63,(q,0))]):=aH (by
  intro x A;simp only[List.mem_cons,List.not_mem_nil,or_false]at A;rcases A with rfl|rfl
  .exact⟨fB w tag [106,106] 0,(aY.newAt _ _ _ (by simp)).alloc _⟩
  exact⟨fB w tag [106,106] 1,aY.newAt _ _ _ (by simp)⟩)
 have K:=aH (h.below O (dX w tag [106,106]));have H:Hid (Kg (eJ t) w tag ((w.alloc (.cells #[(p,0)] 47)).alloc (.cells #[(q,0)] 63)) (fH w tag [106,106])):=aH (Kg.start O (dX w tag [106,106]));have g:yD t [(w.heap.size,106,47,(p,0)),(w+1,106,63,(q,0))]:=by
  intro x A;simp only[List.mem_cons,List.not_mem_nil,or_false]at A;rcases A with rfl|rfl<;>(constructor<;>(try dsimp only)<;>omega)
 have f:=aH g;clear h O g;have zz:=KH
 go_enter func89,ntmps89
 go_upto_region 1 with(fail)
 show Code.wp _ _ _ _ ((w.alloc (.cells #[(p,0)] 47)).alloc (.cells #[(q,0)] 63));generalize((w.alloc (.cells #[(p,0)] 47)).alloc (.cells #[(q,0)] 63))=b at*;generalize fH w tag [106,106]=a at*;generalize w.heap.size=X at*;have u:b.cell? (X+1,0)=(q,0):=S.cell (k:=106) (ty:=63) (by simp [cR]);have R:X+1<b:=S.lt (k:=106) (ty:=63) (v:=cR q) (by simp [cR]);have G:=aH (jF K 1 115 #[(X+1,0),(X,0)] 1 rfl (by simp));go_wp2_with fail
 with_reducible refine G.out.mono ?_
 rintro e d ⟨rfl,c,R1,zx,T,W⟩;have F:=aH W;have E:=aH (H.trans T);have Q:=aH (S.then_ T f);clear T W G u R K H S;have u:d.cell? (X+1,0)=(q,0):=Q.cell (k:=106) (ty:=63) (by simp [cR]);have R:X+1<d:=Q.lt (k:=106) (ty:=63) (v:=cR q) (by simp [cR]);have G:=aH (jF F 2 117 #[(X+1,0),(X,0)] 2 rfl (by simp));go_wp2_with fail
 with_reducible refine G.out.mono ?_
 rintro e s ⟨rfl,P,R2,zw,T,W⟩;have C:=aH W;have r:=aH (E.trans T);have N:=aH (Q.then_ T f);clear T W G u R F E Q;have Y:RO s P X 47 (cR p)/\RO s P (X+1) 63 (cR q):=⟨N.out (X,106,47,.pointer (some ⟨p,0,none⟩)) (by simp),N.out (X+1,106,63,.pointer (some ⟨q,0,none⟩)) (by simp)⟩;have B:=aH (GK C p ht (e0:=⟨p,q,0,0,0,0,0,0⟩) ⟨rfl,rfl⟩ (cls:=[.says1,.says2]) ⟨⟨X+1,X,rfl,Y.2,Y.1⟩,⟨X+1,X,rfl,Y.2,Y.1⟩,trivial⟩ (by simp));have cp:s.cell? (X,0)=(p,0):=Y.1.cell;have u:s.cell? (X+1,0)=(q,0):=Y.2.cell;have zy:=Y.1.2.lt;have R:=Y.2.2.lt;clear Y N C;go_wp2_with fail
 with_reducible refine B.out.mono ?_
 rintro e w3 ⟨rfl,z,R3,l,M,T,W,y⟩;have o:=aH (r.trans T);have n:=aH W;have m:=aH y;clear T W y B;go_wp2;refine bodyPost_end (v:=.tuple #[]) (by simp [results,results89,go_sem]) rfl ⟨rfl,z,⟨p,q,0,0,0,0,0,0⟩,R3,l,M,o.out,⟨rfl,rfl⟩,n.out,m.out⟩
end
section
variable{w:World}{tag:Nat->Nat}{t:Nat}{Z:cQ}{last:Int}{q:Nat}{RA:Option Addr}{cr:Nat}{D:Option Addr}{cd:Nat}{rows0:List (List Value)}{ended:Bool}
def tS(t p q b:Nat):List (Nat×Nat×TypeId×Value):=[(b,106,47,cR p),(b+1,106,63,cR q),(b+2,130+t,23,.int .u64 0),(b+4,106,91,.slice (some ⟨b+3,0,none⟩) 32 32)]
def DS(p q b:Nat):mG:=⟨p,q,b+2,b+5,b+3,0,0,0⟩
theorem XO(t p q b:Nat)(Y:t<4):yD t (tS t p q b):=by
 intro x Z;simp only[tS,List.mem_cons,List.not_mem_nil,or_false]at Z;rcases Z with rfl|rfl|rfl|rfl<;>(constructor<;>(try dsimp only)<;>omega)
structure VY (w0:World) (tag0:Nat->Nat) (t:Nat) (Z:cQ) (last:Int) (p q b:Nat) (D:Option Addr) (cd:Nat) (ended:Bool) (cs:List Cl) (w:World) (tag:Nat->Nat) (R:Option Addr) (cr:Nat) (rows:List (List Value)):Prop where
 k:Kg (eJ t) w0 tag0 w tag
 th:lT w tag t Z last q R cr D cd rows ended
 bx:FG w tag (tS t p q b)
 l:rN w tag t (b+5) []
 wd:lF w tag t (b+3) (fun _=>0)
 rs:dD w tag (DS p q b) cs rows
def By(w0:World)(tag0:Nat->Nat)(t:Nat)(Z:cQ)(last:Int)(p q b:Nat)(D:Option Addr)(cd:Nat)(ended:Bool)(cs:List Cl)(w:World):Prop:=∃tag R cr rows,VY w0 tag0 t Z last p q b D cd ended cs w tag R cr rows
theorem VY.below{cs:List Cl}(h:VY w0 tag0 t Z last p q b D cd ended cs w tag R cr rows)(Y:Below w w w')(X:bI w tag tag'):VY w0 tag0 t Z last p q b D cd ended cs w' tag' R cr rows:=
 ⟨h.k.go (S:=bN) X (aD.of_same Y) (fun _ x=>x.elim),h.th.below Y X,h.bx.kept (S:=bN) (aD.of_same Y) X (fun _ x=>x.elim),h.l.kept (S:=bN) (aD.of_same Y) X (fun _ x=>x.elim),h.wd.kept (S:=bN) (aD.of_same Y) X (fun _ x=>x.elim),h.rs.below Y X⟩
theorem VY.add{cs:List Cl}{T:Option Addr}{X:Nat}(W:t<4)(h:VY w0 tag0 t Z last p q b D cd ended cs w tag R cr rows)(Y:Kg (eJ t) w tag w' tag'){r:List Value}(U:lT w' tag' t Z last q T X D cd (rows++[r]) ended){c:Cl}(S:c.At w tag (DS p q b) r):VY w0 tag0 t Z last p q b D cd ended (cs++[c]) w' tag' T X (rows++[r]):=
 have V:c.At w' tag' (DS p q b) r:=S.kept Y.k Y.t (fun b hb=>by rcases hb with hb|hb<;>omega)
 ⟨h.k.trans Y,U,h.bx.then_ Y (XO t p q b W),h.l.kept Y.k Y.t (fun b hb=>by rcases hb with hb|hb<;>omega),h.wd.kept Y.k Y.t (fun b hb=>by rcases hb with hb|hb<;>omega),(h.rs.then_ W Y).add V⟩
theorem VY.start(h:lT w tag t Z last q RA cr D cd [] ended)(p:Nat):VY w tag t Z last p q w D cd ended [] ((((((w.alloc (.cells #[(p,0)] 47)).alloc (.cells #[(q,0)] 63)).alloc (.cells #[.int .u64 0] 23)).alloc (.cells (32:Nat) 23)).alloc (.cells #[.slice (some ⟨w+1+1+1,0,none⟩) 32 32] 91)).alloc (.cells #[.slice none 0 0] 246)) (fH w tag [106,106,130+t,150+t,106,140+t]) RA cr []:=by
 have X:Below w.heap.size w ((((((w.alloc (.cells #[.pointer (some ⟨p,0,none⟩)] 47)).alloc (.cells #[.pointer (some ⟨q,0,none⟩)] 63)).alloc (.cells #[.int .u64 0] 23)).alloc (.cells (32:Nat) 23)).alloc (.cells #[.slice (some ⟨w.heap.size+1+1+1,0,none⟩) 32 32] 91)).alloc (.cells #[.slice none 0 0] 246)):=(((((((Below.refl w.heap.size w).alloc (Nat.le_refl _) (.cells #[.pointer (some ⟨p,0,none⟩)] 47)).alloc (by simp;try omega) (.cells #[.pointer (some ⟨q,0,none⟩)] 63)).alloc (by simp;try omega) (.cells #[.int .u64 0] 23)).alloc (by simp;try omega) (.cells (32:Nat) 23)).alloc (by simp;try omega) (.cells #[.slice (some ⟨w.heap.size+1+1+1,0,none⟩) 32 32] 91)).alloc (by simp;try omega) (.cells #[.slice none 0 0] 246));have Y:∀i,fH w tag [106,106,130+t,150+t,106,140+t] (w+i)=_:=fB w tag [106,106,130+t,150+t,106,140+t];refine⟨Kg.start X (dX _ _ _),h.below X (dX _ _ _),?_,⟨Y 5,none,0,aY.newAt _ _ _ (by simp),cU.nil _ 0 _ 5,fun b X=>by obtain⟨a,V,_⟩:=X;cases V⟩,⟨Y 3,_,((aY.newAt _ _ _ (by simp)).alloc _).alloc _,cH.zero 32⟩,trivial⟩;intro x W;simp only[tS,List.mem_cons,List.not_mem_nil,or_false]at W;rcases W with rfl|rfl|rfl|rfl
 .exact⟨Y 0,(((((aY.newAt _ _ _ rfl).alloc _).alloc _).alloc _).alloc _).alloc _⟩
 .exact⟨Y 1,((((aY.newAt _ _ _ (by simp)).alloc _).alloc _).alloc _).alloc _⟩
 .exact⟨Y 2,(((aY.newAt _ _ _ (by simp)).alloc _).alloc _).alloc _⟩
 exact⟨Y 4,(aY.newAt _ _ _ (by simp)).alloc _⟩
theorem Do(h:lT w tag t Z last q RA cr D cd [] ended)(p:Nat)(f:t<4):
 Calls prog 127 #[.pointer (some ⟨p,0,none⟩),.pointer (some ⟨q,0,none⟩)] w fun e w'=>e=.returned (.tuple #[])/\∃Y W M L V,Kg (eJ t) w tag w' Y/\(W.p=p/\W.q=q)/\lT w' Y t Z last q M L D cd V ended/\dD w' Y W (.which::kG 0) V/\oM w' Y W.v (130+t) 0/\rN w' Y t W.l []/\lF w' Y t W.w fun _=>0:=by
 have d:=KH;have a:∀w:World,(Instr.makeSlice 91 (.int .i64 32) (.int .i64 32)).run prog w=.ok (.slice (some ⟨w.heap.size,0,none⟩) 32 32) (w.alloc (.cells (32:Nat) 23)):=fun w=>by kernel_rfl
 have T:=aH (VY.start h p);clear h
 go_enter func127,ntmps127
 go_upto_region 4 with(fail)
 show Code.wp _ _ _ _ ((((((w.alloc (.cells #[.pointer (some ⟨p,0,none⟩)] 47)).alloc (.cells #[.pointer (some ⟨q,0,none⟩)] 63)).alloc (.cells #[.int .u64 0] 23)).alloc (.cells (32:Nat) 23)).alloc (.cells #[.slice (some ⟨w.heap.size+1+1+1,0,none⟩) 32 32] 91)).alloc (.cells #[.slice none 0 0] 246));generalize((((((w.alloc (.cells #[.pointer (some ⟨p,0,none⟩)] 47)).alloc (.cells #[.pointer (some ⟨q,0,none⟩)] 63)).alloc (.cells #[.int .u64 0] 23)).alloc (.cells (32:Nat) 23)).alloc (.cells #[.slice (some ⟨w.heap.size+1+1+1,0,none⟩) 32 32] 91)).alloc (.cells #[.slice none 0 0] 246))=j at*;generalize fH w tag [106,106,130+t,150+t,106,140+t]=g at*;generalize w.heap.size=X at*;have r:j.cell? ⟨X+1,0,none⟩=some (.pointer (some ⟨q,0,none⟩)):=T.out.bx.cell (k:=106) (ty:=63) (by simp [tS,cR]);have K:X+1<j.heap.size:=T.out.bx.lt (k:=106) (ty:=63) (v:=cR q) (by simp [tS]);have H:=aH (jF T.out.th 4 137 #[.pointer (some ⟨X,0,none⟩),.pointer (some ⟨X+1+1,0,none⟩)] 4 rfl (by simp));go_wp2_with fail
 with_reducible refine H.out.mono ?_
 rintro e n ⟨rfl,U,u,N,s,B⟩;have O:=aH (T.out.add (c:=.which) f s B ⟨X,rfl,T.out.bx (X,106,47,cR p) (by simp [tS])⟩);have cw:n.cell? ⟨X+1+1+1+1,0,none⟩=some (.slice (some ⟨X+3,0,none⟩) 32 32):=O.out.bx.cell (b:=X+4) (k:=106) (ty:=91) (by simp [tS]);have G:Hid (By w tag t Z last p q X D cd ended (.which::(List.range 0).map Cl.copy) n):=aH ⟨_,_,_,_,O.out⟩;clear s B H r K T;go_wp2_with fail
 go_loopw [14] (fun i wr=>∃k:Nat,k<=32/\i=.int .i64 k/\Hid (By w tag t Z last p q X D cd ended (.which::(List.range k).map Cl.copy) wr)) (fun i _=>32-(intOf i).toNat)
 case atStart=>exact⟨0,I,rfl,G⟩
 case round=>
  clear G O cw;obtain⟨k,s,rfl,y⟩:=hrel;by_cases zy:k<32
  .have q1:(k:Int)<32:=I;obtain⟨U,u,N,R,S⟩:=y.out;have F:=S.rs.len;simp only[List.length_cons,List.length_map,List.length_range]at F;have Q:=aH (S.below ((Below.refl wr.heap.size wr).alloc (Nat.le_refl _) (.cells #[.int .i64 (k:Int)] 3)) (cO wr U 106));have r:wr.cell? ⟨X+1,0,none⟩=some (.pointer (some ⟨q,0,none⟩)):=S.bx.cell (k:=106) (ty:=63) (by simp [tS,cR]);have K:X+1<wr.heap.size:=S.bx.lt (k:=106) (ty:=63) (v:=cR q) (by simp [tS]);have o:Hid ((cG wr U 106) wr.heap.size=106/\aY (wr.alloc (.cells #[.int .i64 (k:Int)] 3)) wr.heap.size 3 #[.int .i64 (k:Int)]):=aH ⟨dT _ _ _ (Nat.le_refl _),aY.new _ _ _⟩;have H:=aH (jF Q.out.th 5 138 #[.pointer (some ⟨X,0,none⟩),.pointer (some ⟨X+1+1,0,none⟩),.pointer (some ⟨wr.heap.size,0,none⟩),.pointer (some ⟨X+1+1+1+1,0,none⟩),.pointer (some ⟨X+1,0,none⟩),.pointer (some ⟨X+1+1+1+1+1,0,none⟩)] 5 rfl I);have z:=Q.out.bx;have E:=aH (show(Cl.copy k).At (wr.alloc (.cells #[.int .i64 (k:Int)] 3)) (cG wr U 106) (DS p q X) (td 5 (fv 138 #[.pointer (some ⟨X,0,none⟩),.pointer (some ⟨X+1+1,0,none⟩),.pointer (some ⟨wr.heap.size,0,none⟩),.pointer (some ⟨X+1+1+1+1,0,none⟩),.pointer (some ⟨X+1,0,none⟩),.pointer (some ⟨X+1+1+1+1+1,0,none⟩)]))from⟨X,wr.heap.size,X+4,X+1,rfl,z (X,106,47,cR p) (by simp [tS]),o.out,z (X+4,106,91,.slice (some ⟨X+3,0,none⟩) 32 32) (by simp [tS]),z (X+1,106,63,cR q) (by simp [tS])⟩);clear S y z o;go_wp2_with fail
   with_reducible refine H.out.mono ?_
   rintro e w2 ⟨rfl,m,R2,zz,A,P⟩;have C:=aH (Q.out.add (c:=.copy k) f A P E.out);have x:Hid (By w tag t Z last p q X D cd ended (.which::(List.range (k+1)).map Cl.copy) w2):=aH ⟨_,_,_,_,by
    have:=C.out;rw[show(.which::(List.range k).map Cl.copy)++[Cl.copy k]=.which::(List.range (k+1)).map Cl.copy by rw[List.range_succ,List.map_append];rfl]at this;exact this⟩
   clear H E Q C A P;go_wp2;go_roundw
   case rel=>exact⟨k+1,I,by go_num,x⟩
   case measure=>simp [intOf];omega
  .obtain rfl:k=32:=I;have q1:¬((32:Nat):Int)<32:=I;have HF:Hid (∃Y W M L V,Kg (eJ t) w tag wr Y/\(W.p=p/\W.q=q)/\lT wr Y t Z last q M L D cd V ended/\dD wr Y W (.which::kG 0) V/\oM wr Y W.v (130+t) 0/\rN wr Y t W.l []/\lF wr Y t W.w fun _=>0):=aH (by
    obtain⟨U,u,N,R,S⟩:=y.out;refine⟨U,DS p q X,u,N,R,S.k,⟨rfl,rfl⟩,S.th,?_,S.bx (X+2,130+t,23,.int .u64 0) (by simp [tS]),S.l,S.wd⟩;have:=S.rs;rw[show(List.range 32).map Cl.copy=kG 0 by unfold kG;simp]at this;exact this)
   clear y;go_wp2;refine bodyPost_end (v:=.tuple #[]) (by simp [results,results127,go_sem]) rfl ?_;obtain⟨t',en,ra,c',rs,h1,h2,h3,h4,h5,h6,h7⟩:=HF.out;exact⟨rfl,t',h1,en,h2,ra,c',rs,h3,h4,h5,h6,h7⟩
end
section
variable{w:World}{tag:Nat->Nat}{t:Nat}{Z:cQ}{last:Int}{q:Nat}{RA:Option Addr}{cr:Nat}{D:Option Addr}{cd:Nat}{rows0:List (List Value)}{ended:Bool}
theorem yZ{α:Type}(L:List α)(f:Nat->α)(k:Nat):(L++(List.range k).map f)++[f k]=L++(List.range (k+1)).map f:=by
 rw[List.range_succ,List.map_append,List.append_assoc];rfl
def kL(p q g V b:Nat):List (Nat×Nat×TypeId×Value):=[(b,106,47,cR p),(b+1,106,63,cR q),(b+2,106,91,.slice (some ⟨g,0,none⟩) 32 32),(b+3,106,23,[V])]
def lJ(p q g:Nat):mG:=⟨p,q,0,0,g,0,0,0⟩
theorem XW(t p q g V b:Nat)(Y:t<4):yD t (kL p q g V b):=by
 intro x Z;simp only[kL,List.mem_cons,List.not_mem_nil,or_false]at Z;rcases Z with rfl|rfl|rfl|rfl<;>(constructor<;>(try dsimp only)<;>omega)
structure PR (w0:World) (tag0:Nat->Nat) (t:Nat) (Z:cQ) (last:Int) (p q g V b:Nat) (D:Option Addr) (cd:Nat) (ended:Bool) (cs:List Cl) (w:World) (tag:Nat->Nat) (R:Option Addr) (cr:Nat) (rows:List (List Value)):Prop where
 k:Kg (eJ t) w0 tag0 w tag
 th:lT w tag t Z last q R cr D cd rows ended
 bx:FG w tag (kL p q g V b)
 rs:dD w tag (lJ p q g) cs rows
def NW(w0:World)(tag0:Nat->Nat)(t:Nat)(Z:cQ)(last:Int)(p q g V b:Nat)(D:Option Addr)(cd:Nat)(ended:Bool)(cs:List Cl)(w:World):Prop:=∃tag R cr rows,PR w0 tag0 t Z last p q g V b D cd ended cs w tag R cr rows
theorem PR.below{cs:List Cl}(h:PR w0 tag0 t Z last p q g V b D cd ended cs w tag R cr rows)(Y:Below w w w')(X:bI w tag tag'):PR w0 tag0 t Z last p q g V b D cd ended cs w' tag' R cr rows:=
 ⟨h.k.go (S:=bN) X (aD.of_same Y) (fun _ x=>x.elim),h.th.below Y X,h.bx.kept (S:=bN) (aD.of_same Y) X (fun _ x=>x.elim),h.rs.below Y X⟩
theorem PR.add{cs:List Cl}{S:Option Addr}{Y:Nat}(X:t<4)(h:PR w0 tag0 t Z last p q g V b D cd ended cs w tag R cr rows)(W:Kg (eJ t) w tag w' tag'){r:List Value}(T:lT w' tag' t Z last q S Y D cd (rows++[r]) ended){c:Cl}(Q:c.At w tag (lJ p q g) r):PR w0 tag0 t Z last p q g V b D cd ended (cs++[c]) w' tag' S Y (rows++[r]):=
 have U:c.At w' tag' (lJ p q g) r:=Q.kept W.k W.t (fun b hb=>by rcases hb with hb|hb<;>omega)
 ⟨h.k.trans W,T,h.bx.then_ W (XW t p q g V b X),(h.rs.then_ X W).add U⟩
theorem PR.ro{cs:List Cl}(h:PR w0 tag0 t Z last p q g V b D cd ended cs w tag R cr rows):
 yK w tag (lJ p q g) b/\FH w tag (lJ p q g) (b+1)/\Dp w tag (lJ p q g) (b+2)/\Ch w tag (b+3) V:=
 ⟨h.bx (b,106,47,cR p) (by simp [kL]),h.bx (b+1,106,63,cR q) (by simp [kL]),h.bx (b+2,106,91,.slice (some ⟨g,0,none⟩) 32 32) (by simp [kL]),h.bx (b+3,106,23,[V]) (by simp [kL])⟩
theorem PR.start(h:lT w tag t Z last q RA cr D cd [] ended)(p g V:Nat):PR w tag t Z last p q g V w D cd ended [] ((((w.alloc (.cells #[(p,0)] 47)).alloc (.cells #[(q,0)] 63)).alloc (.cells #[.slice (some ⟨g,0,none⟩) 32 32] 91)).alloc (.cells #[[V]] 23)) (fH w tag [106,106,106,106]) RA cr []:=by
 have X:Below w w ((((w.alloc (.cells #[(p,0)] 47)).alloc (.cells #[(q,0)] 63)).alloc (.cells #[.slice (some ⟨g,0,none⟩) 32 32] 91)).alloc (.cells #[[V]] 23)):=(((((Below.refl w w).alloc (Nat.le_refl _) (.cells #[(p,0)] 47)).alloc (by simp;try omega) (.cells #[(q,0)] 63)).alloc (by simp;try omega) (.cells #[.slice (some ⟨g,0,none⟩) 32 32] 91)).alloc (by simp;try omega) (.cells #[[V]] 23));have Y:∀i,fH w tag [106,106,106,106] (w+i)=_:=fB w tag [106,106,106,106];refine⟨Kg.start X (dX _ _ _),h.below X (dX _ _ _),?_,trivial⟩;intro x W;simp only[kL,List.mem_cons,List.not_mem_nil,or_false]at W;rcases W with rfl|rfl|rfl|rfl
 .exact⟨Y 0,(((aY.newAt _ _ _ rfl).alloc _).alloc _).alloc _⟩
 .exact⟨Y 1,((aY.newAt _ _ _ (by simp)).alloc _).alloc _⟩
 .exact⟨Y 2,(aY.newAt _ _ _ (by simp)).alloc _⟩
 exact⟨Y 3,aY.newAt _ _ _ (by simp)⟩
theorem WR(h:lT w tag t Z last q RA cr D cd [] ended)(p g V:Nat)(f:t<4):
 Calls prog 151 #[(p,0),(q,0),.slice (some ⟨g,0,none⟩) 32 32,[V]] w fun e w'=>e=.returned (.tuple #[])/\∃m d ze zd l,Kg (eJ t) w tag w' m/\(d.p=p/\d.q=q/\d.w=g)/\lT w' m t Z last q ze zd D cd l ended/\dD w' m d (kB V 0++(jP V 0++qI V)) l:=by
 have zc:=KH;have N:=aH (PR.start h p g V);clear h
 go_enter func151,ntmps151
 go_upto_region 1 with(fail)
 show Code.wp _ _ _ _ ((((w.alloc (.cells #[(p,0)] 47)).alloc (.cells #[(q,0)] 63)).alloc (.cells #[.slice (some ⟨g,0,none⟩) 32 32] 91)).alloc (.cells #[[V]] 23));generalize((((w.alloc (.cells #[(p,0)] 47)).alloc (.cells #[(q,0)] 63)).alloc (.cells #[.slice (some ⟨g,0,none⟩) 32 32] 91)).alloc (.cells #[[V]] 23))=w0 at*;generalize fH w tag [106,106,106,106]=a at*;generalize w.heap.size=Y at*;have cw:w0.cell? (Y+1+1,0)=some (.slice (some ⟨g,0,none⟩) 32 32):=N.bx.cell (b:=Y+2) (k:=106) (ty:=91) (by simp [kL]);have A:Hid (NW w tag t Z last p q g V Y D cd ended ((List.range 0).map (Cl.write V)) w0):=aH ⟨_,_,_,_,N.out⟩;clear N;go_wp2_with fail
 go_loopw [12] (fun i wr=>∃k:Nat,k<=32/\i=.int .i64 k/\Hid (NW w tag t Z last p q g V Y D cd ended ((List.range k).map (Cl.write V)) wr)) (fun i _=>32-(intOf i).toNat)
 case atStart=>exact⟨0,I,rfl,A⟩
 case round=>
  clear A;obtain⟨k,O,rfl,j⟩:=hrel;by_cases zf:k<32
  .have q1:(k:Int)<32:=I;obtain⟨R,R1,zp,M,H⟩:=j.out;have z:=H.rs.len;simp only[List.length_append,List.length_cons,List.length_map,List.length_range]at z;have T:=aH (H.below ((Below.refl wr wr).alloc (Nat.le_refl _) (.cells #[k] 3)) (cO wr R 106));have K:wr.cell? (Y+1,0)=(q,0):=H.bx.cell (k:=106) (ty:=63) (by simp [kL,cR]);have S:Y+1<wr:=H.bx.lt (k:=106) (ty:=63) (v:=cR q) (by simp [kL]);have HX:Hid ((cG wr R 106) wr=106/\aY (wr.alloc (.cells #[k] 3)) wr 3 #[k]):=aH ⟨dT _ _ _ (Nat.le_refl _),aY.new _ _ _⟩;have Q:=aH (jF T.th 8 171 #[(Y+1+1,0),wr,(Y,0),(Y+1+1+1,0)] 8 rfl I);have U:=T.ro;have X:=aH (show(Cl.write V k).At (wr.alloc (.cells #[k] 3)) (cG wr R 106) (lJ p q g) (td 8 (fv 171 #[(Y+1+1,0),wr,(Y,0),(Y+1+1+1,0)]))from⟨Y+2,wr.heap.size,Y,Y+3,rfl,U.2.2.1,HX.out,U.1,U.2.2.2⟩);clear H j U HX;go_wp2_with fail
   with_reducible refine Q.out.mono ?_
   rintro e w2 ⟨rfl,y,R2,zo,x,L⟩;have P:=aH (T.add (c:=.write V k) f x L X);have zz:Hid (NW w tag t Z last p q g V Y D cd ended ((List.range (k+1)).map (Cl.write V)) w2):=aH ⟨_,_,_,_,by
    have:=P.out;rw[show((List.range k).map (Cl.write V))++[Cl.write V k]=(List.range (k+1)).map (Cl.write V)from yZ [] _ k]at this;exact this⟩
   clear Q X T P x L;go_wp2;go_roundw
   case rel=>exact⟨k+1,I,aG,zz⟩
   case measure=>simp [intOf];omega
  obtain rfl:k=32:=I;have q1:¬((32:Nat):Int)<32:=I;have A:Hid (NW w tag t Z last p q g V Y D cd ended ((List.range 32).map (Cl.write V)++(List.range 0).map (Cl.wish V)) wr):=aH (by rw[show(List.range 0).map (Cl.wish V)=[]from rfl,List.append_nil];exact j);clear j;obtain⟨wo,zi⟩:=aO (wr:World);subst zi;go_wp2_with fail
  go_loopw [19] (fun i wr=>∃k:Nat,k<=4/\i=.int .i64 k/\Hid (NW w tag t Z last p q g V Y D cd ended ((List.range 32).map (Cl.write V)++(List.range k).map (Cl.wish V)) wr)) (fun i _=>4-(intOf i).toNat)
  case atStart=>exact⟨0,I,rfl,A⟩
  case round=>
   clear A;obtain⟨k,O,rfl,j⟩:=hrel;by_cases zf:k<4
   .have q1:(k:Int)<4:=I;obtain⟨R,R1,zp,M,H⟩:=j.out;have z:=H.rs.len;simp only[List.length_append,List.length_cons,List.length_map,List.length_range]at z;have T:=aH (H.below ((Below.refl wr wr).alloc (Nat.le_refl _) (.cells #[k] 3)) (cO wr R 106));have K:wr.cell? (Y+1,0)=(q,0):=H.bx.cell (k:=106) (ty:=63) (by simp [kL,cR]);have S:Y+1<wr:=H.bx.lt (k:=106) (ty:=63) (v:=cR q) (by simp [kL]);have HX:Hid ((cG wr R 106) wr=106/\aY (wr.alloc (.cells #[k] 3)) wr 3 #[k]):=aH ⟨dT _ _ _ (Nat.le_refl _),aY.new _ _ _⟩;have Q:=aH (jF T.th 9 172 #[(Y,0),(Y+1,0),(Y+1+1+1,0),wr] 9 rfl I);have U:=T.ro;have X:=aH (show(Cl.wish V k).At (wr.alloc (.cells #[k] 3)) (cG wr R 106) (lJ p q g) (td 9 (fv 172 #[(Y,0),(Y+1,0),(Y+1+1+1,0),wr]))from⟨Y,Y+1,Y+3,wr.heap.size,rfl,U.1,U.2.1,U.2.2.2,HX.out⟩);clear H j U HX;go_wp2_with fail
    with_reducible refine Q.out.mono ?_
    rintro e w2 ⟨rfl,y,R2,zo,x,L⟩;have P:=aH (T.add (c:=.wish V k) f x L X);have zz:Hid (NW w tag t Z last p q g V Y D cd ended ((List.range 32).map (Cl.write V)++(List.range (k+1)).map (Cl.wish V)) w2):=aH ⟨_,_,_,_,by
     have:=P.out;rw[show((List.range 32).map (Cl.write V)++(List.range k).map (Cl.wish V))++[Cl.wish V k]=(List.range 32).map (Cl.write V)++(List.range (k+1)).map (Cl.wish V)from yZ _ _ k]at this;exact this⟩
    clear Q X T P x L;go_wp2;go_roundw
    case rel=>exact⟨k+1,I,aG,zz⟩
    case measure=>simp [intOf];omega
   obtain rfl:k=4:=I;have q1:¬((4:Nat):Int)<4:=I;obtain⟨a,R0,za,G,H⟩:=j.out;have N:=aH H;have zy:Hid (G.length=36):=aH (by have:=H.rs.len;simpa using this);clear H j;obtain⟨w0,zh⟩:=aO (wr:World);subst zh;have K:w0.cell? (Y+1,0)=(q,0):=N.bx.cell (k:=106) (ty:=63) (by simp [kL,cR]);have S:Y+1<w0:=N.bx.lt (k:=106) (ty:=63) (v:=cR q) (by simp [kL]);have U:=N.ro;have Q:=aH (jF N.th 10 174 #[(Y,0),(Y+1,0)] 10 rfl (by have:=zy.out;omega));have X:=aH (show(Cl.firm).At w0 a (lJ p q g) (td 10 (fv 174 #[(Y,0),(Y+1,0)]))from⟨Y,Y+1,rfl,U.1,U.2.1⟩);clear U;go_wp2_with fail
   with_reducible refine Q.out.mono ?_
   rintro e w1 ⟨rfl,R,R1,zp,O,W⟩;have F:=aH (N.add (c:=.firm) f O W X);have zx:=aH (show(G++[td 10 (fv 174 #[(Y,0),(Y+1,0)])]:List (List Value)).length=37 by rw[List.length_append,zy.out];rfl);clear O W Q X K S N zy;generalize G++[td 10 (fv 174 #[(Y,0),(Y+1,0)])]=M at*;have K:w1.cell? (Y+1,0)=(q,0):=F.bx.cell (k:=106) (ty:=63) (by simp [kL,cR]);have S:Y+1<w1:=F.bx.lt (k:=106) (ty:=63) (v:=cR q) (by simp [kL]);have U:=F.ro;have Q:=aH (jF F.th 11 176 #[(Y+1+1+1,0),(Y,0),(Y+1,0)] 11 rfl (by have:=zx.out;omega));have X:=aH (show(Cl.index V).At w1 R (lJ p q g) (td 11 (fv 176 #[(Y+1+1+1,0),(Y,0),(Y+1,0)]))from⟨Y+3,Y,Y+1,rfl,U.2.2.2,U.1,U.2.1⟩);clear U;go_wp2_with fail
   with_reducible refine Q.out.mono ?_
   rintro e w2 ⟨rfl,y,R2,zo,O,W⟩;have T:=aH (F.add (c:=.index V) f O W X);have zw:=aH (show(M++[td 11 (fv 176 #[(Y+1+1+1,0),(Y,0),(Y+1,0)])]:List (List Value)).length=38 by rw[List.length_append,zx.out];rfl);clear O W Q X K S F zx;generalize M++[td 11 (fv 176 #[(Y+1+1+1,0),(Y,0),(Y+1,0)])]=u at*;have K:w2.cell? (Y+1,0)=(q,0):=T.bx.cell (k:=106) (ty:=63) (by simp [kL,cR]);have S:Y+1<w2:=T.bx.lt (k:=106) (ty:=63) (v:=cR q) (by simp [kL]);have U:=T.ro;have Q:=aH (jF T.th 12 177 #[(Y,0),(Y+1,0)] 12 rfl (by have:=zw.out;omega));have X:=aH (show(Cl.wish2).At w2 y (lJ p q g) (td 12 (fv 177 #[(Y,0),(Y+1,0)]))from⟨Y,Y+1,rfl,U.1,U.2.1⟩);clear U;go_wp2_with fail
   with_reducible refine Q.out.mono ?_
   rintro e w3 ⟨rfl,zn,R3,yz,O,W⟩;have P:=aH (T.add (c:=.wish2) f O W X);have zv:=aH (show(u++[td 12 (fv 177 #[(Y,0),(Y+1,0)])]:List (List Value)).length=39 by rw[List.length_append,zw.out];rfl);clear O W Q X K S T zw;generalize u++[td 12 (fv 177 #[(Y,0),(Y+1,0)])]=s at*;have K:w3.cell? (Y+1,0)=(q,0):=P.bx.cell (k:=106) (ty:=63) (by simp [kL,cR]);have S:Y+1<w3:=P.bx.lt (k:=106) (ty:=63) (v:=cR q) (by simp [kL]);have U:=P.ro;have Q:=aH (jF P.th 13 178 #[(Y,0),(Y+1,0)] 13 rfl (by have:=zv.out;omega));have X:=aH (show(Cl.firm2).At w3 zn (lJ p q g) (td 13 (fv 178 #[(Y,0),(Y+1,0)]))from⟨Y,Y+1,rfl,U.1,U.2.1⟩);clear U;go_wp2_with fail
   with_reducible refine Q.out.mono ?_
   rintro e w4 ⟨rfl,zm,R4,yy,O,W⟩;have E:=aH (P.add (c:=.firm2) f O W X);have zu:=aH (show(s++[td 13 (fv 178 #[(Y,0),(Y+1,0)])]:List (List Value)).length=40 by rw[List.length_append,zv.out];rfl);clear O W Q X K S P zv;generalize s++[td 13 (fv 178 #[(Y,0),(Y+1,0)])]=r at*;have K:w4.cell? (Y+1,0)=(q,0):=E.bx.cell (k:=106) (ty:=63) (by simp [kL,cR]);have S:Y+1<w4:=E.bx.lt (k:=106) (ty:=63) (v:=cR q) (by simp [kL]);have U:=E.ro;have Q:=aH (jF E.th 14 179 #[(Y+1+1+1,0),(Y,0)] 14 rfl (by have:=zu.out;omega));have X:=aH (show(Cl.tell V).At w4 zm (lJ p q g) (td 14 (fv 179 #[(Y+1+1+1,0),(Y,0)]))from⟨Y+3,Y,rfl,U.2.2.2,U.1⟩);clear U;go_wp2_with fail
   with_reducible refine Q.out.mono ?_
   rintro e w5 ⟨rfl,zl,R5,yx,O,W⟩;have C:=aH (E.add (c:=.tell V) f O W X);have zt:=aH (show(r++[td 14 (fv 179 #[(Y+1+1+1,0),(Y,0)])]:List (List Value)).length=41 by rw[List.length_append,zu.out];rfl);clear O W Q X K S E zu;generalize r++[td 14 (fv 179 #[(Y+1+1+1,0),(Y,0)])]=o at*;have K:w5.cell? (Y+1,0)=(q,0):=C.bx.cell (k:=106) (ty:=63) (by simp [kL,cR]);have S:Y+1<w5:=C.bx.lt (k:=106) (ty:=63) (v:=cR q) (by simp [kL]);have U:=C.ro;have Q:=aH (jF C.th 15 180 #[(Y,0)] 15 rfl (by have:=zt.out;omega));have X:=aH (show(Cl.unlock).At w5 zl (lJ p q g) (td 15 (fv 180 #[(Y,0)]))from⟨Y,rfl,U.1⟩);clear U;go_wp2_with fail
   with_reducible refine Q.out.mono ?_
   rintro e w6 ⟨rfl,zk,R6,yw,O,W⟩;have B:=aH (C.add (c:=.unlock) f O W X);have zs:=aH (show(o++[td 15 (fv 180 #[(Y,0)])]:List (List Value)).length=42 by rw[List.length_append,zt.out];rfl);clear O W Q X K S C zt;generalize o++[td 15 (fv 180 #[(Y,0)])]=n at*;have K:w6.cell? (Y+1,0)=(q,0):=B.bx.cell (k:=106) (ty:=63) (by simp [kL,cR]);have S:Y+1<w6:=B.bx.lt (k:=106) (ty:=63) (v:=cR q) (by simp [kL]);have U:=B.ro;have Q:=aH (jF B.th 16 181 #[(Y+1,0)] 16 rfl (by have:=zs.out;omega));have X:=aH (show(Cl.reply).At w6 zk (lJ p q g) (td 16 (fv 181 #[(Y+1,0)]))from⟨Y+1,rfl,U.2.1⟩);clear U;go_wp2_with fail
   with_reducible refine Q.out.mono ?_
   rintro e w7 ⟨rfl,zj,R7,zg,O,W⟩;have zr:=aH (B.add (c:=.reply) f O W X);have zb:=aH (show(n++[td 16 (fv 181 #[(Y+1,0)])]:List (List Value)).length=43 by rw[List.length_append,zs.out];rfl);clear O W Q X K S B zs;generalize n++[td 16 (fv 181 #[(Y+1,0)])]=zq at*;go_wp2;refine bodyPost_end (v:=.tuple #[]) (by simp [results,results151,go_sem]) rfl ?_;refine⟨rfl,zj,lJ p q g,R7,zg,zq,zr.k,⟨rfl,rfl,rfl⟩,zr.th,?_⟩;have:=zr.rs;simp only[List.append_assoc]at this;have e1:kB V 0=(List.range 32).map (Cl.write V):=by unfold kB;simp
   have e2:jP V 0=(List.range 4).map (Cl.wish V):=by unfold jP;simp
   rw[e1,e2];exact this
end
section
variable{w:World}{tag:Nat->Nat}{t:Nat}{Z:cQ}{last:Int}{q:Nat}{RA:Option Addr}{cr:Nat}{D:Option Addr}{cd:Nat}{rows0:List (List Value)}{ended:Bool}
def lB(e0:mG)(i:Nat)(b:Nat):List (Nat×Nat×TypeId×Value):=[(b,106,47,cR e0.p),(b+1,106,63,cR e0.q),(b+2,106,3,i),(b+3,106,248,cR e0.l),(b+4,106,91,e0.W),(b+5,106,249,cR e0.v)]
theorem YW(t:Nat)(e0:mG)(i b:Nat)(Y:t<4):yD t (lB e0 i b):=by
 intro x Z;simp only[lB,List.mem_cons,List.not_mem_nil,or_false]at Z;rcases Z with rfl|rfl|rfl|rfl|rfl|rfl<;>(constructor<;>(try dsimp only)<;>omega)
theorem KV(e0:mG)(i:Nat)(w:World)(tag:Nat->Nat):FG ((((((w.alloc (.cells #[(e0.p,0)] 47)).alloc (.cells #[(e0.q,0)] 63)).alloc (.cells #[i] 3)).alloc (.cells #[(e0.l,0)] 248)).alloc (.cells #[.slice (some ⟨e0.w,0,none⟩) 32 32] 91)).alloc (.cells #[(e0.v,0)] 249)) (fH w tag [106,106,106,106,106,106]) (lB e0 i w):=by
 have Z:∀i,fH w tag [106,106,106,106,106,106] (w+i)=_:=fB w tag [106,106,106,106,106,106];intro x Y;simp only[lB,List.mem_cons,List.not_mem_nil,or_false]at Y;rcases Y with rfl|rfl|rfl|rfl|rfl|rfl
 .exact⟨Z 0,(((((aY.newAt _ _ _ rfl).alloc _).alloc _).alloc _).alloc _).alloc _⟩
 .exact⟨Z 1,((((aY.newAt _ _ _ (by simp)).alloc _).alloc _).alloc _).alloc _⟩
 .exact⟨Z 2,(((aY.newAt _ _ _ (by simp)).alloc _).alloc _).alloc _⟩
 .exact⟨Z 3,((aY.newAt _ _ _ (by simp)).alloc _).alloc _⟩
 .exact⟨Z 4,(aY.newAt _ _ _ (by simp)).alloc _⟩
 exact⟨Z 5,aY.newAt _ _ _ (by simp)⟩
theorem GD(e0:mG)(i:Nat)(w:World):Below w.heap.size w ((((((w.alloc (.cells #[.pointer (some ⟨e0.p,0,none⟩)] 47)).alloc (.cells #[.pointer (some ⟨e0.q,0,none⟩)] 63)).alloc (.cells #[.int .i64 (i:Int)] 3)).alloc (.cells #[.pointer (some ⟨e0.l,0,none⟩)] 248)).alloc (.cells #[.slice (some ⟨e0.w,0,none⟩) 32 32] 91)).alloc (.cells #[.pointer (some ⟨e0.v,0,none⟩)] 249)):=(((((((Below.refl w.heap.size w).alloc (Nat.le_refl _) (.cells #[.pointer (some ⟨e0.p,0,none⟩)] 47)).alloc (by simp;try omega) (.cells #[.pointer (some ⟨e0.q,0,none⟩)] 63)).alloc (by simp;try omega) (.cells #[.int .i64 (i:Int)] 3)).alloc (by simp;try omega) (.cells #[.pointer (some ⟨e0.l,0,none⟩)] 248)).alloc (by simp;try omega) (.cells #[.slice (some ⟨e0.w,0,none⟩) 32 32] 91)).alloc (by simp;try omega) (.cells #[.pointer (some ⟨e0.v,0,none⟩)] 249))
theorem zP(e0:mG)(h:lT w tag t Z last e0.q RA cr D cd [] ended)(i:Nat)(A:Int)(G:A=i)(o:i<4)(n:t<4):
 Calls prog 139 #[.pointer (some ⟨e0.p,0,none⟩),.pointer (some ⟨e0.q,0,none⟩),.int .i64 A,.pointer (some ⟨e0.l,0,none⟩),.slice (some ⟨e0.w,0,none⟩) 32 32,.pointer (some ⟨e0.v,0,none⟩)] w fun e w'=>e=.returned (.tuple #[])/\∃V F E U,Kg (eJ t) w tag w' V/\lT w' V t Z last e0.q F E D cd U ended/\dD w' V e0 [.asks i] U:=by
 subst G;have z:=KH;have r:¬(i:Int)=4:=I;have X:=aH (KV e0 i w tag);have S:=aH (h.below (GD e0 i w) (dX w tag [106,106,106,106,106,106]));have R:Hid (Kg (eJ t) w tag ((((((w.alloc (.cells #[.pointer (some ⟨e0.p,0,none⟩)] 47)).alloc (.cells #[.pointer (some ⟨e0.q,0,none⟩)] 63)).alloc (.cells #[.int .i64 (i:Int)] 3)).alloc (.cells #[.pointer (some ⟨e0.l,0,none⟩)] 248)).alloc (.cells #[.slice (some ⟨e0.w,0,none⟩) 32 32] 91)).alloc (.cells #[.pointer (some ⟨e0.v,0,none⟩)] 249)) _):=aH (Kg.start (GD e0 i w) (dX w tag [106,106,106,106,106,106]));clear h
 go_enter func139,ntmps139
 go_upto_region 1 with(fail)
 show Code.wp _ _ _ _ ((((((w.alloc (.cells #[.pointer (some ⟨e0.p,0,none⟩)] 47)).alloc (.cells #[.pointer (some ⟨e0.q,0,none⟩)] 63)).alloc (.cells #[.int .i64 (i:Int)] 3)).alloc (.cells #[.pointer (some ⟨e0.l,0,none⟩)] 248)).alloc (.cells #[.slice (some ⟨e0.w,0,none⟩) 32 32] 91)).alloc (.cells #[.pointer (some ⟨e0.v,0,none⟩)] 249));generalize((((((w.alloc (.cells #[.pointer (some ⟨e0.p,0,none⟩)] 47)).alloc (.cells #[.pointer (some ⟨e0.q,0,none⟩)] 63)).alloc (.cells #[.int .i64 (i:Int)] 3)).alloc (.cells #[.pointer (some ⟨e0.l,0,none⟩)] 248)).alloc (.cells #[.slice (some ⟨e0.w,0,none⟩) 32 32] 91)).alloc (.cells #[.pointer (some ⟨e0.v,0,none⟩)] 249))=H at*;generalize fH w tag [106,106,106,106,106,106]=P at*;generalize w.heap.size=Y at*;have y:H.cell? ⟨Y+1+1,0,none⟩=some (.int .i64 (i:Int)):=X.cell (b:=Y+2) (k:=106) (ty:=3) (by simp [lB]);have x:H.cell? ⟨Y+1,0,none⟩=some (.pointer (some ⟨e0.q,0,none⟩)):=X.cell (b:=Y+1) (k:=106) (ty:=63) (by simp [lB,cR]);have C:=aH (show(Cl.asks i).At H P e0 (td 6 (fv 152 #[.pointer (some ⟨Y,0,none⟩),.pointer (some ⟨Y+1+1,0,none⟩),.pointer (some ⟨Y+1+1+1+1,0,none⟩),.pointer (some ⟨Y+1,0,none⟩),.pointer (some ⟨Y+1+1+1,0,none⟩),.pointer (some ⟨Y+1+1+1+1+1,0,none⟩)]))from⟨Y,Y+2,Y+4,Y+1,Y+3,Y+5,rfl,X.out (Y,106,47,cR e0.p) (by simp [lB]),X.out (Y+2,106,3,.int .i64 i) (by simp [lB]),X.out (Y+4,106,91,e0.W) (by simp [lB]),X.out (Y+1,106,63,cR e0.q) (by simp [lB]),X.out (Y+3,106,248,cR e0.l) (by simp [lB]),X.out (Y+5,106,249,cR e0.v) (by simp [lB])⟩);have B:=aH (jF S 6 152 #[.pointer (some ⟨Y,0,none⟩),.pointer (some ⟨Y+1+1,0,none⟩),.pointer (some ⟨Y+1+1+1+1,0,none⟩),.pointer (some ⟨Y+1,0,none⟩),.pointer (some ⟨Y+1+1+1,0,none⟩),.pointer (some ⟨Y+1+1+1+1+1,0,none⟩)] 6 rfl (by simp));clear X S;go_wp2_with fail
 with_reducible refine B.out.mono ?_
 rintro e u ⟨rfl,T,s,K,O,Q⟩;have N:=aH (R.trans O);have M:=aH Q;have L:Hid (dD u T e0 [.asks i] [td 6 (fv 152 #[.pointer (some ⟨Y,0,none⟩),.pointer (some ⟨Y+1+1,0,none⟩),.pointer (some ⟨Y+1+1+1+1,0,none⟩),.pointer (some ⟨Y+1,0,none⟩),.pointer (some ⟨Y+1+1+1,0,none⟩),.pointer (some ⟨Y+1+1+1+1+1,0,none⟩)])]):=aH ⟨C.kept O.k O.t (fun b hb=>by rcases hb with hb|hb<;>omega),trivial⟩
 clear O Q B R C x y;go_wp2;refine bodyPost_end (v:=.tuple #[]) (by simp [results,results139,go_sem]) rfl ⟨rfl,T,s,K,_,N.out,M.out,L.out⟩
end
theorem kR{P:Program}{fn:Func}{p q s:Tmp}{ty:TypeId}(h:fn.results= #[.cell p ty,.tmp q,.tmp s])(Z:Array Value)(w:World)(g:Nat)(t:TypeId)(cs:Array Value)(d:TypeDesc)(v u:Value)
 (V:Z.getD p undef=.pointer (some ⟨g,0,none⟩)) (U:Z.getD q undef=v) (T:Z.getD s undef=u) (S:aY w g t cs)
 (R:P.underlying ty=some d) (Q:(match d with|.struct _|.array _ _=>true|_=>false)=true) (O:(P.info? ty).map (·.size)=some cs.size):
 (results fn Z).run P w=.ok (.tuple #[.agg cs,v,u]) w:=by
 have Y:Z[p]?.getD undef=.pointer (some ⟨g,0,none⟩):=by simpa using V
 have X:Z[q]?.getD undef=v:=by simpa using U
 have W:Z[s]?.getD undef=u:=by simpa using T
 simp [results,h,Y,X,W,asAddr,run_loadVar_row w g t ty cs (0,0) d S R Q O]
theorem MP:(prog.info? 159).map (fun i=>(i.zero,i.size,i.bytes))=some (some (.agg #[(0:Int),(0:Int),(0:Int),(0:Int),(0:Int),(0:Int)]),6,48):=J
theorem JV:∃Z,prog.info? 159=some Z/\Z.zero=some (.agg #[(0:Int),(0:Int),(0:Int),(0:Int),(0:Int),(0:Int)])/\Z.size=6/\Z.bytes=48:=by
 have h:=MP;cases hq:prog.info? 159 with
 |none=>simp [hq]at h
 |some i=>simp [hq]at h;exact⟨i,rfl,h.1,h.2.1,h.2.2⟩
def kX(r0 r1:Int):Int:=if r0<0\/4<=r0 then 2 else if r1≠0/\r1≠1 then 1 else 0
theorem TS{z r:Nat->Int}(h:kX (r 0) (r 1)≠0):gR z r=kX (r 0) (r 1):=by
 unfold kX at*;unfold gR;split
 .rfl
 rename_i h1;rw[iN h1]at h;split
 .rfl
 rename_i h2;rw[iN h2]at h;exact absurd rfl h
theorem DK{Z Y:Int}(h:kX Z Y=0):0<=Z/\Z<4/\(Y=0\/Y=1):=by
 unfold kX at h;split at h
 .omega
 split at h
 .omega
 omega
theorem LZ(C:Array Value)(z:Nat->Int)(t g a k v:Int)(w:World)(h:cH C 32 z)(Y:kX t g≠0):
 Calls prog 129 #[.agg C,.agg #[t,g,a,k,v]] w fun e w'=>e=.returned (.tuple #[false,.iface 53 (kX t g)])/\Below w w w':=by
 by_cases X:t<0\/4<=t
 .have Z:kX t g=2:=by unfold kX;rw[iP X]
  rw[Z];exact PC C t g a k v w I
 have Z:kX t g=1:=by
  unfold kX at Y⊢;rw[iN X]at Y⊢;split at Y
  .rename_i h2;rw[iP h2]
  exact absurd rfl Y
 rw[Z];unfold kX at Z;rw[iN X]at Z;split at Z
 .rename_i h2;exact OL C t g a k v w I I h2
 omega
theorem GU(C:Array Value)(z r:Nat->Int)(t g a k v:Int)(w:World)(h:cH C 32 z)(T:kX t g=0)(S:r 0=t)(R:r 1=g):
 Calls prog 129 #[.agg C,.agg #[t,g,a,k,v]] w fun e w'=>e=.returned (.tuple #[(vF z r),.nilIface])/\Below w w w':=by
 obtain⟨Y,X,U⟩:=DK T;have e:vF z r=(AT (z 26).toNat t !=g):=by
  have V:AT (z 26).toNat t=jA z t.toNat:=by
   unfold AT jA;rw[show((t.toNat:Nat):Int)=t by omega];by_cases Z:gO (z 26).toNat t=true
   .rw[iP ⟨Y,X,Z⟩,iP Z]
   rw[iN (fun h=>Z h.2.2),iN Z]
  unfold vF;rw[S,R,V];by_cases W:jA z t.toNat=g
  .simp [W]
  simp [W]
 rw[e];exact SP C z t g a k v w h Y X U
theorem VM(C:Array Value)(z:Nat->Int)(t a k v:Int)(w:World)(h:cH C 32 z)(Y:0<=t)(X:t<4)(W:rT z)(hb:cB a k v=false\/1099511627776<z 28):
 Calls prog 130 #[.agg C,t,.agg #[a,k,v]] w (rG 1 w):=by
 by_cases Z:eE z
 .rcases hb with hb|hb
  .exact VL C z t a k v w h ⟨Y,X⟩ Z hb
  have:=(iD.1 Z).2;omega
 exact MO C z t a k v w h ⟨Y,X⟩ Z
theorem OQ(C:Array Value)(z:Nat->Int)(t a k v:Int)(w:World)(h:cH C 32 z)(W:0<=t)(V:t<4)(Y:eE z)(X:cB a k v=true):
 Calls prog 130 #[.agg C,t,.agg #[a,k,v]] w fun e w'=>∃F,e=.returned (.tuple #[.agg F,.nilIface])/\cH F 32 (dZ z t.toNat a k v)/\Below w w w':=by
 have e:((t.toNat:Nat):Int)=t:=I;have Z:=QC C z t.toNat a k v (mO z a k) w h I Y (eN.1 X) (QD Y a k);rw[e]at Z;exact Z
theorem YD{Z Y:Int}(h:nA Z Y):∃x p q:Nat,iV Z Y=(x:Int)/\x/4294967296=p/\x%4294967296=q/\fU p q=true/\(p:Int)=Z/\(q:Int)=Y:=by
 obtain⟨W,V,⟨U,T⟩,S⟩:=h;have X:fU Z Y=true:=by simp [fU];omega
 have e:iV Z Y=Z*4294967296+Y:=by unfold iV;rw[iP X]
 refine⟨(Z*4294967296+Y).toNat,Z.toNat,Y.toNat,by rw[e];omega,I,I,?_,I,I⟩;rw[show((Z.toNat:Nat):Int)=Z by omega,show((Y.toNat:Nat):Int)=Y by omega];exact X
theorem EV(F:Array Value)(z:Nat->Int)(t a k v:Int)(w:World)(V:∀i,i<32->0<=z i/\z i<18446744073709551616)(h:cH F 32 (dZ z t.toNat a k v))(G:0<=t)(E:t<4)(U:eE z)(K:cB a k v=true):
 Calls prog 120 #[.agg F,.int .i64 t] w fun e w'=>∃y,e=.returned (.tuple #[.agg #[.int .i64 (dC z a k v),.int .i64 (dV z a k v)],.int .i64 y,.nilIface])/\Below w.heap.size w w':=by
 have e:((t.toNat:Nat):Int)=t:=I;obtain⟨_,_,R⟩:=zC U V (eN.1 K);obtain⟨x,p,q,Q,P,O,N,X,W⟩:=YD R;have T:=V 28 I;have S:=(iD.1 U).2;have Z:dZ z t.toNat a k v (18+t.toNat)=(x:Int):=by
  unfold dZ;rw[qR _ _ _ _ _ I,iP rfl];exact Q
 have Y:dZ z t.toNat a k v (22+t.toNat)=z 28+1:=by
  unfold dZ;rw[mB _ _ _ _ _ I I,iP rfl]
 have:=xC F (dZ z t.toNat a k v) t.toNat x p q (z 28+1) (z 28+1) w h I Z Y P O N (.inl ⟨I,rfl⟩);rw[e]at this;rw[X,W]at this;exact this.mono fun H w' ⟨M,L⟩=>⟨_,M,L⟩
def VE(f:Nat->Nat->Int)(z:Nat->Int)(n:Nat)(w:World)(e:Ending)(w':World):Prop:=
 Below w w w'/\((∃k g,k<n/\(∀j,j<k->gR (bz f z j) (f j)=0)/\gR (bz f z k) (f k)≠0/\e=.returned (.tuple #[.agg (32:Nat),.slice none 0 0,.iface 188 (g,0)])/\aY w' g 191 #[(gR (bz f z k) (f k)),k])\/
  ((∀j,j<n->gR (bz f z j) (f j)=0)/\∃D A c,e=.returned (.tuple #[.agg D,.slice A (bd f z n).length c,.nilIface])/\cH D 32 (dW (bz f z n))/\cU w' w 159 6 A (bd f z n).length c (bd f z n)))
structure UJ (w:World) (f:Nat->Nat->Int) (z:Nat->Int) (k:Nat) (A:Option Addr) (c:Nat) (D:Array Value) (wr:World):Prop where
 rcd:aY wr w 25 D
 u:cH D 32 (bz f z k)
 res:aY wr (w,1) 25 (32:Nat)
 own:cU wr (w,2) 159 6 A (bd f z k).length c (bd f z k)
 below:Below w w wr
 right:rT (bz f z k)
 good:∀j,j<k->gR (bz f z j) (f j)=0
def Fq(w:World)(f:Nat->Nat->Int)(z:Nat->Int)(k:Nat)(d:Value)(wr:World):Prop:=∃D A c,d=.slice A (bd f z k).length c/\UJ w f z k A c D wr
theorem TO(f:Nat->Nat->Int)(z:Nat->Int):∀k,(bd f z k).length<=k
 |0=>Nat.le_refl _
 |k+1=>by
  have:=TO f z k;unfold bd;split
  .simp;omega
  .omega
theorem BF:(prog.info? 25).map (·.size)=some 32:=J
theorem Ca(C:Array Value)(z:Nat->Int)(A:Option Addr)(n c:Nat)(f:Nat->Nat->Int)(w:World)(h:cH C 32 z)(hr:eE z)(hs:PQ LG w A n c f)(hn:n<=1000)(hg:mR w):
 Calls prog 119 #[.agg C,.slice A n c] w (VE f z n w):=by
 have HI:Hid ((prog.info? 25).map (·.size)=some C.size):=by show _=_;rw[BF,h.size]
 have zc:=aH (fun W=>lP C z true W h ⟨fun _=>hr,fun _=>rfl⟩);have HB:=aH ((aY.new w 25 C).alloc (.cells (32:Nat) 25));have HR:=aH (aY.newAt (w.alloc (.cells C 25)) 25 (32:Nat) (n:=w+1) (by simp));have yi:=aH h;have HZ:=aH hr;have zl:=aH hs;have HG:=aH hg;obtain⟨i0,yo,yn,ym,yl⟩:=JV;have yh:=aH yo;have yg:=aH yn;have yf:=aH ym;have ye:=aH yl;clear h hr hs hg yo yn ym yl
 go_enter func119,ntmps119
 generalize hQ:bodyPost prog Tryz.f119 (VE f z n w)=Q;have HQ:=aH hQ;clear hQ
 go_wp2_with (with_reducible refine lL 25 w 25 C J HB.out underlying25 J HI.out ?_)
 with_reducible refine(zc.out _).mono ?_
 rintro e w1 ⟨rfl,Z⟩;have yd:Hid (UJ w f z 0 none 0 C w1):=aH ⟨HB.out.below Z HB.out.lt,yi.out,HR.out.below Z HR.out.lt,cU.nil _ _ _ _,Below.trans (by go_grown) (Z.mono (by simp;omega)),(iD.1 HZ.out).1,fun j hj=>absurd hj I⟩;clear Z HB HR HI zc;go_wp2
 go_loopw [7,22] (fun d i wr=>∃k:Nat,k<=n/\i=.int .i64 k/\Hid (Fq w f z k d wr)) (fun _ i _=>n-(intOf i).toNat)
 case atStart=>exact⟨0,I,rfl,aH ⟨C,none,0,rfl,yd.out⟩⟩
 case round=>
  obtain⟨k,hk,rfl,yk⟩:=hrel;obtain⟨D,A1,c1,rfl,R⟩:=yk.out;have Y:=aH R;have s:Hid ((prog.info? 25).map (·.size)=some D.size):=by show _=_;rw[BF,R.u.size]
  have zb:=aH R.u.size;have hW:=R.below;have xp:=R.res.lt;have xo:=TO f z k;clear yk R;by_cases t:k<n
  .have q1:(k:Int)<n:=I;obtain⟨b,T,rfl,M,V⟩:=zl.out.at_ I;have xr:=zl.out.cap;have xq:=zl.out.cap63;have c0:wr.cell? (b,T+k*5)=(f k 0):=(hW.cell (p:=⟨b,T+k*5,none⟩) M).trans (V k 0 t aJ);have xn:wr.cell? (b,T+k*5+1)=(f k 1):=(hW.cell (p:=⟨b,T+k*5+1,none⟩) M).trans (V k 1 t aJ);have c2:wr.cell? (b,T+k*5+2)=(f k 2):=(hW.cell (p:=⟨b,T+k*5+2,none⟩) M).trans (V k 2 t aJ);have c3:wr.cell? (b,T+k*5+3)=(f k 3):=(hW.cell (p:=⟨b,T+k*5+3,none⟩) M).trans (V k 3 t aJ);have c4:wr.cell? (b,T+k*5+4)=(f k 4):=(hW.cell (p:=⟨b,T+k*5+4,none⟩) M).trans (V k 4 t aJ);clear V;have N:=aH (Y.out.rcd.alloc (.cells #[(f k 0),(f k 1),(f k 2),(f k 3),(f k 4)] 181));have r:=aH (Y.out.res.alloc (.cells #[(f k 0),(f k 1),(f k 2),(f k 3),(f k 4)] 181));have zs:=aH (aY.new wr 181 #[(f k 0),(f k 1),(f k 2),(f k 3),(f k 4)]);have yc:=aH (Y.out.own.below (w':=wr.alloc (.cells #[(f k 0),(f k 1),(f k 2),(f k 3),(f k 4)] 181)) (by go_grown));have q:=aH (hW.alloc hW.size (.cells #[(f k 0),(f k 1),(f k 2),(f k 3),(f k 4)] 181));clear hW;by_cases ho:kX (f k 0) (f k 1)=0
   .obtain⟨r0,r4,rg⟩:=DK ho;have L:=aH (fun W=>GU D (bz f z k) (f k) (f k 0) (f k 1) (f k 2) (f k 3) (f k 4) W Y.out.u ho rfl rfl);cases hop:vF (bz f z k) (f k)
    .
     rw[hop]at L;have HN:Hid (UJ w f z (k+1) A1 c1 D wr):=aH ⟨Y.out.rcd,by unfold bz sD;rw[hop];exact Y.out.u,Y.out.res,by unfold bd;rw[hop];exact Y.out.own,Y.out.below,by unfold bz sD;rw[hop];exact Y.out.right,fun j hj=>by
      rcases Nat.lt_or_ge j k with h|h
      .exact Y.out.good j h
      .obtain rfl:j=k:=I;have yb:=of_decide_eq_false hop;unfold gR;rw[if_neg I,if_neg I,if_pos (by simpa using yb)]⟩
     have HL:Hid ((bd f z (k+1)).length=(bd f z k).length):=aH (by rw[bd,if_neg (by rw[hop];exact Bool.false_ne_true)]);clear hop ho r0 r4 rg;generalize f k 0=x0 at*;generalize f k 1=x1 at*;generalize f k 2=x2 at*;generalize f k 3=x3 at*;generalize f k 4=x4 at*;generalize(bd f z k).length=dn at*
     go_wp2_with (with_reducible refine lL 25 w 25 D J N.out underlying25 J s.out ?_)
     with_reducible refine(L.out _).mono ?_
     rintro e w1 ⟨rfl,Z⟩;have zk:Hid (UJ w f z (k+1) A1 c1 D w1):=aH (by
      have hb:Below wr wr w1:=Below.trans (by go_grown) (Z.mono (by simp));exact⟨HN.out.rcd.below hb HN.out.rcd.lt,HN.out.u,HN.out.res.below hb HN.out.res.lt,HN.out.own.below hb,HN.out.below.trans (hb.mono HN.out.below.size),HN.out.right,HN.out.good⟩)
     clear Z;go_wp2;go_roundw
     case rel=>exact⟨k+1,I,aG,aH ⟨D,A1,c1,by rw[HL.out],zk.out⟩⟩
     case measure=>simp [intOf];omega
    .rw[hop]at L;by_cases P:cB (f k 2) (f k 3) (f k 4)=false\/1099511627776<bz f z k 28
     .
      have HE:Hid (gR (bz f z k) (f k)=1):=aH (by
       unfold gR;rw[if_neg I,if_neg I,if_neg (by simpa using of_decide_eq_true hop),if_pos P])
      have zj:Hid ((1:Int)≠0):=aH aJ;have zi:=aH (fun W=>VM D (bz f z k) (f k 0) (f k 2) (f k 3) (f k 4) W Y.out.u r0 r4 Y.out.right P);clear hop ho r0 r4 rg P;generalize f k 0=x0 at*;generalize f k 1=x1 at*;generalize f k 2=x2 at*;generalize f k 3=x3 at*;generalize f k 4=x4 at*
      go_wp2_with (with_reducible refine lL 25 w 25 D J N.out underlying25 J s.out ?_)
      with_reducible refine(L.out _).mono ?_
      rintro e w1 ⟨rfl,Z⟩;have K:=aH (N.out.below Z N.out.lt);have zy:=aH (r.out.below Z r.out.lt);have X:=zs.out.below Z zs.out.lt;have zx:=aH (q.out.trans (Z.mono q.out.size));have ya:=X.lt;have k0:=X.cell 0;have k2:=X.cell 2;have k3:=X.cell 3;have k4:=X.cell 4;simp only[List.getElem?_toArray,List.getElem?_cons_zero,List.getElem?_cons_succ]at k0 k2 k3 k4;clear Z X
      go_wp2_with (with_reducible refine lL 25 w 25 D J K.out underlying25 J s.out ?_)
      with_reducible refine(zi.out _).mono ?_
      rintro e w2 ⟨rfl,U⟩;have o:=aH (K.out.below U K.out.lt);have H:=aH (zy.out.below U zy.out.lt);have m:=aH (zx.out.trans (U.mono zx.out.size));clear U;have zw:=aH (H.out.far_row (show w.heap.size+1≠w by omega) (32:Nat));have G:=aH (aL m.out (Nat.le_refl _) (32:Nat))
      go_wp2_with (with_reducible refine fK 25 w (32:Nat) 25 D J J o.out J (by rw[zb.out];kernel_rfl) J ?_)
      go_wp2_with fail
      with_reducible refine(wF 1 _ (HG.out.below G.out)).mono ?_
      rintro e w9 ⟨rfl,x⟩;have E:=aH (zw.out.below x zw.out.lt);have zv:=aH (G.out.trans (x.mono G.out.size));have xB:=E.out.lt;clear x
      go_wp2_with (with_reducible refine fK 25 (w,1) (32:Nat) 25 (32:Nat) J J (E.out.alloc _) J J J ?_)
      (try simp only[Exit.inBlock,Exit.then])
      rw[<-HQ.out]
      with_reducible refine bodyPost_ret (kR results119 _ _ (w,1) 25 (32:Nat) _ (.slice none 0 0) (.iface 188 w9) J J J (aY.setRow (E.out.alloc _) _) underlying25 J J) J ?_
      refine⟨aL (zv.out.alloc zv.out.size _) I _,.inl ⟨k,w9.heap.size,t,Y.out.good,?_,rfl,?_⟩⟩
      .rw[HE.out];exact zj.out
      .rw[HE.out];exact aY.far_row (aY.new _ _ _) I _
     .
      have O:cB (f k 2) (f k 3) (f k 4)=true/\bz f z k 28<=1099511627776:=by
       cases hx:cB (f k 2) (f k 3) (f k 4)
       .exact absurd (.inl hx) P
       .exact⟨rfl,I⟩
      have zh:=iD.2 ⟨Y.out.right,O.2⟩;have zi:=aH (fun W=>OQ D (bz f z k) (f k 0) (f k 2) (f k 3) (f k 4) W Y.out.u r0 r4 zh O.1);have xz:=aH (fun F W hF=>EV F (bz f z k) (f k 0) (f k 2) (f k 3) (f k 4) W Y.out.u.bd hF r0 r4 zh O.1);have xy:Hid (bz f z (k+1)=dZ (bz f z k) (f k 0).toNat (f k 2) (f k 3) (f k 4)):=aH (by rw[bz,sD,if_pos hop]);have za:Hid (bd f z (k+1)=bd f z k++[uP (bz f z k) (f k)]):=aH (by rw[bd,if_pos hop]);have yz:Hid (uP (bz f z k) (f k)=[.int .i64 (f k 0),.int .i64 (f k 2),.int .i64 (f k 3),.int .i64 (f k 4),.int .i64 (dC (bz f z k) (f k 2) (f k 3) (f k 4)),.int .i64 (dV (bz f z k) (f k 2) (f k 3) (f k 4))]):=aH rfl;have yy:Hid (rT (bz f z (k+1))/\∀j,j<k+1->gR (bz f z j) (f j)=0):=aH (by
       have he:gR (bz f z k) (f k)=0:=by
        unfold gR;rw[if_neg I,if_neg I];split
        .rfl
        .first|rfl|rw[if_neg P]
       refine⟨by rw[bz];exact wV Y.out.right Y.out.u.bd he,fun j hj=>?_⟩;rcases Nat.lt_or_ge j k with h|h
       .exact Y.out.good j h
       .obtain rfl:j=k:=I;exact he)
      clear hop ho r0 r4 rg P O zh;generalize dC (bz f z k) (f k 2) (f k 3) (f k 4)=co at*;generalize dV (bz f z k) (f k 2) (f k 3) (f k 4)=va at*;generalize dZ (bz f z k) (f k 0).toNat (f k 2) (f k 3) (f k 4)=z' at*;generalize f k 0=x0 at*;generalize f k 1=x1 at*;generalize f k 2=x2 at*;generalize f k 3=x3 at*;generalize f k 4=x4 at*;have yx:Hid ((bd f z (k+1)).length=(bd f z k).length+1):=aH (by rw[za.out];simp);generalize zn:(bd f z k).length=dn at*;clear zn
      go_wp2_with (with_reducible refine lL 25 w 25 D J N.out underlying25 J s.out ?_)
      with_reducible refine(L.out _).mono ?_
      rintro e w1 ⟨rfl,Z⟩;have K:=aH (N.out.below Z N.out.lt);have zy:=aH (r.out.below Z r.out.lt);have yw:=aH (yc.out.below Z);have X:=aH (zs.out.below Z zs.out.lt);have zx:=aH (q.out.trans (Z.mono q.out.size));have ya:=X.out.lt;have k0:=X.out.cell 0;have k2:=X.out.cell 2;have k3:=X.out.cell 3;have k4:=X.out.cell 4;simp only[List.getElem?_toArray,List.getElem?_cons_zero,List.getElem?_cons_succ]at k0 k2 k3 k4;clear Z
      go_wp2_with (with_reducible refine lL 25 w 25 D J K.out underlying25 J s.out ?_)
      with_reducible refine(zi.out _).mono ?_
      rintro e w2 ⟨F,rfl,hF,U⟩;have HF:=aH hF;have yv:Hid ((prog.info? 25).map (·.size)=some F.size):=by show _=_;rw[BF,hF.size]
      have xx:=aH hF.size;have xw:=aH hF.one;have o:=aH (K.out.below U K.out.lt);have zr:=(X.out.below U X.out.lt).far_row (show wr.heap.size≠w by omega) F;have yu:=aH zr;have H:=aH ((zy.out.below U zy.out.lt).far_row (show w.heap.size+1≠w by omega) F);have m:=aH (aL (zx.out.trans (U.mono zx.out.size)) (Nat.le_refl _) F);have zq:Hid (cU (w2.setRow w F) (w,2) 159 6 A1 dn c1 (bd f z k)):=aH ((yw.out.below U).kept (S:=cI w) (jD w2 w F) (fun a ha he=>by have:=(yw.out.lt a ha).1;unfold cI at he;omega));have zg:=aH (aY.setRow o.out F);have l0:=zr.cell 0;simp only[List.getElem?_toArray,List.getElem?_cons_zero,List.getElem?_cons_succ]at l0;have xm:=zr.lt;clear U hF zr k0 k2 k3 k4
      go_wp2_with (first
       |(with_reducible refine fK 25 w F 25 D J J o.out yv.out (by rw[zb.out,xx.out]) xw.out ?_)
       |(with_reducible refine lL 25 w 25 F J zg.out underlying25 J yv.out ?_))
      generalize xs:w2.setRow w.heap.size F=w3 at*;clear xs
      with_reducible refine(xz.out F _ HF.out).mono ?_
      rintro e w4 ⟨y,rfl,zz⟩;have l:=yu.out.below zz yu.out.lt;have yt:=aH (zg.out.below zz zg.out.lt);have zf:=aH (H.out.below zz H.out.lt);have xv:=aH (zq.out.below zz);have zp:=aH (m.out.trans (zz.mono m.out.size));have k0:=l.cell 0;have k2:=l.cell 2;have k3:=l.cell 3;have k4:=l.cell 4;simp only[List.getElem?_toArray,List.getElem?_cons_zero,List.getElem?_cons_succ]at k0 k2 k3 k4;have xl:=l.lt;have xk:=zf.out.lt;clear zz l l0
      go_wp2_with (refine qJ (.tmp 70) (.tmp 77) rfl rfl underlying41 yh.out yg.out yf.out ye.out rfl aJ aJ (B:=w+2) (A:=A1) (n:=dn) (c:=c1) (rows:=bd f z k) rfl ?own (g:=w4+1) (c':=1) rfl (ys:=uP (bz f z k) (f k)) rfl ?cells ?ones ?small ?base ?_)
      case own=>exact(xv.out.below (by go_grown))
      case cells=>
       intro j hj;rw[yz.out];rcases(by omega:j=0\/j=1\/j=2\/j=3\/j=4\/j=5)with rfl|rfl|rfl|rfl|rfl|rfl
       all_goals(go_simp;done)
      case ones=>
       intro u hu;rw[yz.out]at hu;simp only[List.mem_cons,List.not_mem_nil,or_false]at hu;rcases hu with rfl|rfl|rfl|rfl|rfl|rfl<;>rfl
      case small=>omega
      case base=>simp;omega
      intro g9 zm w9 zt zo yj;have yr:¬iI A1 w:=fun⟨a,ha,hq⟩=>by have:=(Y.out.own.lt a ha).1;omega
      have yq:¬iI A1 (w,1):=fun⟨a,ha,hq⟩=>by have:=(Y.out.own.lt a ha).1;omega
      have zk:Hid (UJ w f z (k+1) (some ⟨g9,0,none⟩) zm F w9):=aH (by
       refine⟨(zo.block _ ((yt.out.alloc _).alloc _).lt yr).trans ((yt.out.alloc _).alloc _),by rw[xy.out];exact HF.out,(zo.block _ ((zf.out.alloc _).alloc _).lt yq).trans ((zf.out.alloc _).alloc _),by rw[yx.out,za.out];exact zt,?_,yy.out.1,yy.out.2⟩;exact((zp.out.alloc zp.out.size _).alloc (by have:=zp.out.size;simp;omega) _).trans (zo.below (by have:=zp.out.size;simp;omega) (fun b hb ⟨a,ha,hq⟩=>by have:=(Y.out.own.lt a ha).1;omega)))
      clear zt zo yj yr yq;go_wp2;go_roundw
      case rel=>exact⟨k+1,I,aG,aH ⟨F,_,zm,by rw[yx.out],zk.out⟩⟩
      case measure=>simp [intOf];omega
   .
    have HE:Hid (gR (bz f z k) (f k)=kX (f k 0) (f k 1)):=aH (TS ho);have zj:Hid (kX (f k 0) (f k 1)≠0):=aH ho;have L:=aH (fun W=>LZ D (bz f z k) (f k 0) (f k 1) (f k 2) (f k 3) (f k 4) W Y.out.u ho);clear ho;generalize kX (f k 0) (f k 1)=e0 at*;generalize f k 0=x0 at*;generalize f k 1=x1 at*;generalize f k 2=x2 at*;generalize f k 3=x3 at*;generalize f k 4=x4 at*
    go_wp2_with (with_reducible refine lL 25 w 25 D J N.out underlying25 J s.out ?_)
    with_reducible refine(L.out _).mono ?_
    rintro e w1 ⟨rfl,Z⟩;have zw:=aH (r.out.below Z r.out.lt);have G:=aH (q.out.trans (Z.mono q.out.size));clear Z;go_wp2_with fail
    with_reducible refine(wF e0 _ (HG.out.below G.out)).mono ?_
    rintro e w9 ⟨rfl,x⟩;have E:=aH (zw.out.below x zw.out.lt);have zv:=aH (G.out.trans (x.mono G.out.size));have xB:=E.out.lt;clear x
    go_wp2_with (with_reducible refine fK 25 (w,1) (32:Nat) 25 (32:Nat) J J (E.out.alloc _) J J J ?_)
    (try simp only[Exit.inBlock,Exit.then])
    rw[<-HQ.out]
    with_reducible refine bodyPost_ret (kR results119 _ _ (w,1) 25 (32:Nat) _ (.slice none 0 0) (.iface 188 w9) J J J (aY.setRow (E.out.alloc _) _) underlying25 J J) J ?_
    refine⟨aL (zv.out.alloc zv.out.size _) I _,.inl ⟨k,w9.heap.size,t,Y.out.good,?_,rfl,?_⟩⟩
    .rw[HE.out];exact zj.out
    .rw[HE.out];exact aY.far_row (aY.new _ _ _) I _
  .obtain rfl:k=n:=I;have q1:¬(k:Int)<k:=I;have xj:=Y.out.u.bd 27 I;have xi:=Y.out.right.2.2.2.1;have xh:=(Y.out.rcd.cell 27).trans (Y.out.u.get 27 I);have xg:=Y.out.rcd.frozen 27;have zu:cH (D.setIfInBounds 27 [bz f z k 27+1]) 32 (dW (bz f z k)):=(Y.out.u.set_ (k:=27) (v:=bz f z k 27+1) I).congr (fun i hi=>by unfold dW;by_cases e:i=27<;>simp [e])
   obtain⟨D2,zd⟩:∃D2,D2=D.setIfInBounds 27 [bz f z k 27+1]:=⟨_,rfl⟩;rw[<-zd]at zu;have yp:=aH zu;have ze:Hid ((prog.info? 25).map (·.size)=some D2.size):=by show _=_;rw[BF,zu.size]
   have xu:=aH zu.size;have o:Hid (aY (wr.setCell (w.heap.size,27) [bz f z k 27+1]) w 25 D2):=aH (by rw[zd];exact Y.out.rcd.set_ 27 _);have H:=aH (aY.far Y.out.res (p:=⟨w.heap.size,27,none⟩) (show w.heap.size+1≠w by omega) [bz f z k 27+1]);have zq:=aH (Y.out.own.kept (bP wr w 27 [bz f z k 27+1]) (fun a ha he=>by have:=(Y.out.own.lt a ha).1;have xt:a.block=w:=he;omega));have m:Hid (Below w w (wr.setCell (w.heap.size,27) [bz f z k 27+1])):=aH (hW.setCell (p:=⟨w.heap.size,27,none⟩) (Nat.le_refl _) _);have u1:(bz f z k 27+1)%18446744073709551616=bz f z k 27+1:=I;have u2:IntKind.u64.wrap (bz f z k 27+1)=bz f z k 27+1:=IntWalk.u64_in _ I;clear zu zd;generalize bz f z k 27=xf at*;generalize zn:(bd f z k).length=dn at*
   go_wp2_with (first
    |(with_reducible refine lL 25 w 25 D2 J o.out underlying25 J ze.out ?_)
    |(with_reducible refine fK 25 (w,1) D2 25 (32:Nat) J J H.out ze.out (by rw[xu.out];kernel_rfl) yp.out.one ?_))
   (try simp only[Exit.inBlock,Exit.then])
   rw[<-HQ.out]
   with_reducible refine bodyPost_ret (kR results119 _ _ (w,1) 25 D2 _ (.slice A1 dn c1) .nilIface J J J (aY.setRow H.out _) underlying25 J ze.out) J ?_
   refine⟨aL m.out I _,.inr ⟨Y.out.good,D2,A1,c1,by rw[zn],yp.out,?_⟩⟩;rw[zn];exact(zq.out.kept (jD _ _ _) (fun a ha he=>by have:=(zq.out.lt a ha).1;have xt:a.block=w+1:=he;omega)).mono I
def kT(z:Nat->Int):Array Value:=jM 32 fun i=>.int .u64 (z i)
theorem xA{z:Nat->Int}(Y:∀i,i<32->0<=z i/\z i<18446744073709551616):cH (kT z) 32 z:=⟨dJ,fun i Z=>cW Z,Y⟩
theorem zQ(z:Nat->Int):(kT z).size=32:=dJ
theorem vU(z:Nat->Int):(prog.info? 25).map (·.size)=some (kT z).size:=by rw[zQ];kernel_rfl
theorem SZ(z:Nat->Int):(kT z).all (·.oneCell')=true:=qH fun _ _=>rfl
theorem WM(t:Nat)(Z:cQ)(A D:Value):(kE t Z A D).extract 9 (9+32)=kT Z.r:=by
 rw[kE,pS I];refine jJ fun i Y=>?_
 unfold zI;rw[iN I,iN I,iN I,iN I,iN I,iN I,iN I,iN I,iN I,iP I,show 9+i-9=i by omega]
theorem sW{Y:Nat}{Z:cQ}{A D:Value}(h:aY w Y 46 (kE t Z A D)):w.rangeAt Y 9 (kT Z.r).toList:=by
 rw[<-WM t Z A D];exact World.rangeAt_of_block (t:=46) (fr:=(0,0)) h 9 32
theorem FD{Y o n:Nat}{Z:cQ}{A D:Value}(h:aY w Y 46 (kE t Z A D))(X:o+n<=49):w.there Y o n:=h.there (by rw[sL];exact X)
theorem Bb(t:Nat)(Z:cQ)(A D:Value)(z:Nat->Int):fF (kE t Z A D) 9 (kT z).toList=kE t {Z with r:=z} A D:=by
 refine qS I fun j X=>?_
 unfold zI;by_cases h:9<=j/\j<9+32
 .rw[iP h,iN I,iN I,iN I,iN I,iN I,iN I,iN I,iN I,iN I,iP I]
 rw[iN h];by_cases W:j<9
 .rcases(by omega:j=0\/j=1\/j=2\/j=3\/j=4\/j=5\/j=6\/j=7\/j=8)with rfl|rfl|rfl|rfl|rfl|rfl|rfl|rfl|rfl<;>rfl
 have Y:¬j<41:=I;simp only[Y,if_false]
theorem LE(t:Nat)(Z:cQ)(A D:Value)(x y:Int):fF (kE t Z A D) 46 [.int .i64 x,.int .i64 y]=kE t {Z with o1:=x,o2:=y} A D:=by
 show(((kE t Z A D).setIfInBounds 46 x).setIfInBounds 47 y)=_;have Y:(kE t Z A D).setIfInBounds 46 x=kE t {Z with o1:=x} A D:=dP fun j W=>by
  by_cases e:j=46
  .subst e;rfl
  rw[iN e];unfold zI;simp only[e,if_false]
 have X:(kE t {Z with o1:=x} A D).setIfInBounds 47 y=kE t {Z with o1:=x,o2:=y} A D:=dP fun j W=>by
  by_cases e:j=47
  .subst e;rfl
  rw[iN e];unfold zI;simp only[e,if_false]
 rw[Y,X]
theorem TU(C:Array Value)(z:Nat->Int)(t:Nat)(h:cH C 32 z)(O:eE z)(V:t<4):
 ∃N,∀w,Calls prog 120 #[.agg C,t] w fun e w'=>e=.returned (.tuple #[.agg #[(nV z t),(nW z t)],(nL z t),N])/\Below w w w':=by
 obtain⟨R,M⟩:=h.bd (18+t) I;obtain⟨c1,L⟩:=h.bd (22+t) I;obtain⟨x,X⟩:=Int.eq_ofNat_of_zero_le R;obtain⟨⟨⟨_,_,Q,_⟩,Y,_⟩⟩:=O,trivial;obtain⟨⟨a1,K,P⟩,_⟩:=Y t V;cases hf:yI (z (18+t))with
 |true=>
  have U:fU ((x/4294967296:Nat):Int) ((x%4294967296:Nat):Int)=true:=by
   have:=hf;unfold yI at this;rw[X]at this;rw[show((x/4294967296:Nat):Int)=(x:Int)/4294967296 by omega,show((x%4294967296:Nat):Int)=(x:Int)%4294967296 by omega];exact this
  refine⟨.nilIface,fun w=>?_⟩;refine(xC C z t x (x/4294967296) (x%4294967296) (z (22+t)) (z (22+t)) w h V X rfl rfl rfl U (.inl ⟨I,rfl⟩)).mono ?_;rintro e w' ⟨rfl,W⟩;refine⟨?_,W⟩;unfold nV nW nL;rw[iP hf,iP hf,X,show((x/4294967296:Nat):Int)=(x:Int)/4294967296 by omega,show((x%4294967296:Nat):Int)=(x:Int)%4294967296 by omega]
 |false=>
  have T:z (18+t)=0:=by
   rcases a1 with a1|a1
   .rw[hf]at a1;cases a1
   exact a1
  have Z:x=0:=I;have S:=P.1 T;refine⟨gS 8,fun w=>?_⟩;refine(MU C z t x 0 0 w h V X (by rw[Z]) (by rw[Z]) aJ).mono ?_;rintro e w' ⟨rfl,W⟩;refine⟨?_,W⟩;unfold nV nW nL;rw[iN (by rw[hf];simp),iN (by rw[hf];simp),S]
theorem AE{A:Option Addr}{n c:Nat}{f:Nat->Nat->Int}{B:Nat}{e:TypeId}(h:cU w B e 5 A n c (eH f n))(Z:∀i j,i<n->j<LG.length->(Lit.int (LG.getD j .i64) (f i j)).wf=true):PQ LG w A n c f:=
 FI.slf (K:=LG) h.slr f (fun i Y=>AB f Y) Z
theorem CG{f:Nat->Nat->Int}{n:Nat}(h:jL f n):∀i j,i<n->j<LG.length->(Lit.int (LG.getD j .i64) (f i j)).wf=true:=by
 intro i j Y X;obtain⟨W,V,U,T,S,R,Q,P,O⟩:=h i Y;have Z:j<5:=X;rcases(by omega:j=0\/j=1\/j=2\/j=3\/j=4)with rfl|rfl|rfl|rfl|rfl
 all_goals
  show(Lit.int .i64 _).wf=true;show(decide (-9223372036854775808<=_)&&decide (_<=9223372036854775807))=true;rw[Bool.and_eq_true];exact⟨decide_eq_true I,decide_eq_true I⟩
def Df(F:Array Value)(m:Nat)(v:Value):Prop:=∃A c,v=.tuple #[.agg F,.slice A m c,.nilIface]
def Ex(B:Nat)(F:Array Value)(rows:List (List Value))(v:Value)(w':World):Prop:=∃A c,v=.tuple #[.agg F,.slice A rows.length c,.nilIface]/\cU w' B 159 6 A rows.length c rows
def RM(n:Nat)(v:Value):Prop:=∃A c,v=.slice A n c
def Ck(i:Nat)(v:Value):Value:=match v with|.tuple vs=>vs.getD i undef|_=>undef
theorem WJ(C:Array Value)(z:Nat->Int)(A:Option Addr)(n c:Nat)(f:Nat->Nat->Int)(w:World)(h:cH C 32 z)(X:eE z)(P:PQ LG w A n c f)(O:jL f n)(H:n<=4)(N:z 28+n<=1099511627776)(M:mR w):
 Calls prog 119 #[.agg C,.slice A n c] w fun e w'=>∃Z c',e=.returned (.tuple #[.agg (kT (dW (bz f z n))),.slice Z (bd f z n).length c',.nilIface])/\cU w' w 159 6 Z (bd f z n).length c' (bd f z n)/\Below w w w':=by
 obtain⟨W,V,L,K,U⟩:=tZ X h.bd O N n (Nat.le_refl _);refine(Ca C z A n c f w h X P I M).mono ?_;rintro e w' ⟨T,h⟩;rcases h with⟨k,g,S,_,Y,_⟩|⟨_,D,Z,c',rfl,R,Q⟩
 .exact absurd (U k S) Y
 have e:=R.ext (xA (sZ W V));subst e;exact⟨Z,c',rfl,Q,T⟩
section
variable{w0 w:World}{tag:Nat->Nat}{t:Nat}{Z:cQ}{gw:Nat}{A:Option Addr}{ca:Nat}{D:Option Addr}{cd:Nat}{m:Nat->Int}{gm:Nat}{s:cN}{gs:Nat}
theorem Ba(h:WS w0 w tag t Z gw A ca D cd m gm s gs)(d:Z.does≠8)(X:Z.does<=21):Calls prog 95 #[(gw,0)] w fun e w'=>e=.returned (.tuple #[])/\w=w':=by
 have c1:=h.c1 rfl;have Y:¬(Z.does:Int)=8:=I;clear h
 go_enter func95,ntmps95
 go_wp2;exact bodyPost_end (v:=.tuple #[]) (by simp [results,results95,go_sem]) rfl ⟨rfl,rfl⟩
theorem Ae(h:WS w0 w tag t Z gw A ca D cd m gm s gs)(d:Z.does=8)(ht:t<4)(hr:eE Z.r)(U:∀i,i<32->0<=Z.r i/\Z.r i<18446744073709551616)(ha:jL Z.asks Z.na)(hn:Z.na<=4)(hc:Z.r 28+Z.na<=1099511627776)(zn:Z.r 27+1<=1099511627776)(hg:mR w):
 Calls prog 95 #[(gw,0)] w fun e w'=>e=.returned (.tuple #[])/\iZ w0 tag t gw gm gs ⟨m,s,Z.all t,false⟩ w':=by
 obtain⟨x1,x2,x3,x4,x5⟩:=tZ hr U ha hc Z.na (Nat.le_refl _);have zv:eE (dW (bz Z.asks Z.r Z.na)):=rK x1 I (by rw[x3];exact zn);have zu:=sZ x1 x2;have zt:=aH (fun(W:World) (hW:PQ LG W A Z.na ca Z.asks) (hG:mR W)=>WJ (kT Z.r) Z.r A Z.na ca Z.asks W (xA U) hr hW ha hn hc hG);obtain⟨er,zq⟩:=TU (kT (dW (bz Z.asks Z.r Z.na))) _ t (xA zu) zv ht;have zm:=aH zq;clear zq;have l:Z.all t={Z with r:=dW (bz Z.asks Z.r Z.na),deeds:=bd Z.asks Z.r Z.na,o1:=nV (dW (bz Z.asks Z.r Z.na)) t,o2:=nW (dW (bz Z.asks Z.r Z.na)) t,wn:=nL (dW (bz Z.asks Z.r Z.na)) t}:=iP d;rw[l];clear l x1 x2 x3 x4 x5 zv zu;have zs:=aH (AE h.wk.asks (CG ha));have H:=aH h;have HG:=aH hg;have HD:=aH d;have zy:=h.lt;have c1:w.cell? (gw,1)=(8:Int):=h.c1 d;have zl:w.cell? (gw,41)=some (.slice A Z.na ca):=h.c 41 I;have zk:=aH h.wk.deeds;clear h hr U ha hc zn hg d;generalize hz:dW (bz Z.asks Z.r Z.na)=z at*;generalize ze:bd Z.asks Z.r Z.na=L at*;clear hz ze;have hB:∃B:Nat,B=w:=⟨_,rfl⟩;obtain⟨B,zp⟩:=hB;have p:=aH zp;clear zp
 go_enter func95,ntmps95
 go_wp2;refine eL 21 (cI gw) [17,20] J J ?_;intro yx E
 iterate 5
  refine aV ?_;constructor
  .intro w9 hw9 Y;go_simp
   first
   |exact aE
 first|(with_reducible refine aI (fun K X=>?_))|(refine aI (fun K X=>?_))
 refine .inl ⟨.agg (kT Z.r),cX,?_,X _ _ _ _ ?_⟩
 .simp only[bW,cM];refine⟨?_,fun w9 hw9 Y=>?_⟩
  .first|rfl|(go_simp;done)
  refine aS ?_;have R:=cA Y.1 (by rw[E.out];kernel_rfl);have P:=aH (sW (H.below R).wk.blk);refine aW ?_;refine eG 25 _ rfl gw 9 rfl (kT Z.r) _ P underlying25 rfl (vU _) aE
 iterate 3
  clear X K;refine aN ?_
  first|(with_reducible refine aI (fun K X=>?_))|(refine aI (fun K X=>?_))
  refine .inl ?_;apply Exists.intro;refine⟨cX,?_,X _ _ _ _ ?_⟩
  .simp only[bW,cM];refine⟨?_,fun w9 hw9 Y=>?_⟩
   .first|rfl|(go_simp;done)
   go_simp
   first
   |exact aE
 clear X K;refine aN ?_;refine aV ?_;constructor
 .intro w9 hw9 Y;refine aS ?_;have zd:w9.cell? (gw,41)=some (.slice A Z.na ca):=(H.below (cA Y.1 (by rw[E.out];kernel_rfl))).c 41 I;refine aW ?_;go_simp
  first
  |exact aE
 refine bG (Df (kT z) L.length) (fun _=>Ex B (kT z) L) ⟨_,none,0,rfl⟩ ?_ ?_
 .intro w9 hw9 Y;refine aS ?_;have R:=cA Y.1 (by rw[E.out];kernel_rfl);have zj:=zs.below R;have zi:=HG.below R;have zh:B<=w9:=by rw[p.out];exact R.size
  refine aW ?_;go_simp;go_at_call 119
  with_reducible refine(zt.out w9 zj zi).mono ?_
  rintro e w' ⟨A',c',rfl,hO,zf⟩;exact⟨_,rfl,⟨⟨_,_,rfl⟩,⟨_,_,rfl,hO.mono zh⟩⟩,aD.of_same zf⟩
 refine bH (Df (kT z) L.length) (fun us v _=>v=us 10) ⟨_,none,0,rfl⟩ ?_ ?_
 .rintro _ ⟨j,g,rfl⟩;refine⟨aF,fun w9 hw9 Y=>?_⟩;go_simp;refine⟨⟨⟨_,_,rfl⟩,?_⟩,aD.refl _ _⟩;unfold cV;rw[iP (by rw[E.out];kernel_rfl)];rfl
 first|(with_reducible refine aI (fun K X=>?_))|(refine aI (fun K X=>?_))
 refine .inl ?_;apply Exists.intro;refine⟨cX,?_,X _ _ _ _ ?_⟩
 .simp only[bW,cM];rintro _ ⟨A5,c5,rfl⟩;rintro _ ⟨j,g,rfl⟩;refine⟨?_,fun w9 hw9 Y=>?_⟩
  .first|rfl|(go_simp;done)
  go_simp
  first
  |exact aE
 clear X K;refine aN ?_
 first|(with_reducible refine aI (fun K X=>?_))|(refine aI (fun K X=>?_))
 refine .inr (.inr ⟨(RM L.length),(fun us v _=>v=Ck 1 (us 10)),⟨_,none,0,rfl⟩,?_,X _ _ _ _ ?_⟩)
 .simp only[bW,cM];rintro _ ⟨A5,c5,rfl⟩;rintro _ ⟨j,g,rfl⟩;refine⟨?_,fun w9 hw9 Y=>?_⟩
  .first|rfl|(go_simp;done)
  refine aS ?_;obtain⟨f,V⟩:=Y;simp only[BX]at V;obtain⟨zo,k0,k1,hq⟩:=V.2.1 (by rw[E.out];kernel_rfl);unfold cV at hq;rw[iP (by rw[E.out];kernel_rfl)]at hq;clear V k0 k1;have HQ:=aH hq;clear hq;refine aW ?_;go_simp;refine⟨⟨⟨_,_,rfl⟩,?_⟩,aD.refl _ _⟩;unfold cV;rw[iP (by rw[E.out];kernel_rfl)];exact congrArg (Ck 1) HQ
 iterate 3
  clear X K;refine aN ?_
  first|(with_reducible refine aI (fun K X=>?_))|(refine aI (fun K X=>?_))
  refine .inl ?_;apply Exists.intro;refine⟨cX,?_,X _ _ _ _ ?_⟩
  .simp only[bW,cM];rintro _ ⟨C,y,rfl⟩;rintro _ ⟨A5,c5,rfl⟩;rintro _ ⟨j,g,rfl⟩;refine⟨?_,fun w9 hw9 Y=>?_⟩
   .first|rfl|(go_simp;done)
   go_simp
   first
   |exact aE
 clear X K;refine aN ?_
 first|(with_reducible refine aI (fun K X=>?_))|(refine aI (fun K X=>?_))
 refine .inl ⟨undef,(fun us w'=>aY w' gw 46 (kE t {Z with r:=z} (.slice A Z.na ca) (.slice D Z.deeds.length cd))),?_,X _ _ _ _ ?_⟩
 .simp only[bW,cM];rintro _ ⟨C,y,rfl⟩;rintro _ ⟨A5,c5,rfl⟩;rintro _ ⟨j,g,rfl⟩;refine⟨?_,fun w9 hw9 Y=>?_⟩
  .first|rfl|(go_simp;done)
  refine aS ?_;have R:=cA Y.1 (by rw[E.out];kernel_rfl);have P:=aH (H.below R);have HY:Hid (w9.there gw 9 (kT z).size):=aH (FD P.wk.blk (by rw[zQ];omega));refine aW ?_;refine dA 25 _ _ rfl gw 9 (kT z) rfl rfl HY (vU _) (SZ _) ?_;refine⟨⟨rfl,?_⟩,(cE (S:=cI gw) (.inl rfl) 9 _).mono fun b U=>⟨aJ,U⟩⟩;have x:=aY.setCells (vs:=(kT z).toList) (o:=9) P.wk.blk;rw[Bb]at x;exact x
 iterate 2
  clear X K;refine aN ?_
  first|(with_reducible refine aI (fun K X=>?_))|(refine aI (fun K X=>?_))
  refine .inl ?_;apply Exists.intro;refine⟨cX,?_,X _ _ _ _ ?_⟩
  .simp only[bW,cM];rintro _ ⟨C,y,rfl⟩;rintro _ ⟨A5,c5,rfl⟩;rintro _ ⟨j,g,rfl⟩;refine⟨?_,fun w9 hw9 Y=>?_⟩
   .first|rfl|(go_simp;done)
   go_simp
   first
   |exact aE
 clear X K;refine aN ?_;refine bF undef (fun us w'=>aY w' gw 46 (kE t {Z with r:=z} (.slice A Z.na ca) (us 13))) ?_ ?_
 .rintro _ ⟨C,y,rfl⟩;rintro _ ⟨A5,c5,rfl⟩;rintro _ ⟨j,g,rfl⟩;refine⟨aF,fun w9 hw9 Y=>?_⟩;refine aS ?_;obtain⟨f,V⟩:=Y;simp only[BX]at V;obtain⟨zo,zw,q,F⟩:=V.2.2.2.2.2.1 (by rw[E.out];kernel_rfl);have P:=aH (F.below (cA q (by rw[E.out];kernel_rfl)) F.lt);clear V f zw q F;have zc:w9.cell? (gw,42)=some (.slice D Z.deeds.length cd):=mS P 42 I;have zb:=P.frozen 42;refine aW ?_;go_simp;refine⟨⟨rfl,?_⟩,(bP _ gw 42 _).mono fun b U=>by first|exact U|exact⟨aJ,U⟩⟩
  unfold cV;rw[iP (by rw[E.out];kernel_rfl)];have x:=P.set_ 42 (.slice C L.length y);rw[OW]at x;exact x
 refine kS ?_;simp only[cM];rintro _ ⟨C,y,rfl⟩ _ ⟨A5,c5,rfl⟩ _ ⟨j,g,rfl⟩ w9 hw9 V;refine aQ ?_;refine aS ?_;simp only[BX]at V;obtain⟨wa,ka,kb,A',c',hv,hO⟩:=V.1 trivial;obtain⟨wb,kc,kd,n⟩:=V.2.2.1 trivial;obtain⟨wc,ke,kf,M⟩:=V.2.2.2.1 trivial;unfold cV at n M;rw[iP (by rw[E.out];kernel_rfl)]at n M;have zg:=hv;have zr:Value.slice C L.length y=.slice j L.length g:=n;have u:aY wc gw 46 (kE t {Z with r:=z} (.slice A Z.na ca) (.slice C L.length y)):=M;cases zg;cases zr;have O:=u.below (cA kf (by rw[E.out];kernel_rfl)) u.lt;have zx:cU w9 B 159 6 C L.length y L:=hO.kept kb fun a ha e=>by
  have:=(hO.lt a ha).1;have e':a.block=gw:=e.2;have za:=p.out;omega
 have G:=cO w tag (30+t);have N:Hid (WS w0 w9 (cG w tag (30+t)) t {Z with r:=z,deeds:=L} gw A ca C y m gm s gs):=aH (by
  have Q:∀b,cI gw b->tag b=10+t:=fun b U=>by rw[show b=gw from U];exact H.wk.tg
  refine⟨⟨O,H.wk.asks.keptT hw9 H.wk.tA (fun b U=>by rw[Q b U];omega),zx.mono (Nat.zero_le _),(G gw zy).trans H.wk.tg,H.wk.asks.tagT G H.wk.tA,fun b U=>?_⟩,H.ram.kept hw9 G (fun b U=>by rw[Q b U];omega),H.st.kept hw9 G (fun b U=>by rw[Q b U];omega),?_⟩
  .obtain⟨a,ha,rfl⟩:=U;have:=(zx.lt a ha).1;exact dT _ _ _ (by have:=p.out;omega)
  exact(H.k.trans (hw9.mono fun b U=>.inr (.inr (.inl (Q b U))))).retag (fun b U=>G b (Nat.lt_of_lt_of_le U H.k.size)))
 have HT:Hid (bI w0 tag (cG w tag (30+t))):=aH (fun b U=>G b (Nat.lt_of_lt_of_le U H.k.size));clear V hv hO n M u O zx G zk p HG zs zt ka kb kc kd ke kf c1 zl wa wb wc;obtain⟨w1,rfl⟩:=aO w9;generalize cG w tag (30+t)=zz at*;clear H hw9 zy;have zy:=N.lt;have c0:w1.cell? (gw,0)=t:=N.c 0 I;refine aW ?_;go_wp2;refine bK 21 (cI gw) [17,20] J J ?_
 iterate 5
  refine aR ?_;constructor
  .intro w9 hw9 T;go_simp
   first
   |exact aE
 first|(with_reducible refine aC (fun K X=>?_))|(refine aC (fun K X=>?_))
 refine .inl ⟨.agg (kT z),cX,?_,X _ _ _ _ ?_⟩
 .simp only[bJ,bM];refine⟨?_,fun w9 hw9 T=>?_⟩
  .first|rfl|(go_simp;done)
  refine aS ?_;have R:=cA T.1 J;have P:=aH (sW (N.below R).wk.blk);refine aW ?_;refine eG 25 _ rfl gw 9 rfl (kT z) _ P underlying25 rfl (vU _) aE
 iterate 3
  clear X K;refine aN ?_
  first|(with_reducible refine aC (fun K X=>?_))|(refine aC (fun K X=>?_))
  refine .inl ?_;apply Exists.intro;refine⟨cX,?_,X _ _ _ _ ?_⟩
  .simp only[bJ,bM];refine⟨?_,fun w9 hw9 T=>?_⟩
   .first|rfl|(go_simp;done)
   go_simp
   first
   |exact aE
 clear X K;refine aN ?_;refine aR ?_;constructor
 .intro w9 hw9 T;refine aS ?_;have q0:w9.cell? (gw,0)=t:=(N.below (cA T.1 J)).c 0 I;refine aW ?_;go_simp
  first
  |exact aE
 first|(with_reducible refine aC (fun K X=>?_))|(refine aC (fun K X=>?_))
 refine .inl ?_;apply Exists.intro;refine⟨cX,?_,X _ _ _ _ ?_⟩
 .simp only[bJ,bM];refine⟨?_,fun w9 hw9 T=>?_⟩
  .first|rfl|(go_simp;done)
  go_simp
  first
  |exact aE
  |(go_at_call 120;exact bS (zm.out _))
 iterate 6
  clear X K;refine aN ?_
  first|(with_reducible refine aC (fun K X=>?_))|(refine aC (fun K X=>?_))
  refine .inl ?_;apply Exists.intro;refine⟨cX,?_,X _ _ _ _ ?_⟩
  .simp only[bJ,bM];refine⟨?_,fun w9 hw9 T=>?_⟩
   .first|rfl|(go_simp;done)
   go_simp
   first
   |exact aE
 clear X K;refine aN ?_
 first|(with_reducible refine aC (fun K X=>?_))|(refine aC (fun K X=>?_))
 refine .inl ⟨undef,(fun _ w'=>aY w' gw 46 (kE t {Z with r:=z,deeds:=L,o1:=nV z t,o2:=nW z t} (.slice A Z.na ca) (.slice C L.length y))),?_,X _ _ _ _ ?_⟩
 .simp only[bJ,bM];refine⟨?_,fun w9 hw9 T=>?_⟩
  .first|rfl|(go_simp;done)
  refine aS ?_;have R:=cA T.1 J;have P:=aH (N.below R);have HY:Hid (w9.there gw 46 2):=aH (FD P.wk.blk I);refine aW ?_;refine dA 44 _ _ rfl gw 46 #[(nV z t),(nW z t)] rfl rfl HY J J ?_;refine⟨⟨rfl,?_⟩,(cE (S:=cI gw) (.inl rfl) 46 _).mono fun b U=>⟨aJ,U⟩⟩;have x:=aY.setCells (vs:=[.int .i64 (nV z t),.int .i64 (nW z t)]) (o:=46) P.wk.blk;rw[LE]at x;exact x
 iterate 2
  clear X K;refine aN ?_
  first|(with_reducible refine aC (fun K X=>?_))|(refine aC (fun K X=>?_))
  refine .inl ?_;apply Exists.intro;refine⟨cX,?_,X _ _ _ _ ?_⟩
  .simp only[bJ,bM];refine⟨?_,fun w9 hw9 T=>?_⟩
   .first|rfl|(go_simp;done)
   go_simp
   first
   |exact aE
 clear X K;refine aN ?_;refine bA undef (fun _ w'=>aY w' gw 46 (kE t {Z with r:=z,deeds:=L,o1:=nV z t,o2:=nW z t,wn:=nL z t} (.slice A Z.na ca) (.slice C L.length y))) ?_ ?_
 .intro w9 hw9 T;refine aS ?_;obtain⟨zo,zw,q,F⟩:=T.2.2.2.1 J;have P:=aH (F.below (cA q J) F.lt);clear T zw q F;have yz:w9.cell? (gw,48)=Z.wn:=mS P 48 I;have yy:=P.frozen 48;refine aW ?_;go_simp;refine⟨⟨rfl,?_⟩,(bP _ gw 48 _).mono fun b U=>by first|exact U|exact⟨aJ,U⟩⟩
  have x:=P.set_ 48 (nL z t);rw[RB]at x;exact x
 refine aZ ?_;rintro w9 hw9 V;refine aQ ?_;refine aS ?_;obtain⟨wc,ke,kf,M⟩:=V.1 rfl;have O:=M.below (cA kf J) M.lt;have HF:Hid (iZ w0 tag t gw gm gs ⟨m,s,{Z with r:=z,deeds:=L,o1:=nV z t,o2:=nW z t,wn:=nL z t},false⟩ w9):=aH (by
  have Q:∀b,cI gw b->zz b=10+t:=fun b U=>by rw[show b=gw from U];exact N.wk.tg
  refine WS.outT (tag:=zz) (A:=A) (ca:=ca) (D:=C) (cd:=y) ⟨⟨O,N.wk.asks.keptT hw9 N.wk.tA (fun b U=>by rw[Q b U];omega),N.wk.deeds.keptT hw9 N.wk.tD (fun b U=>by rw[Q b U];omega),N.wk.tg,N.wk.tA,N.wk.tD⟩,N.ram.kept hw9 (bI.refl _ _) (fun b U=>by rw[Q b U];omega),N.st.kept hw9 (bI.refl _ _) (fun b U=>by rw[Q b U];omega),N.k.trans (hw9.mono fun b U=>.inr (.inr (.inl (Q b U))))⟩ HT false)
 clear V hw9 ke kf M O N;refine aW ?_;go_wp2;exact bodyPost_end (v:=.tuple #[]) (by simp [results,results95,go_sem]) rfl ⟨rfl,HF.out⟩
