/-
  Parts of a proof. For all values.
-/
import Derived.Test.YtplpimkgihnmhaaGreatDoorA23
import Derived.Test.YtplpimkgihnmhaaGreatDoorA25
import Derived.Test.YtplpimkgihnmhaaGreatDoorA26
set_option maxRecDepth 100000
set_option maxHeartbeats 4000000
set_option linter.all false
namespace Go.Proofs.YtplpimkgihnmhaaGreatDoor
open Go.Proofs.Tryz Go.RowKit
variable{w:World}{a:Nat}{tag:Nat->Nat}
section
attribute [local go_sem↓] Go.wp_at_zero Go.wp_at_succ
theorem GM(W:Nat)(z:Nat->Int)(A:Option Addr)(n c:Nat)(f:Nat->Nat->Int)(w:World)(h:qY w (some ⟨W,0,none⟩) 32 32 z)(Y:∀i,i<32->0<=z i/\z i<18446744073709551616)(V:eE z)(O:PQ LG w A n c f)(N:jL f n)(F:n<=4)(M:z 28+n<=1099511627776):
 Calls prog 149 #[.slice (some ⟨W,0,none⟩) 32 32,.slice A n c] w fun e w'=>∃g Z c',e=.returned (.tuple #[.slice (some ⟨g,0,none⟩) 32 32,.slice Z (bd f z n).length c',.agg #[.int .i64 0,.int .i64 (-1)]])/\(∃D,aY w' g 23 D/\cH D 32 (dW (bz f z n))/\w.heap.size<=g)/\cU w' w.heap.size 159 6 Z (bd f z n).length c' (bd f z n)/\Below w.heap.size w w':=by
 obtain⟨L,K,H,G,U⟩:=tZ V Y N M n (Nat.le_refl _);refine(MS _ _ z A n c f w h V O I).mono ?_;rintro e w' ⟨Y,h⟩;rcases h with⟨k,T,_,X,_⟩|⟨_,g,D,Z,c',rfl,S,R,Q,P⟩
 .exact absurd (U k T) X
 exact⟨g,Z,c',rfl,⟨D,S,R,Q⟩,P,Y⟩
def Dk(n:Nat)(v:Value):Prop:=∃g A c,v=.tuple #[.slice (some ⟨g,0,none⟩) 32 32,.slice A n c,.agg #[.int .i64 0,.int .i64 (-1)]]
def Ez(B:Nat)(z:Nat->Int)(rows:List (List Value))(v:Value)(w':World):Prop:=∃g A c,v=.tuple #[.slice (some ⟨g,0,none⟩) 32 32,.slice A rows.length c,.agg #[.int .i64 0,.int .i64 (-1)]]/\(∃D,aY w' g 23 D/\cH D 32 z/\B<=g)/\cU w' B 159 6 A rows.length c rows
def ZB(v:Value):Prop:=∃b,v=.pointer (some ⟨b,0,none⟩)
def TN(B:Nat)(ty:TypeId)(C:Array Value)(v:Value)(w':World):Prop:=∃b,v=.pointer (some ⟨b,0,none⟩)/\aY w' b ty C/\B<=b
noncomputable def cQ.recked (Z:cQ) (t:Nat):cQ:={Z with r:=dW (bz Z.asks Z.r Z.na),deeds:=bd Z.asks Z.r Z.na,o1:=nV (dW (bz Z.asks Z.r Z.na)) t,o2:=nW (dW (bz Z.asks Z.r Z.na)) t,wn:=nL (dW (bz Z.asks Z.r Z.na)) t}
theorem QP{b:Nat}{t u:TypeId}{C E:Array Value}(Z:aY w a t C)(Y:aY w b u E)(h:t≠u):a≠b:=by
 intro e;subst e;have:=Z.symm.trans Y;simp at this;exact h this.2
theorem RK{B:Nat}{e:TypeId}{m n c:Nat}{A:Option Addr}{rows:List (List Value)}(h:cU w B e m A n c rows){b:Nat}{u:TypeId}{C:Array Value}(S:aY w b u C)(R:e≠u):¬iI A b:=by
 rintro⟨a,Z,rfl⟩;obtain⟨Q,Y⟩:=h.own;rcases Y with⟨Y,_⟩|⟨V,U,X,W,P,T,_⟩
 .simp only[Value.slice.injEq]at Y;rw[Y.1]at Z;cases Z
 simp only[Value.slice.injEq]at W;rw[W.1]at Z;cases Z;exact QP (show aY w V e X from T) S R rfl
section
variable{w:World}{tag:Nat->Nat}{t:Nat}{Z:cQ}{last:Int}{q:Nat}{RA:Option Addr}{cr:Nat}{D:Option Addr}{cd:Nat}{rows0:List (List Value)}{ended:Bool}
theorem OR(e0:mG)(h:lT w tag t Z last e0.q RA cr D cd [] ended)(i:Nat)(i':Int)(wg:i'=i)(h4:i=4)(ht:t<4)(hv:oM w tag e0.v (130+t) Z.ver)(hL:rN w tag t e0.l (eH Z.asks Z.na))(hW:lF w tag t e0.w Z.r)
 (hr:eE Z.r) (ha:jL Z.asks Z.na) (hn:Z.na<=4) (hc:Z.r 28+Z.na<=1099511627776) (wt:Z.r 27+1<=1099511627776) (vl:Z.ver<=1099511627776):
 Calls prog 139 #[(e0.p,0),(e0.q,0),i',(e0.l,0),.slice (some ⟨e0.w,0,none⟩) 32 32,(e0.v,0)] w fun e w'=>e=.returned (.tuple #[])/\∃zy O wf we D' vQ zm,Kg (eJ t) w tag w' zy/\(O.p=e0.p/\O.q=e0.q)/\lT w' zy t (Z.recked t) last e0.q wf we D' vQ zm ended/\dD w' zy O (kB (Z.ver+1) 0++(jP (Z.ver+1) 0++qI (Z.ver+1))) zm/\lF w' zy t O.w (Z.recked t).r:=by
 subst wg;have yy:∀i,i<32->0<=Z.r i/\Z.r i<18446744073709551616:=by
  obtain⟨_,E,_,hu⟩:=hW;exact hu.bd
 obtain⟨x1,x2,x3,x4,x5⟩:=tZ hr yy ha hc Z.na (Nat.le_refl _);have yl:eE (dW (bz Z.asks Z.r Z.na)):=rK x1 I (by rw[x3];exact wt);have yk:=sZ x1 x2;clear x1 x2 x3 x4 x5;have yj:=aH (fun(A:Option Addr) (c:Nat) (W:World) (hW:qY W (some ⟨e0.w,0,none⟩) 32 32 Z.r) (hs:PQ LG W A Z.na c Z.asks)=>GM e0.w Z.r A Z.na c Z.asks W hW yy hr hs ha hn hc);have yi:=aH (CG ha);have ws:Hid ((i:Int)=4):=aH I;clear h4;have zx:=aH (KV e0 i w tag);have yx:=aH (h.below (GD e0 i w) (dX w tag [106,106,106,106,106,106]));have yh:Hid (Kg (eJ t) w tag ((((((w.alloc (.cells #[.pointer (some ⟨e0.p,0,none⟩)] 47)).alloc (.cells #[.pointer (some ⟨e0.q,0,none⟩)] 63)).alloc (.cells #[.int .i64 (i:Int)] 3)).alloc (.cells #[.pointer (some ⟨e0.l,0,none⟩)] 248)).alloc (.cells #[.slice (some ⟨e0.w,0,none⟩) 32 32] 91)).alloc (.cells #[.pointer (some ⟨e0.v,0,none⟩)] 249)) _):=aH (Kg.start (GD e0 i w) (dX w tag [106,106,106,106,106,106]));have yg:Hid (oM ((((((w.alloc (.cells #[.pointer (some ⟨e0.p,0,none⟩)] 47)).alloc (.cells #[.pointer (some ⟨e0.q,0,none⟩)] 63)).alloc (.cells #[.int .i64 (i:Int)] 3)).alloc (.cells #[.pointer (some ⟨e0.l,0,none⟩)] 248)).alloc (.cells #[.slice (some ⟨e0.w,0,none⟩) 32 32] 91)).alloc (.cells #[.pointer (some ⟨e0.v,0,none⟩)] 249)) (fH w tag [106,106,106,106,106,106]) e0.v (130+t) Z.ver):=aH (hv.kept (S:=bN) (aD.of_same (GD e0 i w)) (dX _ _ _) (fun _ x=>x.elim));have yf:Hid (rN ((((((w.alloc (.cells #[.pointer (some ⟨e0.p,0,none⟩)] 47)).alloc (.cells #[.pointer (some ⟨e0.q,0,none⟩)] 63)).alloc (.cells #[.int .i64 (i:Int)] 3)).alloc (.cells #[.pointer (some ⟨e0.l,0,none⟩)] 248)).alloc (.cells #[.slice (some ⟨e0.w,0,none⟩) 32 32] 91)).alloc (.cells #[.pointer (some ⟨e0.v,0,none⟩)] 249)) (fH w tag [106,106,106,106,106,106]) t e0.l (eH Z.asks Z.na)):=aH (hL.kept (S:=bN) (aD.of_same (GD e0 i w)) (dX _ _ _) (fun _ x=>x.elim));have ye:Hid (lF ((((((w.alloc (.cells #[.pointer (some ⟨e0.p,0,none⟩)] 47)).alloc (.cells #[.pointer (some ⟨e0.q,0,none⟩)] 63)).alloc (.cells #[.int .i64 (i:Int)] 3)).alloc (.cells #[.pointer (some ⟨e0.l,0,none⟩)] 248)).alloc (.cells #[.slice (some ⟨e0.w,0,none⟩) 32 32] 91)).alloc (.cells #[.pointer (some ⟨e0.v,0,none⟩)] 249)) (fH w tag [106,106,106,106,106,106]) t e0.w Z.r):=aH (hW.kept (S:=bN) (aD.of_same (GD e0 i w)) (dX _ _ _) (fun _ x=>x.elim));have zl:Hid ((Z.recked t).r=dW (bz Z.asks Z.r Z.na)/\(Z.recked t).deeds=bd Z.asks Z.r Z.na/\∀R D e,vN t (Z.recked t) last R D e= #[.int .i64 t,R,.int .i64 Z.a,.int .i64 Z.k,.int .i64 Z.v,.int .i64 Z.tg,.int .i64 last,.bool Z.said,.int .i64 (nV (dW (bz Z.asks Z.r Z.na)) t),.int .i64 (nW (dW (bz Z.asks Z.r Z.na)) t),.int .i64 (nL (dW (bz Z.asks Z.r Z.na)) t),D,.bool e]):=aH ⟨rfl,rfl,fun _ _ _=>rfl⟩;have yd:=aH yl;have wr:=aH yk;clear h hv hL hW hr ha hc wt yy yl yk;generalize hz:dW (bz Z.asks Z.r Z.na)=z at*;generalize wh:bd Z.asks Z.r Z.na=f at*;generalize wu:Z.recked t=Z' at*;clear hz wh wu
 go_enter func139,ntmps139
 go_upto_region 1 with(fail)
 show Code.wp _ _ _ _ ((((((w.alloc (.cells #[.pointer (some ⟨e0.p,0,none⟩)] 47)).alloc (.cells #[.pointer (some ⟨e0.q,0,none⟩)] 63)).alloc (.cells #[.int .i64 (i:Int)] 3)).alloc (.cells #[.pointer (some ⟨e0.l,0,none⟩)] 248)).alloc (.cells #[.slice (some ⟨e0.w,0,none⟩) 32 32] 91)).alloc (.cells #[.pointer (some ⟨e0.v,0,none⟩)] 249));generalize((((((w.alloc (.cells #[.pointer (some ⟨e0.p,0,none⟩)] 47)).alloc (.cells #[.pointer (some ⟨e0.q,0,none⟩)] 63)).alloc (.cells #[.int .i64 (i:Int)] 3)).alloc (.cells #[.pointer (some ⟨e0.l,0,none⟩)] 248)).alloc (.cells #[.slice (some ⟨e0.w,0,none⟩) 32 32] 91)).alloc (.cells #[.pointer (some ⟨e0.v,0,none⟩)] 249))=d at*;generalize fH w tag [106,106,106,106,106,106]=G at*;generalize w.heap.size=Q at*;have q4:=ws.out;obtain⟨B,hB⟩:=aO (d:Nat);have zw:=aH hB;clear hB;have ci:d.cell? (Q+1+1,0)=i:=zx.cell (b:=Q+2) (k:=106) (ty:=3) (by simp [lB]);have lw:Q+1+1+1+1<d:=zx.lt (b:=Q+4) (k:=106) (ty:=91) (v:=e0.W) (by simp [lB]);have cw:d.cell? (Q+1+1+1+1,0)=some (.slice (some ⟨e0.w,0,none⟩) 32 32):=zx.cell (b:=Q+4) (k:=106) (ty:=91) (by simp [lB,mG.W]);have ll:Q+1+1+1<d:=I;have cl:d.cell? (Q+1+1+1,0)=(e0.l,0):=zx.cell (b:=Q+3) (k:=106) (ty:=248) (by simp [lB,cR]);obtain⟨wl,A0,c0,ze,yq,wk⟩:=yf.out;rw[oE]at ze yq;have yc:d.cell? (e0.l,0)=some (.slice A0 Z.na c0):=by rw[ze.cell];rfl
 have yb:=ze.lt;have ya:=aH (AE yq yi);have xB:Hid (qY d (some ⟨e0.w,0,none⟩) 32 32 Z.r):=aH (by
  obtain⟨_,E,hE,hu⟩:=ye.out;have:=qY.of_blk (o:=0) (n:=32) (c:=32) (m:=32) hE hu I I I;simpa only[Nat.zero_add]using this)
 clear wl ze yq wk yf yi;go_wp2;refine eL 12 bN [] J J ?_;intro vp HA;refine aV ?_;constructor
 .intro w9 hw9 X;refine aS ?_;have q:=(hw9.cell (p:=⟨Q+1+1+1+1,0,none⟩) lw (fun x=>x)).trans cw;refine aW ?_;go_simp
  first
  |exact aE
 refine aV ?_;constructor
 .intro w9 hw9 X;refine aS ?_;have q:=(hw9.cell (p:=⟨Q+1+1+1,0,none⟩) ll (fun x=>x)).trans cl;refine aW ?_;go_simp
  first
  |exact aE
 refine aV ?_;constructor
 .intro w9 hw9 X;go_simp
  first
  |exact aE
 refine aV ?_;constructor
 .intro w9 hw9 X;refine aS ?_;have q:=(hw9.cell (p:=⟨e0.l,0,none⟩) yb (fun x=>x)).trans yc;refine aW ?_;go_simp
  first
  |exact aE
 refine bG (Dk f.length) (fun _=>Ez B z f) ⟨_,0,none,0,rfl⟩ ?_ ?_
 .intro w9 hw9 X;refine aS ?_;have wq:=ya.below hw9.same;have wo:=xB.below hw9.same;have zk:B<=w9:=by rw[zw.out];exact hw9.size
  refine aW ?_;go_simp;go_at_call 149
  with_reducible refine(yj.out _ _ w9 wo wq).mono ?_
  rintro e w' ⟨g',A',c',rfl,⟨E',h1,h2,h3⟩,hO,wj⟩;exact⟨_,rfl,⟨⟨_,_,_,rfl⟩,⟨_,_,_,rfl,⟨E',h1,h2,Nat.le_trans zk h3⟩,hO.mono zk⟩⟩,aD.of_same wj⟩
 refine bH (Dk f.length) (fun us v _=>v=us 4) ⟨_,0,none,0,rfl⟩ ?_ ?_
 .rintro _ ⟨g4,A4,c4,rfl⟩;refine⟨aF,fun w9 hw9 X=>?_⟩;go_simp;refine⟨⟨⟨_,_,_,rfl⟩,?_⟩,aD.refl _ _⟩;unfold cV;rw[iP (by rw[HA.out];kernel_rfl)];rfl
 refine bH TC (fun us v _=>v=Ck 0 (us 4)) ⟨_,0,rfl⟩ ?_ ?_
 .rintro _ ⟨g5,A5,c5,rfl⟩;rintro _ ⟨g4,A4,c4,rfl⟩;refine⟨aF,fun w9 hw9 X=>?_⟩;refine aS ?_;obtain⟨xg,Y⟩:=X;simp only[BX]at Y;obtain⟨xf,k0,k1,hq⟩:=Y.2.1 (by rw[HA.out];kernel_rfl);unfold cV at hq;rw[iP (by rw[HA.out];kernel_rfl)]at hq;clear Y k0 k1;have HQ:=aH hq;clear hq;refine aW ?_;go_simp;refine⟨⟨⟨_,rfl⟩,?_⟩,aD.refl _ _⟩;unfold cV;rw[iP (by rw[HA.out];kernel_rfl)];exact congrArg (Ck 0) HQ
 refine bH (RM f.length) (fun us v _=>v=Ck 1 (us 4)) ⟨_,none,0,rfl⟩ ?_ ?_
 .rintro _ ⟨g6,rfl⟩;rintro _ ⟨g5,A5,c5,rfl⟩;rintro _ ⟨g4,A4,c4,rfl⟩;refine⟨aF,fun w9 hw9 X=>?_⟩;refine aS ?_;obtain⟨xg,Y⟩:=X;simp only[BX]at Y;obtain⟨xf,k0,k1,hq⟩:=Y.2.1 (by rw[HA.out];kernel_rfl);unfold cV at hq;rw[iP (by rw[HA.out];kernel_rfl)]at hq;clear Y k0 k1;have HQ:=aH hq;clear hq;refine aW ?_;go_simp;refine⟨⟨⟨_,_,rfl⟩,?_⟩,aD.refl _ _⟩;unfold cV;rw[iP (by rw[HA.out];kernel_rfl)];exact congrArg (Ck 1) HQ
 first|(with_reducible refine aI (fun K V=>?_))|(refine aI (fun K V=>?_))
 refine .inl ?_;apply Exists.intro;refine⟨cX,?_,V _ _ _ _ ?_⟩
 .simp only[bW,cM];rintro _ ⟨A7,c7,rfl⟩;rintro _ ⟨g6,rfl⟩;rintro _ ⟨g5,A5,c5,rfl⟩;rintro _ ⟨g4,A4,c4,rfl⟩;refine⟨?_,fun w9 hw9 X=>?_⟩
  .first|rfl|(go_simp;done)
  go_simp
  first
  |exact aE
 clear V K;refine aN ?_;refine bH ZB (fun _=>TN B 270 (2:Int)) ⟨_,0,rfl⟩ ?_ ?_
 .rintro _ ⟨A7,c7,rfl⟩;rintro _ ⟨g6,rfl⟩;rintro _ ⟨g5,A5,c5,rfl⟩;rintro _ ⟨g4,A4,c4,rfl⟩;refine⟨aF,fun w9 hw9 X=>?_⟩;refine aS ?_;have zk:B<=w9:=by rw[zw.out];exact hw9.size
  refine aW ?_;go_simp;refine⟨⟨⟨_,rfl⟩,⟨_,rfl,aY.new _ _ _,zk⟩⟩,aD.of_same ((Below.refl _ _).alloc (Nat.le_refl _) _)⟩
 refine bH TC (fun us v _=>v=us 6) ⟨_,0,rfl⟩ ?_ ?_
 .rintro _ ⟨b9,rfl⟩;rintro _ ⟨A7,c7,rfl⟩;rintro _ ⟨g6,rfl⟩;rintro _ ⟨g5,A5,c5,rfl⟩;rintro _ ⟨g4,A4,c4,rfl⟩;refine⟨aF,fun w9 hw9 X=>?_⟩;go_simp;refine⟨⟨⟨_,rfl⟩,?_⟩,aD.refl _ _⟩;unfold cV;rw[iP (by rw[HA.out];kernel_rfl)];rfl
 refine bH (RM f.length) (fun us v _=>v=us 7) ⟨_,none,0,rfl⟩ ?_ ?_
 .rintro _ ⟨T,rfl⟩;rintro _ ⟨b9,rfl⟩;rintro _ ⟨A7,c7,rfl⟩;rintro _ ⟨g6,rfl⟩;rintro _ ⟨g5,A5,c5,rfl⟩;rintro _ ⟨g4,A4,c4,rfl⟩;refine⟨aF,fun w9 hw9 X=>?_⟩;go_simp;refine⟨⟨⟨_,_,rfl⟩,?_⟩,aD.refl _ _⟩;unfold cV;rw[iP (by rw[HA.out];kernel_rfl)];rfl
 refine kS ?_;simp only[cM];rintro _ ⟨P,M,rfl⟩ _ ⟨T,rfl⟩ _ ⟨b9,rfl⟩ _ ⟨A7,c7,rfl⟩ _ ⟨g6,rfl⟩ _ ⟨g5,A5,c5,rfl⟩ _ ⟨g4,A4,c4,rfl⟩ w9 hw9 Y;refine aQ ?_;refine aS ?_;simp only[BX]at Y;obtain⟨wa,ka,kb,g',A',c',xe,⟨E',yp,xd,xc⟩,hO⟩:=Y.1 trivial;obtain⟨wb,_,_,h6⟩:=Y.2.2.1 trivial;obtain⟨vo,_,_,h7⟩:=Y.2.2.2.1 trivial;obtain⟨wc,kc,kd,b',xb,hP,xa⟩:=Y.2.2.2.2.1 trivial;obtain⟨wd,_,_,zd⟩:=Y.2.2.2.2.2.1 trivial;obtain⟨vn,_,_,zc⟩:=Y.2.2.2.2.2.2.1 trivial;unfold cV at h6 h7 zd zc;rw[iP (by rw[HA.out];kernel_rfl)]at h6 h7 zd zc;have e4:g4=g'/\A4=A'/\c4=c':=by
  have h:=xe;simpa using h
 have e6:g6=g4:=by
  have h:Value.slice (some ⟨g6,0,none⟩) 32 32=.slice (some ⟨g4,0,none⟩) 32 32:=h6;simpa using h
 have e7:A7=A4/\c7=c4:=by
  have h:Value.slice A7 f.length c7=.slice A4 f.length c4:=h7;simpa using h
 have xz:T=g6:=by
  have h:Value.slice (some ⟨T,0,none⟩) 32 32=.slice (some ⟨g6,0,none⟩) 32 32:=zd;simpa using h
 have yw:P=A7/\M=c7:=by
  have h:Value.slice P f.length M=.slice A7 f.length c7:=zc;simpa using h
 have e9:b9=b':=by
  have h:=xb;simpa using h
 have eg:=xz.trans (e6.trans e4.1);have eA:=yw.1.trans (e7.1.trans e4.2.1);have ec:=yw.2.trans (e7.2.trans e4.2.2);clear h6 h7 zd zc xe xb e4 e6 e7 xz yw Y;subst eg eA ec e9;have yv:=(kb.mono (S':=bN) fun b hb=>hb.2).same;have xy:=(kd.mono (S':=bN) fun b hb=>hb.2).same;have zj:=hP.below xy hP.lt;have yu:=yp.below yv yp.lt;have yt:=hO.below yv;have xx:=aH zj;have xw:=hw9.same;have za:d<=b9:=by rw[<-zw.out];exact xa
 have zi:Hid (Below d.heap.size d (w9.setRow b9 #[.int .i64 0,.int .i64 (-1)])):=aH (aL xw za _);have zv:Hid (aY (w9.setRow b9 #[.int .i64 0,.int .i64 (-1)]) T 23 E'/\cH E' 32 z/\B<=T):=aH ⟨yu.far_row (QP yu zj (by decide)) _,xd,xc⟩;have xv:Hid (cU (w9.setRow b9 #[.int .i64 0,.int .i64 (-1)]) B 159 6 P f.length M f):=aH (yt.kept (jD w9 b9 _) (fun a ha e=>RK yt zj (by decide) ⟨a,ha,e⟩));clear zj yu yt kb kd yv xy ka kc hP xa za yp xd xc hO xw ci cw cl yc yb lw ll ya xB yj;refine aW ?_
 go_wp2_with (first
  |(with_reducible refine fK 270 b9 #[.int .i64 0,.int .i64 (-1)] 270 (2:Int) J J xx.out J J (qD _ _) ?_)
  |fail)
 generalize w9.setRow b9 #[.int .i64 0,.int .i64 (-1)]=w1 at*
 with_reducible refine(zB (some ⟨T,0,none⟩) 32 z true w1 (by have:=qY.of_blk (o:=0) (n:=32) (c:=32) (m:=32) zv.out.1 zv.out.2.1 I I I;simpa only[Nat.zero_add]using this) ⟨fun _=>yd.out,fun _=>rfl⟩).mono ?_
 rintro e L ⟨zt,R,yo,yz,rfl,hT⟩;have HI:Hid ((prog.info? 136).map (·.size)=some R.size):=by show _=_;rw[mU,yo]
 have xu:=aH yo;have xt:=aH yz;have zh:=aH (hT rfl).1;have vx:B<=L.heap.size:=by rw[zw.out];exact Nat.le_trans zi.size zt.size
 have wm:aD (cI L.heap.size) L ((L.alloc (.cells (37:Int) 136)).setRow L.heap.size R):=(aD.of_same (S:=cI L.heap.size) ((Below.refl _ _).alloc (Nat.le_refl _) _)).trans (jD _ _ _);have s:=zi.trans (zt.mono zi.size);have zs:Hid (Below d.heap.size d ((L.alloc (.cells (37:Int) 136)).setRow L.heap.size R)):=aH (aL (s.alloc s.size _) s.size R);have zr:Below w1.heap.size w1 ((L.alloc (.cells (37:Int) 136)).setRow L.heap.size R):=aL (zt.alloc zt.size _) zt.size R;have zu:Hid (aY ((L.alloc (.cells (37:Int) 136)).setRow L.heap.size R) T 23 E'/\cH E' 32 z/\B<=T):=aH ⟨zv.out.1.below zr zv.out.1.lt,zv.out.2⟩;have zg:=aH (xv.below zr);have zq:Hid (aY ((L.alloc (.cells (37:Int) 136)).setRow L.heap.size R) L.heap.size 136 R):=aH (aY.setRow (aY.new _ _ _) R);clear zt yo yz hT wm s zr zv xv zi xx
 go_wp2_with (with_reducible refine fK 136 L.heap.size R 136 (37:Int) J J (aY.new _ _ _) HI.out (by rw[xu.out];kernel_rfl) xt.out ?_)
 generalize(L.alloc (.cells (37:Int) 136)).setRow L.heap.size R=w3 at*;generalize L.heap.size=b2 at*;have zp:Hid (bI d G (fun b=>if b<B then G b else if b=T then 150+t else 105)):=aH (fun b hb=>iP (by rw[zw.out];exact hb));have zo:Hid ((fun b=>if b<B then G b else if b=T then 150+t else 105) T=150+t/\∀b,iI P b->(fun b=>if b<B then G b else if b=T then 150+t else 105) b=105):=aH ⟨by
  show(if T<B then _ else _)=_;rw[iN (by have:=zu.out.2.2;omega),iP rfl],fun b hb=>by
  have hn:b≠T:=fun e=>RK zg zu.out.1 (by decide) (e▸hb)
  show(if b<B then _ else _)=_;obtain⟨a,ha,rfl⟩:=hb;rw[iN (by have:=(zg.lt a ha).1;omega),iN hn]⟩
 generalize(fun b=>if b<B then G b else if b=T then 150+t else 105)=zz at*;have N:=aH (yx.below zs zp);have xs:=aH (yh.go zp (aD.of_same (S:=bN) zs) (fun _ x=>x.elim));have zn:=aH (zx.kept (S:=bN) (aD.of_same zs) zp (fun _ x=>x.elim));have xr:=aH (yg.kept (S:=bN) (aD.of_same zs) zp (fun _ x=>x.elim));have vw:e0.q<B:=by rw[zw.out];exact yx.blk.lt
 clear yx yh zx yg zp zs ye HI xu xt;have c7:w3.cell? ⟨Q+1,0,none⟩=some (.pointer (some ⟨e0.q,0,none⟩)):=zn.cell (b:=Q+1) (k:=106) (ty:=63) (by simp [lB,cR]);have l7:=zn.lt (b:=Q+1) (k:=106) (ty:=63) (v:=cR e0.q) (by simp [lB]);have n7:¬cI e0.q (Q+1):=fun e=>by
  have h1:=(zn.out (Q+1,106,63,cR e0.q) (by simp [lB])).1;have h2:=N.tg;have e':Q+1=e0.q:=e;dsimp only at h1;rw[e']at h1;omega
 have lq:=N.blk.lt;have n2:¬cI e0.q b2:=fun e=>by
  have e':b2=e0.q:=e;omega
 have zf:=aH N.blk;have vz:(t:Int)<4:=I;have vy:(0:Int)<=t:=I;have xq:Hid (0<=nL z t/\nL z t<=1099511627776):=aH (by
  obtain⟨⟨_,_,vm,_⟩,wz,_⟩:=yd.out;obtain⟨⟨a1,a2,a3⟩,_⟩:=wz t ht;have:=(wr.out (22+t) I).1;unfold nL;constructor<;>omega)
 have wI:IntKind.i64.wrap (nL z t)=nL z t:=dE (by have:=xq.out;omega) (by have:=xq.out;omega);have wU:IntKind.u64.wrap ((Z.ver:Int)+1)=(Z.ver:Int)+1:=sS I I;have xp:Hid (w3.rangeAt b2 (19+t*2) [.int .i64 (nV z t),.int .i64 (nW z t)]):=aH (by
  intro j v hv;rcases(by have:=(List.getElem?_eq_some_iff.1 hv).1;simp at this;omega:j=0\/j=1)with rfl|rfl
  .cases hv;show w3.cell? ⟨b2,19+t*2,none⟩=_;rw[zq.cell,show 19+t*2=19+2*t by omega,zh.ac_ t ht]
  cases hv;rw[zq.cell,show 19+t*2+1=20+2*t by omega,zh.av_ t ht])
 have xo:w3.cell? ⟨b2,27+t,none⟩=some (.int .u64 (nL z t)):=by rw[zq.cell,zh.wh_ t ht]
 have l2:=zq.lt;refine bK 25 (cI e0.q) [21,24] J J ?_
 iterate 3
  refine aR ?_;constructor
  .intro w9 hw9 U;refine aS ?_;have q7:=(hw9.cell (p:=⟨Q+1,0,none⟩) l7 n7).trans c7;refine aW ?_;go_simp
   first
   |exact aE
 refine aR ?_;constructor
 .intro w9 hw9 U;go_simp
  first
  |exact aE
 first|(with_reducible refine aC (fun K V=>?_))|(refine aC (fun K V=>?_))
 refine .inl ?_;apply Exists.intro;refine⟨cX,?_,V _ _ _ _ ?_⟩
 .simp only[bJ,bM];refine⟨?_,fun w9 hw9 U=>?_⟩
  .first|rfl|(go_simp;done)
  refine aS ?_;have q7:=(hw9.cell (p:=⟨Q+1,0,none⟩) l7 n7).trans c7;refine aW ?_;go_simp
  first
  |exact aE
 iterate 2
  clear V K;refine aN ?_
  first|(with_reducible refine aC (fun K V=>?_))|(refine aC (fun K V=>?_))
  refine .inl ?_;apply Exists.intro;refine⟨cX,?_,V _ _ _ _ ?_⟩
  .simp only[bJ,bM];refine⟨?_,fun w9 hw9 U=>?_⟩
   .first|rfl|(go_simp;done)
   go_simp
   first
   |exact aE
 clear V K;refine aN ?_
 first|(with_reducible refine aC (fun K V=>?_))|(refine aC (fun K V=>?_))
 refine .inl ?_;apply Exists.intro;refine⟨cX,?_,V _ _ _ _ ?_⟩
 .simp only[bJ,bM];refine⟨?_,fun w9 hw9 U=>?_⟩
  .first|rfl|(go_simp;done)
  refine aS ?_;have q0:w9.cell? (e0.q,0)=t:=(zf.below (cA U.1 J) lq).cell 0;refine aW ?_;go_simp
  first
  |exact aE
 iterate 2
  clear V K;refine aN ?_
  first|(with_reducible refine aC (fun K V=>?_))|(refine aC (fun K V=>?_))
  refine .inl ?_;apply Exists.intro;refine⟨cX,?_,V _ _ _ _ ?_⟩
  .simp only[bJ,bM];refine⟨?_,fun w9 hw9 U=>?_⟩
   .first|rfl|(go_simp;done)
   go_simp
   first
   |exact aE
 clear V K;refine aN ?_;refine bA (.agg #[(nV z t),(nW z t)]) cX ?_ ?_
 .intro w9 hw9 U;refine aS ?_;have HX:Hid (w9.rangeAt b2 (19+t*2) [.int .i64 (nV z t),.int .i64 (nW z t)]):=aH (fun j v hv=>(hw9.cell (p:=⟨b2,19+t*2+j,none⟩) l2 n2).trans (xp.out j v hv));refine aW ?_;refine eG 44 _ rfl b2 (19+t*2) ?_ #[(nV z t),(nW z t)] _ HX underlying44 rfl J aE
  first|rfl|(go_simp;done)
 first|(with_reducible refine aC (fun K V=>?_))|(refine aC (fun K V=>?_))
 refine .inl ?_;apply Exists.intro;refine⟨cX,?_,V _ _ _ _ ?_⟩
 .simp only[bJ,bM];refine⟨?_,fun w9 hw9 U=>?_⟩
  .first|rfl|(go_simp;done)
  refine aS ?_;have q7:=(hw9.cell (p:=⟨Q+1,0,none⟩) l7 n7).trans c7;refine aW ?_;go_simp
  first
  |exact aE
 iterate 2
  clear V K;refine aN ?_
  first|(with_reducible refine aC (fun K V=>?_))|(refine aC (fun K V=>?_))
  refine .inl ?_;apply Exists.intro;refine⟨cX,?_,V _ _ _ _ ?_⟩
  .simp only[bJ,bM];refine⟨?_,fun w9 hw9 U=>?_⟩
   .first|rfl|(go_simp;done)
   go_simp
   first
   |exact aE
 clear V K;refine aN ?_
 first|(with_reducible refine aC (fun K V=>?_))|(refine aC (fun K V=>?_))
 refine .inl ?_;apply Exists.intro;refine⟨cX,?_,V _ _ _ _ ?_⟩
 .simp only[bJ,bM];refine⟨?_,fun w9 hw9 U=>?_⟩
  .first|rfl|(go_simp;done)
  refine aS ?_;have q0:w9.cell? (e0.q,0)=t:=(zf.below (cA U.1 J) lq).cell 0;refine aW ?_;go_simp
  first
  |exact aE
 iterate 2
  clear V K;refine aN ?_
  first|(with_reducible refine aC (fun K V=>?_))|(refine aC (fun K V=>?_))
  refine .inl ?_;apply Exists.intro;refine⟨cX,?_,V _ _ _ _ ?_⟩
  .simp only[bJ,bM];refine⟨?_,fun w9 hw9 U=>?_⟩
   .first|rfl|(go_simp;done)
   go_simp
   first
   |exact aE
 clear V K;refine aN ?_
 first|(with_reducible refine aC (fun K V=>?_))|(refine aC (fun K V=>?_))
 refine .inl ?_;apply Exists.intro;refine⟨cX,?_,V _ _ _ _ ?_⟩
 .simp only[bJ,bM];refine⟨?_,fun w9 hw9 U=>?_⟩
  .first|rfl|(go_simp;done)
  refine aS ?_;have vv:=(hw9.cell (p:=⟨b2,27+t,none⟩) l2 n2).trans xo;refine aW ?_;go_simp
  first
  |exact aE
 iterate 3
  clear V K;refine aN ?_
  first|(with_reducible refine aC (fun K V=>?_))|(refine aC (fun K V=>?_))
  refine .inl ?_;apply Exists.intro;refine⟨cX,?_,V _ _ _ _ ?_⟩
  .simp only[bJ,bM];refine⟨?_,fun w9 hw9 U=>?_⟩
   .first|rfl|(go_simp;done)
   go_simp
   first
   |exact aE
 clear V K;refine aN ?_
 first|(with_reducible refine aC (fun K V=>?_))|(refine aC (fun K V=>?_))
 refine .inl ⟨undef,(fun _ w'=>aY w' e0.q 140 (vN t Z last (.slice RA ([]:List (List Value)).length cr) (.slice P f.length M) ended)),?_,V _ _ _ _ ?_⟩
 .simp only[bJ,bM];refine⟨?_,fun w9 hw9 U=>?_⟩
  .first|rfl|(go_simp;done)
  refine aS ?_;have HX:=aH (zf.below (cA U.1 J) lq);have vu:w9.cell? (e0.q,11)=some (.slice D Z.deeds.length cd):=HX.cell 11;have vt:=HX.frozen 11;refine aW ?_;go_simp;refine⟨⟨rfl,?_⟩,(bP _ e0.q 11 _).mono fun b hb=>by first|exact hb|exact⟨aJ,hb⟩⟩
  exact HX.set_ 11 (.slice P f.length M)
 iterate 2
  clear V K;refine aN ?_
  first|(with_reducible refine aC (fun K V=>?_))|(refine aC (fun K V=>?_))
  refine .inl ?_;apply Exists.intro;refine⟨cX,?_,V _ _ _ _ ?_⟩
  .simp only[bJ,bM];refine⟨?_,fun w9 hw9 U=>?_⟩
   .first|rfl|(go_simp;done)
   go_simp
   first
   |exact aE
 clear V K;refine aN ?_;refine bA undef (fun _ w'=>aY w' e0.q 140 (vN t {Z with o1:=nV z t,o2:=nW z t} last (.slice RA ([]:List (List Value)).length cr) (.slice P f.length M) ended)) ?_ ?_
 .intro w9 hw9 U;refine aS ?_;obtain⟨xf,wi,wy,yn⟩:=U.2.2.2.1 J;have HX:=aH (yn.below (cA wy J) yn.lt);clear U wi wy yn;have HY:Hid (w9.there e0.q 8 2):=aH (HX.there (by show 8+2<=13;omega));refine aW ?_;refine dA 44 _ _ rfl e0.q 8 #[(nV z t),(nW z t)] rfl rfl HY J J ?_;refine⟨⟨rfl,?_⟩,(cE (S:=cI e0.q) (.inl rfl) 8 _).mono fun b hb=>⟨aJ,hb⟩⟩;exact aY.setCells (vs:=[.int .i64 (nV z t),.int .i64 (nW z t)]) (o:=8) HX
 refine aZ ?_;rintro w9 hw9 Y;refine aQ ?_;refine aS ?_;obtain⟨wc,ke,kf,ym⟩:=Y.1 rfl;have g:=ym.below (cA kf J) ym.lt;clear Y ke kf ym;have vr:w9.cell? (e0.q,10)=Z.wn:=g.cell 10;have vq:=g.frozen 10;have F:aD (cI e0.q) w3 (w9.setCell (e0.q,10) (nL z t)):=hw9.trans (bP _ _ _ _);have C:∀b,cI e0.q b->zz b=110+t:=fun b hb=>by rw[show b=e0.q from hb];exact N.tg
 have xn:Hid (lT (w9.setCell (e0.q,10) (nL z t)) zz t Z' last e0.q RA cr P M [] ended):=aH (by
  refine⟨?_,N.row.keptT F N.tR (fun b hb=>by rw[C b hb];omega),?_,N.tg,N.tR,zo.out.2⟩
  .rw[zl.out.2.2,zl.out.2.1];exact g.set_ 10 (nL z t)
  rw[zl.out.2.1];exact((zg.out).mono (Nat.zero_le _)).keptT (tag:=zz) (k:=105) F zo.out.2 (fun b hb=>by rw[C b hb];omega))
 have xm:=aH (xs.go (bI.refl _ _) F (fun b hb=>.inl (C b hb)));have y:=aH (zn.kept F (bI.refl _ _) (fun b hb x hx=>by rw[C b hb];exact(YW t e0 i Q ht x hx).1.symm));have ys:=aH (xr.kept F (bI.refl _ _) (fun b hb=>by rw[C b hb];omega));have xl:Hid (lF (w9.setCell (e0.q,10) (nL z t)) zz t T z):=aH ⟨zo.out.1,E',(F.block T zu.out.1.lt (fun e=>by have:=C T e;have:=zo.out.1;omega)).trans zu.out.1,zu.out.2.1⟩;clear F C g N xs zn xr zu zg zq zh xp zo zf n2 n7 l2 l7 c7 xo lq hw9;refine aW ?_;go_wp2;generalize w9.setCell (e0.q,10) (nL z t)=w4 at*;have c0:w4.cell? (Q,0)=(e0.p,0):=y.cell (b:=Q) (k:=106) (ty:=47) (by simp [lB,cR]);have l0:=y.lt (b:=Q) (k:=106) (ty:=47) (v:=cR e0.p) (by simp [lB]);have c1:w4.cell? (Q+1,0)=(e0.q,0):=y.cell (b:=Q+1) (k:=106) (ty:=63) (by simp [lB,cR]);have l1:=y.lt (b:=Q+1) (k:=106) (ty:=63) (v:=cR e0.q) (by simp [lB]);have c5:w4.cell? (Q+1+1+1+1+1,0)=(e0.v,0):=y.cell (b:=Q+5) (k:=106) (ty:=249) (by simp [lB,cR]);have l5:Q+1+1+1+1+1<w4:=y.lt (b:=Q+5) (k:=106) (ty:=249) (v:=cR e0.v) (by simp [lB]);have cv:w4.cell? (e0.v,0)=[Z.ver]:=by rw[ys.out.2.cell];rfl
 have lv:=ys.out.2.lt;refine aA 7 ?_
 iterate 7
  first
  |(refine Kf ?_;constructor
    .intro w9 hw9 hc9 hf9;go_simp
     first
     |exact aE)
  |refine aU ?_
 refine bZ ?_;intro w9 hw9 hc9 hf9;refine aS ?_;have xk:=aH (xn.below hw9.same (bI.refl _ _));have xj:=aH (xm.below hw9.same);have xi:=aH (xl.kept (S:=bN) hw9 (bI.refl _ _) (fun _ x=>x.elim));have yr:=WR xk e0.p T (Z.ver+1) ht;rw[show(((Z.ver+1:Nat)):Int)=(Z.ver:Int)+1 by omega]at yr;have xh:=aH yr;clear yr xn xm y ys xl hw9 hc9 hf9 c0 c1 c5 cv l0 l1 l5 lv;refine aW ?_;simp only[List.drop_succ_cons,List.drop_zero,List.drop];go_wp2_with fail
 with_reducible refine xh.out.mono ?_
 rintro e w6 ⟨rfl,H,O,R6,wx,u,hk,zb,ww,wv⟩;have HF:Hid (Kg (eJ t) w tag w6 H/\(O.p=e0.p/\O.q=e0.q)/\lT w6 H t Z' last e0.q R6 wx P M u ended/\dD w6 H O (kB (Z.ver+1) 0++(jP (Z.ver+1) 0++qI (Z.ver+1))) u/\lF w6 H t O.w Z'.r):=aH ⟨xj.trans hk,⟨zb.1,zb.2.1⟩,ww,wv,by
  rw[zl.out.1,zb.2.2];exact xi.kept hk.k hk.t (fun b hb=>by rcases hb with hb|hb<;>omega)⟩
 clear hk zb ww wv xh xj xk xi;go_wp2;refine bodyPost_ret (v:=.tuple #[]) (by simp [results,results139,go_sem]) rfl ?_;exact⟨rfl,H,O,R6,wx,P,M,u,HF.out.1,HF.out.2.1,HF.out.2.2.1,HF.out.2.2.2.1,HF.out.2.2.2.2⟩
end
end
section
def yL(t k:Nat):Prop:=k=100\/k=101\/k=102\/k=110+t\/k=120+t\/k=130+t\/k=140+t\/k=150+t\/k=160+t\/k=170+t\/k=180+t\/k=190+t
def rR(t k:Nat):Prop:=k=130+t\/k=140+t\/k=150+t\/k=160+t\/k=170+t\/k=180+t\/k=190+t
structure RC (w0:World) (tag0:Nat->Nat) (w:World) (tag:Nat->Nat) (t:Nat) (Z:cQ) (last:Int) (e:mG) (gs mp:Nat) (m:Nat->Int) (pt:Nat->Nat) (s:cN) (st:Int) (E O:Value) (R:Option Addr) (cr:Nat) (D:Option Addr) (cd:Nat) (rows:List (List Value)) (cs:List Cl) (fin:Bool):Prop where
 k:Kg (yL t) w0 tag0 w tag
 sh:aY w e.p 68 (yJ gs m pt st E O)
 st_:aY w gs 74 (kD s mp)
 wm:gP s.want mp s.fl w
 tp:tag e.p=102
 ts:tag gs=100
 tm:tag mp=101
 th:lT w tag t Z last e.q R cr D cd rows fin
 rs:dD w tag e cs rows
 t4:t<4
def gE(w0:World)(tag0:Nat->Nat)(t:Nat)(last:Int)(e:mG)(gs mp:Nat)(pt:Nat->Nat)(st:Int)(E O:Value)(L:ZV)(w:World):Prop:=
 ∃tag env R cr D cd rows,RC w0 tag0 w tag t L.t last env gs mp L.m pt L.s st E O R cr D cd rows (gF L.t) L.fin/\iF w tag t L.t env/\env.p=e.p/\env.q=e.q
section
variable{w0 w w':World}{tag0 tag tag':Nat->Nat}{t:Nat}{Z Z':cQ}{last:Int}{e e':mG}{gs mp:Nat}{m:Nat->Int}{pt:Nat->Nat}{s:cN}{st:Int}{E O:Value}{R:Option Addr}{cr:Nat}{D:Option Addr}{cd:Nat}{rows:List (List Value)}{cs:List Cl}{fin fin':Bool}
theorem RC.out(h:RC w0 tag0 w tag t Z last e' gs mp m pt s st E O R cr D cd rows cs fin)(Y:gF Z=cs)(W:iF w tag t Z e')(X:e'.p=e.p/\e'.q=e.q):gE w0 tag0 t last e gs mp pt st E O ⟨m,s,Z,fin⟩ w:=
 ⟨tag,e',R,cr,D,cd,rows,by show RC _ _ _ _ _ _ _ _ _ _ _ _ _ _ _ _ _ _ _ _ _ (gF Z) _;rw[Y];exact h,W,X.1,X.2⟩
theorem RC.kept(h:RC w0 tag0 w tag t Z last e gs mp m pt s st E O R cr D cd rows cs fin){S:Nat->Prop}(X:aD S w w')(W:bI w tag tag')(U:∀b,S b->rR t (tag b)):RC w0 tag0 w' tag' t Z last e gs mp m pt s st E O R cr D cd rows cs fin:=by
 have T:=h.t4;have Y:∀b,S b->tag b≠100/\tag b≠101/\tag b≠102/\tag b≠105/\tag b≠106/\tag b≠110+t/\tag b≠120+t:=fun b V=>by
  have:=U b V;unfold rR at this;omega
 refine⟨h.k.go W X (fun b V=>?_),(X.block e.p h.sh.lt fun z=>(Y _ z).2.2.1 h.tp).trans h.sh,(X.block gs h.st_.lt fun z=>(Y _ z).1 h.ts).trans h.st_,h.wm.kept X (fun z=>(Y _ z).2.1 h.tm),(W _ h.sh.lt).trans h.tp,(W _ h.st_.lt).trans h.ts,(W _ h.wm.lt).trans h.tm,h.th.kept X W (fun b z=>(Y b z).2.2.2.2.2.1) (fun b z=>(Y b z).2.2.2.2.2.2) (fun b z=>(Y b z).2.2.2.1),h.rs.kept X W (fun b z=>(Y b z).2.2.2.2.1),T⟩;have:=U b V;unfold rR at this;unfold yL;omega
theorem RC.below(h:RC w0 tag0 w tag t Z last e gs mp m pt s st E O R cr D cd rows cs fin)(Y:Below w w w')(X:bI w tag tag'):RC w0 tag0 w' tag' t Z last e gs mp m pt s st E O R cr D cd rows cs fin:=
 h.kept (S:=bN) (aD.of_same Y) X (fun _ x=>x.elim)
theorem RC.keep1(h:RC w0 tag0 w tag t Z last e gs mp m pt s st E O R cr D cd rows cs fin)(Y:aD bN w w'):RC w0 tag0 w' tag t Z last e gs mp m pt s st E O R cr D cd rows cs fin:=h.below Y.same (bI.refl _ _)
theorem RC.store(h:RC w0 tag0 w tag t Z last e gs mp m pt s st E O R cr D cd rows cs fin){s':cN}(W:aY w' gs 74 (kD s' mp))(T:gP s'.want mp s'.fl w')(V:aD (NC gs mp) w w'):RC w0 tag0 w' tag t Z last e gs mp m pt s' st E O R cr D cd rows cs fin:=by
 have U:=h.t4;have X:∀b,NC gs mp b->tag b=100\/tag b=101:=fun b W=>by
  rcases W with rfl|rfl
  .exact .inl h.ts
  exact .inr h.tm
 have Y:=bI.refl w tag;refine⟨h.k.go Y V (fun b W=>by have:=X b W;unfold yL;omega),(V.block e.p h.sh.lt fun z=>by have:=X _ z;have:=h.tp;omega).trans h.sh,W,T,h.tp,h.ts,h.tm,h.th.kept V Y (fun b z=>by have:=X _ z;omega) (fun b z=>by have:=X _ z;omega) (fun b z=>by have:=X _ z;omega),h.rs.kept V Y (fun b z=>by have:=X _ z;omega),U⟩
theorem RC.setNow(h:RC w0 tag0 w tag t Z last e gs mp m pt s st E O R cr D cd rows cs fin)(V:a<72)(x:Int):RC w0 tag0 (w.setCell (gs,a) [x]) tag t Z last e gs mp m pt (s.save a x) st E O R cr D cd rows cs fin:=by
 have Y:=bP w gs a [x];refine h.store ?_ ?_ (Y.mono fun b W=>.inl W)
 .have:=h.st_.set_ a [x];rw[RL _ _ _ V]at this;exact this
 exact(h.wm.kept Y (fun z=>by have X:=h.tm;have U:=h.ts;rw[show mp=gs from z]at X;omega))
theorem RC.setRam(h:RC w0 tag0 w tag t Z last e gs mp m pt s st E O R cr D cd rows cs fin){k:Nat}(T:k<16)(x:Int):RC w0 tag0 (w.setCell (e.p,1+k) [x]) tag t Z last e gs mp (eI m k x) pt s st E O R cr D cd rows cs fin:=by
 have U:=h.t4;have Y:=bP w e.p (1+k) [x];have X:∀b,cI e.p b->tag b=102:=fun b V=>by rw[show b=e.p from V];exact h.tp
 have W:=bI.refl w tag;have V:=h.sh.set_ (1+k) [x];rw[IC _ _ _ _ _ _ T]at V;exact⟨h.k.go W Y (fun b V=>by have:=X b V;unfold yL;omega),V,(Y.block gs h.st_.lt fun z=>by have:=X _ z;have:=h.ts;omega).trans h.st_,h.wm.kept Y (fun z=>by have:=X _ z;have:=h.tm;omega),h.tp,h.ts,h.tm,h.th.kept Y W (fun b z=>by have:=X _ z;omega) (fun b z=>by have:=X _ z;omega) (fun b z=>by have:=X _ z;omega),h.rs.kept Y W (fun b z=>by have:=X _ z;omega),U⟩
theorem RC.own(h:RC w0 tag0 w tag t Z last e gs mp m pt s st E O R cr D cd rows cs fin)(X:aD (cI e.q) w w')(V:aY w' e.q 140 (vN t Z' last (.slice R rows.length cr) (.slice D Z'.deeds.length cd) fin'))(T:Z'.deeds=Z.deeds):RC w0 tag0 w' tag t Z' last e gs mp m pt s st E O R cr D cd rows cs fin':=by
 have U:=h.t4;have Y:∀b,cI e.q b->tag b=110+t:=fun b V=>by rw[show b=e.q from V];exact h.th.tg
 have W:=bI.refl w tag;refine⟨h.k.go W X (fun b V=>by have:=Y b V;unfold yL;omega),(X.block e.p h.sh.lt fun z=>by have:=Y _ z;have:=h.tp;omega).trans h.sh,(X.block gs h.st_.lt fun z=>by have:=Y _ z;have:=h.ts;omega).trans h.st_,h.wm.kept X (fun z=>by have:=Y _ z;have:=h.tm;omega),h.tp,h.ts,h.tm,⟨V,h.th.row.keptT X h.th.tR (fun b z=>by have:=Y _ z;omega),?_,h.th.tg,h.th.tR,h.th.tD⟩,h.rs.kept X W (fun b z=>by have:=Y _ z;omega),U⟩;rw[T];exact h.th.deeds.keptT X h.th.tD (fun b z=>by have:=Y _ z;omega)
theorem RC.setTh(h:RC w0 tag0 w tag t Z last e gs mp m pt s st E O R cr D cd rows cs fin)(i:Nat)(v:Value)(V:∀X W,(vN t Z last X W fin).setIfInBounds i v=vN t Z' last X W fin')(Y:Z'.deeds=Z.deeds):RC w0 tag0 (w.setCell (e.q,i) v) tag t Z' last e gs mp m pt s st E O R cr D cd rows cs fin':=by
 refine h.own (bP _ _ _ _) ?_ Y;have:=h.th.blk.set_ i v;rw[V]at this;rw[Y];exact this
theorem RC.as(h:RC w0 tag0 w tag t Z last e gs mp m pt s st E O R cr D cd rows cs fin)(V:∀X W,vN t Z last X W fin=vN t Z' last X W fin')(Y:Z'.deeds=Z.deeds):RC w0 tag0 w tag t Z' last e gs mp m pt s st E O R cr D cd rows cs fin':=
 ⟨h.k,h.sh,h.st_,h.wm,h.tp,h.ts,h.tm,⟨by have:=h.th.blk;rw[V,<-Y]at this;exact this,h.th.row,by rw[Y];exact h.th.deeds,h.th.tg,h.th.tR,h.th.tD⟩,h.rs,h.t4⟩
theorem RC.rowed(h:RC w0 tag0 w tag t Z last e gs mp m pt s st E O R cr D cd rows cs fin)(X:Kg (eJ t) w tag w' tag'){L K:Option Addr}{W V:Nat}{Y:List (List Value)}{U:List Cl}{T:mG}(P:T.p=e.p/\T.q=e.q)(N:lT w' tag' t Z' last e.q L W K V Y fin')(M:dD w' tag' T U Y):RC w0 tag0 w' tag' t Z' last T gs mp m pt s st E O L W K V Y U fin':=by
 have H:=h.t4;have S:∀b,eJ t (tag b)->tag b=110+t\/tag b=120+t:=fun b G=>G
 have Q:=X.t;refine⟨h.k.trans (X.mono fun k X=>by unfold eJ at X;unfold yL;omega),by rw[P.1];exact(X.k.block e.p h.sh.lt fun z=>by have:=S _ z;have:=h.tp;omega).trans h.sh,(X.k.block gs h.st_.lt fun z=>by have:=S _ z;have:=h.ts;omega).trans h.st_,h.wm.kept X.k (fun z=>by have:=S _ z;have:=h.tm;omega),by rw[P.1];exact(Q _ h.sh.lt).trans h.tp,(Q _ h.st_.lt).trans h.ts,(Q _ h.wm.lt).trans h.tm,by rw[P.2];exact N,M,H⟩
theorem RC.cp0(h:RC w0 tag0 w tag t Z last e gs mp m pt s st E O R cr D cd rows cs fin):w.cell? (e.p,0)=(gs,0):=by rw[h.sh.cell,Dq];rfl
theorem RC.cram(h:RC w0 tag0 w tag t Z last e gs mp m pt s st E O R cr D cd rows cs fin){k:Nat}(Y:k<16):w.cell? (e.p,1+k)=[m k]:=by rw[h.sh.cell,YN _ _ _ _ _ _ Y]
theorem RC.cnow(h:RC w0 tag0 w tag t Z last e gs mp m pt s st E O R cr D cd rows cs fin)(Y:a<72):w.cell? (gs,a)=[s.now a]:=by rw[h.st_.cell,KU _ _ Y]
theorem RC.cth(h:RC w0 tag0 w tag t Z last e gs mp m pt s st E O R cr D cd rows cs fin)(i:Nat){v:Value}(Y:∀X W,(vN t Z last X W fin)[i]? =some v):w.cell? (e.q,i)=v:=by rw[h.th.blk.cell,Y]
end
end
section
attribute [local go_sem↓] Go.wp_at_zero Go.wp_at_succ
section
variable{w:World}{tag:Nat->Nat}{t:Nat}{Z:cQ}{last:Int}{e:mG}{gs mp:Nat}{m:Nat->Int}{pt:Nat->Nat}{s:cN}{st:Int}{E O:Value}{R:Option Addr}{cr:Nat}{D:Option Addr}{cd:Nat}{rows:List (List Value)}{cs:List Cl}{r:List Value}
theorem OG(H:RC w tag w tag t Z last e gs mp m pt s st E O R cr D cd rows [.reply] false)(M:iF w tag t Z e)(d:Z.does=15)(L:(Cl.unlock).At w tag e r):
 ∃N Y,r=td 15 (fv N Y)/\Calls prog N Y w fun K w'=>K=.returned (.tuple #[])/\gE w tag t last e gs mp pt st E O (stp t m s Z) w':=by
 obtain⟨P,rfl,X⟩:=L;refine⟨_,_,rfl,?_⟩;simp only[cR];rw[show stp t m s Z=⟨eI m 0 0,s,Z.go 16,false⟩ by simp only[stp,d]];have G:=H.t4;have W:=aH H;have V:w.cell? (P,0)=(e.p,0):=X.cell;have U:=X.2.lt;have F:=H.cp0;have C:=H.sh.lt;have B:=H.st_.lt;have T:w.cell? (e.p,1)=[m 0]:=H.cram (k:=0) I;have S:w.frozen? ⟨e.p,1,none⟩=false:=H.sh.frozen _;have Q:Hid (gE w tag t last e gs mp pt st E O ⟨eI m 0 0,s,Z.go 16,false⟩ (w.setCell (e.p,1) (.int .u64 0))):=aH (((W.setRam (k:=0) I 0).as (Z':=Z.go 16) (fun _ _=>rfl) rfl).out rfl (by simp only[iF,cQ.go]) ⟨rfl,rfl⟩);clear H M d
 go_enter func180,ntmps180
 go_wp2;refine bodyPost_end (v:=.tuple #[]) (by simp [results,results180,go_sem]) rfl ?_;exact⟨rfl,Q.out⟩
theorem WG(H:RC w tag w tag t Z last e gs mp m pt s st E O R cr D cd rows [.unlock,.reply] false)(B:iF w tag t Z e)(d:Z.does=14)(A:(Cl.tell (Z.ver+1)).At w tag e r):
 ∃N Y,r=td 14 (fv N Y)/\Calls prog N Y w fun z w'=>z=.returned (.tuple #[])/\gE w tag t last e gs mp pt st E O (stp t m s Z) w':=by
 obtain⟨o,C,rfl,U,T⟩:=A;refine⟨_,_,rfl,?_⟩;simp only[cR];rw[show stp t m s Z=⟨eI m 1 (Z.ver+1:Nat),s,Z.go 15,false⟩ by simp only[stp,d]];have y:=H.t4;have Q:=aH H;have P:w.cell? (C,0)=(e.p,0):=T.cell;have M:=T.2.lt;have X:=U.cell;have L:=U.2.lt;have x:=H.cp0;have u:=H.sh.lt;have q:=H.st_.lt;obtain⟨V,S⟩:=aO (((Z.ver+1:Nat):Int):Int);rw[<-S]at X⊢;clear S;clear H B d
 go_enter func179,ntmps179
 go_wp2;refine aA 4 ?_
 iterate 4
  first
  |(refine Kf ?_;constructor
    .intro w9 hw9 hc9 hf9;go_simp
     first
     |exact aE)
  |refine aU ?_
 refine bZ ?_;intro w9 hw9 hc9 hf9;refine aS ?_;have W:=aH (Q.keep1 hw9);have K:w9.cell? (e.p,2)=[m 1]:=W.cram (k:=1) I;have G:w9.frozen? ⟨e.p,2,none⟩=false:=W.sh.frozen _;have F:Hid (gE w tag t last e gs mp pt st E O ⟨eI m 1 V,s,Z.go 15,false⟩ (w9.setCell (e.p,2) [V])):=aH (((W.setRam (k:=1) I V).as (Z':=Z.go 15) (fun _ _=>rfl) rfl).out rfl (by simp only[iF,cQ.go]) ⟨rfl,rfl⟩);clear hw9 hc9 hf9;refine aW ?_;simp only[List.drop_succ_cons,List.drop_zero,List.drop];go_wp2;refine bodyPost_end (v:=.tuple #[]) (by simp [results,results179,go_sem]) rfl ?_;exact⟨rfl,F.out⟩
theorem RV(H:RC w tag w tag t Z last e gs mp m pt s st E O R cr D cd rows [] false)(M:iF w tag t Z e)(d:Z.does=16)(L:(Cl.reply).At w tag e r):
 ∃N Y,r=td 16 (fv N Y)/\Calls prog N Y w fun K w'=>K=.returned (.tuple #[])/\gE w tag t last e gs mp pt st E O (stp t m s Z) w':=by
 obtain⟨P,rfl,X⟩:=L;refine⟨_,_,rfl,?_⟩;simp only[cR];rw[show stp t m s Z=⟨m,s,Z.go 0,true⟩ by simp only[stp,d]];have G:=H.t4;have W:=aH H;have V:w.cell? (P,0)=(e.q,0):=X.cell;have U:=X.2.lt;have T:=H.cth 12 (fun _ _=>rfl);have S:=H.th.blk.frozen 12;have Q:=aH ((W.setTh (Z':=Z.go 0) (fin':=true) 12 true (fun _ _=>rfl) rfl).out rfl (by simp only[iF,cQ.go]) ⟨rfl,rfl⟩);clear H M d
 go_enter func181,ntmps181
 go_wp2;refine bodyPost_end (v:=.tuple #[]) (by simp [results,results181,go_sem]) rfl ?_;exact⟨rfl,Q.out⟩
theorem YP(H:RC w tag w tag t Z last e gs mp m pt s st E O R cr D cd rows [.index (Z.ver+1),.wish2,.firm2,.tell (Z.ver+1),.unlock,.reply] false)(o:iF w tag t Z e)(d:Z.does=10)(n:(Cl.firm).At w tag e r)(Q:s.fe<=1000000000):
 ∃N Y,r=td 10 (fv N Y)/\Calls prog N Y w fun l w'=>l=.returned (.tuple #[])/\gE w tag t last e gs mp pt st E O (stp t m s Z) w':=by
 obtain⟨x,u,rfl,P,M⟩:=n;refine⟨_,_,rfl,?_⟩;simp only[cR];rw[show stp t m s Z=⟨m,s.fence t,Z.go 11,false⟩ by simp only[stp,d]];have K:=H.t4;have G:=aH H;have W:w.cell? (x,0)=(e.p,0):=P.cell;have F:=P.2.lt;have V:w.cell? (u,0)=(e.q,0):=M.cell;have C:=M.2.lt;have B:=H.cp0;have k:=H.sh.lt;have j:=H.st_.lt;have A:=H.cth 0 (fun _ _=>rfl);have i:=H.th.blk.lt;have U:gs≠mp:=fun e=>by have X:=H.ts;have T:=H.tm;rw[e]at X;omega
 clear H o d
 go_enter func174,ntmps174
 go_wp2;refine aA 8 ?_
 iterate 8
  first
  |(refine Kf ?_;constructor
    .intro w9 hw9 hc9 hf9;go_simp
     first
     |exact aE)
  |refine aU ?_
 refine bZ ?_;intro w9 hw9 hc9 hf9;refine aS ?_;have S:=aH (G.keep1 hw9);have z:=aH (wG gs mp s.fl t s w9 S.st_ (by have:=S.wm;exact this) U K Q);clear hw9 hc9 hf9 W V B A;refine aW ?_;simp only[List.drop_succ_cons,List.drop_zero,List.drop];go_wp2_with fail
 with_reducible refine z.out.mono ?_
 rintro h g ⟨rfl,X,T,L⟩;have y:=aH (((S.store X T L).as (Z':=Z.go 11) (fun _ _=>rfl) rfl).out rfl (by simp only[iF,cQ.go]) ⟨rfl,rfl⟩);clear X T L;go_wp2;refine bodyPost_end (v:=.tuple #[]) (by simp [results,results174,go_sem]) rfl ?_;exact⟨rfl,y.out⟩
theorem VF(H:RC w tag w tag t Z last e gs mp m pt s st E O R cr D cd rows [.tell (Z.ver+1),.unlock,.reply] false)(o:iF w tag t Z e)(d:Z.does=13)(n:(Cl.firm2).At w tag e r)(Q:s.fe<=1000000000):
 ∃N Y,r=td 13 (fv N Y)/\Calls prog N Y w fun l w'=>l=.returned (.tuple #[])/\gE w tag t last e gs mp pt st E O (stp t m s Z) w':=by
 obtain⟨x,u,rfl,P,M⟩:=n;refine⟨_,_,rfl,?_⟩;simp only[cR];rw[show stp t m s Z=⟨m,s.fence t,Z.go 14,false⟩ by simp only[stp,d]];have K:=H.t4;have G:=aH H;have W:w.cell? (x,0)=(e.p,0):=P.cell;have F:=P.2.lt;have V:w.cell? (u,0)=(e.q,0):=M.cell;have C:=M.2.lt;have B:=H.cp0;have k:=H.sh.lt;have j:=H.st_.lt;have A:=H.cth 0 (fun _ _=>rfl);have i:=H.th.blk.lt;have U:gs≠mp:=fun e=>by have X:=H.ts;have T:=H.tm;rw[e]at X;omega
 clear H o d
 go_enter func178,ntmps178
 go_wp2;refine aA 8 ?_
 iterate 8
  first
  |(refine Kf ?_;constructor
    .intro w9 hw9 hc9 hf9;go_simp
     first
     |exact aE)
  |refine aU ?_
 refine bZ ?_;intro w9 hw9 hc9 hf9;refine aS ?_;have S:=aH (G.keep1 hw9);have z:=aH (wG gs mp s.fl t s w9 S.st_ (by have:=S.wm;exact this) U K Q);clear hw9 hc9 hf9 W V B A;refine aW ?_;simp only[List.drop_succ_cons,List.drop_zero,List.drop];go_wp2_with fail
 with_reducible refine z.out.mono ?_
 rintro h g ⟨rfl,X,T,L⟩;have y:=aH (((S.store X T L).as (Z':=Z.go 14) (fun _ _=>rfl) rfl).out rfl (by simp only[iF,cQ.go]) ⟨rfl,rfl⟩);clear X T L;go_wp2;refine bodyPost_end (v:=.tuple #[]) (by simp [results,results178,go_sem]) rfl ?_;exact⟨rfl,y.out⟩
theorem PX(H:RC w tag w tag t Z last e gs mp m pt s st E O R cr D cd rows [.firm2,.tell (Z.ver+1),.unlock,.reply] false)(o:iF w tag t Z e)(d:Z.does=12)(n:(Cl.wish2).At w tag e r)(X:s.fl<=1000000000):
 ∃N Y,r=td 12 (fv N Y)/\Calls prog N Y w fun l w'=>l=.returned (.tuple #[])/\gE w tag t last e gs mp pt st E O (stp t m s Z) w':=by
 obtain⟨x,u,rfl,P,M⟩:=n;refine⟨_,_,rfl,?_⟩;simp only[cR];rw[show stp t m s Z=⟨m,s.flush t 0,Z.go 13,false⟩ by simp only[stp,d]];have K:=H.t4;have G:=aH H;have V:w.cell? (x,0)=(e.p,0):=P.cell;have F:=P.2.lt;have U:w.cell? (u,0)=(e.q,0):=M.cell;have C:=M.2.lt;have B:=H.cp0;have k:=H.sh.lt;have j:=H.st_.lt;have A:=H.cth 0 (fun _ _=>rfl);have i:=H.th.blk.lt;have T:gs≠mp:=fun e=>by have W:=H.ts;have S:=H.tm;rw[e]at W;omega
 clear H o d
 go_enter func177,ntmps177
 go_wp2;refine aA 8 ?_
 iterate 8
  first
  |(refine Kf ?_;constructor
    .intro w9 hw9 hc9 hf9;go_simp
     first
     |exact aE)
  |refine aU ?_
 refine bZ ?_;intro w9 hw9 hc9 hf9;refine aS ?_;have Q:=aH (G.keep1 hw9);have z:Hid (Calls prog 173 #[(gs,0),t,(0:Int)] w9 _):=aH (xH gs mp s.fl t 0 s w9 Q.st_ Q.wm T K I X X);clear hw9 hc9 hf9 V U B A;refine aW ?_;simp only[List.drop_succ_cons,List.drop_zero,List.drop];go_wp2_with fail
 with_reducible refine z.out.mono ?_
 rintro h g ⟨rfl,W,S,L⟩;have y:=aH (((Q.store (s':=s.flush t 0) W S L).as (Z':=Z.go 13) (fun _ _=>rfl) rfl).out rfl (by simp only[iF,cQ.go]) ⟨rfl,rfl⟩);clear W S L;go_wp2;refine bodyPost_end (v:=.tuple #[]) (by simp [results,results177,go_sem]) rfl ?_;exact⟨rfl,y.out⟩
theorem RH(H:RC w tag w tag t Z last e gs mp m pt s st E O R cr D cd rows [.look2,.look3,.look4,.look5] false)(L:iF w tag t Z e)(d:Z.does=17)(y:(Cl.look1).At w tag e r)(i:0<=m 1):
 ∃N W,r=td 17 (fv N W)/\Calls prog N W w fun x w'=>x=.returned (.tuple #[])/\gE w tag t last e gs mp pt st E O (stp t m s Z) w':=by
 obtain⟨z,rfl,S⟩:=y;refine⟨_,_,rfl,?_⟩;simp only[cR];rw[show stp t m s Z=⟨m,s,{Z with ver:=(m 1).toNat,does:=18},false⟩ by simp only[stp,d]];have u:=H.t4;have K:=aH H;have G:w.cell? (z,0)=(e.p,0):=S.cell;have F:=S.2.lt;have q:=H.cp0;have o:=H.sh.lt;have n:=H.st_.lt;have C:w.cell? (e.p,2)=[m 1]:=H.cram (k:=1) I;have B:w.frozen? ⟨e.p,2,none⟩=false:=H.sh.frozen _;simp only[iF,d]at L;obtain⟨V,Q,P,M⟩:=L;have l:w.cell? (e.v,0)=some (.int .u64 0):=by rw[V.2.cell];rfl
 have j:=V.2.lt;have fv:=V.2.frozen 0;have U:=bP w e.v 0 [m 1];have Y:∀b,cI e.v b->tag b=130+t:=fun b X=>by rw[show b=e.v from X];exact V.1
 have T:((m 1).toNat:Int)=m 1:=I;have A:Hid (gE w tag t last e gs mp pt st E O ⟨m,s,{Z with ver:=(m 1).toNat,does:=18},false⟩ (w.setCell (e.v,0) [m 1])):=aH (((K.kept U (bI.refl _ _) (fun b X=>by have:=Y b X;unfold rR;omega)).as (Z':={Z with ver:=(m 1).toNat,does:=18}) (fun _ _=>rfl) rfl).out rfl (by
  show _/\_;refine⟨⟨V.1,by show aY _ _ _ #[[((m 1).toNat:Int)]];rw[T];exact V.2.set_ 0 _⟩,Q.kept U (bI.refl _ _) (fun b X=>by have:=Y b X;omega),P.kept U (bI.refl _ _) (fun b X=>by have:=Y b X;omega),M.kept U (bI.refl _ _) (fun b X=>by have:=Y b X;omega)⟩) ⟨rfl,rfl⟩)
 clear H V Q P M d U Y T
 go_enter func108,ntmps108
 go_wp2;refine bodyPost_end (v:=.tuple #[]) (by simp [results,results108,go_sem]) rfl ?_;exact⟨rfl,A.out⟩
theorem VN(H:RC w tag w tag t Z last e gs mp m pt s st E O R cr D cd rows (kG 0) false)(M:iF w tag t Z e)(d:Z.does=4)(y:(Cl.which).At w tag e r)(g:0<=m 1):
 ∃N X,r=td 4 (fv N X)/\Calls prog N X w fun x w'=>x=.returned (.tuple #[])/\gE w tag t last e gs mp pt st E O (stp t m s Z) w':=by
 obtain⟨A,rfl,S⟩:=y;refine⟨_,_,rfl,?_⟩;simp only[cR];rw[show stp t m s Z=⟨m,s,{Z with ver:=(m 1).toNat,i:=0,does:=5,na:=0,asks:=fun _ _=>0},false⟩ by simp only[stp,d]];have u:=H.t4;have L:=aH H;have K:w.cell? (A,0)=(e.p,0):=S.cell;have G:=S.2.lt;have q:=H.cp0;have o:=H.sh.lt;have n:=H.st_.lt;have F:w.cell? (e.p,2)=[m 1]:=H.cram (k:=1) I;have C:w.frozen? ⟨e.p,2,none⟩=false:=H.sh.frozen _;simp only[iF,d]at M;obtain⟨W,Q,P⟩:=M;have l:w.cell? (e.v,0)=some (.int .u64 0):=by rw[W.2.cell];rfl
 have h:=W.2.lt;have fv:=W.2.frozen 0;have T:=bP w e.v 0 [m 1];have Y:∀b,cI e.v b->tag b=130+t:=fun b V=>by rw[show b=e.v from V];exact W.1
 have U:((m 1).toNat:Int)=m 1:=I;have B:Hid (gE w tag t last e gs mp pt st E O ⟨m,s,{Z with ver:=(m 1).toNat,i:=0,does:=5,na:=0,asks:=fun _ _=>0},false⟩ (w.setCell (e.v,0) [m 1])):=aH (((L.kept T (bI.refl _ _) (fun b V=>by have:=Y b V;unfold rR;omega)).as (Z':={Z with ver:=(m 1).toNat,i:=0,does:=5,na:=0,asks:=fun _ _=>0}) (fun _ _=>rfl) rfl).out rfl (by
  show _/\_;refine⟨⟨W.1,by show aY _ _ _ #[[((m 1).toNat:Int)]];rw[U];exact W.2.set_ 0 _⟩,Q.kept T (bI.refl _ _) (fun b V=>by have:=Y b V;omega),_,P.kept T (bI.refl _ _) (fun b V=>by have:=Y b V;omega),fun j z=>absurd z (Nat.not_lt_zero _)⟩) ⟨rfl,rfl⟩)
 clear H W Q P d T Y U
 go_enter func137,ntmps137
 go_wp2;refine bodyPost_end (v:=.tuple #[]) (by simp [results,results137,go_sem]) rfl ?_;exact⟨rfl,B.out⟩
theorem RY(H:RC w tag w tag t Z last e gs mp m pt s st E O R cr D cd rows (kB (Z.ver+1) (Z.i+1)++(jP (Z.ver+1) 0++qI (Z.ver+1))) false)(n:iF w tag t Z e)(d:Z.does=8)(hr:(Cl.write (Z.ver+1) Z.i).At w tag e r)(u:Z.i<32)(zt:Z.ver<=1099511627776):
 ∃N Y,r=td 8 (fv N Y)/\Calls prog N Y w fun e' w'=>e'=.returned (.tuple #[])/\gE w tag t last e gs mp pt st E O (stp t m s Z) w':=by
 obtain⟨bw,bi,bp,bv,rfl,T,C,A,z⟩:=hr;refine⟨_,_,rfl,?_⟩;simp only[cR];rw[show stp t m s Z=⟨m,s.save (dU (Z.ver+1)+Z.i) (Z.r Z.i),Z.next 32 9,false⟩ by simp only[stp,d]];have h4:=H.t4;have l:=aH H;simp only[iF,d]at n;have k:w.cell? (bw,0)=some (.slice (some ⟨e.w,0,none⟩) 32 32):=T.cell;have j:=T.2.lt;have g:=C.cell;have f:=C.2.lt;have c:w.cell? (bp,0)=(e.p,0):=A.cell;have zz:=A.2.lt;have L:=z.cell;have zy:=z.2.lt;have p0:=H.cp0;have lp:=H.sh.lt;have ls:=H.st_.lt;obtain⟨o,We,P,y⟩:=n;have zx:w.cell? (e.w,Z.i)=[Z.r Z.i]:=by rw[P.cell,y.get _ u]
 have lw:=P.lt;obtain⟨B,M⟩:=aO (dU (Z.ver+1):Nat);have q:B<=40:=by rw[M];unfold dU;omega
 have U:=aH (fun W=>ZY (Z.ver+1) _ rfl B M W);rw[<-M];have K:=aH (fun(w':World) (h:RC w tag w' tag t Z last e gs mp m pt (s.save (B+Z.i) (Z.r Z.i)) st E O R cr D cd rows (kB (Z.ver+1) (Z.i+1)++(jP (Z.ver+1) 0++qI (Z.ver+1))) false) (T:lF w' tag t e.w Z.r)=>show gE w tag t last e gs mp pt st E O ⟨m,s.save (B+Z.i) (Z.r Z.i),Z.next 32 9,false⟩ w' from by
  by_cases X:Z.i+1=32
  .have G:Z.next 32 9={Z with i:=0,does:=9}:=iP X;rw[G];refine(h.as (Z':={Z with i:=0,does:=9}) (fun _ _=>rfl) rfl).out ?_ (by simp only[iF]) ⟨rfl,rfl⟩;rw[X];rfl
  have G:Z.next 32 9={Z with i:=Z.i+1}:=iN X;rw[G];exact(h.as (Z':={Z with i:=Z.i+1}) (fun _ _=>rfl) rfl).out (by simp only[gF,d]) (by simp only[iF,d];exact T) ⟨rfl,rfl⟩)
 have F:=aH (show lF w tag t e.w Z.r from⟨o,We,P,y⟩);generalize hV:((Z.ver+1:Nat):Int)=V at L U;have zw:(Z.i:Int)<32:=I;have kb:IntKind.i64.wrap ((B:Int)+(Z.i:Int))=(B:Int)+Z.i:=dE I I;have kc:(B:Int)+(Z.i:Int)<72:=I;clear M hV o P y;clear H d T C A z
 go_enter func171,ntmps171
 go_wp2;refine aA 14 ?_
 iterate 14
  first
  |(refine Kf ?_;constructor
    .intro w9 hw9 hc9 hf9;go_simp
     first
     |exact aE
     |(go_at_call 72;exact bS (U.out _)))
  |refine aU ?_
 refine bZ ?_;intro w9 hw9 hc9 hf9;refine aS ?_;have Q:=aH (l.keep1 hw9);have zv:w9.cell? (gs,B+Z.i)=[s.now (B+Z.i)]:=Q.cnow I;have zu:w9.frozen? ⟨gs,B+Z.i,none⟩=false:=Q.st_.frozen _;have HF:=aH (K.out _ (Q.setNow (a:=B+Z.i) I (Z.r Z.i)) ((F.kept (S:=bN) hw9 (bI.refl _ _) (fun _ x=>x.elim)).kept (bP w9 gs (B+Z.i) [Z.r Z.i]) (bI.refl _ _) (fun b hb=>by rw[show b=gs from hb,Q.ts];omega)));clear hw9 hc9 hf9;refine aW ?_;simp only[List.drop_succ_cons,List.drop_zero,List.drop];go_wp2;refine bodyPost_end (v:=.tuple #[]) (by simp [results,results171,go_sem]) rfl ?_;exact⟨rfl,HF.out⟩
end
section
variable{w:World}{tag:Nat->Nat}{t:Nat}{Z:cQ}{last:Int}{e:mG}{gs mp:Nat}{m:Nat->Int}{pt:Nat->Nat}{s:cN}{st:Int}{E O:Value}{R:Option Addr}{cr:Nat}{D:Option Addr}{cd:Nat}{rows:List (List Value)}{cs:List Cl}{r:List Value}
theorem YG(H:RC w tag w tag t Z last e gs mp m pt s st E O R cr D cd rows (jP (Z.ver+1) (Z.i+1)++qI (Z.ver+1)) false)(hn:iF w tag t Z e)(d:Z.does=9)(hr:(Cl.wish (Z.ver+1) Z.i).At w tag e r)(zv:Z.i<4)(M:s.fl<=1000000000):
 ∃N X,r=td 9 (fv N X)/\Calls prog N X w fun e' w'=>e'=.returned (.tuple #[])/\gE w tag t last e gs mp pt st E O (stp t m s Z) w':=by
 obtain⟨bp,bq,bv,bi,rfl,o,n,l,k⟩:=hr;refine⟨_,_,rfl,?_⟩;simp only[cR];rw[show stp t m s Z=⟨m,s.flush t (dU (Z.ver+1)/8+Z.i),Z.next 4 10,false⟩ by simp only[stp,d]];have f:=H.t4;have c:=aH H;have G:w.cell? (bp,0)=(e.p,0):=o.cell;have b:=o.2.lt;have F:w.cell? (bq,0)=(e.q,0):=n.cell;have a:=n.2.lt;have S:=l.cell;have zz:=l.2.lt;have C:=k.cell;have zy:=k.2.lt;have p0:=H.cp0;have lp:=H.sh.lt;have ls:=H.st_.lt;have q0:=H.cth 0 (fun _ _=>rfl);have lq:=H.th.blk.lt;have A:gs≠mp:=fun e=>by have L:=H.ts;have z:=H.tm;rw[e]at L;omega
 obtain⟨B,K⟩:=aO (dU (Z.ver+1):Nat);have Y:B=8\/B=40:=by rw[K];unfold dU;omega
 have P:=aH (fun W=>ZY (Z.ver+1) _ rfl B K W);rw[<-K];clear K;obtain⟨Q,j,zw⟩:∃Q:Nat,B/8=Q/\Q<=5:=⟨B/8,rfl,I⟩;rw[j];have kd:(B:Int).tdiv 8=(Q:Int):=by rw[<-j];rcases Y with rfl|rfl<;>rfl
 have zx:(B:Int)/8=(Q:Int):=I;have k0:IntKind.i64.wrap (Q:Int)=(Q:Int):=dE I I;have kb:IntKind.i64.wrap ((Q:Int)+(Z.i:Int))=(Q:Int)+Z.i:=dE I I;have y:=aH (fun(w':World) (h:RC w tag w' tag t Z last e gs mp m pt (s.flush t (Q+Z.i)) st E O R cr D cd rows (jP (Z.ver+1) (Z.i+1)++qI (Z.ver+1)) false)=>show gE w tag t last e gs mp pt st E O ⟨m,s.flush t (Q+Z.i),Z.next 4 10,false⟩ w' from by
  by_cases T:Z.i+1=4
  .have x:Z.next 4 10={Z with i:=0,does:=10}:=iP T;rw[x];refine(h.as (Z':={Z with i:=0,does:=10}) (fun _ _=>rfl) rfl).out ?_ (by simp only[iF]) ⟨rfl,rfl⟩;rw[T];rfl
  have x:Z.next 4 10={Z with i:=Z.i+1}:=iN T;rw[x];exact(h.as (Z':={Z with i:=Z.i+1}) (fun _ _=>rfl) rfl).out (by simp only[gF,d]) (by simp only[iF,d]) ⟨rfl,rfl⟩)
 generalize hV:((Z.ver+1:Nat):Int)=V at S P;clear j hV Y;clear H hn d o n l k
 go_enter func172,ntmps172
 go_wp2;refine aA 13 ?_
 iterate 13
  first
  |(refine Kf ?_;constructor
    .intro w9 hw9 hc9 hf9;go_simp
     first
     |exact aE
     |(go_at_call 72;exact bS (P.out _)))
  |refine aU ?_
 refine bZ ?_;intro w9 hw9 hc9 hf9;refine aS ?_;have u:=aH (c.keep1 hw9);have U:=xH gs mp s.fl t (Q+Z.i) s w9 u.st_ u.wm A f I M M;rw[show((Q+Z.i:Nat):Int)=(Q:Int)+Z.i by omega]at U;have HC:=aH U;clear U;clear hw9 hc9 hf9 G F S C p0 q0;refine aW ?_;simp only[List.drop_succ_cons,List.drop_zero,List.drop];go_wp2_with fail
 with_reducible refine HC.out.mono ?_
 rintro e2 w2 ⟨rfl,L,z,g⟩;have HF:=aH (y.out _ (u.store (s':=s.flush t (Q+Z.i)) L z g));clear L z g;go_wp2;refine bodyPost_end (v:=.tuple #[]) (by simp [results,results172,go_sem]) rfl ?_;exact⟨rfl,HF.out⟩
theorem TZ(H:RC w tag w tag t Z last e gs mp m pt s st E O R cr D cd rows [.look3,.look4,.look5] false)(l:iF w tag t Z e)(d:Z.does=18)(hr:(Cl.look2).At w tag e r):
 ∃N U,r=td 18 (fv N U)/\Calls prog N U w fun e' w'=>e'=.returned (.tuple #[])/\gE w tag t last e gs mp pt st E O (stp t m s Z) w':=by
 obtain⟨bp,rfl,q⟩:=hr;refine⟨_,_,rfl,?_⟩;simp only[cR];rw[show stp t m s Z=⟨m,s,{Z with seen:=fun j=>if j=0 then s.now (dU Z.ver+26)else Z.seen j,does:=19},false⟩ by simp only[stp,d]];have h4:=H.t4;have k:=aH H;have i:w.cell? (bp,0)=(e.p,0):=q.cell;have h:=q.2.lt;have p0:=H.cp0;have lp:=H.sh.lt;have ls:=H.st_.lt;obtain⟨B,G⟩:=aO (dU Z.ver:Nat);have u:B=8\/B=40:=by rw[G];unfold dU;omega
 have C:=aH (fun W=>ZY Z.ver _ rfl B G W);rw[<-G];clear G;simp only[iF,d]at l;obtain⟨F,z,o,n⟩:=l;have cv:w.cell? (e.v,0)=[Z.ver]:=by rw[F.2.cell];rfl
 have lv:=F.2.lt;have f:=aH (And.intro F (And.intro z (And.intro o n)));have Q:∀b,cI e.g b->tag b=170+t:=fun b V=>by rw[show b=e.g from V];exact z.1
 have Y:=aH Q;have kb:IntKind.i64.wrap ((B:Int)+26)=(B:Int)+26:=dE I I;have kc:(B:Int)+26<72:=I;have c:0<=(B:Int)+26:=I;have kn:((B:Int)+26).toNat=B+26:=I;have a:w.cell? (gs,B+26)=[s.now (B+26)]:=H.cnow I;obtain⟨X,y⟩:=aO (s.now (B+26):Int);rw[<-y]at a;have HX:=aH y;clear H F z o n d Q y
 go_enter func109,ntmps109
 go_wp2;refine aA 11 ?_
 iterate 11
  first
  |(refine Kf ?_;constructor
    .intro w9 hw9 hc9 hf9;go_simp
     first
     |exact aE
     |(go_at_call 72;exact bS (C.out _)))
  |refine aU ?_
 refine bZ ?_;intro w9 hw9 hc9 hf9;refine aS ?_;have H1:=aH (k.keep1 hw9);have A:=f.out;obtain⟨M,T,L,K⟩:=A;have M:=M.kept (S:=bN) hw9 (bI.refl _ _) (fun _ x=>x.elim);have T:=T.kept (S:=bN) hw9 (bI.refl _ _) (fun _ x=>x.elim);have L:=L.kept (S:=bN) hw9 (bI.refl _ _) (fun _ x=>x.elim);have K:=K.kept (S:=bN) hw9 (bI.refl _ _) (fun _ x=>x.elim);have cg:w9.cell? (e.g,0)=some (.int .u64 0):=by rw[T.2.cell];rfl
 have fg:=T.2.frozen 0;have P:=bP w9 e.g 0 [X];have HF:Hid (gE w tag t last e gs mp pt st E O ⟨m,s,{Z with seen:=fun j=>if j=0 then s.now (B+26)else Z.seen j,does:=19},false⟩ (w9.setCell (e.g,0) [X])):=aH (((H1.kept P (bI.refl _ _) (fun b V=>by have:=Y.out b V;unfold rR;omega)).as (Z':={Z with seen:=fun j=>if j=0 then s.now (B+26)else Z.seen j,does:=19}) (fun _ _=>rfl) rfl).out rfl (by
  show _/\_;refine⟨M.kept P (bI.refl _ _) (fun b V=>by have:=Y.out b V;omega),⟨T.1,by rw[HX.out];exact T.2.set_ 0 _⟩,L.kept P (bI.refl _ _) (fun b V=>by have:=Y.out b V;omega),K.kept P (bI.refl _ _) (fun b V=>by have:=Y.out b V;omega)⟩) ⟨rfl,rfl⟩)
 clear M T L K P;clear hw9 hc9 hf9;refine aW ?_;simp only[List.drop_succ_cons,List.drop_zero,List.drop];go_wp2;refine bodyPost_end (v:=.tuple #[]) (by simp [results,results109,go_sem]) rfl ?_;exact⟨rfl,HF.out⟩
theorem TY(H:RC w tag w tag t Z last e gs mp m pt s st E O R cr D cd rows [.look4,.look5] false)(i:iF w tag t Z e)(d:Z.does=19)(hr:(Cl.look3).At w tag e r):
 ∃N U,r=td 19 (fv N U)/\Calls prog N U w fun e' w'=>e'=.returned (.tuple #[])/\gE w tag t last e gs mp pt st E O (stp t m s Z) w':=by
 obtain⟨bp,bq,rfl,o,n⟩:=hr;refine⟨_,_,rfl,?_⟩;simp only[cR];rw[show stp t m s Z=⟨m,s,{Z with seen:=fun j=>if j=1 then s.now (dU Z.ver+18+t)else Z.seen j,does:=20},false⟩ by simp only[stp,d]];have h4:=H.t4;have h:=aH H;have g:w.cell? (bp,0)=(e.p,0):=o.cell;have f:=o.2.lt;have c:w.cell? (bq,0)=(e.q,0):=n.cell;have zz:=n.2.lt;have q0:=H.cth 0 (fun _ _=>rfl);have lq:=H.th.blk.lt;have p0:=H.cp0;have lp:=H.sh.lt;have ls:=H.st_.lt;obtain⟨B,G⟩:=aO (dU Z.ver:Nat);have u:B=8\/B=40:=by rw[G];unfold dU;omega
 have C:=aH (fun W=>ZY Z.ver _ rfl B G W);rw[<-G];clear G;simp only[iF,d]at i;obtain⟨F,l,z,k⟩:=i;have cv:w.cell? (e.v,0)=[Z.ver]:=by rw[F.2.cell];rfl
 have lv:=F.2.lt;have HN:=aH (And.intro F (And.intro l (And.intro z k)));have Q:∀b,cI e.a b->tag b=180+t:=fun b V=>by rw[show b=e.a from V];exact z.1
 have Y:=aH Q;have kb:IntKind.i64.wrap ((B:Int)+18)=(B:Int)+18:=dE I I;have zy:IntKind.i64.wrap ((B:Int)+18+(t:Int))=(B:Int)+18+t:=dE I I;have kc:(B:Int)+18+(t:Int)<72:=I;have zx:0<=(B:Int)+18+(t:Int):=I;have kn:((B:Int)+18+(t:Int)).toNat=B+18+t:=I;have cn:w.cell? (gs,B+18+t)=[s.now (B+18+t)]:=H.cnow I;obtain⟨X,y⟩:=aO (s.now (B+18+t):Int);rw[<-y]at cn;have HX:=aH y;clear H F l z k d Q y
 go_enter func110,ntmps110
 go_wp2;refine aA 16 ?_
 iterate 16
  first
  |(refine Kf ?_;constructor
    .intro w9 hw9 hc9 hf9;go_simp
     first
     |exact aE
     |(go_at_call 72;exact bS (C.out _)))
  |refine aU ?_
 refine bZ ?_;intro w9 hw9 hc9 hf9;refine aS ?_;have H1:=aH (h.keep1 hw9);have A:=HN.out;obtain⟨M,L,T,K⟩:=A;have M:=M.kept (S:=bN) hw9 (bI.refl _ _) (fun _ x=>x.elim);have L:=L.kept (S:=bN) hw9 (bI.refl _ _) (fun _ x=>x.elim);have T:=T.kept (S:=bN) hw9 (bI.refl _ _) (fun _ x=>x.elim);have K:=K.kept (S:=bN) hw9 (bI.refl _ _) (fun _ x=>x.elim);have cg:w9.cell? (e.a,0)=some (.int .u64 0):=by rw[T.2.cell];rfl
 have fg:=T.2.frozen 0;have P:=bP w9 e.a 0 [X];have HF:Hid (gE w tag t last e gs mp pt st E O ⟨m,s,{Z with seen:=fun j=>if j=1 then s.now (B+18+t)else Z.seen j,does:=20},false⟩ (w9.setCell (e.a,0) [X])):=aH (((H1.kept P (bI.refl _ _) (fun b V=>by have:=Y.out b V;unfold rR;omega)).as (Z':={Z with seen:=fun j=>if j=1 then s.now (B+18+t)else Z.seen j,does:=20}) (fun _ _=>rfl) rfl).out rfl (by
  show _/\_;refine⟨M.kept P (bI.refl _ _) (fun b V=>by have:=Y.out b V;omega),L.kept P (bI.refl _ _) (fun b V=>by have:=Y.out b V;omega),⟨T.1,by rw[HX.out];exact T.2.set_ 0 _⟩,K.kept P (bI.refl _ _) (fun b V=>by have:=Y.out b V;omega)⟩) ⟨rfl,rfl⟩)
 clear M L T K P;clear hw9 hc9 hf9;refine aW ?_;simp only[List.drop_succ_cons,List.drop_zero,List.drop];go_wp2;refine bodyPost_end (v:=.tuple #[]) (by simp [results,results110,go_sem]) rfl ?_;exact⟨rfl,HF.out⟩
theorem SQ(H:RC w tag w tag t Z last e gs mp m pt s st E O R cr D cd rows [.look5] false)(h:iF w tag t Z e)(d:Z.does=20)(hr:(Cl.look4).At w tag e r):
 ∃N U,r=td 20 (fv N U)/\Calls prog N U w fun e' w'=>e'=.returned (.tuple #[])/\gE w tag t last e gs mp pt st E O (stp t m s Z) w':=by
 obtain⟨bp,bq,rfl,o,l⟩:=hr;refine⟨_,_,rfl,?_⟩;simp only[cR];rw[show stp t m s Z=⟨m,s,{Z with seen:=fun j=>if j=2 then s.now (dU Z.ver+22+t)else Z.seen j,does:=21},false⟩ by simp only[stp,d]];have h4:=H.t4;have g:=aH H;have f:w.cell? (bp,0)=(e.p,0):=o.cell;have c:=o.2.lt;have a:w.cell? (bq,0)=(e.q,0):=l.cell;have zz:=l.2.lt;have q0:=H.cth 0 (fun _ _=>rfl);have lq:=H.th.blk.lt;have p0:=H.cp0;have lp:=H.sh.lt;have ls:=H.st_.lt;obtain⟨B,G⟩:=aO (dU Z.ver:Nat);have u:B=8\/B=40:=by rw[G];unfold dU;omega
 have C:=aH (fun W=>ZY Z.ver _ rfl B G W);rw[<-G];clear G;simp only[iF,d]at h;obtain⟨F,k,i,z⟩:=h;have cv:w.cell? (e.v,0)=[Z.ver]:=by rw[F.2.cell];rfl
 have lv:=F.2.lt;have HN:=aH (And.intro F (And.intro k (And.intro i z)));have Q:∀b,cI e.n b->tag b=190+t:=fun b V=>by rw[show b=e.n from V];exact z.1
 have Y:=aH Q;have kb:IntKind.i64.wrap ((B:Int)+22)=(B:Int)+22:=dE I I;have zy:IntKind.i64.wrap ((B:Int)+22+(t:Int))=(B:Int)+22+t:=dE I I;have kc:(B:Int)+22+(t:Int)<72:=I;have zx:0<=(B:Int)+22+(t:Int):=I;have kn:((B:Int)+22+(t:Int)).toNat=B+22+t:=I;have cn:w.cell? (gs,B+22+t)=[s.now (B+22+t)]:=H.cnow I;obtain⟨X,y⟩:=aO (s.now (B+22+t):Int);rw[<-y]at cn;have HX:=aH y;clear H F k i z d Q y
 go_enter func111,ntmps111
 go_wp2;refine aA 16 ?_
 iterate 16
  first
  |(refine Kf ?_;constructor
    .intro w9 hw9 hc9 hf9;go_simp
     first
     |exact aE
     |(go_at_call 72;exact bS (C.out _)))
  |refine aU ?_
 refine bZ ?_;intro w9 hw9 hc9 hf9;refine aS ?_;have H1:=aH (g.keep1 hw9);have A:=HN.out;obtain⟨M,L,K,T⟩:=A;have M:=M.kept (S:=bN) hw9 (bI.refl _ _) (fun _ x=>x.elim);have L:=L.kept (S:=bN) hw9 (bI.refl _ _) (fun _ x=>x.elim);have K:=K.kept (S:=bN) hw9 (bI.refl _ _) (fun _ x=>x.elim);have T:=T.kept (S:=bN) hw9 (bI.refl _ _) (fun _ x=>x.elim);have cg:w9.cell? (e.n,0)=some (.int .u64 0):=by rw[T.2.cell];rfl
 have fg:=T.2.frozen 0;have P:=bP w9 e.n 0 [X];have HF:Hid (gE w tag t last e gs mp pt st E O ⟨m,s,{Z with seen:=fun j=>if j=2 then s.now (B+22+t)else Z.seen j,does:=21},false⟩ (w9.setCell (e.n,0) [X])):=aH (((H1.kept P (bI.refl _ _) (fun b V=>by have:=Y.out b V;unfold rR;omega)).as (Z':={Z with seen:=fun j=>if j=2 then s.now (B+22+t)else Z.seen j,does:=21}) (fun _ _=>rfl) rfl).out rfl (by
  show _/\_;refine⟨M.kept P (bI.refl _ _) (fun b V=>by have:=Y.out b V;omega),L.kept P (bI.refl _ _) (fun b V=>by have:=Y.out b V;omega),K.kept P (bI.refl _ _) (fun b V=>by have:=Y.out b V;omega),⟨T.1,by rw[HX.out];exact T.2.set_ 0 _⟩⟩) ⟨rfl,rfl⟩)
 clear M L K T P;clear hw9 hc9 hf9;refine aW ?_;simp only[List.drop_succ_cons,List.drop_zero,List.drop];go_wp2;refine bodyPost_end (v:=.tuple #[]) (by simp [results,results111,go_sem]) rfl ?_;exact⟨rfl,HF.out⟩
end
section
variable{w:World}{tag:Nat->Nat}{t:Nat}{Z:cQ}{last:Int}{e:mG}{gs mp:Nat}{m:Nat->Int}{pt:Nat->Nat}{s:cN}{st:Int}{E O:Value}{R:Option Addr}{cr:Nat}{D:Option Addr}{cd:Nat}{rows:List (List Value)}{cs:List Cl}{r:List Value}
theorem SC(H:RC w tag w tag t Z last e gs mp m pt s st E O R cr D cd rows [.says2,.lock] false)(hn:iF w tag t Z e)(d:Z.does=1)(hr:(Cl.says1).At w tag e r)(ho:gQ Z.a Z.k Z.v):
 ∃N V,r=td 1 (fv N V)/\Calls prog N V w fun e' w'=>e'=.returned (.tuple #[])/\gE w tag t last e gs mp pt st E O (stp t m s Z) w':=by
 obtain⟨A,y,rfl,u,o⟩:=hr;refine⟨_,_,rfl,?_⟩;simp only[cR];rw[show stp t m s Z=⟨eI m (2+2*t) (fN Z.a Z.k Z.v),s,Z.go 2,false⟩ by simp only[stp,d]];have h4:=H.t4;have HH:=aH H;have T:w.cell? (y,0)=(e.p,0):=o.cell;have S:=o.2.lt;have Q:w.cell? (A,0)=(e.q,0):=u.cell;have P:=u.2.lt;have p0:=H.cp0;have lp:=H.sh.lt;have ls:=H.st_.lt;have h:=H.cth 0 (fun _ _=>rfl);have n:=H.th.blk.lt;have M:¬cI e.p y:=fun z=>by have L:=o.1;have g:=H.tp;rw[show y=e.p from z]at L;omega
 have G:¬cI e.p A:=fun z=>by have L:=u.1;have g:=H.tp;rw[show A=e.p from z]at L;omega
 have nq:¬cI e.p e.q:=fun z=>by have L:=H.th.tg;have g:=H.tp;rw[show e.q=e.p from z]at L;omega
 have f:=aH (fun W=>CE Z.a Z.k Z.v W);rw[show jI Z.a Z.k Z.v=fN Z.a Z.k Z.v from iP (eN.2 ho)]at f;have l:Hid (w.rangeAt e.q 2 [.int .i64 Z.a,.int .i64 Z.k,.int .i64 Z.v]):=aH (by
  have:=World.rangeAt_of_block (t:=140) (fr:=(0,0)) H.th.blk 2 3;exact this)
 have k1:IntKind.i64.wrap (2*(t:Int))=2*t:=dE I I;have k2:IntKind.i64.wrap (2+2*(t:Int))=2+2*t:=dE I I;have k3:(2+2*(t:Int)).toNat=2+2*t:=I;have k4:2+2*(t:Int)<16:=I;have k5:0<=2+2*(t:Int):=I;generalize fN Z.a Z.k Z.v=x at*;clear H hn d ho o u
 go_enter func115,ntmps115
 go_wp2;refine bK 19 (cI e.p) [18] J J ?_
 iterate 10
  refine aR ?_;constructor
  .intro w9 hw9 Y;refine aS ?_;have F:=(hw9.cell (p:=⟨y,0,none⟩) S M).trans T;have C:=(hw9.cell (p:=⟨A,0,none⟩) P G).trans Q;have i:=(hw9.cell (p:=⟨e.q,0,none⟩) n nq).trans h;refine aW ?_;go_simp
   first
   |exact aE
 refine bA (.agg #[Z.a,Z.k,Z.v]) cX ?_ ?_
 .intro w9 hw9 Y;refine aS ?_;have B:Hid (w9.rangeAt e.q 2 [.int .i64 Z.a,.int .i64 Z.k,.int .i64 Z.v]):=aH (fun j v hv=>(hw9.cell (p:=⟨e.q,2+j,none⟩) n nq).trans (l.out j v hv));refine aW ?_;refine eG 39 _ rfl e.q 2 rfl #[Z.a,Z.k,Z.v] _ B underlying39 rfl J aE
 first|(with_reducible refine aC (fun K U=>?_))|(refine aC (fun K U=>?_))
 refine .inl ?_;apply Exists.intro;refine⟨cX,?_,U _ _ _ _ ?_⟩
 .simp only[bJ,bM];refine⟨?_,fun w9 hw9 Y=>?_⟩
  .first|rfl|(go_simp;done)
  refine aS ?_;refine aW ?_;go_simp
  first
  |exact aE
  |(go_at_call 116;exact bS (f.out _))
 iterate 6
  clear U K;refine aN ?_
  first|(with_reducible refine aC (fun K U=>?_))|(refine aC (fun K U=>?_))
  refine .inl ?_;apply Exists.intro;refine⟨cX,?_,U _ _ _ _ ?_⟩
  .simp only[bJ,bM];refine⟨?_,fun w9 hw9 Y=>?_⟩
   .first|rfl|(go_simp;done)
   refine aS ?_;have F:=(hw9.cell (p:=⟨y,0,none⟩) S M).trans T;have C:=(hw9.cell (p:=⟨A,0,none⟩) P G).trans Q;have i:=(hw9.cell (p:=⟨e.q,0,none⟩) n nq).trans h;refine aW ?_;go_simp
   first
   |exact aE
 clear U K;refine aN ?_;refine bA undef (fun _ w'=>RC w tag w' tag t Z last e gs mp (eI m (2+2*t) x) pt s st E O R cr D cd rows [.says2,.lock] false) ?_ ?_
 .intro w9 hw9 Y;refine aS ?_;have B:=aH (HH.below (cA Y.1 J) (bI.refl _ _));have zz:w9.cell? (e.p,1+(2+2*t))=[m (2+2*t)]:=B.cram I;have zy:w9.frozen? ⟨e.p,1+(2+2*t),none⟩=false:=B.sh.frozen _;refine aW ?_;go_simp;refine⟨⟨rfl,?_⟩,(bP _ e.p _ _).mono fun b c=>by first|exact c|exact⟨aJ,c⟩⟩
  exact B.setRam (k:=2+2*t) I x
 refine aZ ?_;rintro w9 hw9 X;refine aQ ?_;refine aS ?_;obtain⟨wx,k6,k7,hf⟩:=X.1 rfl;have H1:=aH (hf.below (cA k7 J) (bI.refl _ _));have HF:=aH ((H1.as (Z':=Z.go 2) (fun _ _=>rfl) rfl).out rfl (by simp only[iF,cQ.go]) ⟨rfl,rfl⟩);clear X k6 k7 hf hw9;refine aW ?_;go_wp2;refine bodyPost_end (v:=.tuple #[]) (by simp [results,results115,go_sem]) rfl ?_;exact⟨rfl,HF.out⟩
theorem RZ(H:RC w tag w tag t Z last e gs mp m pt s st E O R cr D cd rows [.lock] false)(hn:iF w tag t Z e)(d:Z.does=2)(hr:(Cl.says2).At w tag e r)(hg:Z.tg=0\/Z.tg=1):
 ∃N X,r=td 2 (fv N X)/\Calls prog N X w fun e' w'=>e'=.returned (.tuple #[])/\gE w tag t last e gs mp pt st E O (stp t m s Z) w':=by
 obtain⟨V,U,rfl,T,S⟩:=hr;refine⟨_,_,rfl,?_⟩;simp only[cR];rw[show stp t m s Z=⟨eI m (3+2*t) (Z.tg+1),s,{Z with said:=true,does:=3},false⟩ by simp only[stp,d]];have h4:=H.t4;have l:=aH H;have Q:w.cell? (U,0)=(e.p,0):=S.cell;have P:=S.2.lt;have M:w.cell? (V,0)=(e.q,0):=T.cell;have L:=T.2.lt;have p0:=H.cp0;have lp:=H.sh.lt;have ls:=H.st_.lt;have j:=H.cth 0 (fun _ _=>rfl);have B:=H.th.blk.lt;have K:¬cI e.p U:=fun z=>by have W:=S.1;have A:=H.tp;rw[show U=e.p from z]at W;omega
 have G:¬cI e.p V:=fun z=>by have W:=T.1;have A:=H.tp;rw[show V=e.p from z]at W;omega
 have nq:¬cI e.p e.q:=fun z=>by have W:=H.th.tg;have A:=H.tp;rw[show e.q=e.p from z]at W;omega
 have i:=H.cth 5 (fun _ _=>rfl);have t1:0<=Z.tg:=I;have t2:Z.tg<=1:=I;have k1:IntKind.i64.wrap (2*(t:Int))=2*t:=dE I I;have k2:IntKind.i64.wrap (2+2*(t:Int))=2+2*t:=dE I I;have h:IntKind.i64.wrap (2+2*(t:Int)+1)=2+2*t+1:=dE I I;have k3:(2+2*(t:Int)+1).toNat=3+2*t:=I;have k4:2+2*(t:Int)+1<16:=I;have k5:0<=2+2*(t:Int)+1:=I;have k8:IntKind.i64.wrap (Z.tg+1)=Z.tg+1:=dE I I;have k9:IntKind.u64.wrap (Z.tg+1)=Z.tg+1:=sS I I;clear hg;clear H hn d S T
 go_enter func117,ntmps117
 go_wp2;refine bK 19 (cI e.p) [18] J J ?_
 iterate 18
  refine aR ?_;constructor
  .intro w9 hw9 hm9;refine aS ?_;have y:=(hw9.cell (p:=⟨U,0,none⟩) P K).trans Q;have x:=(hw9.cell (p:=⟨V,0,none⟩) L G).trans M;have g:=(hw9.cell (p:=⟨e.q,0,none⟩) B nq).trans j;have f:=(hw9.cell (p:=⟨e.q,5,none⟩) B nq).trans i;refine aW ?_;go_simp
   first
   |exact aE
 refine bA undef (fun _ w'=>RC w tag w' tag t Z last e gs mp (eI m (3+2*t) (Z.tg+1)) pt s st E O R cr D cd rows [.lock] false) ?_ ?_
 .intro w9 hw9 hm9;refine aS ?_;have F:=aH (l.below (cA hm9.1 J) (bI.refl _ _));have c:w9.cell? (e.p,1+(3+2*t))=[m (3+2*t)]:=F.cram I;have a:w9.frozen? ⟨e.p,1+(3+2*t),none⟩=false:=F.sh.frozen _;refine aW ?_;go_simp;refine⟨⟨rfl,?_⟩,(bP _ e.p _ _).mono fun b u=>by first|exact u|exact⟨aJ,u⟩⟩
  exact F.setRam (k:=3+2*t) I (Z.tg+1)
 refine aZ ?_;rintro w9 hw9 Y;refine aQ ?_;refine aS ?_;obtain⟨wx,k6,o,n⟩:=Y.1 rfl;have C:=aH (n.below (cA o J) (bI.refl _ _));have q7:=C.cth 7 (fun _ _=>rfl);have f7:=C.th.blk.frozen 7;have HF:=aH ((C.setTh (Z':={Z with said:=true,does:=3}) 7 true (fun _ _=>rfl) rfl).out rfl (by simp only[iF]) ⟨rfl,rfl⟩);clear Y k6 o n hw9;refine aW ?_;go_wp2;refine bodyPost_end (v:=.tuple #[]) (by simp [results,results117,go_sem]) rfl ?_;exact⟨rfl,HF.out⟩
theorem UZ(H:RC w tag w tag t Z last e gs mp m pt s st E O R cr D cd rows [] false)(b:iF w tag t Z e)(d:Z.does=3)(a:(Cl.lock).At w tag e r)(Q:m 0≠0):
 ∃N Y,r=td 3 (fv N Y)/\Calls prog N Y w fun e' w'=>e'=.returned (.tuple #[])/\gE w tag t last e gs mp pt st E O (stp t m s Z) w':=by
 obtain⟨h,g,rfl,M,L⟩:=a;refine⟨_,_,rfl,?_⟩;simp only[cR];rw[show stp t m s Z=⟨m,s,Z.go 17,false⟩ by simp only[stp,d];rw[iN Q]];have A:=H.t4;have z:=aH H;have T:rows=[]:=by have:=H.rs.len;simpa using this
 subst T;have y:w.cell? (h,0)=(e.p,0):=M.cell;have x:=M.2.lt;have u:w.cell? (g,0)=(e.q,0):=L.cell;have o:=L.2.lt;have p0:=H.cp0;have lp:=H.sh.lt;have ls:=H.st_.lt;have n:w.cell? (e.p,1)=[m 0]:=H.cram (k:=0) I;have l:w.frozen? ⟨e.p,1,none⟩=false:=H.sh.frozen _;have j:¬m 0=0:=Q;have P:=aH (PW H.th e.p A);clear H b d Q
 go_enter func126,ntmps126
 go_wp2_with fail
 with_reducible refine P.out.mono ?_
 rintro e2 w2 ⟨rfl,K,f,R2,c,S,G,X,W,V,F,C,B,U⟩;have i:=aH ((((z.rowed G X W V).as (Z':=Z.go 17) (fun _ _=>rfl) rfl).out rfl ⟨F,C,B,U⟩ X));clear G X W V F C B U P;go_wp2;refine bodyPost_ret (v:=.tuple #[]) (by simp [results,results126,go_sem]) rfl ?_;exact⟨rfl,i.out⟩
theorem UN(H:RC w tag w tag t Z last e gs mp m pt s st E O R cr D cd rows [] false)(hn:iF w tag t Z e)(d:Z.does=3)(hr:(Cl.lock).At w tag e r)(u:m 0=0):
 ∃N Y,r=td 3 (fv N Y)/\Calls prog N Y w fun e' w'=>e'=.returned (.tuple #[])/\gE w tag t last e gs mp pt st E O (stp t m s Z) w':=by
 obtain⟨S,Q,rfl,B,A⟩:=hr;refine⟨_,_,rfl,?_⟩;simp only[cR];rw[show stp t m s Z=⟨eI m 0 (t+1),s,Z.go 4,false⟩ by simp only[stp,d];rw[iP u]];have b:=H.t4;have P:=aH H;have M:rows=[]:=by have:=H.rs.len;simpa using this
 subst M;have W:w.cell? (S,0)=(e.p,0):=B.cell;have L:=B.2.lt;have V:w.cell? (Q,0)=(e.q,0):=A.cell;have K:=A.2.lt;have a:=H.cp0;have lp:=H.sh.lt;have ls:=H.st_.lt;have q0:=H.cth 0 (fun _ _=>rfl);have lq:=H.th.blk.lt;have G:w.cell? (e.p,1)=some (.int .u64 0):=by rw[<-u];exact H.cram (k:=0) I
 have k1:IntKind.i64.wrap ((t:Int)+1)=(t:Int)+1:=dE I I;have k2:IntKind.u64.wrap ((t:Int)+1)=(t:Int)+1:=sS I I;clear H hn d u
 go_enter func126,ntmps126
 go_wp2;refine aA 9 ?_
 iterate 9
  first
  |(refine Kf ?_;constructor
    .intro w9 hw9 hc9 hf9;go_simp
     first
     |exact aE)
  |refine aU ?_
 refine bZ ?_;intro w9 hw9 hc9 hf9;refine aS ?_;have F:=aH (P.keep1 hw9);have zz:w9.cell? (e.p,1)=[m 0]:=F.cram (k:=0) I;have zy:w9.frozen? ⟨e.p,1,none⟩=false:=F.sh.frozen _;have o:=aH (F.setRam (k:=0) I ((t:Int)+1));have n:=(hw9.cell (p:=⟨S,0,none⟩) L (fun x=>x)).trans W;have l:=(hw9.cell (p:=⟨Q,0,none⟩) K (fun x=>x)).trans V;have n1:¬S=e.p:=fun z=>by have C:=B.1;have h2:=P.tp;rw[z]at C;omega
 have n2:¬Q=e.p:=fun z=>by have C:=A.1;have h2:=P.tp;rw[z]at C;omega
 have n3:¬e.p=S:=fun z=>n1 z.symm
 have n4:¬e.p=Q:=fun z=>n2 z.symm
 have j:=aH (Do o.th e.p b);clear W V a q0 G;clear hw9 hc9 hf9;refine aW ?_;simp only[List.drop_succ_cons,List.drop_zero,List.drop];go_wp2_with fail
 with_reducible refine j.out.mono ?_
 rintro e2 w2 ⟨rfl,i,zx,R2,zw,y,h,X,U,T,g,f,c⟩;have HF:=aH ((((o.rowed h X U T).as (Z':=Z.go 4) (fun _ _=>rfl) rfl).out rfl ⟨g,f,c⟩ X));clear h X U T g f c j;go_wp2;refine bodyPost_end (v:=.tuple #[]) (by simp [results,results126,go_sem]) rfl ?_;exact⟨rfl,HF.out⟩
end
section
variable{w:World}{tag:Nat->Nat}{t:Nat}{Z:cQ}{last:Int}{e:mG}{gs mp:Nat}{m:Nat->Int}{pt:Nat->Nat}{s:cN}{st:Int}{E O:Value}{R:Option Addr}{cr:Nat}{D:Option Addr}{cd:Nat}{rows:List (List Value)}{cs:List Cl}{r:List Value}
theorem TK(H:RC w tag w tag t Z last e gs mp m pt s st E O R cr D cd rows (kG (Z.i+1)) false)(hn:iF w tag t Z e)(d:Z.does=5)(hr:(Cl.copy Z.i).At w tag e r)(n:Z.i<31)(l:Z.na=0)(k:0<=s.now (dU Z.ver+Z.i)/\s.now (dU Z.ver+Z.i)<18446744073709551616):
 ∃N T,r=td 5 (fv N T)/\Calls prog N T w fun e' w'=>e'=.returned (.tuple #[])/\gE w tag t last e gs mp pt st E O (stp t m s Z) w':=by
 obtain⟨bp,bi,bw,bq,rfl,c,a,hw,hq⟩:=hr;refine⟨_,_,rfl,?_⟩;simp only[cR];rw[show stp t m s Z=⟨m,s,{Z with r:=fun j=>if j=Z.i then s.now (dU Z.ver+Z.i)else Z.r j,i:=Z.i+1},false⟩ by simp only[stp,d];congr 1;exact iN (by show¬Z.i+1=32;omega)];have h4:=H.t4;have HH:=aH H;simp only[iF,d]at hn;obtain⟨n1,n2,z,n3,n4⟩:=hn;have M:w.cell? (bp,0)=(e.p,0):=c.cell;have zz:=c.2.lt;have L:w.cell? (bq,0)=(e.q,0):=hq.cell;have zy:=hq.2.lt;have K:w.cell? (bw,0)=some (.slice (some ⟨e.w,0,none⟩) 32 32):=hw.cell;have zx:=hw.2.lt;have G:=a.cell;have zw:=a.2.lt;have p0:=H.cp0;have lp:=H.sh.lt;have ls:=H.st_.lt;have cv:w.cell? (e.v,0)=[Z.ver]:=by rw[n1.2.cell];rfl
 have lv:=n1.2.lt;obtain⟨wt,We,wb,wu⟩:=n3;have lw:=wb.lt;obtain⟨B,o⟩:=aO (dU Z.ver:Nat);have F:B=8\/B=40:=by rw[o];unfold dU;omega
 have zv:=aH (fun W=>ZY Z.ver _ rfl B o W);have F:B<=40:=I;have Y:=k;have zu:=aH o;rw[<-o]at Y;clear o;obtain⟨X,hX⟩:=aO (s.now (B+Z.i):Int);have cn:w.cell? (gs,B+Z.i)=[X]:=by rw[hX];exact H.cnow I
 have C:0<=X/\X<18446744073709551616:=by rw[hX];exact Y
 have HX:Hid (X=s.now (dU Z.ver+Z.i)):=aH (by rw[hX,zu.out]);have A:w.cell? (e.w,Z.i)=[z Z.i]:=by rw[wb.cell,wu.get _ I]
 have y:∀b,tag b=106->¬b=e.w:=fun b h z=>by rw[z]at h;omega
 have x1:=y _ c.1;have x2:=y _ hq.1;have x3:=y _ hw.1;have x4:=y _ a.1;have HN:=aH (And.intro n1 n2);have HD:=aH d;have Q:=aH (show lF w tag t e.w z from⟨wt,We,wb,wu⟩);have HZ:=aH n4;have zr:=aH n;have zq:=aH l;have zt:=aH C;have kb:IntKind.i64.wrap ((B:Int)+(Z.i:Int))=(B:Int)+(Z.i:Int):=dE I I;have kc:(B:Int)+(Z.i:Int)<72:=I;have zp:0<=(B:Int)+(Z.i:Int):=I;have kn:((B:Int)+(Z.i:Int)).toNat=B+Z.i:=I;have zo:(Z.i:Int)<32:=I;have zn:¬(Z.i:Int)=31:=I;clear H d n1 n2 n4 wt wb wu hX k Y C y l n c hq hw a
 go_enter func138,ntmps138
 go_wp2;refine aA 14 ?_
 iterate 14
  first
  |(refine Kf ?_;constructor
    .intro w9 hw9 hc9 hf9;go_simp
     first
     |exact aE
     |(go_at_call 72;exact bS (zv.out _)))
  |refine aU ?_
 refine bZ ?_;intro w9 hw9 hc9 hf9;refine aS ?_;have H1:=aH (HH.keep1 hw9);have P:=aH (Q.kept (S:=bN) hw9 (bI.refl _ _) (fun _ x=>x.elim));have zm:=(hw9.cell (p:=⟨bi,0,none⟩) zw (fun x=>x)).trans G;have zl:=(hw9.cell (p:=⟨bp,0,none⟩) zz (fun x=>x)).trans M;have zk:=(hw9.cell (p:=⟨bq,0,none⟩) zy (fun x=>x)).trans L;have zj:=(hw9.cell (p:=⟨bw,0,none⟩) zx (fun x=>x)).trans K;have zi:=(hw9.cell (p:=⟨e.w,Z.i,none⟩) lw (fun x=>x)).trans A;have zh:w9.frozen? ⟨e.w,Z.i,none⟩=false:=by obtain⟨_,_,V,_⟩:=P.out;exact V.frozen _
 have y1:¬e.w=bp:=fun z=>x1 z.symm
 have y2:¬e.w=bq:=fun z=>x2 z.symm
 have y3:¬e.w=bw:=fun z=>x3 z.symm
 have y4:¬e.w=bi:=fun z=>x4 z.symm
 have g:=bP w9 e.w Z.i [X];have f:∀b,cI e.w b->tag b=150+t:=fun b V=>by rw[show b=e.w from V];exact Q.out.1
 have H2:=aH (H1.kept g (bI.refl _ _) (fun b V=>by have:=f b V;unfold rR;omega));have u:=aH (And.intro ((HN.out.1.kept (S:=bN) hw9 (bI.refl _ _) (fun _ x=>x.elim)).kept g (bI.refl _ _) (fun b V=>by have:=f b V;omega)) ((HN.out.2.kept (S:=bN) hw9 (bI.refl _ _) (fun _ x=>x.elim)).kept g (bI.refl _ _) (fun b V=>by have:=f b V;omega)));have zs:Hid (lF (w9.setCell (e.w,Z.i) [X]) tag t e.w (fun j=>if j=Z.i then X else z j)):=aH (by
  obtain⟨h1,E1,h2,h3⟩:=P.out;exact⟨h1,_,h2.set_ Z.i _,h3.set_ zt⟩)
 clear g f P HN Q;clear hw9 hc9 hf9;refine aW ?_;simp only[List.drop_succ_cons,List.drop_zero,List.drop];clear M L K G cv cn A p0;have HF:Hid (gE w tag t last e gs mp pt st E O ⟨m,s,{Z with r:=fun j=>if j=Z.i then s.now (dU Z.ver+Z.i)else Z.r j,i:=Z.i+1},false⟩ (w9.setCell (e.w,Z.i) [X])):=aH ((H2.as (Z':={Z with r:=fun j=>if j=Z.i then s.now (dU Z.ver+Z.i)else Z.r j,i:=Z.i+1}) (fun _ _=>rfl) rfl).out (by simp only[gF,HD.out]) (by
  simp only[iF,HD.out];refine⟨u.out.1,u.out.2,_,zs.out,fun j hj=>?_⟩;by_cases U:j=Z.i
  .rw[iP U,iP U,HX.out]
  rw[iN U,iN U];exact HZ j I) ⟨rfl,rfl⟩)
 go_wp2;refine bodyPost_end (v:=.tuple #[]) (by simp [results,results138,go_sem]) rfl ?_;exact⟨rfl,HF.out⟩
theorem RW(H:RC w tag w tag t Z last e gs mp m pt s st E O R cr D cd rows (kG (Z.i+1)) false)(hn:iF w tag t Z e)(d:Z.does=5)(hr:(Cl.copy Z.i).At w tag e r)(T:Z.i=31)(zy:Z.na=0)(zx:0<=s.now (dU Z.ver+Z.i)/\s.now (dU Z.ver+Z.i)<18446744073709551616):
 ∃N P,r=td 5 (fv N P)/\Calls prog N P w fun e' w'=>e'=.returned (.tuple #[])/\gE w tag t last e gs mp pt st E O (stp t m s Z) w':=by
 obtain⟨bp,bi,bw,bq,rfl,hp,hi,hw,hq⟩:=hr;refine⟨_,_,rfl,?_⟩;simp only[cR];rw[show stp t m s Z=⟨m,s,{Z with r:=fun j=>if j=Z.i then s.now (dU Z.ver+Z.i)else Z.r j,i:=0,does:=6},false⟩ by simp only[stp,d];congr 1;exact iP (by show Z.i+1=32;omega)];have h4:=H.t4;have HH:=aH H;simp only[iF,d]at hn;obtain⟨n1,n2,z,n3,n4⟩:=hn;have zw:rows=[]:=by have:=H.rs.len;rw[show kG (Z.i+1)=[] by rw[T];rfl]at this;simpa using this
 subst zw;have A:=T;have y:w.cell? (bp,0)=(e.p,0):=hp.cell;have zv:=hp.2.lt;have u:w.cell? (bq,0)=(e.q,0):=hq.cell;have zu:=hq.2.lt;have o:w.cell? (bw,0)=some (.slice (some ⟨e.w,0,none⟩) 32 32):=hw.cell;have zt:=hw.2.lt;have M:=hi.cell;have zs:=hi.2.lt;have p0:=H.cp0;have lp:=H.sh.lt;have ls:=H.st_.lt;have cv:w.cell? (e.v,0)=[Z.ver]:=by rw[n1.2.cell];rfl
 have lv:=n1.2.lt;obtain⟨wt,We,wb,wu⟩:=n3;have lw:=wb.lt;obtain⟨B,c⟩:=aO (dU Z.ver:Nat);have n:B=8\/B=40:=by rw[c];unfold dU;omega
 have zr:=aH (fun W=>ZY Z.ver _ rfl B c W);have n:B<=40:=I;have U:=zx;have zq:=aH c;rw[<-c]at U;clear c;obtain⟨X,hX⟩:=aO (s.now (B+Z.i):Int);have cn:w.cell? (gs,B+Z.i)=[X]:=by rw[hX];exact H.cnow I
 have l:0<=X/\X<18446744073709551616:=by rw[hX];exact U
 have HX:Hid (X=s.now (dU Z.ver+Z.i)):=aH (by rw[hX,zq.out]);have L:w.cell? (e.w,Z.i)=[z Z.i]:=by rw[wb.cell,wu.get _ I]
 have g:∀b,tag b=106->¬b=e.w:=fun b h z=>by rw[z]at h;omega
 have x1:=g _ hp.1;have x2:=g _ hq.1;have x3:=g _ hw.1;have x4:=g _ hi.1;have HN:=aH (And.intro n1 n2);have K:=aH (show lF w tag t e.w z from⟨wt,We,wb,wu⟩);have HZ:=aH n4;have G:=aH T;have zp:=aH zy;have zo:=aH l;rw[T]at M cn L;have kb:IntKind.i64.wrap ((B:Int)+31)=(B:Int)+31:=dE I I;have kc:(B:Int)+31<72:=I;have zk:0<=(B:Int)+31:=I;have kn:((B:Int)+31).toNat=B+31:=I;clear H d n1 n2 n4 wt wb wu hX zx U l g zy T A hp hq hw hi
 go_enter func138,ntmps138
 go_wp2;refine aA 14 ?_
 iterate 14
  first
  |(refine Kf ?_;constructor
    .intro w9 hw9 hc9 hf9;go_simp
     first
     |exact aE
     |(go_at_call 72;exact bS (zr.out _)))
  |refine aU ?_
 refine bZ ?_;intro w9 hw9 hc9 hf9;refine aS ?_;have H1:=aH (HH.keep1 hw9);have F:=aH (K.kept (S:=bN) hw9 (bI.refl _ _) (fun _ x=>x.elim));have zj:w9.cell? (bi,0)=(31:Int):=(hw9.cell (p:=⟨bi,0,none⟩) zs (fun x=>x)).trans M;have zi:=(hw9.cell (p:=⟨bp,0,none⟩) zv (fun x=>x)).trans y;have zh:=(hw9.cell (p:=⟨bq,0,none⟩) zu (fun x=>x)).trans u;have zg:=(hw9.cell (p:=⟨bw,0,none⟩) zt (fun x=>x)).trans o;have zf:=(hw9.cell (p:=⟨e.w,31,none⟩) lw (fun x=>x)).trans L;have ze:w9.frozen? ⟨e.w,31,none⟩=false:=by obtain⟨_,_,Y,_⟩:=F.out;exact Y.frozen _
 have y1:¬e.w=bp:=fun z=>x1 z.symm
 have y2:¬e.w=bq:=fun z=>x2 z.symm
 have y3:¬e.w=bw:=fun z=>x3 z.symm
 have y4:¬e.w=bi:=fun z=>x4 z.symm
 have V:=bP w9 e.w 31 [X];have ht:∀b,cI e.w b->tag b=150+t:=fun b Y=>by rw[show b=e.w from Y];exact K.out.1
 have H2:=aH (H1.kept V (bI.refl _ _) (fun b Y=>by have:=ht b Y;unfold rR;omega));have f:=aH (And.intro ((HN.out.1.kept (S:=bN) hw9 (bI.refl _ _) (fun _ x=>x.elim)).kept V (bI.refl _ _) (fun b Y=>by have:=ht b Y;omega)) ((HN.out.2.kept (S:=bN) hw9 (bI.refl _ _) (fun _ x=>x.elim)).kept V (bI.refl _ _) (fun b Y=>by have:=ht b Y;omega)));have zn:Hid (lF (w9.setCell (e.w,31) [X]) tag t e.w (fun j=>if j=31 then X else z j)):=aH (by
  obtain⟨h1,E1,h2,h3⟩:=F.out;exact⟨h1,_,h2.set_ 31 _,h3.set_ zo⟩)
 clear V ht F HN K;clear hw9 hc9 hf9;refine aW ?_;simp only[List.drop_succ_cons,List.drop_zero,List.drop];clear y u o M cv cn L p0;have HC:=aH (zP e H2.th 0 0 rfl I h4);go_wp2_with fail
 with_reducible refine HC.out.mono ?_
 rintro e2 w2 ⟨rfl,zl,R2,zd,zm,V,a,zz⟩;have HF:Hid (gE w tag t last e gs mp pt st E O ⟨m,s,{Z with r:=fun j=>if j=Z.i then s.now (dU Z.ver+Z.i)else Z.r j,i:=0,does:=6},false⟩ w2):=aH (((H2.rowed V ⟨rfl,rfl⟩ a zz).as (Z':={Z with r:=fun j=>if j=Z.i then s.now (dU Z.ver+Z.i)else Z.r j,i:=0,does:=6}) (fun _ _=>rfl) rfl).out rfl (by
  show _/\_;have C:∀b,eJ t (tag b)->tag b=110+t\/tag b=120+t:=fun b Y=>Y
  refine⟨f.out.1.kept V.k V.t (fun b Y=>by have:=C b Y;omega),?_,?_⟩
  .show rN _ _ _ _ (eH Z.asks Z.na);rw[zp.out];exact f.out.2.kept V.k V.t (fun b Y=>by have:=C b Y;omega)
  obtain⟨h1,E1,h2,h3⟩:=zn.kept V.k V.t (fun b Y=>by have:=C b Y;omega);refine⟨h1,E1,h2,h3.congr fun j hj=>?_⟩;show(if j=Z.i then s.now (dU Z.ver+Z.i)else Z.r j)=if j=31 then X else z j
  by_cases Q:j=Z.i
  .rw[iP Q,iP (by rw[Q,G.out]),HX.out]
  rw[iN Q,iN (by rw[<-G.out];exact Q)];exact(HZ.out j (by have:=G.out;omega)).symm) ⟨rfl,rfl⟩)
 clear V a zz HC;go_wp2;refine bodyPost_end (v:=.tuple #[]) (by simp [results,results138,go_sem]) rfl ?_;exact⟨rfl,HF.out⟩
end
end
section
section
variable{w0 w:World}{tag0 tag:Nat->Nat}{t:Nat}{Z:cQ}{last:Int}{e:mG}{gs mp:Nat}{m:Nat->Int}{pt:Nat->Nat}{s:cN}{st:Int}{E O:Value}{R:Option Addr}{cr:Nat}{D:Option Addr}{cd:Nat}{rows:List (List Value)}{cs:List Cl}{r:List Value}
structure vV (Z:cQ):Prop where
 ok:eE Z.r
 asks:jL Z.asks Z.na
 na:Z.na<=4
 cnt:Z.r 28+Z.na<=1099511627776
 ver:Z.r 27+1<=1099511627776
 vb:Z.ver<=1099511627776
theorem ZX(H:RC w0 tag0 w tag t Z last e gs mp m pt s st E O R cr D cd [] cs false)(d:Z.does=6)(F:oM w tag e.v (130+t) Z.ver)(C:rN w tag t e.l (eH Z.asks Z.na))(B:lF w tag t e.w Z.r)(o:Z.i<4)(j:Int)(n:j=(Z.i:Int)+1)(S:vV Z):
 Calls prog 139 #[(e.p,0),(e.q,0),j,(e.l,0),.slice (some ⟨e.w,0,none⟩) 32 32,(e.v,0)] w fun L w'=>L=.returned (.tuple #[])/\gE w0 tag0 t last e gs mp pt st E O ⟨m,s,(Z.next 4 8).all t,false⟩ w':=by
 have X:∀b,eJ t (tag b)->tag b=110+t\/tag b=120+t:=fun b W=>W
 by_cases G:Z.i+1=4
 .have M:(Z.next 4 8).all t={Z.recked t with i:=0,does:=8}:=by
   have:Z.next 4 8={Z with i:=0,does:=8}:=iP G;rw[this];rfl
  rw[M];refine(OR e H.th (Z.i+1) j I G H.t4 F C B S.ok S.asks S.na S.cnt S.ver S.vb).mono ?_;rintro L w' ⟨rfl,Q,A,z,K,u,y,V,Y,P,U,T,x⟩;refine⟨rfl,?_⟩;have N:=(H.rowed Y P U T).as (Z':={Z.recked t with i:=0,does:=8}) (fun _ _=>rfl) rfl;exact N.out rfl x P
 have M:(Z.next 4 8).all t={Z with i:=Z.i+1}:=by
  have:Z.next 4 8={Z with i:=Z.i+1}:=iN G;rw[this];exact iN (by show¬Z.does=8;omega)
 rw[M];refine(zP e H.th (Z.i+1) j I I H.t4).mono ?_;rintro L w' ⟨rfl,Q,z,K,V,Y,U,T⟩;refine⟨rfl,?_⟩;have N:=(H.rowed Y ⟨rfl,rfl⟩ U T).as (Z':={Z with i:=Z.i+1}) (fun _ _=>rfl) rfl;refine N.out (by simp only[gF,d]) ?_ ⟨rfl,rfl⟩;simp only[iF,d];exact⟨F.kept Y.k Y.t (fun b W=>by have:=X b W;omega),C.kept Y.k Y.t (fun b W=>by have:=X b W;omega),B.kept Y.k Y.t (fun b W=>by have:=X b W;omega)⟩
end
end
section
attribute [local go_sem↓] Go.wp_at_zero Go.wp_at_succ
section
variable{w:World}{tag:Nat->Nat}{t:Nat}{Z:cQ}{last:Int}{e:mG}{gs mp:Nat}{m:Nat->Int}{pt:Nat->Nat}{s:cN}{st:Int}{E O:Value}{R:Option Addr}{cr:Nat}{D:Option Addr}{cd:Nat}{rows:List (List Value)}{cs:List Cl}{r:List Value}
theorem VC(H:RC w tag w tag t Z last e gs mp m pt s st E O R cr D cd rows [] false)(hn:iF w tag t Z e)(d:Z.does=6)(hr:(Cl.asks Z.i).At w tag e r)(zt:Z.i<4)(hm:m (3+2*Z.i)=0\/m (3+2*Z.i)=1\/m (3+2*Z.i)=2)(hz:¬(m (3+2*Z.i)≠0/\m (3+2*Z.i)-1≠jA Z.r Z.i))(hc:vV Z):
 ∃N F,r=td 6 (fv N F)/\Calls prog N F w fun e' w'=>e'=.returned (.tuple #[])/\gE w tag t last e gs mp pt st E O (stp t m s Z) w':=by
 obtain⟨bp,bi,bw,bq,bl,bv,rfl,hp,hi,hw,hq,hl,hv⟩:=hr;refine⟨_,_,rfl,?_⟩;simp only[cR];rw[show stp t m s Z=⟨m,s,(Z.next 4 8).all t,false⟩ by simp only[stp,d];exact iN hz];have h4:=H.t4;have HH:=aH H;simp only[iF,d]at hn;obtain⟨n1,n2,n3⟩:=hn;have zs:rows=[]:=by have:=H.rs.len;simpa using this
 subst zs;have C:w.cell? (bp,0)=(e.p,0):=hp.cell;have g:=hp.2.lt;have f:w.cell? (bq,0)=(e.q,0):=hq.cell;have zr:=hq.2.lt;have A:w.cell? (bw,0)=some (.slice (some ⟨e.w,0,none⟩) 32 32):=hw.cell;have z:=hw.2.lt;have T:=hi.cell;have S:=hi.2.lt;have c:w.cell? (bl,0)=(e.l,0):=hl.cell;have zq:=hl.2.lt;have a:w.cell? (bv,0)=(e.v,0):=hv.cell;have zp:=hv.2.lt;have p0:=H.cp0;have lp:=H.sh.lt;have ls:=H.st_.lt;obtain⟨wt,We,wb,wu⟩:=n3;have lw:=wb.lt;have L:w.cell? (e.w,26)=[Z.r 26]:=by rw[wb.cell,wu.get _ I]
 have zo:=wu.bd 26 I;obtain⟨bb,o⟩:=aO (gO (Z.r 26).toNat Z.i:Bool);have zz:Hid (∀W,Calls prog 102 #[[Z.r 26],Z.i] W fun e w'=>e=.returned bb/\Below W W w'):=aH (fun W=>by
  have:=kJ (Z.r 26).toNat (Z.i:Int) W I;rw[show(((Z.r 26).toNat:Nat):Int)=Z.r 26 by omega,<-o]at this;exact this)
 have zn:Hid (jA Z.r Z.i=if bb=true then 1 else 0):=aH (by unfold jA;rw[o]);have zm:=aH (show lF w tag t e.w Z.r from⟨wt,We,wb,wu⟩);have HN:=aH (And.intro n1 n2);have HZ:=aH hz;obtain⟨G,hG⟩:=aO (m (3+2*Z.i):Int);have zy:w.cell? (e.p,1+(3+2*Z.i))=[G]:=by rw[hG];exact H.cram (k:=3+2*Z.i) I
 rw[<-hG]at hm HZ;have HG:=aH hG;have HM:=aH hm;have k1:IntKind.i64.wrap (2*(Z.i:Int))=2*Z.i:=dE I I;have k2:IntKind.i64.wrap (2+2*(Z.i:Int))=2+2*Z.i:=dE I I;have yt:IntKind.i64.wrap (2+2*(Z.i:Int)+1)=2+2*Z.i+1:=dE I I;have k3:(2+2*(Z.i:Int)+1).toNat=3+2*Z.i:=I;have k4:2+2*(Z.i:Int)+1<16:=I;have k5:0<=2+2*(Z.i:Int)+1:=I;have k6:IntKind.i64.wrap ((Z.i:Int)+1)=(Z.i:Int)+1:=dE I I;have a0:IntKind.i64.wrap 0=0:=by decide
 have a1:IntKind.i64.wrap 1=1:=by decide
 have a2:IntKind.i64.wrap 2=2:=by decide
 have HD:=aH d;have zl:=aH zt;have ys:=aH (And.intro hp (And.intro hi (And.intro hw (And.intro hq (And.intro hl hv)))));have zk:=aH hc;clear H d n1 n2 wt wb wu zo o hz hm hG zt hp hi hw hq hl hv hc
 go_enter func152,ntmps152
 obtain⟨B,hB⟩:=aO (w:Nat);have zx:=aH hB;clear hB;go_wp2;refine eL 10 bN [] J J ?_;intro yk HA;refine aV ?_;constructor
 .intro w9 hw9 X;refine aS ?_;have yx:=(hw9.cell (p:=⟨bp,0,none⟩) g (fun x=>x)).trans C;refine aW ?_;go_simp
  first
  |exact aE
 first|(with_reducible refine aI (fun K n=>?_))|(refine aI (fun K n=>?_))
 refine .inl ?_;apply Exists.intro;refine⟨cX,?_,n _ _ _ _ ?_⟩
 .simp only[bW,cM];refine⟨?_,fun w9 hw9 X=>?_⟩
  .first|rfl|(go_simp;done)
  refine aS ?_;have yw:=(hw9.cell (p:=⟨bi,0,none⟩) S (fun x=>x)).trans T;refine aW ?_;go_simp
  first
  |exact aE
 iterate 6
  clear n K;refine aN ?_
  first|(with_reducible refine aI (fun K n=>?_))|(refine aI (fun K n=>?_))
  refine .inl ?_;apply Exists.intro;refine⟨cX,?_,n _ _ _ _ ?_⟩
  .simp only[bW,cM];refine⟨?_,fun w9 hw9 X=>?_⟩
   .first|rfl|(go_simp;done)
   go_simp
   first
   |exact aE
 clear n K;refine aN ?_;refine aV ?_;constructor
 .intro w9 hw9 X;refine aS ?_;have yv:=(hw9.cell (p:=⟨e.p,1+(3+2*Z.i),none⟩) lp (fun x=>x)).trans zy;refine aW ?_;go_simp
  first
  |exact aE
 refine bG ZB (fun _=>TN B 23 #[.int .u64 0]) ⟨_,0,rfl⟩ ?_ ?_
 .intro w9 hw9 X;refine aS ?_;have zj:B<=w9:=by rw[zx.out];exact hw9.size
  refine aW ?_;go_simp;refine⟨⟨⟨_,rfl⟩,⟨_,rfl,aY.new _ _ _,zj⟩⟩,aD.of_same ((Below.refl _ _).alloc (Nat.le_refl _) _)⟩
 refine kS ?_;simp only[cM];rintro _ ⟨j,rfl⟩ w9 hw9 U;refine aQ ?_;refine aS ?_;simp only[BX]at U;obtain⟨wc,kc,kd,b',zu,hP,M⟩:=U.1 trivial;have e9:j=b':=by
  have h:=zu;simpa using h
 subst e9;have zw:=(kd.mono (S':=bN) fun b hb=>hb.2).same;have Q:=hP.below zw hP.lt;rw[zx.out]at M;have zv:aD bN w (w9.setCell (j,0) [G]):=hw9.setCell (p:=⟨j,0,none⟩) (.inr M) _;have zi:w9.cell? (j,0)=some (.int .u64 0):=by rw[Q.cell];rfl
 have zh:=Q.frozen 0;have y:=aH (Q.set_ 0 [G]);have P:Hid (cG w tag 106 j=106/\bI w tag (cG w tag 106)):=aH ⟨dT _ _ _ M,cO _ _ _⟩;have V:=aH zv;clear U zu kc kd zw hP Q M zv hw9;refine aW ?_;go_wp2;generalize w9.setCell (j,0) [G]=w1 at*;generalize cG w tag 106=yu at*;clear zi zh;have zg:=(V.cell (p:=⟨bw,0,none⟩) z (fun x=>x)).trans A;have zf:=Nat.lt_of_lt_of_le z V.size;have ze:=(V.cell (p:=⟨bi,0,none⟩) S (fun x=>x)).trans T;have zd:=Nat.lt_of_lt_of_le S V.size;have zc:=(V.cell (p:=⟨e.w,26,none⟩) lw (fun x=>x)).trans L;have zb:=Nat.lt_of_lt_of_le lw V.size;refine aA 5 ?_
 iterate 5
  first
  |(refine Kf ?_;constructor
    .intro w9 hw9 hc9 hf9;go_simp
     first
     |exact aE
     |(go_at_call 102;exact bS (zz.out _)))
  |refine aU ?_
 refine bZ ?_;intro w9 hw9 hc9 hf9;refine aS ?_;have Y:=aH (V.trans hw9);have za:=aH (y.below hw9.same y.lt);have yr:w9.cell? (j,0)=[G]:=za.cell 0;clear zg zf ze zd zc zb hc9 hf9 hw9 y V;obtain⟨w2,yy⟩:=aO w9;subst yy;have H2:=aH (HH.kept Y P.out.2 (fun _ x=>x.elim));have yq:=(Y.cell (p:=⟨bp,0,none⟩) g (fun x=>x)).trans C;have yp:=(Y.cell (p:=⟨bq,0,none⟩) zr (fun x=>x)).trans f;have yo:=(Y.cell (p:=⟨bi,0,none⟩) S (fun x=>x)).trans T;have yn:=(Y.cell (p:=⟨bl,0,none⟩) zq (fun x=>x)).trans c;have ym:=(Y.cell (p:=⟨bw,0,none⟩) z (fun x=>x)).trans A;have yl:=(Y.cell (p:=⟨bv,0,none⟩) zp (fun x=>x)).trans a;have u:=aH (And.intro (HN.out.1.kept Y P.out.2 (fun _ x=>x.elim)) (And.intro (HN.out.2.kept Y P.out.2 (fun _ x=>x.elim)) (zm.kept Y P.out.2 (fun _ x=>x.elim))));clear C f T c A a zy L p0;have HC:=aH (ZX H2 HD u.out.1 u.out.2.1 u.out.2.2 zl ((Z.i:Int)+1) rfl zk);have yz:Hid (G=0\/G-1=if bb=true then 1 else 0):=aH (by
  rcases Classical.em (G=0)with h|h
  .exact .inl h
  refine .inr ?_;rw[<-zn.out];exact Classical.byContradiction fun h2=>HZ.out ⟨h,h2⟩)
 simp only[List.drop_succ_cons,List.drop_zero,List.drop];rcases HM.out with h0|h0|h0<;>cases bb
 all_goals subst h0
 all_goals first
  |(exfalso;have:=yz.out;simp at this;done)
  |(refine aW ?_
    go_wp2_with fail
    with_reducible refine HC.out.mono ?_
    rintro e2 w3 ⟨rfl,hR⟩;have HF:=aH hR;clear hR HC;go_wp2;refine bodyPost_ret (v:=.tuple #[]) (by simp [results,results152,go_sem]) rfl ?_;exact⟨rfl,HF.out⟩)
theorem UV(H:RC w tag w tag t Z last e gs mp m pt s st E O R cr D cd rows [] false)(hn:iF w tag t Z e)(d:Z.does=6)(hr:(Cl.asks Z.i).At w tag e r)(zd:Z.i<4)(hm:m (3+2*Z.i)=0\/m (3+2*Z.i)=1\/m (3+2*Z.i)=2)(hz:m (3+2*Z.i)≠0/\m (3+2*Z.i)-1≠jA Z.r Z.i):
 ∃N zz,r=td 6 (fv N zz)/\Calls prog N zz w fun e' w'=>e'=.returned (.tuple #[])/\gE w tag t last e gs mp pt st E O (stp t m s Z) w':=by
 obtain⟨g,f,a,bq,bl,bv,rfl,hp,hi,hw,hq,hl,hv⟩:=hr;refine⟨_,_,rfl,?_⟩;simp only[cR];rw[show stp t m s Z=⟨m,s,Z.ask (m (3+2*Z.i)-1),false⟩ by simp only[stp,d];exact iP hz];have h4:=H.t4;have HH:=aH H;simp only[iF,d]at hn;obtain⟨n1,n2,n3⟩:=hn;have zc:rows=[]:=by have:=H.rs.len;simpa using this
 subst zc;have zy:w.cell? (g,0)=(e.p,0):=hp.cell;have zs:=hp.2.lt;have zr:w.cell? (bq,0)=(e.q,0):=hq.cell;have zq:=hq.2.lt;have zx:w.cell? (a,0)=some (.slice (some ⟨e.w,0,none⟩) 32 32):=hw.cell;have zw:=hw.2.lt;have F:=hi.cell;have C:=hi.2.lt;have zp:w.cell? (bl,0)=(e.l,0):=hl.cell;have zb:=hl.2.lt;have zo:w.cell? (bv,0)=(e.v,0):=hv.cell;have za:=hv.2.lt;have p0:=H.cp0;have lp:=H.sh.lt;have ls:=H.st_.lt;obtain⟨wt,We,wb,wu⟩:=n3;have lw:=wb.lt;have n:w.cell? (e.w,26)=[Z.r 26]:=by rw[wb.cell,wu.get _ I]
 have yz:=wu.bd 26 I;obtain⟨bb,zt⟩:=aO (gO (Z.r 26).toNat Z.i:Bool);have zn:Hid (∀W,Calls prog 102 #[[Z.r 26],Z.i] W fun e w'=>e=.returned bb/\Below W W w'):=aH (fun W=>by
  have:=kJ (Z.r 26).toNat (Z.i:Int) W I;rw[show(((Z.r 26).toNat:Nat):Int)=Z.r 26 by omega,<-zt]at this;exact this)
 have yy:Hid (jA Z.r Z.i=if bb=true then 1 else 0):=aH (by unfold jA;rw[zt]);have yx:=aH (show lF w tag t e.w Z.r from⟨wt,We,wb,wu⟩);have HN:=aH (And.intro n1 n2);have HZ:=aH hz;obtain⟨T,hG⟩:=aO (m (3+2*Z.i):Int);have zm:w.cell? (e.p,1+(3+2*Z.i))=[T]:=by rw[hG];exact H.cram (k:=3+2*Z.i) I
 rw[<-hG]at hm⊢HZ;have HG:=aH hG;have HM:=aH hm;have k1:IntKind.i64.wrap (2*(Z.i:Int))=2*Z.i:=dE I I;have k2:IntKind.i64.wrap (2+2*(Z.i:Int))=2+2*Z.i:=dE I I;have yh:IntKind.i64.wrap (2+2*(Z.i:Int)+1)=2+2*Z.i+1:=dE I I;have k3:(2+2*(Z.i:Int)+1).toNat=3+2*Z.i:=I;have k4:2+2*(Z.i:Int)+1<16:=I;have k5:0<=2+2*(Z.i:Int)+1:=I;have k6:IntKind.i64.wrap ((Z.i:Int)+1)=(Z.i:Int)+1:=dE I I;have a0:IntKind.i64.wrap 0=0:=by decide
 have a1:IntKind.i64.wrap 1=1:=by decide
 have a2:IntKind.i64.wrap 2=2:=by decide
 have HD:=aH d;have yg:=aH zd;have zl:=aH (And.intro hp (And.intro hi (And.intro hw (And.intro hq (And.intro hl hv)))));clear H d n1 n2 wt wb wu yz zt hz hm hG zd hp hi hw hq hl hv
 go_enter func152,ntmps152
 obtain⟨B,hB⟩:=aO (w:Nat);have zk:=aH hB;clear hB;go_wp2;refine eL 10 bN [] J J ?_;intro xx HA;refine aV ?_;constructor
 .intro w9 hw9 V;refine aS ?_;have yk:=(hw9.cell (p:=⟨g,0,none⟩) zs (fun x=>x)).trans zy;refine aW ?_;go_simp
  first
  |exact aE
 first|(with_reducible refine aI (fun K hK=>?_))|(refine aI (fun K hK=>?_))
 refine .inl ?_;apply Exists.intro;refine⟨cX,?_,hK _ _ _ _ ?_⟩
 .simp only[bW,cM];refine⟨?_,fun w9 hw9 V=>?_⟩
  .first|rfl|(go_simp;done)
  refine aS ?_;have yj:=(hw9.cell (p:=⟨f,0,none⟩) C (fun x=>x)).trans F;refine aW ?_;go_simp
  first
  |exact aE
 iterate 6
  clear hK K;refine aN ?_
  first|(with_reducible refine aI (fun K hK=>?_))|(refine aI (fun K hK=>?_))
  refine .inl ?_;apply Exists.intro;refine⟨cX,?_,hK _ _ _ _ ?_⟩
  .simp only[bW,cM];refine⟨?_,fun w9 hw9 V=>?_⟩
   .first|rfl|(go_simp;done)
   go_simp
   first
   |exact aE
 clear hK K;refine aN ?_;refine aV ?_;constructor
 .intro w9 hw9 V;refine aS ?_;have yi:=(hw9.cell (p:=⟨e.p,1+(3+2*Z.i),none⟩) lp (fun x=>x)).trans zm;refine aW ?_;go_simp
  first
  |exact aE
 refine bG ZB (fun _=>TN B 23 #[.int .u64 0]) ⟨_,0,rfl⟩ ?_ ?_
 .intro w9 hw9 V;refine aS ?_;have yw:B<=w9:=by rw[zk.out];exact hw9.size
  refine aW ?_;go_simp;refine⟨⟨⟨_,rfl⟩,⟨_,rfl,aY.new _ _ _,yw⟩⟩,aD.of_same ((Below.refl _ _).alloc (Nat.le_refl _) _)⟩
 refine kS ?_;simp only[cM];rintro _ ⟨P,rfl⟩ w9 hw9 L;refine aQ ?_;refine aS ?_;simp only[BX]at L;obtain⟨wc,kc,kd,b',zf,hP,u⟩:=L.1 trivial;have e9:P=b':=by
  have h:=zf;simpa using h
 subst e9;have zj:=(kd.mono (S':=bN) fun b G=>G.2).same;have A:=hP.below zj hP.lt;rw[zk.out]at u;have zi:aD bN w (w9.setCell (P,0) [T]):=hw9.setCell (p:=⟨P,0,none⟩) (.inr u) _;have yv:w9.cell? (P,0)=some (.int .u64 0):=by rw[A.cell];rfl
 have yu:=A.frozen 0;have zv:=aH (A.set_ 0 [T]);have S:Hid (cG w tag 106 P=106/\bI w tag (cG w tag 106)):=aH ⟨dT _ _ _ u,cO _ _ _⟩;have U:=aH zi;clear L zf kc kd zj hP A u zi hw9;refine aW ?_;go_wp2;generalize w9.setCell (P,0) [T]=w1 at*;generalize cG w tag 106=X at*;clear yv yu;have yt:=(U.cell (p:=⟨a,0,none⟩) zw (fun x=>x)).trans zx;have ys:=Nat.lt_of_lt_of_le zw U.size;have yr:=(U.cell (p:=⟨f,0,none⟩) C (fun x=>x)).trans F;have yq:=Nat.lt_of_lt_of_le C U.size;have yp:=(U.cell (p:=⟨e.w,26,none⟩) lw (fun x=>x)).trans n;have yo:=Nat.lt_of_lt_of_le lw U.size;refine aA 5 ?_
 iterate 5
  first
  |(refine Kf ?_;constructor
    .intro w9 hw9 hc9 hf9;go_simp
     first
     |exact aE
     |(go_at_call 102;exact bS (zn.out _)))
  |refine aU ?_
 refine bZ ?_;intro w9 hw9 hc9 hf9;refine aS ?_;have Y:=aH (U.trans hw9);have zu:=aH (zv.below hw9.same zv.lt);have yf:w9.cell? (P,0)=[T]:=zu.cell 0;clear yt ys yr yq yp yo hc9 hf9 hw9 zv U;obtain⟨w2,yl⟩:=aO w9;subst yl;have H2:=aH (HH.kept Y.out S.out.2 (fun _ x=>x.elim));have ye:=(Y.cell (p:=⟨g,0,none⟩) zs (fun x=>x)).trans zy;have yd:=(Y.cell (p:=⟨bq,0,none⟩) zq (fun x=>x)).trans zr;have yc:=(Y.cell (p:=⟨f,0,none⟩) C (fun x=>x)).trans F;have yb:=(Y.cell (p:=⟨bl,0,none⟩) zb (fun x=>x)).trans zp;have ya:=(Y.cell (p:=⟨a,0,none⟩) zw (fun x=>x)).trans zx;have xB:=(Y.cell (p:=⟨bv,0,none⟩) za (fun x=>x)).trans zo;have z:=aH (And.intro (HN.out.1.kept Y.out S.out.2 (fun _ x=>x.elim)) (And.intro (HN.out.2.kept Y.out S.out.2 (fun _ x=>x.elim)) (yx.kept Y.out S.out.2 (fun _ x=>x.elim))));clear zy zr F zp zx zo zm n p0;have HC:=aH (jF H2.th 7 153 #[(g,0),(f,0),(bl,0),(P,0),(bq,0),(a,0),(bv,0)] 7 rfl (by simp));have yn:Hid (T≠0/\T-1≠if bb=true then 1 else 0):=aH (by rw[<-yy.out];exact HZ.out);have xz:=Nat.lt_of_lt_of_le zq Y.size;have zh:=aH (show(Cl.fetch Z.i (T-1+1)).At w2 X e (td 7 (fv 153 #[(g,0),(f,0),(bl,0),(P,0),(bq,0),(a,0),(bv,0)]))from by
  have K:∀{b ty v},RO w tag b ty v->RO w2 X b ty v:=fun h=>h.kept Y.out S.out.2 (fun _ x=>x.elim)
  obtain⟨y1,y2,y3,y4,y5,y6⟩:=zl.out;exact⟨g,f,bl,P,bq,a,bv,rfl,K y1,K y2,K y5,⟨S.out.1,by rw[show T-1+1=T by omega];exact zu.out⟩,K y4,K y3,K y6⟩)
 have zg:=aH (fun(w3:World) (Q:Nat->Nat) (R3:Option Addr) (ze:Nat) (M:Kg (eJ t) w2 X w3 Q) (o:lT w3 Q t Z last e.q R3 ze D cd ([]++[td 7 (fv 153 #[(g,0),(f,0),(bl,0),(P,0),(bq,0),(a,0),(bv,0)])]) false)=>show gE w tag t last e gs mp pt st E O ⟨m,s,Z.ask (T-1),false⟩ w3 from by
  have y:∀b,eJ t (X b)->X b=110+t\/X b=120+t:=fun b G=>G
  have ym:dD w3 Q e [.fetch Z.i (T-1+1)] ([]++[td 7 (fv 153 #[(g,0),(f,0),(bl,0),(P,0),(bq,0),(a,0),(bv,0)])]):=⟨zh.kept M.k M.t (fun b G=>by have:=y b G;omega),trivial⟩;have h1:=(H2.rowed M ⟨rfl,rfl⟩ o ym).as (Z':=Z.ask (T-1)) (fun _ _=>rfl) rfl;refine h1.out ?_ ?_ ⟨rfl,rfl⟩
  .show [Cl.fetch Z.i ((if Z.na+1-1=Z.na then T-1 else Z.asks (Z.na+1-1) 1)+1)]=_;rw[iP I]
  show _/\_;refine⟨z.out.1.kept M.k M.t (fun b G=>by have:=y b G;omega),?_,z.out.2.2.kept M.k M.t (fun b G=>by have:=y b G;omega)⟩;have hl:=z.out.2.1.kept M.k M.t (fun b G=>by have:=y b G;omega);have e1:eH (Z.ask (T-1)).asks ((Z.ask (T-1)).na-1)=eH Z.asks Z.na:=by
   show eH _ (Z.na+1-1)=_;rw[Nat.add_sub_cancel];exact pQ (fun j hj c _=>by show(if j=Z.na then _ else _)=_;rw[iN I])
  rw[e1];exact hl)
 clear zh z zl S zu Y;simp only[List.drop_succ_cons,List.drop_zero,List.drop];rcases HM.out with h0|h0|h0<;>cases bb
 all_goals subst h0
 all_goals first
  |(exfalso;have:=yn.out;simp at this;done)
  |(refine aW ?_
    have xy:=KH;go_wp2_with fail
    with_reducible refine HC.out.mono ?_
    rintro e2 w3 ⟨rfl,Q,R3,ze,M,o⟩;have HF:=aH (zg.out _ _ _ _ M o);clear M o HC zg;go_wp2;refine bodyPost_end (v:=.tuple #[]) (by simp [results,results152,go_sem]) rfl ?_;exact⟨rfl,HF.out⟩)
end
theorem YO:(prog.info? 278).map (fun i=>(i.zero,i.size,i.bytes))=some (some (.agg #[(0:Int),(0:Int),(0:Int),(0:Int),(0:Int)]),5,40):=J
theorem QB:∃Z,prog.info? 278=some Z/\Z.zero=some (.agg #[(0:Int),(0:Int),(0:Int),(0:Int),(0:Int)])/\Z.size=5/\Z.bytes=40:=by
 have h:=YO;cases hq:prog.info? 278 with
 |none=>simp [hq]at h
 |some i=>simp [hq]at h;exact⟨i,rfl,h.1,h.2.1,h.2.2⟩
theorem NP(x:Int)(V:0<=x)(T:x<18446744073709551616):∃U,∀w:World,Calls prog 154 #[[x]] w fun e w'=>e=.returned (.tuple #[.agg #[(IV x),(KE x),(ID x)],U])/\Below w w w':=by
 obtain⟨y,rfl⟩:=Int.eq_ofNat_of_zero_le V;refine⟨.int .i64 (jN (cB ((y/65536/4294967296:Nat):Int) ((y/4294967296%65536:Nat):Int) ((y%4294967296:Nat):Int)) 3),fun w=>(CS y (y/65536/4294967296) (y/4294967296%65536) (y%4294967296) w I rfl rfl rfl).mono ?_⟩;rintro e w' ⟨rfl,W⟩;refine⟨?_,W⟩;have Z:((y/65536/4294967296:Nat):Int)=(y:Int)/4294967296/65536:=I;have Y:((y/4294967296%65536:Nat):Int)=(y:Int)/4294967296%65536:=I;have X:((y%4294967296:Nat):Int)=(y:Int)%4294967296:=I;unfold IV KE ID;rw[Z,Y,X];rfl
section
variable{w:World}{tag:Nat->Nat}{t:Nat}{Z:cQ}{last:Int}{e:mG}{gs mp:Nat}{m:Nat->Int}{pt:Nat->Nat}{s:cN}{st:Int}{E O:Value}{R:Option Addr}{cr:Nat}{D:Option Addr}{cd:Nat}{rows:List (List Value)}{cs:List Cl}{r:List Value}
theorem TI(H:RC w tag w tag t Z last e gs mp m pt s st E O R cr D cd rows [] false)(hn:iF w tag t Z e)(d:Z.does=7)(hr:(Cl.fetch Z.i (Z.asks (Z.na-1) 1+1)).At w tag e r)(ww:Z.i<4)(wv:0<Z.na)(vh:Z.na<=4)(yh:Z.asks (Z.na-1) 0=Z.i)(yg:Z.asks (Z.na-1) 1=0\/Z.asks (Z.na-1) 1=1)(zk:0<=m (2+2*Z.i)/\m (2+2*Z.i)<18446744073709551616)(hc:vV (Z.fill (m (2+2*Z.i)))):
 ∃N zd,r=td 7 (fv N zd)/\Calls prog N zd w fun e' w'=>e'=.returned (.tuple #[])/\gE w tag t last e gs mp pt st E O (stp t m s Z) w':=by
 obtain⟨bp,bi,bl,bg,bq,bw,bv,rfl,hp,hi,hl,hg,hq,hw,hv⟩:=hr;refine⟨_,_,rfl,?_⟩;simp only[cR];rw[show stp t m s Z=⟨m,s,((Z.fill (m (2+2*Z.i))).next 4 8).all t,false⟩ by simp only[stp,d]];have h4:=H.t4;have HH:=aH H;simp only[iF,d]at hn;obtain⟨n1,n2,n3⟩:=hn;have zr:rows=[]:=by have:=H.rs.len;simpa using this
 subst zr;obtain⟨n,hn⟩:∃n,Z.na=n+1:=⟨Z.na-1,I⟩;have yf:Z.na-1=n:=I;rw[yf]at yh yg n2 hg;obtain⟨y,hy⟩:=aO (Z.asks n 1:Int);rw[<-hy]at yg hg;obtain⟨X,hX⟩:=aO (m (2+2*Z.i):Int);rw[<-hX]at zk hc⊢;have zc:w.cell? (bp,0)=(e.p,0):=hp.cell;have zq:=hp.2.lt;have ye:w.cell? (bq,0)=(e.q,0):=hq.cell;have zb:=hq.2.lt;have yd:w.cell? (bw,0)=some (.slice (some ⟨e.w,0,none⟩) 32 32):=hw.cell;have za:=hw.2.lt;have yz:=hi.cell;have zp:=hi.2.lt;have yc:w.cell? (bl,0)=(e.l,0):=hl.cell;have yy:=hl.2.lt;have yb:w.cell? (bv,0)=(e.v,0):=hv.cell;have yx:=hv.2.lt;have xB:=hg.cell;have yw:=hg.2.lt;have p0:=H.cp0;have lp:=H.sh.lt;have ls:=H.st_.lt;obtain⟨er,xg⟩:=NP X zk.1 zk.2;have wu:=aH xg;obtain⟨xf,A0,c0,lb,lo,xe⟩:=n2;rw[oE]at lb lo;have xz:w.cell? (e.l,0)=some (.slice A0 n c0):=by rw[lb.cell];rfl
 have ll:=lb.lt;have wt:=lb.frozen 0;have xy:w.cell? (e.p,1+(2+2*Z.i))=[X]:=by rw[hX];exact H.cram (k:=2+2*Z.i) I
 have ws:=aH lo;have xx:=aH lb;have Q:=aH (And.intro xf xe);have HN:=aH (And.intro n1 n3);have wr:=aH hc;have wq:=aH (And.intro hn (And.intro wv (And.intro yh hy)));have wp:=aH ww;have uz:n<=3:=I;have k1:IntKind.i64.wrap (2*(Z.i:Int))=2*Z.i:=dE I I;have k2:IntKind.i64.wrap (2+2*(Z.i:Int))=2+2*Z.i:=dE I I;have k3:(2+2*(Z.i:Int)).toNat=2+2*Z.i:=I;have k4:2+2*(Z.i:Int)<16:=I;have k5:0<=2+2*(Z.i:Int):=I;have k6:IntKind.i64.wrap ((Z.i:Int)+1)=(Z.i:Int)+1:=dE I I;have k7:IntKind.i64.wrap (y+1)=y+1:=dE I I;have k8:IntKind.i64.wrap (y+1-1)=y:=by rw[show y+1-1=y by omega];exact dE I I
 have uy:IntKind.i64.wrap y=y:=dE I I;obtain⟨i0,xd,xc,xb,xa⟩:=QB;have wo:=aH xd;have wn:=aH xc;have wm:=aH xb;have wl:=aH xa;have xw:Hid (∀q,A0=some q->q.block<w):=aH (fun q hq=>(lo.lt q hq).2);obtain⟨B,hB⟩:=aO (w:Nat);have yu:=aH hB;have wk:¬B<=bp:=I;have wj:¬B<=bi:=I;have dp:¬B<=e.p:=I;have HD:=aH d;have T:=aH (And.intro hp (And.intro hi (And.intro hl (And.intro hg (And.intro hq (And.intro hw hv))))));generalize wz:IV X=ya at*;generalize wy:KE X=yk at*;generalize wx:ID X=yv at*;have yt:=aH (And.intro wz (And.intro wy wx));clear H d n1 n3 lb lo xf xe hc ww wv vh yh yg zk hy hX hn xg yf hp hi hl hg hq hw hv xd xc xb xa hB wz wy wx
 go_enter func153,ntmps153
 go_wp2;refine eL 14 (fun b=>B<=b) [13] J J ?_;intro um HA;refine aV ?_;constructor
 .intro w9 hw9 Y;refine aS ?_;have vg:=(hw9.cell (p:=⟨bp,0,none⟩) zq wk).trans zc;refine aW ?_;go_simp
  first
  |exact aE
 first|(with_reducible refine aI (fun K L=>?_))|(refine aI (fun K L=>?_))
 refine .inl ?_;apply Exists.intro;refine⟨cX,?_,L _ _ _ _ ?_⟩
 .simp only[bW,cM];refine⟨?_,fun w9 hw9 Y=>?_⟩
  .first|rfl|(go_simp;done)
  refine aS ?_;have vf:=(hw9.cell (p:=⟨bi,0,none⟩) zp wj).trans yz;refine aW ?_;go_simp
  first
  |exact aE
 iterate 5
  clear L K;refine aN ?_
  first|(with_reducible refine aI (fun K L=>?_))|(refine aI (fun K L=>?_))
  refine .inl ?_;apply Exists.intro;refine⟨cX,?_,L _ _ _ _ ?_⟩
  .simp only[bW,cM];refine⟨?_,fun w9 hw9 Y=>?_⟩
   .first|rfl|(go_simp;done)
   go_simp
   first
   |exact aE
 clear L K;refine aN ?_;refine aV ?_;constructor
 .intro w9 hw9 Y;refine aS ?_;have ve:=(hw9.cell (p:=⟨e.p,1+(2+2*Z.i),none⟩) lp dp).trans xy;refine aW ?_;go_simp
  first
  |exact aE
 first|(with_reducible refine aI (fun K L=>?_))|(refine aI (fun K L=>?_))
 refine .inl ?_;apply Exists.intro;refine⟨cX,?_,L _ _ _ _ ?_⟩
 .simp only[bW,cM];refine⟨?_,fun w9 hw9 Y=>?_⟩
  .first|rfl|(go_simp;done)
  go_simp
  first
  |exact aE
  |(go_at_call 154;exact bS (wu.out _))
 iterate 3
  clear L K;refine aN ?_
  first|(with_reducible refine aI (fun K L=>?_))|(refine aI (fun K L=>?_))
  refine .inl ?_;apply Exists.intro;refine⟨cX,?_,L _ _ _ _ ?_⟩
  .simp only[bW,cM];refine⟨?_,fun w9 hw9 Y=>?_⟩
   .first|rfl|(go_simp;done)
   go_simp
   first
   |exact aE
 clear L K;refine aN ?_;refine bG ZB (fun _=>TN B 39 (3:Int)) ⟨_,0,rfl⟩ ?_ ?_
 .intro w9 hw9 Y;refine aS ?_;have wi:B<=w9:=by rw[yu.out];exact hw9.size
  refine aW ?_;go_simp;refine⟨⟨⟨_,rfl⟩,⟨_,rfl,aY.new _ _ _,wi⟩⟩,aD.of_same ((Below.refl _ _).alloc (Nat.le_refl _) _)⟩
 refine bF undef (fun us w'=>TN B 39 #[ya,yk,yv] (us 12) w') ?_ ?_
 .rintro _ ⟨P,rfl⟩;refine⟨aF,fun w9 hw9 Y=>?_⟩;refine aS ?_;obtain⟨wU,W⟩:=Y;simp only[BX]at W;obtain⟨wc,kc,kd,b',G,hP,zt⟩:=W.1 (by rw[HA.out];kernel_rfl);have e9:P=b':=by
   have h:=G;simpa using h
  subst e9;have HX:=aH (hP.below (cA kd (by rw[HA.out];kernel_rfl)) hP.lt);clear W wU kc kd hP G;have HY:Hid (w9.there P 0 3):=aH (HX.there (by show 0+3<=3;omega));refine aW ?_;refine dA 39 _ _ rfl P 0 #[ya,yk,yv] rfl rfl HY J J ?_;refine⟨⟨rfl,?_⟩,(cE (S:=fun b=>B<=b) (.inl zt) 0 _).mono fun b U=>⟨aJ,U⟩⟩;unfold cV;rw[iP (by rw[HA.out];kernel_rfl)];exact⟨P,rfl,aY.setCells (vs:=[.int .i64 ya,.int .i64 yk,.int .i64 yv]) (o:=0) HX,zt⟩
 refine kS ?_;simp only[cM];rintro _ ⟨P,rfl⟩ w9 hw9 W;refine aQ ?_;refine aS ?_;simp only[BX]at W;obtain⟨wc,kc,kd,b',G,hP,zt⟩:=W.2.1 trivial;unfold cV at G;rw[iP (by rw[HA.out];kernel_rfl)]at G;have e9:P=b':=by
  have h:Value.pointer (some ⟨P,0,none⟩)=.pointer (some ⟨b',0,none⟩):=G;simpa using h
 subst e9;have xv:=hP.below (cA kd (by rw[HA.out];kernel_rfl)) hP.lt;have xu:Below w w w9:=hw9.below (Nat.le_refl _) (fun b U h=>by have:=yu.out;have h':B<=b:=h;omega);have zo:=aH xv;have V:=aH xu;have wh:Hid (w<=P):=aH (by rw[<-yu.out];exact zt);clear W G kc kd hP xv zt hw9;obtain⟨w1,vl⟩:=aO w9;subst vl;have H1:=aH (HH.below V (bI.refl _ _));have wg:=aH (ws.below V);have zj:=aH (xx.below V xx.lt);have xt:=aH (And.intro (HN.out.1.kept (S:=bN) (aD.of_same V) (bI.refl _ _) (fun _ x=>x.elim)) (HN.out.2.kept (S:=bN) (aD.of_same V) (bI.refl _ _) (fun _ x=>x.elim)));have zi:=(V.cell (p:=⟨bp,0,none⟩) zq).trans zc;have zh:=(V.cell (p:=⟨bq,0,none⟩) zb).trans ye;have F:=(V.cell (p:=⟨bi,0,none⟩) zp).trans yz;have C:=(V.cell (p:=⟨bl,0,none⟩) yy).trans yc;have zg:=(V.cell (p:=⟨bw,0,none⟩) za).trans yd;have zf:=(V.cell (p:=⟨bv,0,none⟩) yx).trans yb;have zw:=(V.cell (p:=⟨bg,0,none⟩) yw).trans xB;have zn:=(V.cell (p:=⟨e.l,0,none⟩) ll).trans xz;have xs:=zj.frozen 0;have o0:w1.cell? (P,0)=ya:=zo.cell 0;have o1:w1.cell? (P,1)=yk:=zo.cell 1;have o2:w1.cell? (P,2)=yv:=zo.cell 2;have zy:=zo.lt;have z1:=V.size;have wf:=Nat.lt_of_lt_of_le zq z1;have we:=Nat.lt_of_lt_of_le zb z1;have yr:=Nat.lt_of_lt_of_le zp z1;have yq:=Nat.lt_of_lt_of_le yy z1;have wd:=Nat.lt_of_lt_of_le za z1;have wb:=Nat.lt_of_lt_of_le yx z1;have xr:=Nat.lt_of_lt_of_le yw z1;have ml:=Nat.lt_of_lt_of_le ll z1;have nS:∀b,tag b=106->¬iI A0 b:=fun b U h=>by have:=Q.out.2 b h;omega
 have xq:=nS bp T.out.1.1;have zm:=nS bi T.out.2.1.1;have zl:=nS bl T.out.2.2.1.1;have yp:=nS bg T.out.2.2.2.1.1;have xp:=nS bq T.out.2.2.2.2.1.1;have xo:=nS bw T.out.2.2.2.2.2.1.1;have xn:=nS bv T.out.2.2.2.2.2.2.1;have nl:¬iI A0 e.l:=fun h=>by have:=Q.out.2 _ h;have:=Q.out.1;omega
 have n9:¬iI A0 P:=fun h=>by obtain⟨q,hq,he⟩:=h;have:=xw.out q hq;have:=wh.out;omega
 clear nS zc ye yz yc yd yb xB xz wt xy p0 zq zb zp yy za yx yw ll z1 xu;refine aW ?_;go_wp2;refine bK 12 (iI A0) [11] J J ?_
 iterate 10
  refine aR ?_;constructor
  .intro w9 hw9 hm9;refine aS ?_;have yo:=(hw9.cell (p:=⟨bl,0,none⟩) yq zl).trans C;have xm:=(hw9.cell (p:=⟨e.l,0,none⟩) ml nl).trans zn;have yn:=(hw9.cell (p:=⟨bi,0,none⟩) yr zm).trans F;have ym:=(hw9.cell (p:=⟨bg,0,none⟩) xr yp).trans zw;have wa:=(hw9.cell (p:=⟨P,0,none⟩) zy n9).trans o0;have vQ:=(hw9.cell (p:=⟨P,1,none⟩) zy n9).trans o1;have vz:=(hw9.cell (p:=⟨P,2,none⟩) zy n9).trans o2;refine aW ?_;go_simp
   first
   |exact aE
 refine bC CK (DM 278 [.int .i64 (Z.i:Int),.int .i64 y,.int .i64 ya,.int .i64 yk,.int .i64 yv]) ⟨_,0,rfl⟩ ?_ ?_
 .intro w9 hw9 Y;refine aS ?_;have yo:=(hw9.cell (p:=⟨bl,0,none⟩) yq zl).trans C;have xm:=(hw9.cell (p:=⟨e.l,0,none⟩) ml nl).trans zn;have yn:=(hw9.cell (p:=⟨bi,0,none⟩) yr zm).trans F;have ym:=(hw9.cell (p:=⟨bg,0,none⟩) xr yp).trans zw;have wa:=(hw9.cell (p:=⟨P,0,none⟩) zy n9).trans o0;have vQ:=(hw9.cell (p:=⟨P,1,none⟩) zy n9).trans o1;have vz:=(hw9.cell (p:=⟨P,2,none⟩) zy n9).trans o2;refine aW ?_;go_simp;exact⟨⟨⟨_,rfl⟩,⟨_,rfl,aY.new _ _ _⟩⟩,aD.of_same ((Below.refl _ _).alloc (Nat.le_refl _) _)⟩
 refine bD (DN (n+1)) (fun vv w'=>∃A' c',vv=.slice A' (n+1) c'/\cU w' 0 278 5 A' (n+1) c' ((eH Z.asks n)++[[.int .i64 (Z.i:Int),.int .i64 y,.int .i64 ya,.int .i64 yk,.int .i64 yv]])/\∀b,iI A' b->iI A0 b\/w1<=b) ⟨_,none,0,rfl⟩ ?_ ?_
 .rintro _ ⟨g9,rfl⟩;refine⟨aF,fun w9 hw9 Y=>?_⟩;refine aS ?_;have zz:=Y;have W:=Y.2;clear Y;obtain⟨w0,k0,k1,g',hv,zs⟩:=W.1 J;cases hv;have ux:=hw9.size;have yl:=zs.below (cA k1 J) zs.lt;have vy:=aH (wg.below (cA zz.1 J));clear W zz zs k0 k1;refine aW ?_;refine iM (.tmp 24) (.tmp 31) rfl underlying246 wo wn wm wl rfl aJ aJ (A:=A0) (n:=n) (c:=c0) (rows:=(eH Z.asks n)) rfl vy (g:=g9) (c':=1) rfl (ys:=[.int .i64 (Z.i:Int),.int .i64 y,.int .i64 ya,.int .i64 yk,.int .i64 yv]) rfl ?_ ?_ I (Nat.zero_le _) ?_
  .intro j hj;rw[yl.cell j];simp
  .intro u hu;simp only[List.mem_cons,List.not_mem_nil,or_false]at hu;rcases hu with rfl|rfl|rfl|rfl|rfl<;>rfl
  intro g' ul w' ho vk vj;refine⟨⟨⟨_,_,rfl⟩,⟨_,_,rfl,ho,fun b U=>?_⟩⟩,vk.mono fun b U=>⟨aJ,U⟩⟩;obtain⟨a,ha,rfl⟩:=U;cases ha;rcases vj with⟨a,ha,e⟩|e
  .exact .inl ⟨a,ha,e⟩
  exact .inr (by show w1<=g';omega)
 refine aZ ?_;rintro _ ⟨A9,c9,rfl⟩ _ ⟨g9,rfl⟩ w9 hw9 W;refine aQ ?_;refine aS ?_;obtain⟨w0,k0,k1,A8,c8,vi,ze,wI⟩:=W.2.1 rfl;cases vi;have vx:=aH (ze.below (cA k1 J));have vw:=aH wI;clear W ze k0 k1 wI w0;have M:=hw9;have xl:=hw9.size;have C9:∀{b o:Nat} {v:Value},w1.cell? (b,o)=v->b<w1->¬iI A0 b->w9.cell? (b,o)=v:=fun h l nn=>(M.cell (p:=⟨_,_,none⟩) l nn).trans h
 have uw:=C9 zn ml nl;have uv:=(M.frozen (p:=⟨e.l,0,none⟩) ml nl).trans xs;have uu:=Nat.lt_of_lt_of_le ml xl;have vd:=C9 zi wf xq;have vc:=C9 zh we xp;have vb:=C9 F yr zm;have va:=C9 C yq zl;have uJ:=C9 zg wd xo;have uA:=C9 zf wb xn;have nE:∀b,tag b=106->¬b=e.l:=fun b U z=>by have:=Q.out.1;rw[z]at U;omega
 have vu:=nE bp T.out.1.1;have vt:=nE bi T.out.2.1.1;have vr:=nE bl T.out.2.2.1.1;have vq:=nE bq T.out.2.2.2.2.1.1;have vp:=nE bw T.out.2.2.2.2.2.1.1;have vo:=nE bv T.out.2.2.2.2.2.2.1;have ut:¬e.l=bp:=fun z=>vu z.symm
 have ur:¬e.l=bi:=fun z=>vt z.symm
 have uq:¬e.l=bl:=fun z=>vr z.symm
 have up:¬e.l=bq:=fun z=>vq z.symm
 have uo:¬e.l=bw:=fun z=>vp z.symm
 have un:¬e.l=bv:=fun z=>vo z.symm
 have zx:=cO w1 tag (160+t);have zv:=bP w9 e.l 0 (.slice A9 (n+1) c9);have yj:=(zx e.l ml).trans Q.out.1;have zu:∀b,cI e.l b->cG w1 tag (160+t) b=140+t:=fun b U=>by rw[show b=e.l from U];exact yj
 have yi:∀b,iI A9 b->cG w1 tag (160+t) b=160+t:=fun b U=>by
  rcases vw.out b U with h|h
  .obtain⟨q,hq,he⟩:=h;rw[zx b (by have:=xw.out q hq;have:=V.size;omega)];exact Q.out.2 b ⟨q,hq,he⟩
  exact dT _ _ _ h
 have xk:=H1.kept M zx (fun b U=>by have:=Q.out.2 b U;unfold rR;omega);have H2:=aH ((xk.kept zv (bI.refl _ _) (fun b U=>by have:=zu b U;unfold rR;omega)).as (Z':=Z.fill X) (fun _ _=>rfl) rfl);have xj:=aH ((xt.out.1.kept M zx (fun b U=>by have:=Q.out.2 b U;omega)).kept zv (bI.refl _ _) (fun b U=>by have:=zu b U;omega));have xi:=aH ((xt.out.2.kept M zx (fun b U=>by have:=Q.out.2 b U;omega)).kept zv (bI.refl _ _) (fun b U=>by have:=zu b U;omega));have xh:Hid (rN (w9.setCell (e.l,0) (.slice A9 (n+1) c9)) (cG w1 tag (160+t)) t e.l (eH (Z.fill X).asks (Z.fill X).na)):=aH (by
  obtain⟨e1,e2,e3,e4⟩:=wq.out;have zr:eH (Z.fill X).asks (Z.fill X).na=eH Z.asks n++[[.int .i64 (Z.i:Int),.int .i64 y,.int .i64 ya,.int .i64 yk,.int .i64 yv]]:=by
   show eH (Z.fill X).asks Z.na=_;rw[e1,xL,pX];congr 1
   .refine pQ fun j hj c _=>?_
    show(if j+1=Z.na/\2<=c then _ else Z.asks j c)=_;rw[iN I]
   have f:∀c,(Z.fill X).asks n c=if 2<=c then(if c=2 then IV X else if c=3 then KE X else ID X)else Z.asks n c:=fun c=>by
    show(if n+1=Z.na/\2<=c then _ else _)=_;by_cases h2:2<=c
    .rw[iP ⟨e1.symm,h2⟩,iP h2]
    rw[iN (fun h=>h2 h.2),iN h2]
   rw[f,f,f,f,f,<-yt.out.1,<-yt.out.2.1,<-yt.out.2.2,<-e3,e4];rfl
  refine⟨yj,A9,c9,?_,?_,yi⟩
  .rw[zr];have vn:aY w9 e.l 246 #[.slice A0 n c0]:=(M.block e.l ml nl).trans zj;have U:=vn.set_ 0 (.slice A9 (n+1) c9);rw[show(eH Z.asks n++[[Value.int .i64 (Z.i:Int),.int .i64 y,.int .i64 ya,.int .i64 yk,.int .i64 yv]]).length=n+1 by rw[List.length_append,oE];rfl];exact U
  rw[zr,show(eH Z.asks n++[[Value.int .i64 (Z.i:Int),.int .i64 y,.int .i64 ya,.int .i64 yk,.int .i64 yv]]).length=n+1 by rw[List.length_append,oE];rfl];exact vx.keptT (tag:=cG w1 tag (160+t)) (k:=160+t) zv yi (fun b U=>by have:=zu b U;omega))
 have HC:=aH (ZX H2 rfl xj xh xi wp ((Z.i:Int)+1) rfl wr);have vm:∀b,b<w1.heap.size->b<w9.heap.size:=fun b h=>Nat.lt_of_lt_of_le h xl
 clear C9 nE zx zv yj zu yi xk M hw9 zi zh F C zg zf zw zn xs o0 o1 o2 xq zm zl yp xp xo xn nl n9 H2 xj xi xh vm;refine aW ?_;go_wp2_with fail
 with_reducible refine HC.out.mono ?_
 rintro e2 w3 ⟨rfl,hR⟩;have HF:=aH hR;clear hR HC;go_wp2;refine bodyPost_end (v:=.tuple #[]) (by simp [results,results153,go_sem]) rfl ?_;exact⟨rfl,HF.out⟩
end
section
variable{w:World}{tag:Nat->Nat}{t:Nat}{Z:cQ}{last:Int}{e:mG}{gs mp:Nat}{m:Nat->Int}{pt:Nat->Nat}{s:cN}{st:Int}{E O:Value}{R:Option Addr}{cr:Nat}{D:Option Addr}{cd:Nat}{rows:List (List Value)}{cs:List Cl}{r:List Value}
theorem yS{bb:Bool}{x:Int}(H:RC w tag w tag t Z last e gs mp m pt s st E O R cr D cd rows [] false)(hn:iF w tag t Z e)(d:Z.does=21)(hr:(Cl.look5).At w tag e r)(u:(0<=Z.seen 0/\Z.seen 0<18446744073709551616)/\(0<=Z.seen 1/\Z.seen 1<18446744073709551616)/\(0<=Z.seen 2/\Z.seen 2<18446744073709551616))(l:m 1=Z.ver)(L:gO (Z.seen 0).toNat t=bb)(j:Z.tg=x)(hx:(bb=true/\x=1)\/(bb=false/\x=0)):
 ∃N F,r=td 21 (fv N F)/\Calls prog N F w fun e' w'=>e'=.returned (.tuple #[])/\gE w tag t last e gs mp pt st E O (stp t m s Z) w':=by
 obtain⟨bp,Q,rfl,hp,hq⟩:=hr;refine⟨_,_,rfl,?_⟩;simp only[cR];rw[show stp t m s Z=⟨m,s,{Z with o1:=rZ (Z.seen 1),o2:=tU (Z.seen 1),wn:=Ke (Z.seen 2),does:=0},true⟩ by simp only[stp,d];rw[iP ⟨l,by rw[L,j];rcases hx with⟨rfl,rfl⟩|⟨rfl,rfl⟩<;>rfl⟩]]
 have h4:=H.t4;have HH:=aH H;simp only[iF,d]at hn;obtain⟨n1,n2,n3,n4⟩:=hn;have zw:rows=[]:=by have:=H.rs.len;simpa using this
 subst zw;have f:w.cell? (bp,0)=(e.p,0):=hp.cell;have zv:=hp.2.lt;have c:w.cell? (Q,0)=(e.q,0):=hq.cell;have zu:=hq.2.lt;have p0:=H.cp0;have lp:=H.sh.lt;have ls:=H.st_.lt;have q0:=H.cth 0 (fun _ _=>rfl);have lq:=H.th.blk.lt;have zz:w.cell? (e.p,2)=[m 1]:=H.cram (k:=1) I;have q5:=H.cth 5 (fun _ _=>rfl);have q7:=H.cth 7 (fun _ _=>rfl);have cv:w.cell? (e.v,0)=[Z.ver]:=by rw[n1.2.cell];rfl
 have lv:=n1.2.lt;obtain⟨s0,P⟩:=aO (Z.seen 0:Int);obtain⟨X,U⟩:=aO (Z.seen 1:Int);obtain⟨i,T⟩:=aO (Z.seen 2:Int);have cg:w.cell? (e.g,0)=[s0]:=by rw[n2.2.cell,P];rfl
 have lg:=n2.2.lt;have ca:w.cell? (e.a,0)=[X]:=by rw[n3.2.cell,U];rfl
 have la:=n3.2.lt;have cn:w.cell? (e.n,0)=[i]:=by rw[n4.2.cell,T];rfl
 have ln:=n4.2.lt;rw[<-P,<-U,<-T]at u;rw[<-P]at L;have zy:Hid (∀W,Calls prog 102 #[[s0],t] W fun e w'=>e=.returned bb/\Below W W w'):=aH (fun W=>by
  have:=kJ s0.toNat (t:Int) W I;rw[show((s0.toNat:Nat):Int)=s0 by omega,L]at this;exact this)
 rw[j]at q5;rw[l]at zz;rw[<-U,<-T];have C:=aH (And.intro hq.1 (And.intro n3.1 n4.1));have B:=aH u;have zp:=aH (And.intro U T);clear H d n1 n2 n3 n4 u P U T l L j;rcases hx with⟨rfl,rfl⟩|⟨rfl,rfl⟩
 all_goals
  go_enter func112,ntmps112
  go_wp2;refine aA 22 ?_
  iterate 22
   first
   |(refine Kf ?_;constructor
     .intro w9 hw9 hc9 hf9;go_simp
      first
      |exact aE
      |(go_at_call 102;exact bS (zy.out _)))
   |refine aU ?_
  refine bZ ?_;intro w9 hw9 hc9 hf9;refine aS ?_;have H1:=aH (HH.keep1 hw9);have zt:=(hw9.cell (p:=⟨bp,0,none⟩) zv (fun x=>x)).trans f;have Y:=(hw9.cell (p:=⟨Q,0,none⟩) zu (fun x=>x)).trans c;have V:=(hw9.cell (p:=⟨e.a,0,none⟩) la (fun x=>x)).trans ca;have A:=(hw9.cell (p:=⟨e.n,0,none⟩) ln (fun x=>x)).trans cn;have zs:=(hw9.cell (p:=⟨e.q,7,none⟩) lq (fun x=>x)).trans q7;clear hc9 hf9 hw9 f c p0 q0 zz q5 q7 cv cg ca cn;refine aW ?_
  try simp only[List.drop_succ_cons,List.drop_zero,List.drop]
  go_wp2_with fail;have zr:=aH (fun W=>QQ X B.out.2.1.1 B.out.2.1.2 W);have wI:IntKind.i64.wrap i=Ke i:=by have:=B.out.2.2;rw[IntKind.wrap_i64];unfold Ke;split<;>omega
  obtain⟨h,zq⟩:=aO w9;subst zq;have zo:=H1.th.blk.lt;have mq:Q<h:=World.block_lt_of_cell? h _ Y;have ma:e.a<h:=World.block_lt_of_cell? h _ V;have mn:e.n<h:=World.block_lt_of_cell? h _ A;have x1:¬Q=e.q:=fun z=>by have h1:=C.out.1;have h2:=H1.th.tg;rw[z]at h1;omega
  have x2:¬e.a=e.q:=fun z=>by have h1:=C.out.2.1;have h2:=H1.th.tg;rw[z]at h1;omega
  have x3:¬e.n=e.q:=fun z=>by have h1:=C.out.2.2;have h2:=H1.th.tg;rw[z]at h1;omega
  have y1:¬e.q=Q:=fun z=>x1 z.symm
  have y2:¬e.q=e.a:=fun z=>x2 z.symm
  have y3:¬e.q=e.n:=fun z=>x3 z.symm
  have z1:¬cI e.q Q:=x1;have z2:¬cI e.q e.a:=x2;have z3:¬cI e.q e.n:=x3;clear zt zs;refine bK 9 (cI e.q) [8] J J ?_
  iterate 2
   refine aR ?_;constructor
   .intro w9 hw9 M;refine aS ?_;have v1:=(hw9.cell (p:=⟨Q,0,none⟩) mq z1).trans Y;have v2:=(hw9.cell (p:=⟨e.a,0,none⟩) ma z2).trans V;refine aW ?_;go_simp
    first
    |exact aE
  first|(with_reducible refine aC (fun K y=>?_))|(refine aC (fun K y=>?_))
  refine .inl ?_;apply Exists.intro;refine⟨cX,?_,y _ _ _ _ ?_⟩
  .simp only[bJ,bM];refine⟨?_,fun w9 hw9 M=>?_⟩
   .first|rfl|(go_simp;done)
   refine aS ?_;have v1:=(hw9.cell (p:=⟨Q,0,none⟩) mq z1).trans Y;have v2:=(hw9.cell (p:=⟨e.a,0,none⟩) ma z2).trans V;refine aW ?_;go_simp
   first
   |exact aE
   |(go_at_call 113;exact bS (zr.out _))
  iterate 5
   clear y K;refine aN ?_
   first|(with_reducible refine aC (fun K y=>?_))|(refine aC (fun K y=>?_))
   refine .inl ?_;apply Exists.intro;refine⟨cX,?_,y _ _ _ _ ?_⟩
   .simp only[bJ,bM];refine⟨?_,fun w9 hw9 M=>?_⟩
    .first|rfl|(go_simp;done)
    refine aS ?_;have v1:=(hw9.cell (p:=⟨Q,0,none⟩) mq z1).trans Y;have v2:=(hw9.cell (p:=⟨e.a,0,none⟩) ma z2).trans V;refine aW ?_;go_simp
    first
    |exact aE
  clear y K;refine aN ?_;refine bA undef (fun _ w'=>RC w tag w' tag t {Z with o1:=rZ X,o2:=tU X} last e gs mp m pt s st E O R cr D cd [] [] false) ?_ ?_
  .intro w9 hw9 M;refine aS ?_;have HX:=aH (H1.below (cA M.1 J) (bI.refl _ _));have HY:Hid (w9.there e.q 8 2):=aH (HX.th.blk.there (by show 8+2<=13;omega));refine aW ?_;refine dA 44 _ _ rfl e.q 8 #[(rZ X),(tU X)] rfl rfl HY J J ?_;refine⟨⟨rfl,?_⟩,(cE (S:=cI e.q) (.inl rfl) 8 _).mono fun b hb=>⟨aJ,hb⟩⟩;exact HX.own (cE (S:=cI e.q) (.inl rfl) 8 _) (aY.setCells (vs:=[.int .i64 (rZ X),.int .i64 (tU X)]) (o:=8) HX.th.blk) rfl
  refine aZ ?_;rintro w9 hw9 G;refine aQ ?_;refine aS ?_;obtain⟨wx,k6,k7,hf⟩:=G.1 rfl;have H2:=aH (hf.below (cA k7 J) (bI.refl _ _));have v1:=(hw9.cell (p:=⟨Q,0,none⟩) mq z1).trans Y;have v3:=(hw9.cell (p:=⟨e.n,0,none⟩) mn z3).trans A;have zn:w9.cell? (e.q,10)=Z.wn:=H2.cth 10 (fun _ _=>rfl);have zm:=H2.th.blk.frozen 10;have zl:=H2.cth 12 (fun _ _=>rfl);have zk:=H2.th.blk.frozen 12;have h3:=H2.setTh (Z':={Z with o1:=rZ X,o2:=tU X,wn:=Ke i}) (fin':=false) 10 (Ke i) (fun _ _=>rfl) rfl;have zx:=h3.setTh (Z':={Z with o1:=rZ X,o2:=tU X,wn:=Ke i,does:=0}) (fin':=true) 12 true (fun _ _=>rfl) rfl;have HF:=aH (zx.out rfl (by simp only[iF]) ⟨rfl,rfl⟩);clear G k6 k7 hf hw9 h3 zx Y V A;refine aW ?_;go_wp2;refine bodyPost_end (v:=.tuple #[]) (by simp [results,results112,go_sem]) rfl ?_;exact⟨rfl,HF.out⟩
theorem yW{l:Bool}{x:Int}(H:RC w tag w tag t Z last e gs mp m pt s st E O R cr D cd rows [] false)(hn:iF w tag t Z e)(d:Z.does=21)(hr:(Cl.look5).At w tag e r)(M:(0<=Z.seen 0/\Z.seen 0<18446744073709551616)/\(0<=Z.seen 1/\Z.seen 1<18446744073709551616)/\(0<=Z.seen 2/\Z.seen 2<18446744073709551616))(u:m 1=Z.ver)(U:gO (Z.seen 0).toNat t=l)(L:Z.tg=x)(hx:(l=true/\x=0)\/(l=false/\x=1)):
 ∃N T,r=td 21 (fv N T)/\Calls prog N T w fun e' w'=>e'=.returned (.tuple #[])/\gE w tag t last e gs mp pt st E O (stp t m s Z) w':=by
 obtain⟨bp,bq,rfl,hp,hq⟩:=hr;refine⟨_,_,rfl,?_⟩;simp only[cR];obtain⟨sd,hs⟩:=aP Z.said;obtain⟨n,B⟩:∃n,(sd=true/\n=3)\/(sd=false/\n=1):=by
  cases sd
  .exact⟨1,.inr ⟨rfl,rfl⟩⟩
  exact⟨3,.inl ⟨rfl,rfl⟩⟩
 rw[show stp t m s Z=⟨m,s,Z.go n,false⟩ by simp only[stp,d];rw[iN (fun h=>by have:=h.2;rw[U,L]at this;rcases hx with⟨rfl,rfl⟩|⟨rfl,rfl⟩<;>exact absurd this aJ),hs];rcases B with⟨rfl,rfl⟩|⟨rfl,rfl⟩<;>rfl]
 have h4:=H.t4;have HH:=aH H;simp only[iF,d]at hn;obtain⟨n1,n2,n3,n4⟩:=hn;have j:rows=[]:=by have:=H.rs.len;simpa using this
 subst j;have K:w.cell? (bp,0)=(e.p,0):=hp.cell;have i:=hp.2.lt;have G:w.cell? (bq,0)=(e.q,0):=hq.cell;have f:=hq.2.lt;have p0:=H.cp0;have lp:=H.sh.lt;have ls:=H.st_.lt;have q0:=H.cth 0 (fun _ _=>rfl);have lq:=H.th.blk.lt;have F:w.cell? (e.p,2)=[m 1]:=H.cram (k:=1) I;have q5:=H.cth 5 (fun _ _=>rfl);have c:=H.cth 7 (fun _ _=>rfl);have cv:w.cell? (e.v,0)=[Z.ver]:=by rw[n1.2.cell];rfl
 have lv:=n1.2.lt;obtain⟨A,Y⟩:=aO (Z.seen 0:Int);obtain⟨s1,X⟩:=aO (Z.seen 1:Int);obtain⟨s2,V⟩:=aO (Z.seen 2:Int);have cg:w.cell? (e.g,0)=[A]:=by rw[n2.2.cell,Y];rfl
 have lg:=n2.2.lt;have ca:w.cell? (e.a,0)=[s1]:=by rw[n3.2.cell,X];rfl
 have la:=n3.2.lt;have cn:w.cell? (e.n,0)=[s2]:=by rw[n4.2.cell,V];rfl
 have ln:=n4.2.lt;rw[<-Y,<-X,<-V]at M;rw[<-Y]at U;have C:Hid (∀W,Calls prog 102 #[[A],t] W fun e w'=>e=.returned l/\Below W W w'):=aH (fun W=>by
  have:=kJ A.toNat (t:Int) W I;rw[show((A.toNat:Nat):Int)=A by omega,U]at this;exact this)
 rw[L]at q5;rw[u]at F;rw[hs]at c;have zx:=aH M;have zy:=aH (And.intro X V);clear H d n1 n2 n3 n4 M Y X V u U L hs;rcases hx with⟨rfl,rfl⟩|⟨rfl,rfl⟩<;>rcases B with⟨rfl,rfl⟩|⟨rfl,rfl⟩
 all_goals
  go_enter func112,ntmps112
  go_wp2;refine aA 22 ?_
  iterate 22
   first
   |(refine Kf ?_;constructor
     .intro w9 hw9 hc9 hf9;go_simp
      first
      |exact aE
      |(go_at_call 102;exact bS (C.out _)))
   |refine aU ?_
  refine bZ ?_;intro w9 hw9 hc9 hf9;refine aS ?_;have o:=aH (HH.keep1 hw9);have zw:=(hw9.cell (p:=⟨bp,0,none⟩) i (fun x=>x)).trans K;have zv:=(hw9.cell (p:=⟨bq,0,none⟩) f (fun x=>x)).trans G;have zu:=(hw9.cell (p:=⟨e.a,0,none⟩) la (fun x=>x)).trans ca;have zt:=(hw9.cell (p:=⟨e.n,0,none⟩) ln (fun x=>x)).trans cn;have zs:=(hw9.cell (p:=⟨e.q,7,none⟩) lq (fun x=>x)).trans c;have HC:=aH (GK o.th e.p h4 (e0:=e) ⟨rfl,rfl⟩ (cls:=[]) trivial (by simp));have HD:=aH (RQ o.th e.p h4);clear hc9 hf9 hw9 K G p0 q0 F q5 c cv cg ca cn;refine aW ?_
  try simp only[List.drop_succ_cons,List.drop_zero,List.drop]
  go_wp2_with fail
  first
  |(with_reducible refine HC.out.mono ?_
    rintro e2 w3 ⟨rfl,z,R3,zz,S,hk,Q,P⟩;have b:=aH (((o.rowed hk ⟨rfl,rfl⟩ Q P).as (Z':=Z.go 3) (fun _ _=>rfl) rfl).out rfl (by simp only[iF,cQ.go]) ⟨rfl,rfl⟩);go_wp2;refine bodyPost_end (v:=.tuple #[]) (by simp [results,results112,go_sem]) rfl ?_;exact⟨rfl,b.out⟩)
  |(with_reducible refine HD.out.mono ?_
    rintro e2 w3 ⟨rfl,z,zr,R3,zz,S,hk,y,Q,P⟩;have b:=aH (((o.rowed hk y Q P).as (Z':=Z.go 1) (fun _ _=>rfl) rfl).out rfl (by simp only[iF,cQ.go]) y);go_wp2;refine bodyPost_end (v:=.tuple #[]) (by simp [results,results112,go_sem]) rfl ?_;exact⟨rfl,b.out⟩)
theorem OB(H:RC w tag w tag t Z last e gs mp m pt s st E O R cr D cd rows [] false)(hn:iF w tag t Z e)(d:Z.does=21)(hr:(Cl.look5).At w tag e r)(P:(0<=Z.seen 0/\Z.seen 0<18446744073709551616)/\(0<=Z.seen 1/\Z.seen 1<18446744073709551616)/\(0<=Z.seen 2/\Z.seen 2<18446744073709551616))(W:¬m 1=Z.ver):
 ∃N V,r=td 21 (fv N V)/\Calls prog N V w fun e' w'=>e'=.returned (.tuple #[])/\gE w tag t last e gs mp pt st E O (stp t m s Z) w':=by
 obtain⟨bp,bq,rfl,hp,hq⟩:=hr;refine⟨_,_,rfl,?_⟩;simp only[cR];obtain⟨l,j⟩:=aP Z.said;obtain⟨n,K⟩:∃n,(l=true/\n=3)\/(l=false/\n=1):=by
  cases l
  .exact⟨1,.inr ⟨rfl,rfl⟩⟩
  exact⟨3,.inl ⟨rfl,rfl⟩⟩
 rw[show stp t m s Z=⟨m,s,Z.go n,false⟩ by simp only[stp,d];rw[iN (fun h=>W h.1),j];rcases K with⟨rfl,rfl⟩|⟨rfl,rfl⟩<;>rfl]
 have h4:=H.t4;have HH:=aH H;simp only[iF,d]at hn;obtain⟨i,f,c,b⟩:=hn;have B:rows=[]:=by have:=H.rs.len;simpa using this
 subst B;have M:w.cell? (bp,0)=(e.p,0):=hp.cell;have A:=hp.2.lt;have L:w.cell? (bq,0)=(e.q,0):=hq.cell;have z:=hq.2.lt;have p0:=H.cp0;have lp:=H.sh.lt;have ls:=H.st_.lt;have q0:=H.cth 0 (fun _ _=>rfl);have lq:=H.th.blk.lt;have y:w.cell? (e.p,2)=[m 1]:=H.cram (k:=1) I;have q5:=H.cth 5 (fun _ _=>rfl);have u:=H.cth 7 (fun _ _=>rfl);have cv:w.cell? (e.v,0)=[Z.ver]:=by rw[i.2.cell];rfl
 have lv:=i.2.lt;obtain⟨s0,U⟩:=aO (Z.seen 0:Int);obtain⟨s1,Y⟩:=aO (Z.seen 1:Int);obtain⟨s2,X⟩:=aO (Z.seen 2:Int);have cg:w.cell? (e.g,0)=[s0]:=by rw[f.2.cell,U];rfl
 have lg:=f.2.lt;have ca:w.cell? (e.a,0)=[s1]:=by rw[c.2.cell,Y];rfl
 have la:=c.2.lt;have cn:w.cell? (e.n,0)=[s2]:=by rw[b.2.cell,X];rfl
 have ln:=b.2.lt;rw[<-U,<-Y,<-X]at P;have zw:=W;have zv:¬(Z.ver:Int)=m 1:=fun h=>W h.symm
 rw[j]at u;have zu:=aH P;have zy:=aH (And.intro Y X);clear H d i f c b P U Y X W j;rcases K with⟨rfl,rfl⟩|⟨rfl,rfl⟩
 all_goals
  go_enter func112,ntmps112
  go_wp2;refine aA 22 ?_
  iterate 8
   refine aR ?_;constructor
   .intro w9 hw9 _;refine aS ?_;obtain⟨hc9,hf9⟩:=hw9.all;refine aW ?_;go_simp
    first
    |exact aE
  iterate 12
   refine aU ?_
  iterate 2
   refine aR ?_;constructor
   .intro w9 hw9 _;refine aS ?_;obtain⟨hc9,hf9⟩:=hw9.all;refine aW ?_;go_simp
    first
    |exact aE
  refine aZ ?_;rintro w9 hw9 zx;refine aQ ?_;obtain⟨hc9,hf9⟩:=hw9.all;refine aS ?_;have C:=aH (HH.keep1 hw9);have zt:=(hw9.cell (p:=⟨bp,0,none⟩) A (fun x=>x)).trans M;have zs:=(hw9.cell (p:=⟨bq,0,none⟩) z (fun x=>x)).trans L;have zr:=(hw9.cell (p:=⟨e.a,0,none⟩) la (fun x=>x)).trans ca;have zq:=(hw9.cell (p:=⟨e.n,0,none⟩) ln (fun x=>x)).trans cn;have zp:=(hw9.cell (p:=⟨e.q,7,none⟩) lq (fun x=>x)).trans u;have HC:=aH (GK C.th e.p h4 (e0:=e) ⟨rfl,rfl⟩ (cls:=[]) trivial (by simp));have HD:=aH (RQ C.th e.p h4);clear hc9 hf9 hw9 M L p0 q0 y q5 u cv cg ca cn;refine aW ?_
  try simp only[List.drop_succ_cons,List.drop_zero,List.drop]
  go_wp2_with fail
  first
  |(with_reducible refine HC.out.mono ?_
    rintro e2 w3 ⟨rfl,G,R3,zz,T,hk,S,Q⟩;have o:=aH (((C.rowed hk ⟨rfl,rfl⟩ S Q).as (Z':=Z.go 3) (fun _ _=>rfl) rfl).out rfl (by simp only[iF,cQ.go]) ⟨rfl,rfl⟩);go_wp2;refine bodyPost_end (v:=.tuple #[]) (by simp [results,results112,go_sem]) rfl ?_;exact⟨rfl,o.out⟩)
  |(with_reducible refine HD.out.mono ?_
    rintro e2 w3 ⟨rfl,G,zo,R3,zz,T,hk,F,S,Q⟩;have o:=aH (((C.rowed hk F S Q).as (Z':=Z.go 1) (fun _ _=>rfl) rfl).out rfl (by simp only[iF,cQ.go]) F);go_wp2;refine bodyPost_end (v:=.tuple #[]) (by simp [results,results112,go_sem]) rfl ?_;exact⟨rfl,o.out⟩)
end
end
section
open Go.Maps
def yG(v:Value):Option (DataW Value×List MemPlace):=some (.held v,[])
def VZ(v:Nat):Lit:=.int .u64 v
theorem ZA{v u:Nat}(h:VZ v=VZ u):v=u:=by
 unfold VZ at h;injection h with _ h
 omega
theorem Bo(v:Nat):WideAt.IsKeyLit (VZ v):=by unfold VZ;trivial
theorem Ab(v:Nat)(h:v<18446744073709551616):keyOf prog 23 [v]=some (VZ v):=by
 refine keyOf_int_mk underlying23 ?_;unfold Lit.wf;simp [IntKind.min,IntKind.max,IntKind.bits,IntKind.signed]
 try omega
def KO(w:World)(tag:Nat->Nat)(go n:Nat)(of:Nat->List (List Value)):Prop:=
 tag go=104/\∃D:DataW Value,w.ownsMap prog 23 yG go n D/\∀v,∃A c,D.atKey (VZ v) (.held (.slice none 0 0))=.held (.slice A (of v).length c)/\cU w 0 159 6 A (of v).length c (of v)/\∀b,iI A b->tag b=105
theorem KO.lt{go n:Nat}{Y:Nat->List (List Value)}(h:KO w tag go n Y):go<w:=by
 obtain⟨_,D,Z,_⟩:=h;exact Z.lt
theorem KO.kept{w':World}{Z:Nat->Nat}{S:Nat->Prop}{go n:Nat}{T:Nat->List (List Value)}(h:KO w tag go n T)(R:aD S w w')(Q:bI w tag Z)(P:∀b,S b->tag b≠104/\tag b≠105):KO w' Z go n T:=by
 have X:=h.lt;obtain⟨W,D,N,M⟩:=h;have O:=R.block go X (fun z=>(P _ z).1 W);obtain⟨L,Y,K,H,G,F⟩:=N;refine⟨(Q go X).trans W,D,⟨L,Y,O.trans K,H,G,F⟩,fun v=>?_⟩;obtain⟨A,c,E,V,U⟩:=M v;exact⟨A,c,E,V.keptT R U (fun b z=>(P b z).2),V.tagT Q U⟩
theorem KO.put{w':World}{go n:Nat}{Z:Nat->List (List Value)}{V:Nat}{A:Option Addr}{c:Nat}{l:List (List Value)}{D:DataW Value}(S:tag go=104)(R:w'.ownsMap prog 23 yG go (n+1) (D.put (VZ V) (.held (.slice A l.length c))))(Q:IsMap D)
 (P:∀v,∃A c,D.atKey (VZ v) (.held (.slice none 0 0))=.held (.slice A (Z v).length c)/\cU w' 0 159 6 A (Z v).length c (Z v)/\∀b,iI A b->tag b=105)
 (O:cU w' 0 159 6 A l.length c l) (N:∀b,iI A b->tag b=105):KO w' tag go (n+1) (fun v=>if v=V then l else Z v):=by
 refine⟨S,_,R,fun v=>?_⟩;by_cases e:v=V
 .subst e;refine⟨A,c,?_,?_,N⟩
  .dsimp only;rw[atKey_put_same Q (Bo _),iP rfl]
  dsimp only;rw[iP rfl];exact O
 obtain⟨X,W,U,Y,T⟩:=P v;refine⟨X,W,?_,?_,T⟩
 .dsimp only;rw[atKey_put_other (fun Y=>e (ZA Y)),U,iN e]
 dsimp only;rw[iN e];exact Y
