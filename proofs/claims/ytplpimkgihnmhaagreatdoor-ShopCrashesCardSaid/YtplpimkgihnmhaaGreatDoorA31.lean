/-
  Part of a proof: ShBg ShSc ShSr ShSx. For all values.
-/
import Derived.Test.YtplpimkgihnmhaaGreatDoorA30
set_option maxRecDepth 100000
set_option maxHeartbeats 4000000
set_option linter.all false
namespace Go.Proofs.YtplpimkgihnmhaaGreatDoor
open Go.Proofs.Tryz Go.RowKit
variable{t st n ch:Nat}{m tgl:Nat->Int}{hist:List (List Value)}{H:Option Addr}
section
attribute [local go_sem↓] Go.wp_at_zero Go.wp_at_succ
section
variable{w:World}{tag:Nat->Nat}{t:Nat}{Z:cQ}{last:Int}{q:Nat}{R:Option Addr}{cr:Nat}{D:Option Addr}{cd:Nat}{rows:List (List Value)}{fin:Bool}
def Dd(w:World)(q:Nat):World:=((((((w.setCell (q,1) (.slice none 0 0)).setCell (q,7) false).setCell (q,8) (0:Int)).setCell (q,9) (0:Int)).setCell (q,10) (0:Int)).setCell (q,11) (.slice none 0 0)).setCell (q,12) false
theorem XE(w:World)(q:Nat):aD (cI q) w (Dd w q):=
 ((((((bP _ _ _ _).trans (bP _ _ _ _)).trans (bP _ _ _ _)).trans (bP _ _ _ _)).trans (bP _ _ _ _)).trans (bP _ _ _ _)).trans (bP _ _ _ _)
theorem Gi(t:Nat)(Z:cQ)(last:Int)(X W:Value)(fin Y:Bool):(((((((vN t Z last X W fin).setIfInBounds 1 (.slice none 0 0)).setIfInBounds 7 false).setIfInBounds 8 (0:Int)).setIfInBounds 9 (0:Int)).setIfInBounds 10 (0:Int)).setIfInBounds 11 (.slice none 0 0)).setIfInBounds 12 false=vN t (cQ.call Z.a Z.k Z.v Z.tg Y) last (.slice none 0 0) (.slice none 0 0) false:=by
 unfold vN cQ.call;simp only[List.setIfInBounds_toArray,List.set_cons_succ,List.set_cons_zero]
theorem Fd(h:lT w tag t Z last q R cr D cd rows fin)(Y:Bool):lT (Dd w q) tag t (cQ.call Z.a Z.k Z.v Z.tg Y) last q none 0 none 0 [] false:=by
 refine⟨?_,cU.nil _ _ _ _,cU.nil _ _ _ _,h.tg,?_,?_⟩
 .have h1:=((((((h.blk.set_ 1 (.slice none 0 0)).set_ 7 false).set_ 8 (0:Int)).set_ 9 (0:Int)).set_ 10 (0:Int)).set_ 11 (.slice none 0 0)).set_ 12 false;rw[Gi]at h1;exact h1
 .rintro b ⟨a,X,_⟩;cases X
 rintro b ⟨a,X,_⟩;cases X
theorem YQ(h:lT w tag t Z last q R cr D cd rows fin)(p:Nat)(m:t<4)(X:Bool):
 Calls prog 61 #[(p,0),(q,0),X] w fun e w'=>e=.returned (.tuple #[])/\∃Y,Kg (eJ t) w tag w' Y/\VQ w' Y t (cQ.call Z.a Z.k Z.v Z.tg X) last p q false:=by
 have K:=aH (Fd h X);have H:Hid (Kg (eJ t) w tag (Dd w q) tag):=aH ((Kg.refl _ _ _).go (bI.refl _ _) (XE w q) (fun b hb=>.inl (by rw[show b=q from hb];exact h.tg)));have c1:w.cell? (q,1)=some (.slice R rows.length cr):=by rw[h.blk.cell];rfl
 have l:w.cell? (q,7)=Z.said:=by rw[h.blk.cell];rfl
 have j:w.cell? (q,8)=Z.o1:=by rw[h.blk.cell];rfl
 have i:w.cell? (q,9)=Z.o2:=by rw[h.blk.cell];rfl
 have G:w.cell? (q,10)=Z.wn:=by rw[h.blk.cell];rfl
 have F:w.cell? (q,11)=some (.slice D Z.deeds.length cd):=by rw[h.blk.cell];rfl
 have E:w.cell? (q,12)=fin:=by rw[h.blk.cell];rfl
 have g:=h.blk.frozen 1;have f:=h.blk.frozen 7;have d:=h.blk.frozen 8;have c:=h.blk.frozen 9;have C:=h.blk.frozen 10;have B:=h.blk.frozen 11;have A:=h.blk.frozen 12;have zz:=h.blk.lt;clear h;obtain⟨u,y⟩:∃u,u=X:=⟨_,rfl⟩;have HA:=aH y
 go_enter func61,ntmps61
 go_upto_region 1 with(fail)
 show Code.wp _ _ _ _ (Dd w q);generalize Dd w q=w1 at*;clear c1 l j i G F E g f d c C B A;cases X with
 |true=>
  have P:=aH (PW K p m);go_wp2_with fail
  with_reducible refine P.out.mono ?_
  rintro e O ⟨rfl,V,S,x,Q,W,N,⟨M,L⟩,U,T,s,r,o,n⟩;have z:Hid (∃Y,Kg (eJ t) w tag O Y/\VQ O Y t (cQ.call Z.a Z.k Z.v Z.tg true) last p q false):=aH ⟨V,H.trans N,S,x,Q,none,0,W,U,T,⟨s,r,o,n⟩,M,L⟩;clear N M L U T s r o n P K H;go_wp2;exact bodyPost_end (v:=.tuple #[]) (by simp [results,results61,go_sem]) rfl ⟨rfl,z.out⟩
 |false=>
  have P:=aH (RQ K p m);go_wp2_with fail
  with_reducible refine P.out.mono ?_
  rintro e O ⟨rfl,V,S,x,Q,W,N,⟨M,L⟩,U,T⟩;have z:Hid (∃Y,Kg (eJ t) w tag O Y/\VQ O Y t (cQ.call Z.a Z.k Z.v Z.tg false) last p q false):=aH ⟨V,H.trans N,S,x,Q,none,0,W,U,T,trivial,M,L⟩;clear N M L U T P K H;go_wp2;exact bodyPost_end (v:=.tuple #[]) (by simp [results,results61,go_sem]) rfl ⟨rfl,z.out⟩
end
section
variable{w:World}{tag:Nat->Nat}{F:pH}{p gs mp go:Nat}{pt:Nat->Nat}{N:Nat}
theorem SK(p:Nat)(t a k v:Int)(w:World)(W:¬(0<=t/\t<4)):Calls prog 22 #[(p,0),t,.agg #[a,k,v]] w fun e w'=>e=.returned (2:Int)/\Below w w w':=by
 have Z:bV t 0 3=false:=by unfold bV;rw[decide_eq_false_iff_not];omega
 have Y:=aH Z;have X:Hid (Below w w (w.alloc (.cells #[a,k,v] 39))):=aH ((Below.refl _ _).alloc (Nat.le_refl _) _);clear Z W
 go_enter func22,ntmps22
 go_wp2_with (go_at_call 55;refine(bQ _ _ _ _).mono ?_;rintro e w' ⟨rfl,rfl⟩;rw[Y.out])
 go_ret;exact⟨rfl,X.out⟩
theorem MA(h:kK w tag F p gs go pt)(Y:lM N F)(U:t<4)(a k v:Int)(d:(F.th t).does≠0):Calls prog 22 #[(p,0),t,.agg #[a,k,v]] w fun e w'=>e=.returned (6:Int)/\Below w w w':=by
 have Z:bV (t:Int) 0 3=true:=by unfold bV;rw[decide_eq_true_eq];omega
 have X:=aH Z;have W:Hid (Below w w (w.alloc (.cells #[a,k,v] 39))):=aH ((Below.refl _ _).alloc (Nat.le_refl _) _);have V:=aH (xI (h.below ((Below.refl w w).alloc (Nat.le_refl _) (.cells #[a,k,v] 39))) Y U);have T:¬((F.th t).does:Int)=0:=I;clear Z h Y d
 go_enter func22,ntmps22
 go_wp2_with (go_at_call 55;refine(bQ _ _ _ _).mono ?_;rintro e w' ⟨rfl,rfl⟩;rw[X.out])
 with_reducible refine V.out.mono ?_
 rintro e S ⟨rfl,rfl⟩;go_wp2;go_ret;exact⟨rfl,W.out⟩
theorem JD(h:kK w tag F p gs go pt)(X:lM N F)(Q:t<4)(a k v:Int)(d:(F.th t).does=0)(P:cB a k v=false):Calls prog 22 #[(p,0),t,.agg #[a,k,v]] w fun e w'=>e=.returned (1:Int)/\Below w w w':=by
 have Z:bV (t:Int) 0 3=true:=by unfold bV;rw[decide_eq_true_eq];omega
 have V:=aH Z;have R:Hid (Below w w (w.alloc (.cells #[a,k,v] 39))):=aH ((Below.refl _ _).alloc (Nat.le_refl _) _);have T:=aH (xI (h.below ((Below.refl w w).alloc (Nat.le_refl _) (.cells #[a,k,v] 39))) X Q);rw[d]at T;have S:=aH (fun W=>eK a k v W);rw[P]at S;clear Z h X d
 go_enter func22,ntmps22
 go_wp2_with (go_at_call 55;refine(bQ _ _ _ _).mono ?_;rintro e w' ⟨rfl,rfl⟩;rw[V.out])
 with_reducible refine T.out.mono ?_
 rintro e O ⟨rfl,rfl⟩;go_wp2_with fail
 with_reducible refine(S.out _).mono ?_
 rintro e M ⟨rfl,Y⟩;have U:=aH (R.trans (Y.mono (by simp)));clear Y;go_wp2;go_ret;exact⟨rfl,U.out⟩
theorem RS.asked{w':World}{s:cN}{th:Nat->cQ}{W:Nat->List (List Value)}{R:Option Addr}{X:Nat}{D:Option Addr}{cd:Nat}{rows:List (List Value)}(h:RS IR w tag m s th tgl (fun _=>false) st hist W p gs mp go n pt H ch)(T:t<4)(Y:lT w tag t (th t) (tgl t) (pt t) R X D cd rows false)(a k v x:Int)(V:aD (cI (pt t)) w w')(Z:aY w' (pt t) 140 (vN t {th t with a:=a,k:=k,v:=v,tg:=x} (tgl t) (.slice R rows.length X) (.slice D (th t).deeds.length cd) false)):
 RS (TP t) w' tag m s th tgl (fun _=>false) st hist W p gs mp go n pt H ch/\lT w' tag t {th t with a:=a,k:=k,v:=v,tg:=x} (tgl t) (pt t) R X D cd rows false:=by
 have U:∀b,cI (pt t) b->tag b=110+t:=fun b Z=>by rw[show b=pt t from Z];exact Y.tg
 exact⟨(h.less (TP t)).own T V (bI.refl _ _) (fun b Z=>.inl (U b Z)),Y.cells V Z rfl⟩
theorem XQ(Z:t<4):∀k,eJ t k->wM k:=fun k h=>by unfold eJ at h;unfold wM;omega
theorem RS.begun{w':World}{Y:Nat->Nat}{s:cN}{th:Nat->cQ}{X:Nat->Bool}{W:Nat->List (List Value)}(h:RS (TP t) w tag m s th tgl X st hist W p gs mp go n pt H ch)(S:t<4){Z:cQ}(V:Kg (eJ t) w tag w' Y)(R:VQ w' Y t Z (tgl t) p (pt t) false)(Q:X t=false):
 RS IR w' Y m s (jG th t Z) tgl X st hist W p gs mp go n pt H ch:=by
 have U:=h.own S V.k V.t (fun b T=>by unfold eJ at T;omega);refine(U.put R).same (fun _ _=>rfl) (fun u _=>?_) (fun u _=>?_)
 .split
  .rename_i e;rw[e]
  rfl
 split
 .rename_i e;rw[e,Q]
 rfl
theorem WX(h:kK w tag F p gs go pt)(zm:lM N F)(hN:N<=100000000)(ht:t<4)(a k v:Int)(d:(F.th t).does=0)(ho:cB a k v=true):Calls prog 22 #[(p,0),t,.agg #[a,k,v]] w fun e w'=>e=.returned (0:Int)/\SI w tag (F.call t a k v) p gs go pt w':=by
 obtain⟨n,mp,H,ch,hn,hr⟩:=h;have zl:bV (t:Int) 0 3=true:=by unfold bV;rw[decide_eq_true_eq];omega
 have yk:=aH zl;have zu:Hid (RS IR (w.alloc (.cells #[a,k,v] 39)) (cG w tag 0) F.m F.s F.th F.tgl (fun _=>false) F.steps F.hist F.of p gs mp go n pt H ch):=aH (hr.below ((Below.refl _ _).alloc (Nat.le_refl _) _) (cO _ _ _));have zk:Hid (Kg wM w tag (w.alloc (.cells #[a,k,v] 39)) (cG w tag 0)):=aH (Kg.start ((Below.refl _ _).alloc (Nat.le_refl _) _) (cO _ _ _));have S:Hid (LB (w.alloc (.cells #[a,k,v] 39)) (cG w tag 0) w 39 #[a,k,v]):=aH ⟨dT _ _ _ (Nat.le_refl _),aY.new _ _ _⟩;have HD:=aH (xI (t:=t) (⟨n,mp,H,ch,hn,zu.out⟩:kK (w.alloc (.cells #[a,k,v] 39)) (cG w tag 0) F p gs go pt) zm ht);rw[d]at HD;have HR:=aH (fun W=>eK a k v W);rw[ho]at HR;have zt:=aH zm;have HN:=aH hn;obtain⟨i0,yu,yt,yr,yq⟩:=EH;have HI:=aH yu;have HZ:=Lib.hid yt;have HS:=Lib.hid yr;have HY:=Lib.hid yq;clear yu yt yr yq hr zm d ho zl hn
 go_enter func22,ntmps22
 go_upto_region 1 with(fail)
 show Code.wp _ _ _ _ (w.alloc (.cells #[.int .i64 a,.int .i64 k,.int .i64 v] 39));generalize(w.alloc (.cells #[.int .i64 a,.int .i64 k,.int .i64 v] 39))=w1 at*;generalize cG w tag 0=yl at*;obtain⟨V,zn⟩:=aO w.heap.size;rw[<-zn]at S;rw[<-zn];clear zn
 go_wp2_with (go_at_call 55;refine(bQ _ _ _ _).mono ?_;rintro e w' ⟨rfl,rfl⟩;rw[yk.out])
 with_reducible refine HD.out.mono ?_
 rintro e xn ⟨rfl,rfl⟩;have yj:=S.out.2.lt;have o0:w1.cell? ⟨V,0,none⟩=some (.int .i64 a):=S.cell 0;have o1:w1.cell? ⟨V,1,none⟩=some (.int .i64 k):=S.cell 1;have o2:w1.cell? ⟨V,2,none⟩=some (.int .i64 v):=S.cell 2;go_wp2_with fail
 with_reducible refine(HR.out _).mono ?_
 rintro e w2 ⟨rfl,zy⟩;have y:=Lib.hid (zu.below zy (bI.refl _ _));have zj:=Lib.hid (zk.below zy);have Q:=Lib.hid (S.below zy);clear zy zu zk S o0 o1 o2 yj HD;have yi:w2.cell? ⟨p,17+t,none⟩=some (.pointer (some ⟨pt t,0,none⟩)):=by rw[y.sh.cell,BN _ _ _ _ _ _ ht];rfl
 have yh:=y.sh.lt;have t4:(t:Int)<4:=by omega
 have P:=Q.out.2.lt;have o0:w2.cell? ⟨V,0,none⟩=some (.int .i64 a):=Q.cell 0;have o1:w2.cell? ⟨V,1,none⟩=some (.int .i64 k):=Q.cell 1;have o2:w2.cell? ⟨V,2,none⟩=some (.int .i64 v):=Q.cell 2;obtain⟨e,R,cr,D,cd,rows,q,_⟩:=y.th_ t ht trivial;have x:=Lib.hid q;have q6:w2.cell? ⟨pt t,6,none⟩=some (.int .i64 (F.tgl t)):=by rw[q.blk.cell];rfl
 have zi:=q.blk.lt;have O:¬cI (pt t) V:=fun e=>by have e':V=pt t:=e;have h1:=Q.out.1;have h2:=q.tg;rw[e']at h1;omega
 clear q;have k1:IntKind.i64.wrap (1-F.tgl t)=1-F.tgl t:=by rcases zt.tg t ht with e|e<;>rw[e]<;>rfl
 go_upto_region 8 with(fail)
 refine bK 11 (cI (pt t)) [10] (by kernel_rfl) (by kernel_rfl) ?_
 iterate 6
  refine aR ?_;constructor
  .intro w9 hw9 z;refine aS ?_;have x0:=(hw9.cell (p:=⟨V,0,none⟩) P O).trans o0;have x1:=(hw9.cell (p:=⟨V,1,none⟩) P O).trans o1;have x2:=(hw9.cell (p:=⟨V,2,none⟩) P O).trans o2;refine aW ?_;go_simp
   first
   |exact aE
 first|(with_reducible refine aC (fun K hK=>?_))|(refine aC (fun K hK=>?_))
 refine .inl ?_;apply Exists.intro;refine⟨cX,?_,hK _ _ _ _ ?_⟩
 .simp only[bJ,bM];refine⟨?_,fun w9 hw9 z=>?_⟩
  .first|rfl|(go_simp;done)
  refine aS ?_;have x6:=((cA z.1 (by kernel_rfl)).cell (p:=⟨pt t,6,none⟩) zi).trans q6;refine aW ?_;go_simp
  first
  |exact aE
 iterate 3
  clear hK K;refine aN ?_
  first|(with_reducible refine aC (fun K hK=>?_))|(refine aC (fun K hK=>?_))
  refine .inl ?_;apply Exists.intro;refine⟨cX,?_,hK _ _ _ _ ?_⟩
  .simp only[bJ,bM];refine⟨?_,fun w9 hw9 z=>?_⟩
   .first|rfl|(go_simp;done)
   refine aS ?_;have x0:=(hw9.cell (p:=⟨V,0,none⟩) P O).trans o0;have x1:=(hw9.cell (p:=⟨V,1,none⟩) P O).trans o1;have x2:=(hw9.cell (p:=⟨V,2,none⟩) P O).trans o2;refine aW ?_;go_simp
   first
   |exact aE
 clear hK K;refine aN ?_;refine bA undef (fun _ w'=>aY w' (pt t) 140 (vN t {F.th t with a:=a,k:=k,v:=v} (F.tgl t) (.slice R rows.length cr) (.slice D (F.th t).deeds.length cd) false)) ?_ ?_
 .intro w9 hw9 z;refine aS ?_;have HX:=Lib.hid (x.blk.below (cA z.1 (by kernel_rfl)) x.blk.lt);have r2:w9.cell? ⟨pt t,2,none⟩=some (.int .i64 (F.th t).a):=by rw[HX.cell];rfl
  have r3:w9.cell? ⟨pt t,3,none⟩=some (.int .i64 (F.th t).k):=by rw[HX.cell];rfl
  have r4:w9.cell? ⟨pt t,4,none⟩=some (.int .i64 (F.th t).v):=by rw[HX.cell];rfl
  have e2:=HX.frozen 2;have e3:=HX.frozen 3;have e4:=HX.frozen 4;have xs:=HX.lt;refine aW ?_;go_simp;exact⟨⟨rfl,((HX.set_ 2 (.int .i64 a)).set_ 3 (.int .i64 k)).set_ 4 (.int .i64 v)⟩,(((bP _ (pt t) 2 _).setCell (p:=⟨pt t,3,none⟩) (.inl rfl) _).setCell (p:=⟨pt t,4,none⟩) (.inl rfl) _).mono fun b Y=>by first|exact Y|exact⟨by decide,Y⟩⟩
 refine aZ ?_;rintro w9 hw9 Z;refine aQ ?_;refine aS ?_;obtain⟨wx,k0,yp,hf⟩:=Z.1 rfl;have r:=Lib.hid (hf.below (cA yp (by kernel_rfl)) hf.lt);clear Z hf k0 yp wx;have yg:=r.lt;have q5:w9.cell? ⟨pt t,5,none⟩=some (.int .i64 (F.th t).tg):=by rw[r.cell];rfl
 have f5:=r.frozen 5;have f:aD (cI (pt t)) w2 (w9.setCell ⟨pt t,5,none⟩ (.int .i64 (1-F.tgl t))):=hw9.trans (bP _ _ _ _);have zh:=Lib.hid (y.asked ht x a k v (1-F.tgl t) f (r.set_ 5 (.int .i64 (1-F.tgl t))));have zs:∀b,cI (pt t) b->yl b=110+t:=fun b Y=>by rw[show b=pt t from Y];exact x.tg
 have zg:=Lib.hid (zj.go (bI.refl _ _) f (fun b Y=>by unfold wM;rw[zs b Y];omega));have zf:=Lib.hid (Q.kept f (bI.refl _ _) (fun b Y=>by rw[zs b Y];omega));clear f zs r hw9 yi yh P o0 o1 o2 q6 zi y zj Q x O;refine aW ?_
 go_upto_region 9 with(fail)
 show Code.wp _ _ _ _ (w9.setCell ⟨pt t,5,none⟩ (.int .i64 (1-F.tgl t)));generalize w9.setCell ⟨pt t,5,none⟩ (.int .i64 (1-F.tgl t))=w4 at*;clear q5 f5 yg;refine aS ?_;obtain⟨yo,zw⟩:=zh.out;have ze:=Lib.hid yo;have zd:=Lib.hid (YQ zw p ht false);clear yo zw zh;refine aW ?_;go_wp2_with fail
 with_reducible refine zd.out.mono ?_
 rintro e w5 ⟨rfl,o,l,yn⟩;have L:=Lib.hid (ze.begun ht l yn rfl);have zc:=Lib.hid (zg.trans (l.mono (XQ ht)));have zb:=Lib.hid (zf.kept l.k l.t (fun b Y=>by unfold eJ at Y;omega));clear l yn ze zg zf zd;have yf:=L.sh.lt;have zz:w5.cell? ⟨p,21,none⟩=some (.int .i64 (F.steps:Int)):=by rw[L.sh.cell,xD]
 have ye:=L.sh.frozen 21;have xr:=zt.stp;have xq:=zt.hl;have k2:IntKind.i64.wrap ((F.steps:Int)+1)=(F.steps:Int)+1:=dE (by omega) (by omega);have X:=Lib.hid (L.setSt (F.steps+1));have zr:∀b,cI p b->o b=102:=fun b Y=>by rw[show b=p from Y];exact L.tp
 have za:=Lib.hid (zc.go (bI.refl _ _) (bP w5 p 21 (.int .i64 ((F.steps+1:Nat):Int))) (fun b Y=>by unfold wM;rw[zr b Y];omega));have G:=Lib.hid (zb.kept (bP w5 p 21 (.int .i64 ((F.steps+1:Nat):Int))) (bI.refl _ _) (fun b Y=>by rw[zr b Y];omega));rw[show((F.steps+1:Nat):Int)=(F.steps:Int)+1 by omega]at X za G;clear L zc zb zr
 go_upto_region 11 with(fail)
 show Code.wp _ _ _ _ (w5.setCell ⟨p,21,none⟩ (.int .i64 ((F.steps:Int)+1)));generalize w5.setCell ⟨p,21,none⟩ (.int .i64 ((F.steps:Int)+1))=w6 at*;clear yf zz ye k2;have T:=X.sh.lt;have E:=G.out.2.lt;have zq:w6.cell? ⟨p,22,none⟩=some (.slice H F.hist.length ch):=by rw[X.sh.cell,QW]
 have zz:w6.cell? ⟨p,21,none⟩=some (.int .i64 ((F.steps:Int)+1)):=by rw[X.sh.cell,xD];rfl
 have o0:w6.cell? (V,0)=a:=G.cell 0;have o1:w6.cell? (V,1)=k:=G.cell 1;have o2:w6.cell? ⟨V,2,none⟩=some (.int .i64 v):=G.cell 2;have C:¬iI H p:=fun e=>by have:=X.tH p e;have:=X.tp;omega
 have B:¬iI H V:=fun e=>by have:=X.tH V e;have:=G.out.1;omega
 refine bK 14 (iI H) [13] (by kernel_rfl) (by kernel_rfl) ?_
 iterate 12
  refine aR ?_;constructor
  .intro w9 hw9 z;refine aS ?_;have yz:=(hw9.cell (p:=⟨p,22,none⟩) T C).trans zq;have yy:=(hw9.cell (p:=⟨p,21,none⟩) T C).trans zz;have yd:=(hw9.cell (p:=⟨V,0,none⟩) E B).trans o0;have yc:=(hw9.cell (p:=⟨V,1,none⟩) E B).trans o1;have yb:=(hw9.cell (p:=⟨V,2,none⟩) E B).trans o2;refine aW ?_;go_simp
   first
   |exact aE
 refine bC CK (DM 61 [.int .i64 1,.int .i64 (t:Int),.int .i64 a,.int .i64 k,.int .i64 v,.int .i64 0,.int .i64 0,.int .i64 0,.int .i64 ((F.steps:Int)+1)]) ⟨_,0,rfl⟩ ?_ ?_
 .intro w9 hw9 U;refine aS ?_;have yz:=(hw9.cell (p:=⟨p,22,none⟩) T C).trans zq;have yy:=(hw9.cell (p:=⟨p,21,none⟩) T C).trans zz;have yd:=(hw9.cell (p:=⟨V,0,none⟩) E B).trans o0;have yc:=(hw9.cell (p:=⟨V,1,none⟩) E B).trans o1;have yb:=(hw9.cell (p:=⟨V,2,none⟩) E B).trans o2;refine aW ?_;go_simp;exact⟨⟨⟨_,rfl⟩,⟨_,rfl,aY.new _ _ _⟩⟩,aD.of_same ((Below.refl _ _).alloc (Nat.le_refl _) _)⟩
 refine bD (DN (F.hist.length+1)) (fun vv w'=>∃A' c',vv=.slice A' (F.hist.length+1) c'/\cU w' 0 61 9 A' (F.hist.length+1) c' (F.hist++[[.int .i64 1,.int .i64 (t:Int),.int .i64 a,.int .i64 k,.int .i64 v,.int .i64 0,.int .i64 0,.int .i64 0,.int .i64 ((F.steps:Int)+1)]])/\∀b,iI A' b->iI H b\/w6<=b) ⟨_,none,0,rfl⟩ ?_ ?_
 .rintro _ ⟨g9,rfl⟩;refine⟨aF,fun w9 hw9 U=>?_⟩;refine aS ?_;have M:=U;have Z:=U.2;clear U;obtain⟨w0,k0,k1,g',hv,i⟩:=Z.1 J;cases hv;have xp:=hw9.size;have zp:=i.below (cA k1 J) i.lt;have ya:=aH (X.hi.below (cA M.1 J));clear Z M i k0 k1;refine aW ?_;refine iM (.tmp 53) (.tmp 61) rfl underlying65 HI HZ HS HY rfl aJ aJ (A:=H) (n:=F.hist.length) (c:=ch) (rows:=F.hist) rfl ya (g:=g9) (c':=1) rfl (ys:=[.int .i64 1,.int .i64 (t:Int),.int .i64 a,.int .i64 k,.int .i64 v,.int .i64 0,.int .i64 0,.int .i64 0,.int .i64 ((F.steps:Int)+1)]) rfl ?_ ?_ I (Nat.zero_le _) ?_
  .intro j hj;rw[zp.cell j];simp
  .intro u hu;simp only[List.mem_cons,List.not_mem_nil,or_false]at hu;rcases hu with rfl|rfl|rfl|rfl|rfl|rfl|rfl|rfl|rfl<;>rfl
  intro g' xm w' ho xx xw;refine⟨⟨⟨_,_,rfl⟩,⟨_,_,rfl,ho,fun b Y=>?_⟩⟩,xx.mono fun b Y=>⟨aJ,Y⟩⟩;obtain⟨a,ha,rfl⟩:=Y;cases ha;rcases xw with⟨a,ha,e⟩|e
  .exact .inl ⟨a,ha,e⟩
  exact .inr (by show w6<=g';omega)
 refine aZ ?_;rintro _ ⟨A9,c9,rfl⟩ _ ⟨g9,rfl⟩ w9 hw9 Z;refine aQ ?_;refine aS ?_;obtain⟨w0,k0,k1,A8,c8,xv,zv,ym⟩:=Z.2.1 rfl;cases xv;have yx:=aH (zv.below (cA k1 J));have yw:=aH ym;clear Z zv k0 k1 ym w0;have xz:=aH (X.event yx hw9 yw);have zx:=X.tH;have zo:=cO w6 o 103;have yv:∀b,cI p b->cG w6 o 103 b=102:=fun b Y=>by rw[show b=p from Y];exact(zo p T).trans X.tp
 have xy:=aH ((za.go zo hw9 (fun b Y=>by unfold wM;rw[zx b Y];omega)).go (bI.refl _ _) (bP w9 p 22 (.slice A9 (F.hist.length+1) c9)) (fun b Y=>by unfold wM;rw[yv b Y];omega));have xu:=(hw9.cell (p:=⟨p,22,none⟩) T C).trans zq;have xt:=(hw9.frozen (p:=⟨p,22,none⟩) T C).trans (X.sh.frozen 22);have xo:=Nat.lt_of_lt_of_le T hw9.size;clear hw9 yx yw zo yv zx;refine aW ?_;go_wp2;go_ret;refine⟨rfl,_,xy.out,n,mp,A9,c9,by have:=HN.out;show n<=F.steps+1;omega,?_⟩;have hx:=xz.out;rw[show [.int .i64 1,.int .i64 (t:Int),.int .i64 a,.int .i64 k,.int .i64 v,.int .i64 0,.int .i64 0,.int .i64 0,.int .i64 ((F.steps:Int)+1)]=yE 1 t a k v 0 0 0 ((F.steps+1:Nat):Int) by unfold yE;rw[show((F.steps+1:Nat):Int)=(F.steps:Int)+1 by omega]]at hx;exact hx
theorem Ge(h:kK w tag F p gs go pt)(Y:lM N F)(U:N<=100000000)(t a k v:Int):
 Calls prog 22 #[(p,0),t,.agg #[a,k,v]] w fun e w'=>e=.returned (F.callE t a k v)/\SI w tag (if F.callE t a k v=0 then F.call t.toNat a k v else F) p gs go pt w':=by
 unfold pH.callE;by_cases W:0<=t/\t<4
 .have e:((t.toNat:Nat):Int)=t:=I;rw[iN (fun q=>q W)];by_cases d:(F.th t.toNat).does=0
  .rw[iN (fun q=>q d)];cases ho:cB a k v with
   |false=>
    rw[iP rfl,iN aJ];have Z:=JD h Y (t:=t.toNat) I a k v d ho;rw[e]at Z;refine Z.mono ?_;rintro V w' ⟨rfl,X⟩;exact⟨rfl,SI.same h X⟩
   |true=>
    rw[iN aJ,iP rfl];have Z:=WX h Y U (t:=t.toNat) I a k v d ho;rw[e]at Z;exact Z
  rw[iP d,iN aJ];have Z:=MA h Y (t:=t.toNat) I a k v d;rw[e]at Z;refine Z.mono ?_;rintro V w' ⟨rfl,X⟩;exact⟨rfl,SI.same h X⟩
 rw[iP W,iN aJ];refine(SK p t a k v w W).mono ?_;rintro V w' ⟨rfl,X⟩;exact⟨rfl,SI.same h X⟩
end
section
variable{w:World}{tag:Nat->Nat}{F:pH}{p gs mp go:Nat}{pt:Nat->Nat}{N:Nat}
theorem EC{X:Nat->Prop}{s:cN}{th:Nat->cQ}{Z:Nat->Bool}{Y:Nat->List (List Value)}(h:RS X w tag m s th tgl Z st hist Y p gs mp go n pt H ch):Calls prog 42 #[(p,0)] w fun e w'=>e=.returned [s.now 0]/\w=w':=by
 have W:w.cell? (p,0)=(gs,0):=by rw[h.sh.cell,Dq];rfl
 have V:w.cell? (gs,0)=[s.now 0]:=by rw[h.st_.cell,KU _ _ I]
 have U:=h.sh.lt;have T:=h.st_.lt;clear h
 go_enter func42,ntmps42
 go_wp2;go_ret;exact⟨rfl,rfl⟩
theorem Ou(h:kK w tag F p gs go pt)(Z:lM N F):Calls prog 42 #[(p,0)] w fun e w'=>e=.returned [F.V]/\w=w':=by
 obtain⟨n,X,H,W,U,Y⟩:=h;have:=EC Y;rw[Z.inv.ver]at this;exact this
theorem Fr(h:kK w tag F p gs go pt)(Z:lM N F)(X:N<=100000000)(Y:AR F)(W:t<4)(d:(F.th t).does≠0):
 Calls prog 24 #[.pointer (some ⟨p,0,none⟩),.int .i64 (t:Int)] w fun e w'=>e=.returned (.tuple #[.agg #[.int .i64 (if(F.loc t).fin=true then(F.loc t).t.o1 else 0),.int .i64 (if(F.loc t).fin=true then(F.loc t).t.o2 else 0)],.bool (F.loc t).fin,.int .i64 0])/\SI w tag (F.step t) p gs go pt w':=by
 cases hf:(F.loc t).fin with
 |false=>simpa using YZ h Z X Y W d hf
 |true=>simpa using VG h Z X Y W d hf
structure aAT (w:World) (tag:Nat->Nat) (F0:pH) (t n N:Nat) (p gs go:Nat) (pt:Nat->Nat) (k:Nat) (wr:World) (tagr:Nat->Nat) (F:pH):Prop where
 rs:kK wr tagr F p gs go pt
 kg:Kg wM w tag wr tagr
 ok:lM (N+k) F
 sb:AR F
 r1:(pH.run t n F0).1=(pH.run t (n-k) F).1
 r2:(pH.run t n F0).2=(pH.run t (n-k) F).2+k
theorem aCk(h:kK w tag F p gs go pt)(D:lM N F)(a:N+1000<=100000000)(C:AR F)(z:t<4)(n:Nat)(hn:n<=1000):
 Calls prog 46 #[(p,0),t,n] w fun e w'=>e=.returned (.tuple #[((pH.run t n F).2:Int),(0:Int)])/\SI w tag (pH.run t n F).1 p gs go pt w':=by
 have Q:Hid (∃Z σr,aAT w tag F t n N p gs go pt 0 w Z σr):=aH ⟨tag,F,h,Kg.refl _ _ _,D,C,rfl,rfl⟩;have P:bV (t:Int) 0 3=true:=by unfold bV;rw[decide_eq_true_eq];omega
 have y:=aH P;have O:bV (n:Int) 0 1000=true:=by unfold bV;rw[decide_eq_true_eq];omega
 have x:=aH O;obtain⟨q,T⟩:=aO ((pH.run t n F).1);obtain⟨c1,S⟩:=aO ((pH.run t n F).2);rw[<-T,<-S];have M:=aH T;have L:=aH S;clear h D C T S P O
 go_enter func46,ntmps46
 go_wp2_with fail
 with_reducible refine(bQ _ _ _ _).mono ?_
 rintro e l ⟨rfl,rfl⟩;rw[y.out];go_wp2_with fail
 with_reducible refine(bQ _ _ _ _).mono ?_
 rintro e l ⟨rfl,rfl⟩;rw[x.out];go_wp2;obtain⟨A,rfl⟩:=aO (w:World)
 go_loopw [8] (fun i wr=>∃k:Nat,k<=n/\i=.int .i64 k/\Hid (∃Z σr,aAT A tag F t n N p gs go pt k wr Z σr)) (fun i _=>n-(intOf i).toNat)
 case atStart=>exact⟨0,I,rfl,Q⟩
 case round=>
  clear Q;obtain⟨k,b,rfl,H⟩:=hrel;obtain⟨Z,σr,X⟩:=H.out;have Y:=aH X;clear H X;by_cases f:k<n
  .have m:(k:Int)<n:=I;have B:=aH (xI Y.rs Y.ok z);by_cases d:(σr.th t).does=0
   .have R:=Mq t (n-k) σr d;have W:Hid (SI A tag q p gs go pt wr):=aH (by
     rw[M.out,Y.r1,R];exact⟨Z,Y.kg,Y.rs⟩)
    have V:Hid (c1=k):=aH (by rw[L.out,Y.r2,R];omega);have v:Hid (Calls prog 19 #[(p,0),t] wr fun e w'=>e=.returned (0:Int)/\wr=w'):=aH (by have:=B.out;rw[d]at this;exact this);clear B R d;go_wp2_with fail
    with_reducible refine v.out.mono ?_
    rintro e j ⟨rfl,rfl⟩;go_wp2
    go_ret2
    exact⟨by rw[V.out];rfl,W.out⟩
   have c:¬((σr.th t).does:Int)=0:=I;have K:=aH (Fr Y.rs Y.ok I Y.sb z d);have U:=aH d;clear d;go_wp2_with fail
   with_reducible refine B.out.mono ?_
   rintro e j ⟨rfl,rfl⟩;go_wp2_with fail
   with_reducible refine K.out.mono ?_
   rintro e g ⟨rfl,G⟩;have u:Hid (∃Z σr,aAT A tag F t n N p gs go pt (k+1) g Z σr):=aH (by
    obtain⟨E,s,r⟩:=G;obtain⟨R,o⟩:=Mw t (n-k-1) σr U;rw[show n-k-1+1=n-k by omega]at R o;refine⟨E,σr.step t,r,Y.kg.trans s,FY (N:=N+k) Y.ok z U I,PK Y.sb Y.ok.inv.ok z,?_,?_⟩
    .rw[Y.r1,R,show n-(k+1)=n-k-1 by omega]
    rw[Y.r2,o,show n-(k+1)=n-k-1 by omega];omega)
   clear G K B U;go_wp2;go_roundw
   case rel=>exact⟨k+1,I,aG,u⟩
   case measure=>simp [intOf];omega
  obtain rfl:k=n:=I;have m:¬(k:Int)<k:=I;have W:Hid (SI A tag q p gs go pt wr):=aH (by
   rw[M.out,Y.r1,Nat.sub_self];exact⟨Z,Y.kg,Y.rs⟩)
  have V:Hid (c1=k):=aH (by rw[L.out,Y.r2,Nat.sub_self];show 0+k=k;omega);go_wp2
  go_ret2
  exact⟨by rw[V.out];rfl,W.out⟩
theorem aCE(p:Nat)(t n:Int)(w:World)(X:¬(0<=t/\t<4)):Calls prog 46 #[(p,0),t,n] w fun e w'=>e=.returned (.tuple #[(0:Int),(2:Int)])/\w=w':=by
 have Z:bV t 0 3=false:=by unfold bV;rw[decide_eq_false_iff_not];omega
 have Y:=aH Z;clear Z X
 go_enter func46,ntmps46
 go_wp2_with (go_at_call 55;refine(bQ _ _ _ _).mono ?_;rintro e w' ⟨rfl,rfl⟩;rw[Y.out])
 go_ret2
 exact⟨rfl,rfl⟩
theorem aBy(p:Nat)(t n:Int)(w:World)(U:0<=t/\t<4)(T:¬(0<=n/\n<=1000)):Calls prog 46 #[(p,0),t,n] w fun e w'=>e=.returned (.tuple #[(0:Int),(1:Int)])/\w=w':=by
 have Z:bV t 0 3=true:=by unfold bV;rw[decide_eq_true_eq];omega
 have X:=aH Z;have Y:bV n 0 1000=false:=by unfold bV;rw[decide_eq_false_iff_not];omega
 have W:=aH Y;clear Z Y U T
 go_enter func46,ntmps46
 go_wp2_with fail
 with_reducible refine(bQ _ _ _ _).mono ?_
 rintro e V ⟨rfl,rfl⟩;rw[X.out];go_wp2_with fail
 with_reducible refine(bQ _ _ _ _).mono ?_
 rintro e V ⟨rfl,rfl⟩;rw[W.out];go_wp2
 go_ret2
 exact⟨rfl,rfl⟩
def lG(t n:Int):Int:=if¬(0<=t/\t<4)then 2 else if¬(0<=n/\n<=1000)then 1 else 0
theorem aCu(h:kK w tag F p gs go pt)(Y:lM N F)(V:N+1000<=100000000)(X:AR F)(t n:Int):
 Calls prog 46 #[.pointer (some ⟨p,0,none⟩),.int .i64 t,.int .i64 n] w fun e w'=>e=.returned (.tuple #[.int .i64 (if lG t n=0 then((pH.run t.toNat n.toNat F).2:Int)else 0),.int .i64 (lG t n)])/\SI w tag (if lG t n=0 then(pH.run t.toNat n.toNat F).1 else F) p gs go pt w':=by
 by_cases Z:0<=t/\t<4
 .by_cases hn:0<=n/\n<=1000
  .have e:lG t n=0:=by unfold lG;rw[if_neg (fun q=>q Z),if_neg (fun q=>q hn)]
   rw[e,if_pos rfl,if_pos rfl];have W:=aCk h Y V X (t:=t.toNat) (by omega) n.toNat (by omega);rw[show((t.toNat:Nat):Int)=t by omega,show((n.toNat:Nat):Int)=n by omega]at W;exact W
  .have e:lG t n=1:=by unfold lG;rw[if_neg (fun q=>q Z),if_pos hn]
   rw[e,if_neg (by decide),if_neg (by decide)];refine(aBy p t n w Z hn).mono ?_;rintro e w' ⟨rfl,rfl⟩;exact⟨rfl,SI.same h (Below.refl _ _)⟩
 .have e:lG t n=2:=by unfold lG;rw[if_pos Z]
  rw[e,if_neg (by decide),if_neg (by decide)];refine(aCE p t n w Z).mono ?_;rintro e w' ⟨rfl,rfl⟩;exact⟨rfl,SI.same h (Below.refl _ _)⟩
end
section
variable{w w':World}{tag tag':Nat->Nat}{F:pH}{p gs mp go:Nat}{pt:Nat->Nat}{N:Nat}{m:Nat->Int}{s:cN}{th:Nat->cQ}{tgl:Nat->Int}{fins:Nat->Bool}{st:Nat}{hist:List (List Value)}{of:Nat->List (List Value)}{n:Nat}{H:Option Addr}{ch:Nat}
theorem RS.fell{s':cN}{X:Nat}(h:RS IR w tag m s th tgl fins st hist of p gs mp go n pt H ch)(S:w<=X)(R:aY w' gs 74 (kD s' X))(Q:gP s'.want X 0 w')(W:aD (nQ gs) w w'):RS IR w' (cG w tag 101) m s' th tgl fins st hist of p gs X go n pt H ch:=by
 have Z:=cO w tag 101;have Y:∀b,nQ gs b->tag b=100:=fun b V=>by rw[show b=gs from V];exact h.ts
 refine⟨(W.block p h.sh.lt fun e=>by have:=Y _ e;have:=h.tp;omega).trans h.sh,R,Q.mono (Nat.zero_le _),h.om.kept W Z (fun b e=>by have:=Y b e;omega),h.hi.keptT W h.tH (fun b e=>by have:=Y b e;omega),(Z p h.sh.lt).trans h.tp,(Z gs h.st_.lt).trans h.ts,dT _ _ _ S,h.hi.tagT Z h.tH,fun u U T=>(h.th_ u U T).kept W Z (fun b e=>by have:=Y b e;omega)⟩
def kU(v:Int):Array Value:= #[.int .u64 0,[v],.int .u64 0,.int .u64 0,.int .u64 0,.int .u64 0,.int .u64 0,.int .u64 0,.int .u64 0,.int .u64 0,.int .u64 0,.int .u64 0,.int .u64 0,.int .u64 0,.int .u64 0,.int .u64 0]
theorem aAa(v:Int){i:Nat}(h:i<16):(kU v)[i]? =some (.int .u64 (kA v i)):=by
 rcases(by omega:i=0\/i=1\/i=2\/i=3\/i=4\/i=5\/i=6\/i=7\/i=8\/i=9\/i=10\/i=11\/i=12\/i=13\/i=14\/i=15)with rfl|rfl|rfl|rfl|rfl|rfl|rfl|rfl|rfl|rfl|rfl|rfl|rfl|rfl|rfl|rfl<;>rfl
theorem aAY(W:Nat)(m:Nat->Int)(V:Nat->Nat)(U:Int)(E O:Value)(v:Int):fF (yJ W m V U E O) 1 (kU v).toList=yJ W (kA v) V U E O:=by
 refine Array.ext_getElem? fun i=>?_
 have T:(yJ W m V U E O).size=24:=Cv _ _ _ _ _ _;by_cases X:i<24
 .rw[iR _ _ _ _ (by rw[T];exact X)];rw[yJ,cW X,yJ,cW X];by_cases Z:1<=i/\i<1+(kU v).toList.length
  .rw[iP Z];have S:i<17:=by have:(kU v).toList.length=16:=rfl;rw[this]at Z;omega
   rw[Array.getElem?_toList,aAa v (i:=i-1) I];unfold As;rw[iN I,iP S]
  rw[iN Z];have S:¬(1<=i/\i<17):=by have:(kU v).toList.length=16:=rfl;rw[this]at Z;omega
  unfold As;by_cases Y:i=0
  .rw[iP Y,iP Y]
  have R:¬i<17:=I;rw[iN Y,iN Y,iN R,iN R]
 rw[Array.getElem?_eq_none (by rw[fA,T];omega),Array.getElem?_eq_none (by rw[Cv];omega)]
theorem aBd(v:Int):(prog.info? 32).map (·.size)=some (kU v).size:=J
theorem aAW(v:Int):(kU v).all (·.oneCell')=true:=J
theorem aCs(Z:Nat->Nat){k:Nat}(h:k<4)(w:World):(Instr.index 64 (.agg #[(Z 0,0),(Z 1,0),(Z 2,0),(Z 3,0)]) k).run prog w=.ok (Z k,0) w:=by
 rcases(by omega:k=0\/k=1\/k=2\/k=3)with rfl|rfl|rfl|rfl
 all_goals kernel_rfl
structure aBt (w:World) (tag:Nat->Nat) (m:Nat->Int) (s:cN) (th:Nat->cQ) (tgl:Nat->Int) (st:Nat) (hist:List (List Value)) (of:Nat->List (List Value)) (p gs mp go n:Nat) (pt:Nat->Nat) (H:Option Addr) (ch:Nat) (k:Nat) (wr:World) (tagr:Nat->Nat):Prop where
 rs:RS IR wr tagr m s (fallK th k) tgl (fun _=>false) st hist of p gs mp go n pt H ch
 kg:Kg wM w tag wr tagr
theorem aBX(h:kK w tag F p gs go pt)(f:lM N F)(hN:N+1<=100000000)(x:Nat)(hx:x<18446744073709551616):
 Calls prog 49 #[(p,0),[x]] w fun e w'=>e=.returned (.tuple #[])/\SI w tag (F.crash x) p gs go pt w':=by
 obtain⟨n,mp,H,ch,hn,hr⟩:=h;have ye:=aH hr;have HN:=Lib.hid hn;have zo:=Lib.hid f.inv;have xs:=f.stp;have xr:=f.hl;have yd:=hr.sh.lt;have E:w.cell? ⟨p,21,none⟩=some (.int .i64 (F.steps:Int)):=by rw[hr.sh.cell,xD]
 have yc:=hr.sh.frozen 21;have k1:IntKind.i64.wrap ((F.steps:Int)+1)=(F.steps:Int)+1:=dE (by omega) (by omega);have Y:=Lib.hid (hr.setSt (F.steps+1));have zn:∀b,cI p b->tag b=102:=fun b U=>by rw[show b=p from U];exact hr.tp
 have zv:=Lib.hid ((Kg.refl wM w tag).go (bI.refl _ _) (bP w p 21 (.int .i64 ((F.steps+1:Nat):Int))) (fun b U=>by unfold wM;rw[zn b U];omega));rw[show((F.steps+1:Nat):Int)=(F.steps:Int)+1 by omega]at Y zv;obtain⟨i0,yu,yt,yr,yq⟩:=EH;have HI:=Lib.hid yu;have HZ:=Lib.hid yt;have HS:=Lib.hid yr;have HY:=Lib.hid yq;clear yu yt yr yq hr hn zn ye f
 go_enter func49,ntmps49
 go_upto_region 1 with(fail)
 show Code.wp _ _ _ _ (w.setCell ⟨p,21,none⟩ (.int .i64 ((F.steps:Int)+1)));generalize w.setCell ⟨p,21,none⟩ (.int .i64 ((F.steps:Int)+1))=w2 at*;clear yd E yc k1;have X:=Y.sh.lt;have y:w2.cell? ⟨p,22,none⟩=some (.slice H F.hist.length ch):=by rw[Y.sh.cell,QW]
 have E:w2.cell? ⟨p,21,none⟩=some (.int .i64 ((F.steps:Int)+1)):=by rw[Y.sh.cell,xD];rfl
 have T:¬iI H p:=fun e=>by have:=Y.tH p e;have:=Y.tp;omega
 refine bK 12 (iI H) [11] J J ?_
 iterate 10
  refine aR ?_;constructor
  .intro w9 hw9 hm9;refine aS ?_;have zm:=(hw9.cell (p:=⟨p,22,none⟩) X T).trans y;have zl:=(hw9.cell (p:=⟨p,21,none⟩) X T).trans E;refine aW ?_;go_simp
   first
   |exact aE
 refine bC CK (DM 61 [.int .i64 3,.int .i64 0,.int .i64 0,.int .i64 0,.int .i64 0,.int .i64 0,.int .i64 0,.int .i64 0,.int .i64 ((F.steps:Int)+1)]) ⟨_,0,rfl⟩ ?_ ?_
 .intro w9 hw9 W;refine aS ?_;have zm:=(hw9.cell (p:=⟨p,22,none⟩) X T).trans y;have zl:=(hw9.cell (p:=⟨p,21,none⟩) X T).trans E;refine aW ?_;go_simp;exact⟨⟨⟨_,rfl⟩,⟨_,rfl,aY.new _ _ _⟩⟩,aD.of_same ((Below.refl _ _).alloc (Nat.le_refl _) _)⟩
 refine bD (DN (F.hist.length+1)) (fun vv w'=>∃A' c',vv=.slice A' (F.hist.length+1) c'/\cU w' 0 61 9 A' (F.hist.length+1) c' (F.hist++[[.int .i64 3,.int .i64 0,.int .i64 0,.int .i64 0,.int .i64 0,.int .i64 0,.int .i64 0,.int .i64 0,.int .i64 ((F.steps:Int)+1)]])/\∀b,iI A' b->iI H b\/w2<=b) ⟨_,none,0,rfl⟩ ?_ ?_
 .rintro _ ⟨g9,rfl⟩;refine⟨aF,fun w9 hw9 W=>?_⟩;refine aS ?_;have O:=W;have V:=W.2;clear W;obtain⟨w0,k0,k1,g',hv,B⟩:=V.1 J;cases hv;have xq:=hw9.size;have zu:=B.below (cA k1 J) B.lt;have yb:=aH (Y.hi.below (cA O.1 J));clear V O B k0 k1;refine aW ?_;refine iM (.tmp 17) (.tmp 23) rfl underlying65 HI HZ HS HY rfl aJ aJ (A:=H) (n:=F.hist.length) (c:=ch) (rows:=F.hist) rfl yb (g:=g9) (c':=1) rfl (ys:=[.int .i64 3,.int .i64 0,.int .i64 0,.int .i64 0,.int .i64 0,.int .i64 0,.int .i64 0,.int .i64 0,.int .i64 ((F.steps:Int)+1)]) rfl ?_ ?_ I (Nat.zero_le _) ?_
  .intro j hj;rw[zu.cell j];simp
  .intro u hu;simp only[List.mem_cons,List.not_mem_nil,or_false]at hu;rcases hu with rfl|rfl|rfl|rfl|rfl|rfl|rfl|rfl|rfl<;>rfl
  intro g' xn w' ho xv xu;refine⟨⟨⟨_,_,rfl⟩,⟨_,_,rfl,ho,fun b U=>?_⟩⟩,xv.mono fun b U=>⟨aJ,U⟩⟩;obtain⟨a,ha,rfl⟩:=U;cases ha;rcases xu with⟨a,ha,e⟩|e
  .exact .inl ⟨a,ha,e⟩
  exact .inr (by show w2<=g';omega)
 refine aZ ?_;rintro _ ⟨m,l,rfl⟩ _ ⟨g9,rfl⟩ w9 hw9 V;refine aQ ?_;refine aS ?_;obtain⟨w0,k0,k1,A8,c8,xt,zy,yp⟩:=V.2.1 rfl;cases xt;have zk:=aH (zy.below (cA k1 J));have zj:=aH yp;clear V zy k0 k1 yp w0;have M:=aH (Y.event zk hw9 zj);have zz:=Y.tH;have zt:=cO w2 tag 103;have zi:∀b,cI p b->cG w2 tag 103 b=102:=fun b U=>by rw[show b=p from U];exact(zt p X).trans Y.tp
 have zh:=aH ((zv.go zt hw9 (fun b U=>by unfold wM;rw[zz b U];omega)).go (bI.refl _ _) (bP w9 p 22 (.slice m (F.hist.length+1) l)) (fun b U=>by unfold wM;rw[zi b U];omega));have zg:=(hw9.cell (p:=⟨p,22,none⟩) X T).trans y;have zf:=(hw9.frozen (p:=⟨p,22,none⟩) X T).trans (Y.sh.frozen 22);have ya:=Nat.lt_of_lt_of_le X hw9.size;clear hw9 zk zj zt zi zz Y zv y E T X;refine aW ?_
 go_upto_region 2 with(fail)
 show Code.wp _ _ _ _ (w9.setCell (p,22) (.slice m (F.hist.length+1) l));generalize w9.setCell (p,22) (.slice m (F.hist.length+1) l)=w3 at*;generalize cG w2 tag 103=zx at*;clear zg zf ya;have c0:w3.cell? (p,0)=(gs,0):=by rw[M.sh.cell,Dq];rfl
 have xz:=M.sh.lt;have ze:=aH (aCA gs mp x F.s w3 M.st_ hx);go_wp2_with fail
 with_reducible refine ze.out.mono ?_
 rintro e w4 ⟨rfl,m',yo,yn,ym,zr⟩;have L:=aH (M.fell yo yn ym zr);have zd:=aH (zh.go (cO w3 zx 101) zr (fun b U=>by rw[show b=gs from U];unfold wM;rw[M.ts];omega));clear yo yn ym zr M zh ze c0 xz;generalize cG w3 zx 101=zw at*;have HV:=aH (EC L);obtain⟨v,hv⟩:=aO ((F.s.crash x).now 0);rw[<-hv]at HV;have xy:=aH hv;clear hv;have zc:Hid (w4.there p 1 (kU v).size):=aH (L.sh.there (by rw[Cv];show 1+16<=24;omega));have C:aD (cI p) w4 (w4.setCells p 1 (kU v).toList):=cE (S:=cI p) (.inl rfl) 1 _;have Q:Hid (RS IR (w4.setCells p 1 (kU v).toList) zw (kA v) (F.s.crash x) F.th F.tgl (fun _=>false) (F.steps+1) _ F.of p gs m' go n pt m l):=aH (L.shop C (by
  have:=aY.setCells (vs:=(kU v).toList) (o:=1) L.sh;rw[aAY]at this;exact this))
 have zb:=aH (zd.go (bI.refl _ _) C (fun b U=>by rw[show b=p from U];unfold wM;rw[L.tp];omega));have za:=aH (aBd v);have yz:=aH (aAW v);clear C;go_wp2_with fail
 with_reducible refine HV.out.mono ?_
 rintro e xm ⟨rfl,rfl⟩
 go_wp2_with (with_reducible refine oI 32 p 1 (kU v) J J zc.out za.out yz.out ?_;generalize w4.setCells p 1 (kU v).toList=w5 at*;have t0:w5.cell? (p,17)=(pt 0,0):=(Q.out.sh.cell 17).trans (BN (t:=0) _ _ _ _ _ _ I);have t1:w5.cell? (p,18)=(pt 1,0):=(Q.out.sh.cell 18).trans (BN (t:=1) _ _ _ _ _ _ I);have t2:w5.cell? (p,19)=(pt 2,0):=(Q.out.sh.cell 19).trans (BN (t:=2) _ _ _ _ _ _ I);have t3:w5.cell? (p,20)=(pt 3,0):=(Q.out.sh.cell 20).trans (BN (t:=3) _ _ _ _ _ _ I);have xx:=Q.out.sh.lt)
 have yy:Hid (∃Z,aBt w tag (kA v) (F.s.crash x) F.th F.tgl (F.steps+1) (F.hist++[[.int .i64 3,.int .i64 0,.int .i64 0,.int .i64 0,.int .i64 0,.int .i64 0,.int .i64 0,.int .i64 0,.int .i64 ((F.steps:Int)+1)]]) F.of p gs m' go n pt m l 0 w5 Z):=aH ⟨zw,Q.same (fun u _=>iN I) (fun _ _=>rfl) (fun _ _=>rfl),zb.out⟩;clear L zd Q zb HV zc za yz xx;clear t0 t1 t2 t3;have HL:Hid (∀k:Nat,k<4->∀w,(Instr.index 64 (.agg #[(pt 0,0),(pt 1,0),(pt 2,0),(pt 3,0)]) k).run prog w=.ok (pt k,0) w):=aH (fun k hk w=>aCs pt hk w)
 go_loopw [43] (fun i wr=>∃k:Nat,k<=4/\i=.int .i64 k/\Hid (∃Z,aBt w tag (kA v) (F.s.crash x) F.th F.tgl (F.steps+1) (F.hist++[[.int .i64 3,.int .i64 0,.int .i64 0,.int .i64 0,.int .i64 0,.int .i64 0,.int .i64 0,.int .i64 0,.int .i64 ((F.steps:Int)+1)]]) F.of p gs m' go n pt m l k wr Z)) (fun i _=>4-(intOf i).toNat)
 case atStart=>exact⟨0,I,rfl,yy⟩
 case round=>
  clear yy;obtain⟨k,hk,rfl,yl⟩:=hrel;obtain⟨Z,yk⟩:=yl.out;have z:=aH yk;clear yl yk;by_cases G:k<4
  .have q3:(k:Int)<4:=I;have xp:=HL.out k G;obtain⟨e,R,cr,D,cd,rows,K,P,zq,yj,yi⟩:=z.rs.th_ k G trivial;rw[Dy]at K P zq;have q:wr.cell? (pt k,1)=some (.slice R rows.length cr):=by rw[K.blk.cell];rfl
   have xo:=K.blk.lt;by_cases d:(F.th k).does=0
   .rw[QS d]at P;have xw:rows=[]:=by cases rows with|nil=>rfl|cons _ _=>exact P.elim
    subst xw;have yx:wr.cell? (pt k,1)=some (.slice R 0 cr):=q;have zs:Hid (∃Z,aBt w tag (kA v) (F.s.crash x) F.th F.tgl (F.steps+1) (F.hist++[[.int .i64 3,.int .i64 0,.int .i64 0,.int .i64 0,.int .i64 0,.int .i64 0,.int .i64 0,.int .i64 0,.int .i64 ((F.steps:Int)+1)]]) F.of p gs m' go n pt m l (k+1) wr Z):=aH ⟨Z,by rw[<-EQ F.th k d];exact z.rs,z.kg⟩;clear K P zq yj yi q d z;go_wp2;go_roundw
    case rel=>exact⟨k+1,I,aG,zs⟩
    case measure=>simp [intOf];omega
   obtain⟨c,cs,yh,_⟩:=uW zo G d;rw[yh]at P;cases rows with
   |nil=>exact P.elim
   |cons r rows=>
    have yx:wr.cell? (pt k,1)=some (.slice R (rows.length+1) cr):=q;have q5:(0:Int)<(rows.length:Int)+1:=I;have yw:=aH (YQ K p G true);have yv:=aH d;clear K P zq yj yi q d yh;go_wp2_with fail
    with_reducible refine yw.out.mono ?_
    rintro e2 w6 ⟨rfl,yg,zp,yf⟩;have zs:Hid (∃Z,aBt w tag (kA v) (F.s.crash x) F.th F.tgl (F.steps+1) (F.hist++[[.int .i64 3,.int .i64 0,.int .i64 0,.int .i64 0,.int .i64 0,.int .i64 0,.int .i64 0,.int .i64 0,.int .i64 ((F.steps:Int)+1)]]) F.of p gs m' go n pt m l (k+1) w6 Z):=aH ⟨yg,by rw[<-FC F.th k yv.out];exact(z.rs.less (TP k)).begun G zp yf rfl,z.kg.trans (zp.mono (XQ G))⟩;clear zp yf yw z yv;go_wp2;go_roundw
    case rel=>exact⟨k+1,I,aG,zs⟩
    case measure=>simp [intOf];omega
  obtain rfl:k=4:=I;have HF:Hid (SI w tag (F.crash x) p gs go pt wr):=aH ⟨Z,z.kg,n,m',m,l,by have:=HN.out;show n<=F.steps+1;omega,by
   have hx:=z.rs.same (th':=(F.crash x).th) (tgl':=(F.crash x).tgl) (fins':=fun _=>false) (fun u hu=>(iP hu).symm) (fun _ _=>rfl) (fun _ _=>rfl);rw[xy.out,show [.int .i64 3,.int .i64 0,.int .i64 0,.int .i64 0,.int .i64 0,.int .i64 0,.int .i64 0,.int .i64 0,.int .i64 ((F.steps:Int)+1)]=yE 3 0 0 0 0 0 0 0 ((F.steps+1:Nat):Int) by unfold yE;rw[show((F.steps+1:Nat):Int)=(F.steps:Int)+1 by omega]]at hx;exact hx⟩
  clear z;go_wp2;exact bodyPost_end (v:=.tuple #[]) (by simp [results,results49,go_sem]) rfl ⟨rfl,HF.out⟩
