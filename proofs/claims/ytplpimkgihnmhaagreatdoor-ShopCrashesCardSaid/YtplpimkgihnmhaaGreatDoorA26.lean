/-
  Part of a proof: ShCf ShCg ShCh ShOf ShCi ShL ShG. For all values.
-/
import Derived.Test.YtplpimkgihnmhaaGreatDoorA25
set_option maxRecDepth 100000
set_option maxHeartbeats 4000000
set_option linter.all false
namespace Go.Proofs.YtplpimkgihnmhaaGreatDoor
open Go.Proofs.Tryz Go.RowKit
variable{x:Int}{tag:Nat->Nat}{w':World}
section
attribute [local go_sem↓] Go.wp_at_zero Go.wp_at_succ
section
variable{w:World}{tag:Nat->Nat}{t:Nat}{Z:cQ}{last:Int}{e:mG}{gs mp:Nat}{m:Nat->Int}{pt:Nat->Nat}{s:cN}{st:Int}{E O:Value}{R:Option Addr}{cr:Nat}{D:Option Addr}{cd:Nat}{rows:List (List Value)}{cs:List Cl}{r:List Value}
theorem VC(H:RC w tag w tag t Z last e gs mp m pt s st E O R cr D cd rows [] false)(hn:iF w tag t Z e)(d:Z.does=6)(hr:(Cl.asks Z.i).At w tag e r)(zt:Z.i<4)(hm:m (3+2*Z.i)=0\/m (3+2*Z.i)=1\/m (3+2*Z.i)=2)(hz:¬(m (3+2*Z.i)≠0/\m (3+2*Z.i)-1≠jA Z.r Z.i))(hc:vV Z):
 ∃N F,r=td 6 (fv N F)/\Calls prog N F w fun e' w'=>e'=.returned (.tuple #[])/\gE w tag t last e gs mp pt st E O (stp t m s Z) w':=by
 obtain⟨bp,bi,bw,bq,bl,bv,rfl,hp,hi,hw,hq,hl,hv⟩:=hr;refine⟨_,_,rfl,?_⟩;simp only[cR];rw[show stp t m s Z=⟨m,s,(Z.next 4 8).all t,false⟩ by simp only[stp,d];exact iN hz];have h4:=H.t4;have HH:=aH H;simp only[iF,d]at hn;obtain⟨n1,n2,n3⟩:=hn;have zs:rows=[]:=by have:=H.rs.len;simpa using this
 subst zs;have C:w.cell? (bp,0)=(e.p,0):=hp.cell;have g:=hp.2.lt;have f:w.cell? (bq,0)=(e.q,0):=hq.cell;have zr:=hq.2.lt;have A:w.cell? (bw,0)=some (.slice (some ⟨e.w,0,none⟩) 32 32):=hw.cell;have z:=hw.2.lt;have T:=hi.cell;have S:=hi.2.lt;have c:w.cell? (bl,0)=(e.l,0):=hl.cell;have zq:=hl.2.lt;have a:w.cell? (bv,0)=(e.v,0):=hv.cell;have zp:=hv.2.lt;have p0:=H.cp0;have lp:=H.sh.lt;have ls:=H.st_.lt;obtain⟨wt,We,wb,wu⟩:=n3;have lw:=wb.lt;have L:w.cell? (e.w,26)=[Z.r 26]:=by rw[wb.cell,wu.get _ I]
 have zo:=wu.bd 26 I;obtain⟨bb,o⟩:=aO (gO (Z.r 26).toNat Z.i:Bool);have zz:Hid (∀W,Calls prog 102 #[[Z.r 26],Z.i] W fun e w'=>e=.returned bb/\Below W W w'):=aH (fun W=>by
  have:=kJ (Z.r 26).toNat (Z.i:Int) W I;rw[show(((Z.r 26).toNat:Nat):Int)=Z.r 26 by omega,<-o]at this;exact this)
 have zn:Hid (jA Z.r Z.i=if bb=true then 1 else 0):=aH (by unfold jA;rw[o]);have zm:=aH (show lF w tag t e.w Z.r from⟨wt,We,wb,wu⟩);have HN:=aH (And.intro n1 n2);have HZ:=aH hz;obtain⟨G,hG⟩:=aO (m (3+2*Z.i):Int);have zy:w.cell? (e.p,1+(3+2*Z.i))=[G]:=by rw[hG];exact H.cram (k:=3+2*Z.i) I
 rw[<-hG]at hm HZ;have HG:=aH hG;have HM:=aH hm;have k1:IntKind.i64.wrap (2*(Z.i:Int))=2*Z.i:=dE I I;have k2:IntKind.i64.wrap (2+2*(Z.i:Int))=2+2*Z.i:=dE I I;have yt:IntKind.i64.wrap (2+2*(Z.i:Int)+1)=2+2*Z.i+1:=dE I I;have k3:(2+2*(Z.i:Int)+1).toNat=3+2*Z.i:=I;have k4:2+2*(Z.i:Int)+1<16:=I;have k5:0<=2+2*(Z.i:Int)+1:=I;have k6:IntKind.i64.wrap ((Z.i:Int)+1)=(Z.i:Int)+1:=dE I I;have a0:IntKind.i64.wrap 0=0:=by decide
 have a1:IntKind.i64.wrap 1=1:=by decide
 have a2:IntKind.i64.wrap 2=2:=by decide
 have HD:=aH d;have zl:=aH zt;have ys:=aH (And.intro hp (And.intro hi (And.intro hw (And.intro hq (And.intro hl hv)))));have zk:=aH hc;clear H d n1 n2 wt wb wu zo o hz hm hG zt hp hi hw hq hl hv hc
 go_enter func152,ntmps152
 obtain⟨B,hB⟩:=aO (w:Nat);have zx:=aH hB;clear hB;go_wp2;refine eL 10 bN [] J J ?_;intro yk HA;refine aV ?_;constructor
 .intro w9 hw9 X;refine aS ?_;have yx:=(hw9.cell (p:=⟨bp,0,none⟩) g (fun x=>x)).trans C;refine aW ?_;go_simp
  first
  |exact aE
 first|(with_reducible refine aI (fun K n=>?_))|(refine aI (fun K n=>?_))
 refine .inl ?_;apply Exists.intro;refine⟨cX,?_,n _ _ _ _ ?_⟩
 .simp only[bW,cM];refine⟨?_,fun w9 hw9 X=>?_⟩
  .first|rfl|(go_simp;done)
  refine aS ?_;have yw:=(hw9.cell (p:=⟨bi,0,none⟩) S (fun x=>x)).trans T;refine aW ?_;go_simp
  first
  |exact aE
 iterate 6
  clear n K;refine aN ?_
  first|(with_reducible refine aI (fun K n=>?_))|(refine aI (fun K n=>?_))
  refine .inl ?_;apply Exists.intro;refine⟨cX,?_,n _ _ _ _ ?_⟩
  .simp only[bW,cM];refine⟨?_,fun w9 hw9 X=>?_⟩
   .first|rfl|(go_simp;done)
   go_simp
   first
   |exact aE
 clear n K;refine aN ?_;refine aV ?_;constructor
 .intro w9 hw9 X;refine aS ?_;have yv:=(hw9.cell (p:=⟨e.p,1+(3+2*Z.i),none⟩) lp (fun x=>x)).trans zy;refine aW ?_;go_simp
  first
  |exact aE
 refine bG ZB (fun _=>TN B 23 #[.int .u64 0]) ⟨_,0,rfl⟩ ?_ ?_
 .intro w9 hw9 X;refine aS ?_;have zj:B<=w9:=by rw[zx.out];exact hw9.size
  refine aW ?_;go_simp;refine⟨⟨⟨_,rfl⟩,⟨_,rfl,aY.new _ _ _,zj⟩⟩,aD.of_same ((Below.refl _ _).alloc (Nat.le_refl _) _)⟩
 refine kS ?_;simp only[cM];rintro _ ⟨j,rfl⟩ w9 hw9 U;refine aQ ?_;refine aS ?_;simp only[BX]at U;obtain⟨wc,kc,kd,b',zu,hP,M⟩:=U.1 trivial;have e9:j=b':=by
  have h:=zu;simpa using h
 subst e9;have zw:=(kd.mono (S':=bN) fun b hb=>hb.2).same;have Q:=hP.below zw hP.lt;rw[zx.out]at M;have zv:aD bN w (w9.setCell (j,0) [G]):=hw9.setCell (p:=⟨j,0,none⟩) (.inr M) _;have zi:w9.cell? (j,0)=some (.int .u64 0):=by rw[Q.cell];rfl
 have zh:=Q.frozen 0;have y:=aH (Q.set_ 0 [G]);have P:Hid (cG w tag 106 j=106/\bI w tag (cG w tag 106)):=aH ⟨dT _ _ _ M,cO _ _ _⟩;have V:=aH zv;clear U zu kc kd zw hP Q M zv hw9;refine aW ?_;go_wp2;generalize w9.setCell (j,0) [G]=w1 at*;generalize cG w tag 106=yu at*;clear zi zh;have zg:=(V.cell (p:=⟨bw,0,none⟩) z (fun x=>x)).trans A;have zf:=Nat.lt_of_lt_of_le z V.size;have ze:=(V.cell (p:=⟨bi,0,none⟩) S (fun x=>x)).trans T;have zd:=Nat.lt_of_lt_of_le S V.size;have zc:=(V.cell (p:=⟨e.w,26,none⟩) lw (fun x=>x)).trans L;have zb:=Nat.lt_of_lt_of_le lw V.size;refine aA 5 ?_
 iterate 5
  first
  |(refine aR1 ?_;constructor
    .intro w9 hw9 hc9 hf9;go_simp
     first
     |exact aE
     |(go_at_call 102;exact bS (zz.out _)))
  |refine aU ?_
 refine bZ ?_;intro w9 hw9 hc9 hf9;refine aS ?_;have Y:=aH (V.trans hw9);have za:=aH (y.below hw9.same y.lt);have yr:w9.cell? (j,0)=[G]:=za.cell 0;clear zg zf ze zd zc zb hc9 hf9 hw9 y V;obtain⟨w2,yy⟩:=aO w9;subst yy;have H2:=aH (HH.kept Y P.out.2 (fun _ x=>x.elim));have yq:=(Y.cell (p:=⟨bp,0,none⟩) g (fun x=>x)).trans C;have yp:=(Y.cell (p:=⟨bq,0,none⟩) zr (fun x=>x)).trans f;have yo:=(Y.cell (p:=⟨bi,0,none⟩) S (fun x=>x)).trans T;have yn:=(Y.cell (p:=⟨bl,0,none⟩) zq (fun x=>x)).trans c;have ym:=(Y.cell (p:=⟨bw,0,none⟩) z (fun x=>x)).trans A;have yl:=(Y.cell (p:=⟨bv,0,none⟩) zp (fun x=>x)).trans a;have u:=aH (And.intro (HN.out.1.kept Y P.out.2 (fun _ x=>x.elim)) (And.intro (HN.out.2.kept Y P.out.2 (fun _ x=>x.elim)) (zm.kept Y P.out.2 (fun _ x=>x.elim))));clear C f T c A a zy L p0;have HC:=aH (ZX H2 HD u.out.1 u.out.2.1 u.out.2.2 zl ((Z.i:Int)+1) rfl zk);have yz:Hid (G=0\/G-1=if bb=true then 1 else 0):=aH (by
  rcases Classical.em (G=0)with h|h
  .exact .inl h
  refine .inr ?_;rw[<-zn.out];exact Classical.byContradiction fun h2=>HZ.out ⟨h,h2⟩)
 simp only[List.drop_succ_cons,List.drop_zero,List.drop];rcases HM.out with h0|h0|h0<;>cases bb
 all_goals subst h0
 all_goals first
  |(exfalso;have:=yz.out;simp at this;done)
  |(refine aW ?_
    go_wp2_with fail
    with_reducible refine HC.out.mono ?_
    rintro e2 w3 ⟨rfl,hR⟩;have HF:=aH hR;clear hR HC;go_wp2;refine bodyPost_ret (v:=.tuple #[]) (by simp [results,results152,go_sem]) rfl ?_;exact⟨rfl,HF.out⟩)
theorem UV(H:RC w tag w tag t Z last e gs mp m pt s st E O R cr D cd rows [] false)(hn:iF w tag t Z e)(d:Z.does=6)(hr:(Cl.asks Z.i).At w tag e r)(zd:Z.i<4)(hm:m (3+2*Z.i)=0\/m (3+2*Z.i)=1\/m (3+2*Z.i)=2)(hz:m (3+2*Z.i)≠0/\m (3+2*Z.i)-1≠jA Z.r Z.i):
 ∃N zz,r=td 6 (fv N zz)/\Calls prog N zz w fun e' w'=>e'=.returned (.tuple #[])/\gE w tag t last e gs mp pt st E O (stp t m s Z) w':=by
 obtain⟨g,f,a,bq,bl,bv,rfl,hp,hi,hw,hq,hl,hv⟩:=hr;refine⟨_,_,rfl,?_⟩;simp only[cR];rw[show stp t m s Z=⟨m,s,Z.ask (m (3+2*Z.i)-1),false⟩ by simp only[stp,d];exact iP hz];have h4:=H.t4;have HH:=aH H;simp only[iF,d]at hn;obtain⟨n1,n2,n3⟩:=hn;have zc:rows=[]:=by have:=H.rs.len;simpa using this
 subst zc;have zy:w.cell? (g,0)=(e.p,0):=hp.cell;have zs:=hp.2.lt;have zr:w.cell? (bq,0)=(e.q,0):=hq.cell;have zq:=hq.2.lt;have zx:w.cell? (a,0)=some (.slice (some ⟨e.w,0,none⟩) 32 32):=hw.cell;have zw:=hw.2.lt;have F:=hi.cell;have C:=hi.2.lt;have zp:w.cell? (bl,0)=(e.l,0):=hl.cell;have zb:=hl.2.lt;have zo:w.cell? (bv,0)=(e.v,0):=hv.cell;have za:=hv.2.lt;have p0:=H.cp0;have lp:=H.sh.lt;have ls:=H.st_.lt;obtain⟨wt,We,wb,wu⟩:=n3;have lw:=wb.lt;have n:w.cell? (e.w,26)=[Z.r 26]:=by rw[wb.cell,wu.get _ I]
 have yz:=wu.bd 26 I;obtain⟨bb,zt⟩:=aO (gO (Z.r 26).toNat Z.i:Bool);have zn:Hid (∀W,Calls prog 102 #[[Z.r 26],Z.i] W fun e w'=>e=.returned bb/\Below W W w'):=aH (fun W=>by
  have:=kJ (Z.r 26).toNat (Z.i:Int) W I;rw[show(((Z.r 26).toNat:Nat):Int)=Z.r 26 by omega,<-zt]at this;exact this)
 have yy:Hid (jA Z.r Z.i=if bb=true then 1 else 0):=aH (by unfold jA;rw[zt]);have yx:=aH (show lF w tag t e.w Z.r from⟨wt,We,wb,wu⟩);have HN:=aH (And.intro n1 n2);have HZ:=aH hz;obtain⟨T,hG⟩:=aO (m (3+2*Z.i):Int);have zm:w.cell? (e.p,1+(3+2*Z.i))=[T]:=by rw[hG];exact H.cram (k:=3+2*Z.i) I
 rw[<-hG]at hm⊢HZ;have HG:=aH hG;have HM:=aH hm;have k1:IntKind.i64.wrap (2*(Z.i:Int))=2*Z.i:=dE I I;have k2:IntKind.i64.wrap (2+2*(Z.i:Int))=2+2*Z.i:=dE I I;have yh:IntKind.i64.wrap (2+2*(Z.i:Int)+1)=2+2*Z.i+1:=dE I I;have k3:(2+2*(Z.i:Int)+1).toNat=3+2*Z.i:=I;have k4:2+2*(Z.i:Int)+1<16:=I;have k5:0<=2+2*(Z.i:Int)+1:=I;have k6:IntKind.i64.wrap ((Z.i:Int)+1)=(Z.i:Int)+1:=dE I I;have a0:IntKind.i64.wrap 0=0:=by decide
 have a1:IntKind.i64.wrap 1=1:=by decide
 have a2:IntKind.i64.wrap 2=2:=by decide
 have HD:=aH d;have yg:=aH zd;have zl:=aH (And.intro hp (And.intro hi (And.intro hw (And.intro hq (And.intro hl hv)))));clear H d n1 n2 wt wb wu yz zt hz hm hG zd hp hi hw hq hl hv
 go_enter func152,ntmps152
 obtain⟨B,hB⟩:=aO (w:Nat);have zk:=aH hB;clear hB;go_wp2;refine eL 10 bN [] J J ?_;intro xw HA;refine aV ?_;constructor
 .intro w9 hw9 V;refine aS ?_;have yk:=(hw9.cell (p:=⟨g,0,none⟩) zs (fun x=>x)).trans zy;refine aW ?_;go_simp
  first
  |exact aE
 first|(with_reducible refine aI (fun K hK=>?_))|(refine aI (fun K hK=>?_))
 refine .inl ?_;apply Exists.intro;refine⟨cX,?_,hK _ _ _ _ ?_⟩
 .simp only[bW,cM];refine⟨?_,fun w9 hw9 V=>?_⟩
  .first|rfl|(go_simp;done)
  refine aS ?_;have yj:=(hw9.cell (p:=⟨f,0,none⟩) C (fun x=>x)).trans F;refine aW ?_;go_simp
  first
  |exact aE
 iterate 6
  clear hK K;refine aN ?_
  first|(with_reducible refine aI (fun K hK=>?_))|(refine aI (fun K hK=>?_))
  refine .inl ?_;apply Exists.intro;refine⟨cX,?_,hK _ _ _ _ ?_⟩
  .simp only[bW,cM];refine⟨?_,fun w9 hw9 V=>?_⟩
   .first|rfl|(go_simp;done)
   go_simp
   first
   |exact aE
 clear hK K;refine aN ?_;refine aV ?_;constructor
 .intro w9 hw9 V;refine aS ?_;have yi:=(hw9.cell (p:=⟨e.p,1+(3+2*Z.i),none⟩) lp (fun x=>x)).trans zm;refine aW ?_;go_simp
  first
  |exact aE
 refine bG ZB (fun _=>TN B 23 #[.int .u64 0]) ⟨_,0,rfl⟩ ?_ ?_
 .intro w9 hw9 V;refine aS ?_;have yw:B<=w9:=by rw[zk.out];exact hw9.size
  refine aW ?_;go_simp;refine⟨⟨⟨_,rfl⟩,⟨_,rfl,aY.new _ _ _,yw⟩⟩,aD.of_same ((Below.refl _ _).alloc (Nat.le_refl _) _)⟩
 refine kS ?_;simp only[cM];rintro _ ⟨P,rfl⟩ w9 hw9 L;refine aQ ?_;refine aS ?_;simp only[BX]at L;obtain⟨wc,kc,kd,b',zf,hP,u⟩:=L.1 trivial;have e9:P=b':=by
  have h:=zf;simpa using h
 subst e9;have zj:=(kd.mono (S':=bN) fun b G=>G.2).same;have A:=hP.below zj hP.lt;rw[zk.out]at u;have zi:aD bN w (w9.setCell (P,0) [T]):=hw9.setCell (p:=⟨P,0,none⟩) (.inr u) _;have yv:w9.cell? (P,0)=some (.int .u64 0):=by rw[A.cell];rfl
 have yu:=A.frozen 0;have zv:=aH (A.set_ 0 [T]);have S:Hid (cG w tag 106 P=106/\bI w tag (cG w tag 106)):=aH ⟨dT _ _ _ u,cO _ _ _⟩;have U:=aH zi;clear L zf kc kd zj hP A u zi hw9;refine aW ?_;go_wp2;generalize w9.setCell (P,0) [T]=w1 at*;generalize cG w tag 106=X at*;clear yv yu;have yt:=(U.cell (p:=⟨a,0,none⟩) zw (fun x=>x)).trans zx;have ys:=Nat.lt_of_lt_of_le zw U.size;have yr:=(U.cell (p:=⟨f,0,none⟩) C (fun x=>x)).trans F;have yq:=Nat.lt_of_lt_of_le C U.size;have yp:=(U.cell (p:=⟨e.w,26,none⟩) lw (fun x=>x)).trans n;have yo:=Nat.lt_of_lt_of_le lw U.size;refine aA 5 ?_
 iterate 5
  first
  |(refine aR1 ?_;constructor
    .intro w9 hw9 hc9 hf9;go_simp
     first
     |exact aE
     |(go_at_call 102;exact bS (zn.out _)))
  |refine aU ?_
 refine bZ ?_;intro w9 hw9 hc9 hf9;refine aS ?_;have Y:=aH (U.trans hw9);have zu:=aH (zv.below hw9.same zv.lt);have yf:w9.cell? (P,0)=[T]:=zu.cell 0;clear yt ys yr yq yp yo hc9 hf9 hw9 zv U;obtain⟨w2,yl⟩:=aO w9;subst yl;have H2:=aH (HH.kept Y.out S.out.2 (fun _ x=>x.elim));have ye:=(Y.cell (p:=⟨g,0,none⟩) zs (fun x=>x)).trans zy;have yd:=(Y.cell (p:=⟨bq,0,none⟩) zq (fun x=>x)).trans zr;have yc:=(Y.cell (p:=⟨f,0,none⟩) C (fun x=>x)).trans F;have yb:=(Y.cell (p:=⟨bl,0,none⟩) zb (fun x=>x)).trans zp;have ya:=(Y.cell (p:=⟨a,0,none⟩) zw (fun x=>x)).trans zx;have xz:=(Y.cell (p:=⟨bv,0,none⟩) za (fun x=>x)).trans zo;have z:=aH (And.intro (HN.out.1.kept Y.out S.out.2 (fun _ x=>x.elim)) (And.intro (HN.out.2.kept Y.out S.out.2 (fun _ x=>x.elim)) (yx.kept Y.out S.out.2 (fun _ x=>x.elim))));clear zy zr F zp zx zo zm n p0;have HC:=aH (jF H2.th 7 153 #[(g,0),(f,0),(bl,0),(P,0),(bq,0),(a,0),(bv,0)] 7 rfl (by simp));have yn:Hid (T≠0/\T-1≠if bb=true then 1 else 0):=aH (by rw[<-yy.out];exact HZ.out);have xy:=Nat.lt_of_lt_of_le zq Y.size;have zh:=aH (show(Cl.fetch Z.i (T-1+1)).At w2 X e (td 7 (fv 153 #[(g,0),(f,0),(bl,0),(P,0),(bq,0),(a,0),(bv,0)]))from by
  have K:∀{b ty v},RO w tag b ty v->RO w2 X b ty v:=fun h=>h.kept Y.out S.out.2 (fun _ x=>x.elim)
  obtain⟨y1,y2,y3,y4,y5,y6⟩:=zl.out;exact⟨g,f,bl,P,bq,a,bv,rfl,K y1,K y2,K y5,⟨S.out.1,by rw[show T-1+1=T by omega];exact zu.out⟩,K y4,K y3,K y6⟩)
 have zg:=aH (fun(w3:World) (Q:Nat->Nat) (R3:Option Addr) (ze:Nat) (M:Kg (eJ t) w2 X w3 Q) (o:lT w3 Q t Z last e.q R3 ze D cd ([]++[td 7 (fv 153 #[(g,0),(f,0),(bl,0),(P,0),(bq,0),(a,0),(bv,0)])]) false)=>show gE w tag t last e gs mp pt st E O ⟨m,s,Z.ask (T-1),false⟩ w3 from by
  have y:∀b,eJ t (X b)->X b=110+t\/X b=120+t:=fun b G=>G
  have ym:dD w3 Q e [.fetch Z.i (T-1+1)] ([]++[td 7 (fv 153 #[(g,0),(f,0),(bl,0),(P,0),(bq,0),(a,0),(bv,0)])]):=⟨zh.kept M.k M.t (fun b G=>by have:=y b G;omega),trivial⟩;have h1:=(H2.rowed M ⟨rfl,rfl⟩ o ym).as (Z':=Z.ask (T-1)) (fun _ _=>rfl) rfl;refine h1.out ?_ ?_ ⟨rfl,rfl⟩
  .show [Cl.fetch Z.i ((if Z.na+1-1=Z.na then T-1 else Z.asks (Z.na+1-1) 1)+1)]=_;rw[iP I]
  show _/\_;refine⟨z.out.1.kept M.k M.t (fun b G=>by have:=y b G;omega),?_,z.out.2.2.kept M.k M.t (fun b G=>by have:=y b G;omega)⟩;have hl:=z.out.2.1.kept M.k M.t (fun b G=>by have:=y b G;omega);have e1:eH (Z.ask (T-1)).asks ((Z.ask (T-1)).na-1)=eH Z.asks Z.na:=by
   show eH _ (Z.na+1-1)=_;rw[Nat.add_sub_cancel];exact pQ (fun j hj c _=>by show(if j=Z.na then _ else _)=_;rw[iN I])
  rw[e1];exact hl)
 clear zh z zl S zu Y;simp only[List.drop_succ_cons,List.drop_zero,List.drop];rcases HM.out with h0|h0|h0<;>cases bb
 all_goals subst h0
 all_goals first
  |(exfalso;have:=yn.out;simp at this;done)
  |(refine aW ?_
    have xx:=KH;go_wp2_with fail
    with_reducible refine HC.out.mono ?_
    rintro e2 w3 ⟨rfl,Q,R3,ze,M,o⟩;have HF:=aH (zg.out _ _ _ _ M o);clear M o HC zg;go_wp2;refine bodyPost_end (v:=.tuple #[]) (by simp [results,results152,go_sem]) rfl ?_;exact⟨rfl,HF.out⟩)
end
theorem YO:(prog.info? 278).map (fun i=>(i.zero,i.size,i.bytes))=some (some (.agg #[(0:Int),(0:Int),(0:Int),(0:Int),(0:Int)]),5,40):=J
theorem QB:∃Z,prog.info? 278=some Z/\Z.zero=some (.agg #[(0:Int),(0:Int),(0:Int),(0:Int),(0:Int)])/\Z.size=5/\Z.bytes=40:=by
 have h:=YO;cases hq:prog.info? 278 with
 |none=>simp [hq]at h
 |some i=>simp [hq]at h;exact⟨i,rfl,h.1,h.2.1,h.2.2⟩
theorem NP(x:Int)(V:0<=x)(T:x<18446744073709551616):∃U,∀w:World,Calls prog 154 #[[x]] w fun e w'=>e=.returned (.tuple #[.agg #[(IV x),(KE x),(ID x)],U])/\Below w w w':=by
 obtain⟨y,rfl⟩:=Int.eq_ofNat_of_zero_le V;refine⟨.int .i64 (jN (cB ((y/65536/4294967296:Nat):Int) ((y/4294967296%65536:Nat):Int) ((y%4294967296:Nat):Int)) 3),fun w=>(CS y (y/65536/4294967296) (y/4294967296%65536) (y%4294967296) w I rfl rfl rfl).mono ?_⟩;rintro e w' ⟨rfl,W⟩;refine⟨?_,W⟩;have Z:((y/65536/4294967296:Nat):Int)=(y:Int)/4294967296/65536:=I;have Y:((y/4294967296%65536:Nat):Int)=(y:Int)/4294967296%65536:=I;have X:((y%4294967296:Nat):Int)=(y:Int)%4294967296:=I;unfold IV KE ID;rw[Z,Y,X];rfl
section
variable{w:World}{tag:Nat->Nat}{t:Nat}{Z:cQ}{last:Int}{e:mG}{gs mp:Nat}{m:Nat->Int}{pt:Nat->Nat}{s:cN}{st:Int}{E O:Value}{R:Option Addr}{cr:Nat}{D:Option Addr}{cd:Nat}{rows:List (List Value)}{cs:List Cl}{r:List Value}
theorem TI(H:RC w tag w tag t Z last e gs mp m pt s st E O R cr D cd rows [] false)(hn:iF w tag t Z e)(d:Z.does=7)(hr:(Cl.fetch Z.i (Z.asks (Z.na-1) 1+1)).At w tag e r)(wv:Z.i<4)(wu:0<Z.na)(vf:Z.na<=4)(yh:Z.asks (Z.na-1) 0=Z.i)(yg:Z.asks (Z.na-1) 1=0\/Z.asks (Z.na-1) 1=1)(zk:0<=m (2+2*Z.i)/\m (2+2*Z.i)<18446744073709551616)(hc:vV (Z.fill (m (2+2*Z.i)))):
 ∃N zd,r=td 7 (fv N zd)/\Calls prog N zd w fun e' w'=>e'=.returned (.tuple #[])/\gE w tag t last e gs mp pt st E O (stp t m s Z) w':=by
 obtain⟨bp,bi,bl,bg,bq,bw,bv,rfl,hp,hi,hl,hg,hq,hw,hv⟩:=hr;refine⟨_,_,rfl,?_⟩;simp only[cR];rw[show stp t m s Z=⟨m,s,((Z.fill (m (2+2*Z.i))).next 4 8).all t,false⟩ by simp only[stp,d]];have h4:=H.t4;have HH:=aH H;simp only[iF,d]at hn;obtain⟨n1,n2,n3⟩:=hn;have zr:rows=[]:=by have:=H.rs.len;simpa using this
 subst zr;obtain⟨n,hn⟩:∃n,Z.na=n+1:=⟨Z.na-1,I⟩;have yf:Z.na-1=n:=I;rw[yf]at yh yg n2 hg;obtain⟨y,hy⟩:=aO (Z.asks n 1:Int);rw[<-hy]at yg hg;obtain⟨X,hX⟩:=aO (m (2+2*Z.i):Int);rw[<-hX]at zk hc⊢;have zc:w.cell? (bp,0)=(e.p,0):=hp.cell;have zq:=hp.2.lt;have ye:w.cell? (bq,0)=(e.q,0):=hq.cell;have zb:=hq.2.lt;have yd:w.cell? (bw,0)=some (.slice (some ⟨e.w,0,none⟩) 32 32):=hw.cell;have za:=hw.2.lt;have yz:=hi.cell;have zp:=hi.2.lt;have yc:w.cell? (bl,0)=(e.l,0):=hl.cell;have yy:=hl.2.lt;have yb:w.cell? (bv,0)=(e.v,0):=hv.cell;have yx:=hv.2.lt;have xz:=hg.cell;have yw:=hg.2.lt;have p0:=H.cp0;have lp:=H.sh.lt;have ls:=H.st_.lt;obtain⟨er,xf⟩:=NP X zk.1 zk.2;have wt:=aH xf;obtain⟨xe,A0,c0,lb,lo,xd⟩:=n2;rw[oE]at lb lo;have xy:w.cell? (e.l,0)=some (.slice A0 n c0):=by rw[lb.cell];rfl
 have ll:=lb.lt;have ws:=lb.frozen 0;have xx:w.cell? (e.p,1+(2+2*Z.i))=[X]:=by rw[hX];exact H.cram (k:=2+2*Z.i) I
 have wr:=aH lo;have xw:=aH lb;have Q:=aH (And.intro xe xd);have HN:=aH (And.intro n1 n3);have wq:=aH hc;have wp:=aH (And.intro hn (And.intro wu (And.intro yh hy)));have wo:=aH wv;have uv:n<=3:=I;have k1:IntKind.i64.wrap (2*(Z.i:Int))=2*Z.i:=dE I I;have k2:IntKind.i64.wrap (2+2*(Z.i:Int))=2+2*Z.i:=dE I I;have k3:(2+2*(Z.i:Int)).toNat=2+2*Z.i:=I;have k4:2+2*(Z.i:Int)<16:=I;have k5:0<=2+2*(Z.i:Int):=I;have k6:IntKind.i64.wrap ((Z.i:Int)+1)=(Z.i:Int)+1:=dE I I;have k7:IntKind.i64.wrap (y+1)=y+1:=dE I I;have k8:IntKind.i64.wrap (y+1-1)=y:=by rw[show y+1-1=y by omega];exact dE I I
 have uu:IntKind.i64.wrap y=y:=dE I I;obtain⟨i0,xc,xb,xa,wU⟩:=QB;have wn:=aH xc;have wm:=aH xb;have wl:=aH xa;have wk:=aH wU;have xv:Hid (∀q,A0=some q->q.block<w):=aH (fun q hq=>(lo.lt q hq).2);obtain⟨B,hB⟩:=aO (w:Nat);have yu:=aH hB;have wj:¬B<=bp:=I;have wi:¬B<=bi:=I;have dp:¬B<=e.p:=I;have HD:=aH d;have T:=aH (And.intro hp (And.intro hi (And.intro hl (And.intro hg (And.intro hq (And.intro hw hv))))));generalize wy:IV X=ya at*;generalize wx:KE X=yk at*;generalize ww:ID X=yv at*;have yt:=aH (And.intro wy (And.intro wx ww));clear H d n1 n3 lb lo xe xd hc wv wu vf yh yg zk hy hX hn xf yf hp hi hl hg hq hw hv xc xb xa wU hB wy wx ww
 go_enter func153,ntmps153
 go_wp2;refine eL 14 (fun b=>B<=b) [13] J J ?_;intro ui HA;refine aV ?_;constructor
 .intro w9 hw9 Y;refine aS ?_;have ve:=(hw9.cell (p:=⟨bp,0,none⟩) zq wj).trans zc;refine aW ?_;go_simp
  first
  |exact aE
 first|(with_reducible refine aI (fun K L=>?_))|(refine aI (fun K L=>?_))
 refine .inl ?_;apply Exists.intro;refine⟨cX,?_,L _ _ _ _ ?_⟩
 .simp only[bW,cM];refine⟨?_,fun w9 hw9 Y=>?_⟩
  .first|rfl|(go_simp;done)
  refine aS ?_;have vd:=(hw9.cell (p:=⟨bi,0,none⟩) zp wi).trans yz;refine aW ?_;go_simp
  first
  |exact aE
 iterate 5
  clear L K;refine aN ?_
  first|(with_reducible refine aI (fun K L=>?_))|(refine aI (fun K L=>?_))
  refine .inl ?_;apply Exists.intro;refine⟨cX,?_,L _ _ _ _ ?_⟩
  .simp only[bW,cM];refine⟨?_,fun w9 hw9 Y=>?_⟩
   .first|rfl|(go_simp;done)
   go_simp
   first
   |exact aE
 clear L K;refine aN ?_;refine aV ?_;constructor
 .intro w9 hw9 Y;refine aS ?_;have vc:=(hw9.cell (p:=⟨e.p,1+(2+2*Z.i),none⟩) lp dp).trans xx;refine aW ?_;go_simp
  first
  |exact aE
 first|(with_reducible refine aI (fun K L=>?_))|(refine aI (fun K L=>?_))
 refine .inl ?_;apply Exists.intro;refine⟨cX,?_,L _ _ _ _ ?_⟩
 .simp only[bW,cM];refine⟨?_,fun w9 hw9 Y=>?_⟩
  .first|rfl|(go_simp;done)
  go_simp
  first
  |exact aE
  |(go_at_call 154;exact bS (wt.out _))
 iterate 3
  clear L K;refine aN ?_
  first|(with_reducible refine aI (fun K L=>?_))|(refine aI (fun K L=>?_))
  refine .inl ?_;apply Exists.intro;refine⟨cX,?_,L _ _ _ _ ?_⟩
  .simp only[bW,cM];refine⟨?_,fun w9 hw9 Y=>?_⟩
   .first|rfl|(go_simp;done)
   go_simp
   first
   |exact aE
 clear L K;refine aN ?_;refine bG ZB (fun _=>TN B 39 (3:Int)) ⟨_,0,rfl⟩ ?_ ?_
 .intro w9 hw9 Y;refine aS ?_;have wh:B<=w9:=by rw[yu.out];exact hw9.size
  refine aW ?_;go_simp;refine⟨⟨⟨_,rfl⟩,⟨_,rfl,aY.new _ _ _,wh⟩⟩,aD.of_same ((Below.refl _ _).alloc (Nat.le_refl _) _)⟩
 refine bF undef (fun us w'=>TN B 39 #[ya,yk,yv] (us 12) w') ?_ ?_
 .rintro _ ⟨P,rfl⟩;refine⟨aF,fun w9 hw9 Y=>?_⟩;refine aS ?_;obtain⟨wI,W⟩:=Y;simp only[BX]at W;obtain⟨wc,kc,kd,b',G,hP,zt⟩:=W.1 (by rw[HA.out];kernel_rfl);have e9:P=b':=by
   have h:=G;simpa using h
  subst e9;have HX:=aH (hP.below (cA kd (by rw[HA.out];kernel_rfl)) hP.lt);clear W wI kc kd hP G;have HY:Hid (w9.there P 0 3):=aH (HX.there (by show 0+3<=3;omega));refine aW ?_;refine dA 39 _ _ rfl P 0 #[ya,yk,yv] rfl rfl HY J J ?_;refine⟨⟨rfl,?_⟩,(cE (S:=fun b=>B<=b) (.inl zt) 0 _).mono fun b U=>⟨aJ,U⟩⟩;unfold cV;rw[iP (by rw[HA.out];kernel_rfl)];exact⟨P,rfl,aY.setCells (vs:=[.int .i64 ya,.int .i64 yk,.int .i64 yv]) (o:=0) HX,zt⟩
 refine kS ?_;simp only[cM];rintro _ ⟨P,rfl⟩ w9 hw9 W;refine aQ ?_;refine aS ?_;simp only[BX]at W;obtain⟨wc,kc,kd,b',G,hP,zt⟩:=W.2.1 trivial;unfold cV at G;rw[iP (by rw[HA.out];kernel_rfl)]at G;have e9:P=b':=by
  have h:Value.pointer (some ⟨P,0,none⟩)=.pointer (some ⟨b',0,none⟩):=G;simpa using h
 subst e9;have xu:=hP.below (cA kd (by rw[HA.out];kernel_rfl)) hP.lt;have xt:Below w w w9:=hw9.below (Nat.le_refl _) (fun b U h=>by have:=yu.out;have h':B<=b:=h;omega);have zo:=aH xu;have V:=aH xt;have wg:Hid (w<=P):=aH (by rw[<-yu.out];exact zt);clear W G kc kd hP xu zt hw9;obtain⟨w1,vj⟩:=aO w9;subst vj;have H1:=aH (HH.below V (bI.refl _ _));have wf:=aH (wr.below V);have zj:=aH (xw.below V xw.lt);have xs:=aH (And.intro (HN.out.1.kept (S:=bN) (aD.of_same V) (bI.refl _ _) (fun _ x=>x.elim)) (HN.out.2.kept (S:=bN) (aD.of_same V) (bI.refl _ _) (fun _ x=>x.elim)));have zi:=(V.cell (p:=⟨bp,0,none⟩) zq).trans zc;have zh:=(V.cell (p:=⟨bq,0,none⟩) zb).trans ye;have F:=(V.cell (p:=⟨bi,0,none⟩) zp).trans yz;have C:=(V.cell (p:=⟨bl,0,none⟩) yy).trans yc;have zg:=(V.cell (p:=⟨bw,0,none⟩) za).trans yd;have zf:=(V.cell (p:=⟨bv,0,none⟩) yx).trans yb;have zw:=(V.cell (p:=⟨bg,0,none⟩) yw).trans xz;have zn:=(V.cell (p:=⟨e.l,0,none⟩) ll).trans xy;have xr:=zj.frozen 0;have o0:w1.cell? (P,0)=ya:=zo.cell 0;have o1:w1.cell? (P,1)=yk:=zo.cell 1;have o2:w1.cell? (P,2)=yv:=zo.cell 2;have zy:=zo.lt;have z1:=V.size;have we:=Nat.lt_of_lt_of_le zq z1;have wd:=Nat.lt_of_lt_of_le zb z1;have yr:=Nat.lt_of_lt_of_le zp z1;have yq:=Nat.lt_of_lt_of_le yy z1;have wb:=Nat.lt_of_lt_of_le za z1;have wa:=Nat.lt_of_lt_of_le yx z1;have xq:=Nat.lt_of_lt_of_le yw z1;have ml:=Nat.lt_of_lt_of_le ll z1;have nS:∀b,tag b=106->¬iI A0 b:=fun b U h=>by have:=Q.out.2 b h;omega
 have xp:=nS bp T.out.1.1;have zm:=nS bi T.out.2.1.1;have zl:=nS bl T.out.2.2.1.1;have yp:=nS bg T.out.2.2.2.1.1;have xo:=nS bq T.out.2.2.2.2.1.1;have xn:=nS bw T.out.2.2.2.2.2.1.1;have xm:=nS bv T.out.2.2.2.2.2.2.1;have nl:¬iI A0 e.l:=fun h=>by have:=Q.out.2 _ h;have:=Q.out.1;omega
 have n9:¬iI A0 P:=fun h=>by obtain⟨q,hq,he⟩:=h;have:=xv.out q hq;have:=wg.out;omega
 clear nS zc ye yz yc yd yb xz xy ws xx p0 zq zb zp yy za yx yw ll z1 xt;refine aW ?_;go_wp2;refine bK 12 (iI A0) [11] J J ?_
 iterate 10
  refine aR ?_;constructor
  .intro w9 hw9 hm9;refine aS ?_;have yo:=(hw9.cell (p:=⟨bl,0,none⟩) yq zl).trans C;have xl:=(hw9.cell (p:=⟨e.l,0,none⟩) ml nl).trans zn;have yn:=(hw9.cell (p:=⟨bi,0,none⟩) yr zm).trans F;have ym:=(hw9.cell (p:=⟨bg,0,none⟩) xq yp).trans zw;have vz:=(hw9.cell (p:=⟨P,0,none⟩) zy n9).trans o0;have vy:=(hw9.cell (p:=⟨P,1,none⟩) zy n9).trans o1;have vx:=(hw9.cell (p:=⟨P,2,none⟩) zy n9).trans o2;refine aW ?_;go_simp
   first
   |exact aE
 refine bC CK (DM 278 [.int .i64 (Z.i:Int),.int .i64 y,.int .i64 ya,.int .i64 yk,.int .i64 yv]) ⟨_,0,rfl⟩ ?_ ?_
 .intro w9 hw9 Y;refine aS ?_;have yo:=(hw9.cell (p:=⟨bl,0,none⟩) yq zl).trans C;have xl:=(hw9.cell (p:=⟨e.l,0,none⟩) ml nl).trans zn;have yn:=(hw9.cell (p:=⟨bi,0,none⟩) yr zm).trans F;have ym:=(hw9.cell (p:=⟨bg,0,none⟩) xq yp).trans zw;have vz:=(hw9.cell (p:=⟨P,0,none⟩) zy n9).trans o0;have vy:=(hw9.cell (p:=⟨P,1,none⟩) zy n9).trans o1;have vx:=(hw9.cell (p:=⟨P,2,none⟩) zy n9).trans o2;refine aW ?_;go_simp;exact⟨⟨⟨_,rfl⟩,⟨_,rfl,aY.new _ _ _⟩⟩,aD.of_same ((Below.refl _ _).alloc (Nat.le_refl _) _)⟩
 refine bD (DN (n+1)) (fun vv w'=>∃A' c',vv=.slice A' (n+1) c'/\cU w' 0 278 5 A' (n+1) c' ((eH Z.asks n)++[[.int .i64 (Z.i:Int),.int .i64 y,.int .i64 ya,.int .i64 yk,.int .i64 yv]])/\∀b,iI A' b->iI A0 b\/w1<=b) ⟨_,none,0,rfl⟩ ?_ ?_
 .rintro _ ⟨g9,rfl⟩;refine⟨aF,fun w9 hw9 Y=>?_⟩;refine aS ?_;have zz:=Y;have W:=Y.2;clear Y;obtain⟨w0,k0,k1,g',hv,zs⟩:=W.1 J;cases hv;have ut:=hw9.size;have yl:=zs.below (cA k1 J) zs.lt;have vw:=aH (wf.below (cA zz.1 J));clear W zz zs k0 k1;refine aW ?_;refine iM (.tmp 24) (.tmp 31) rfl underlying246 wn wm wl wk rfl aJ aJ (A:=A0) (n:=n) (c:=c0) (rows:=(eH Z.asks n)) rfl vw (g:=g9) (c':=1) rfl (ys:=[.int .i64 (Z.i:Int),.int .i64 y,.int .i64 ya,.int .i64 yk,.int .i64 yv]) rfl ?_ ?_ I (Nat.zero_le _) ?_
  .intro j hj;rw[yl.cell j];simp
  .intro u hu;simp only[List.mem_cons,List.not_mem_nil,or_false]at hu;rcases hu with rfl|rfl|rfl|rfl|rfl<;>rfl
  intro g' uh w' ho vi vh;refine⟨⟨⟨_,_,rfl⟩,⟨_,_,rfl,ho,fun b U=>?_⟩⟩,vi.mono fun b U=>⟨aJ,U⟩⟩;obtain⟨a,ha,rfl⟩:=U;cases ha;rcases vh with⟨a,ha,e⟩|e
  .exact .inl ⟨a,ha,e⟩
  exact .inr (by show w1<=g';omega)
 refine aZ ?_;rintro _ ⟨A9,c9,rfl⟩ _ ⟨g9,rfl⟩ w9 hw9 W;refine aQ ?_;refine aS ?_;obtain⟨w0,k0,k1,A8,c8,vg,ze,wz⟩:=W.2.1 rfl;cases vg;have vu:=aH (ze.below (cA k1 J));have vt:=aH wz;clear W ze k0 k1 wz w0;have M:=hw9;have xk:=hw9.size;have C9:∀{b o:Nat} {v:Value},w1.cell? (b,o)=v->b<w1->¬iI A0 b->w9.cell? (b,o)=v:=fun h l nn=>(M.cell (p:=⟨_,_,none⟩) l nn).trans h
 have ur:=C9 zn ml nl;have uq:=(M.frozen (p:=⟨e.l,0,none⟩) ml nl).trans xr;have up:=Nat.lt_of_lt_of_le ml xk;have vb:=C9 zi we xp;have va:=C9 zh wd xo;have uz:=C9 F yr zm;have uy:=C9 C yq zl;have ux:=C9 zg wb xn;have uw:=C9 zf wa xm;have nE:∀b,tag b=106->¬b=e.l:=fun b U z=>by have:=Q.out.1;rw[z]at U;omega
 have vr:=nE bp T.out.1.1;have vq:=nE bi T.out.2.1.1;have vp:=nE bl T.out.2.2.1.1;have vo:=nE bq T.out.2.2.2.2.1.1;have vn:=nE bw T.out.2.2.2.2.2.1.1;have vm:=nE bv T.out.2.2.2.2.2.2.1;have uo:¬e.l=bp:=fun z=>vr z.symm
 have un:¬e.l=bi:=fun z=>vq z.symm
 have um:¬e.l=bl:=fun z=>vp z.symm
 have ul:¬e.l=bq:=fun z=>vo z.symm
 have uk:¬e.l=bw:=fun z=>vn z.symm
 have uj:¬e.l=bv:=fun z=>vm z.symm
 have zx:=cO w1 tag (160+t);have zv:=bP w9 e.l 0 (.slice A9 (n+1) c9);have yj:=(zx e.l ml).trans Q.out.1;have zu:∀b,cI e.l b->cG w1 tag (160+t) b=140+t:=fun b U=>by rw[show b=e.l from U];exact yj
 have yi:∀b,iI A9 b->cG w1 tag (160+t) b=160+t:=fun b U=>by
  rcases vt.out b U with h|h
  .obtain⟨q,hq,he⟩:=h;rw[zx b (by have:=xv.out q hq;have:=V.size;omega)];exact Q.out.2 b ⟨q,hq,he⟩
  exact dT _ _ _ h
 have xj:=H1.kept M zx (fun b U=>by have:=Q.out.2 b U;unfold rR;omega);have H2:=aH ((xj.kept zv (bI.refl _ _) (fun b U=>by have:=zu b U;unfold rR;omega)).as (Z':=Z.fill X) (fun _ _=>rfl) rfl);have xi:=aH ((xs.out.1.kept M zx (fun b U=>by have:=Q.out.2 b U;omega)).kept zv (bI.refl _ _) (fun b U=>by have:=zu b U;omega));have xh:=aH ((xs.out.2.kept M zx (fun b U=>by have:=Q.out.2 b U;omega)).kept zv (bI.refl _ _) (fun b U=>by have:=zu b U;omega));have xg:Hid (rN (w9.setCell (e.l,0) (.slice A9 (n+1) c9)) (cG w1 tag (160+t)) t e.l (eH (Z.fill X).asks (Z.fill X).na)):=aH (by
  obtain⟨e1,e2,e3,e4⟩:=wp.out;have zr:eH (Z.fill X).asks (Z.fill X).na=eH Z.asks n++[[.int .i64 (Z.i:Int),.int .i64 y,.int .i64 ya,.int .i64 yk,.int .i64 yv]]:=by
   show eH (Z.fill X).asks Z.na=_;rw[e1,xL,pX];congr 1
   .refine pQ fun j hj c _=>?_
    show(if j+1=Z.na/\2<=c then _ else Z.asks j c)=_;rw[iN I]
   have f:∀c,(Z.fill X).asks n c=if 2<=c then(if c=2 then IV X else if c=3 then KE X else ID X)else Z.asks n c:=fun c=>by
    show(if n+1=Z.na/\2<=c then _ else _)=_;by_cases h2:2<=c
    .rw[iP ⟨e1.symm,h2⟩,iP h2]
    rw[iN (fun h=>h2 h.2),iN h2]
   rw[f,f,f,f,f,<-yt.out.1,<-yt.out.2.1,<-yt.out.2.2,<-e3,e4];rfl
  refine⟨yj,A9,c9,?_,?_,yi⟩
  .rw[zr];have vl:aY w9 e.l 246 #[.slice A0 n c0]:=(M.block e.l ml nl).trans zj;have U:=vl.set_ 0 (.slice A9 (n+1) c9);rw[show(eH Z.asks n++[[Value.int .i64 (Z.i:Int),.int .i64 y,.int .i64 ya,.int .i64 yk,.int .i64 yv]]).length=n+1 by rw[List.length_append,oE];rfl];exact U
  rw[zr,show(eH Z.asks n++[[Value.int .i64 (Z.i:Int),.int .i64 y,.int .i64 ya,.int .i64 yk,.int .i64 yv]]).length=n+1 by rw[List.length_append,oE];rfl];exact vu.keptT (tag:=cG w1 tag (160+t)) (k:=160+t) zv yi (fun b U=>by have:=zu b U;omega))
 have HC:=aH (ZX H2 rfl xi xg xh wo ((Z.i:Int)+1) rfl wq);have vk:∀b,b<w1.heap.size->b<w9.heap.size:=fun b h=>Nat.lt_of_lt_of_le h xk
 clear C9 nE zx zv yj zu yi xj M hw9 zi zh F C zg zf zw zn xr o0 o1 o2 xp zm zl yp xo xn xm nl n9 H2 xi xh xg vk;refine aW ?_;go_wp2_with fail
 with_reducible refine HC.out.mono ?_
 rintro e2 w3 ⟨rfl,hR⟩;have HF:=aH hR;clear hR HC;go_wp2;refine bodyPost_end (v:=.tuple #[]) (by simp [results,results153,go_sem]) rfl ?_;exact⟨rfl,HF.out⟩
end
section
variable{w:World}{tag:Nat->Nat}{t:Nat}{Z:cQ}{last:Int}{e:mG}{gs mp:Nat}{m:Nat->Int}{pt:Nat->Nat}{s:cN}{st:Int}{E O:Value}{R:Option Addr}{cr:Nat}{D:Option Addr}{cd:Nat}{rows:List (List Value)}{cs:List Cl}{r:List Value}
theorem yS{bb:Bool}(H:RC w tag w tag t Z last e gs mp m pt s st E O R cr D cd rows [] false)(hn:iF w tag t Z e)(d:Z.does=21)(hr:(Cl.look5).At w tag e r)(u:(0<=Z.seen 0/\Z.seen 0<18446744073709551616)/\(0<=Z.seen 1/\Z.seen 1<18446744073709551616)/\(0<=Z.seen 2/\Z.seen 2<18446744073709551616))(l:m 1=Z.ver)(L:gO (Z.seen 0).toNat t=bb)(j:Z.tg=x)(hx:(bb=true/\x=1)\/(bb=false/\x=0)):
 ∃N F,r=td 21 (fv N F)/\Calls prog N F w fun e' w'=>e'=.returned (.tuple #[])/\gE w tag t last e gs mp pt st E O (stp t m s Z) w':=by
 obtain⟨bp,Q,rfl,hp,hq⟩:=hr;refine⟨_,_,rfl,?_⟩;simp only[cR];rw[show stp t m s Z=⟨m,s,{Z with o1:=rZ (Z.seen 1),o2:=tU (Z.seen 1),wn:=asI (Z.seen 2),does:=0},true⟩ by simp only[stp,d];rw[iP ⟨l,by rw[L,j];rcases hx with⟨rfl,rfl⟩|⟨rfl,rfl⟩<;>rfl⟩]]
 have h4:=H.t4;have HH:=aH H;simp only[iF,d]at hn;obtain⟨n1,n2,n3,n4⟩:=hn;have zw:rows=[]:=by have:=H.rs.len;simpa using this
 subst zw;have f:w.cell? (bp,0)=(e.p,0):=hp.cell;have zv:=hp.2.lt;have c:w.cell? (Q,0)=(e.q,0):=hq.cell;have zu:=hq.2.lt;have p0:=H.cp0;have lp:=H.sh.lt;have ls:=H.st_.lt;have q0:=H.cth 0 (fun _ _=>rfl);have lq:=H.th.blk.lt;have zz:w.cell? (e.p,2)=[m 1]:=H.cram (k:=1) I;have q5:=H.cth 5 (fun _ _=>rfl);have q7:=H.cth 7 (fun _ _=>rfl);have cv:w.cell? (e.v,0)=[Z.ver]:=by rw[n1.2.cell];rfl
 have lv:=n1.2.lt;obtain⟨s0,P⟩:=aO (Z.seen 0:Int);obtain⟨X,U⟩:=aO (Z.seen 1:Int);obtain⟨i,T⟩:=aO (Z.seen 2:Int);have cg:w.cell? (e.g,0)=[s0]:=by rw[n2.2.cell,P];rfl
 have lg:=n2.2.lt;have ca:w.cell? (e.a,0)=[X]:=by rw[n3.2.cell,U];rfl
 have la:=n3.2.lt;have cn:w.cell? (e.n,0)=[i]:=by rw[n4.2.cell,T];rfl
 have ln:=n4.2.lt;rw[<-P,<-U,<-T]at u;rw[<-P]at L;have zy:Hid (∀W,Calls prog 102 #[[s0],t] W fun e w'=>e=.returned bb/\Below W W w'):=aH (fun W=>by
  have:=kJ s0.toNat (t:Int) W I;rw[show((s0.toNat:Nat):Int)=s0 by omega,L]at this;exact this)
 rw[j]at q5;rw[l]at zz;rw[<-U,<-T];have C:=aH (And.intro hq.1 (And.intro n3.1 n4.1));have B:=aH u;have zp:=aH (And.intro U T);clear H d n1 n2 n3 n4 u P U T l L j;rcases hx with⟨rfl,rfl⟩|⟨rfl,rfl⟩
 all_goals
  go_enter func112,ntmps112
  go_wp2;refine aA 22 ?_
  iterate 22
   first
   |(refine aR1 ?_;constructor
     .intro w9 hw9 hc9 hf9;go_simp
      first
      |exact aE
      |(go_at_call 102;exact bS (zy.out _)))
   |refine aU ?_
  refine bZ ?_;intro w9 hw9 hc9 hf9;refine aS ?_;have H1:=aH (HH.keep1 hw9);have zt:=(hw9.cell (p:=⟨bp,0,none⟩) zv (fun x=>x)).trans f;have Y:=(hw9.cell (p:=⟨Q,0,none⟩) zu (fun x=>x)).trans c;have V:=(hw9.cell (p:=⟨e.a,0,none⟩) la (fun x=>x)).trans ca;have A:=(hw9.cell (p:=⟨e.n,0,none⟩) ln (fun x=>x)).trans cn;have zs:=(hw9.cell (p:=⟨e.q,7,none⟩) lq (fun x=>x)).trans q7;clear hc9 hf9 hw9 f c p0 q0 zz q5 q7 cv cg ca cn;refine aW ?_
  try simp only[List.drop_succ_cons,List.drop_zero,List.drop]
  go_wp2_with fail;have zr:=aH (fun W=>QQ X B.out.2.1.1 B.out.2.1.2 W);have wI:IntKind.i64.wrap i=asI i:=by have:=B.out.2.2;rw[IntKind.wrap_i64];unfold asI;split<;>omega
  obtain⟨h,zq⟩:=aO w9;subst zq;have zo:=H1.th.blk.lt;have mq:Q<h:=World.block_lt_of_cell? h _ Y;have ma:e.a<h:=World.block_lt_of_cell? h _ V;have mn:e.n<h:=World.block_lt_of_cell? h _ A;have x1:¬Q=e.q:=fun z=>by have h1:=C.out.1;have h2:=H1.th.tg;rw[z]at h1;omega
  have x2:¬e.a=e.q:=fun z=>by have h1:=C.out.2.1;have h2:=H1.th.tg;rw[z]at h1;omega
  have x3:¬e.n=e.q:=fun z=>by have h1:=C.out.2.2;have h2:=H1.th.tg;rw[z]at h1;omega
  have y1:¬e.q=Q:=fun z=>x1 z.symm
  have y2:¬e.q=e.a:=fun z=>x2 z.symm
  have y3:¬e.q=e.n:=fun z=>x3 z.symm
  have z1:¬cI e.q Q:=x1;have z2:¬cI e.q e.a:=x2;have z3:¬cI e.q e.n:=x3;clear zt zs;refine bK 9 (cI e.q) [8] J J ?_
  iterate 2
   refine aR ?_;constructor
   .intro w9 hw9 M;refine aS ?_;have v1:=(hw9.cell (p:=⟨Q,0,none⟩) mq z1).trans Y;have v2:=(hw9.cell (p:=⟨e.a,0,none⟩) ma z2).trans V;refine aW ?_;go_simp
    first
    |exact aE
  first|(with_reducible refine aC (fun K y=>?_))|(refine aC (fun K y=>?_))
  refine .inl ?_;apply Exists.intro;refine⟨cX,?_,y _ _ _ _ ?_⟩
  .simp only[bJ,bM];refine⟨?_,fun w9 hw9 M=>?_⟩
   .first|rfl|(go_simp;done)
   refine aS ?_;have v1:=(hw9.cell (p:=⟨Q,0,none⟩) mq z1).trans Y;have v2:=(hw9.cell (p:=⟨e.a,0,none⟩) ma z2).trans V;refine aW ?_;go_simp
   first
   |exact aE
   |(go_at_call 113;exact bS (zr.out _))
  iterate 5
   clear y K;refine aN ?_
   first|(with_reducible refine aC (fun K y=>?_))|(refine aC (fun K y=>?_))
   refine .inl ?_;apply Exists.intro;refine⟨cX,?_,y _ _ _ _ ?_⟩
   .simp only[bJ,bM];refine⟨?_,fun w9 hw9 M=>?_⟩
    .first|rfl|(go_simp;done)
    refine aS ?_;have v1:=(hw9.cell (p:=⟨Q,0,none⟩) mq z1).trans Y;have v2:=(hw9.cell (p:=⟨e.a,0,none⟩) ma z2).trans V;refine aW ?_;go_simp
    first
    |exact aE
  clear y K;refine aN ?_;refine bA undef (fun _ w'=>RC w tag w' tag t {Z with o1:=rZ X,o2:=tU X} last e gs mp m pt s st E O R cr D cd [] [] false) ?_ ?_
  .intro w9 hw9 M;refine aS ?_;have HX:=aH (H1.below (cA M.1 J) (bI.refl _ _));have HY:Hid (w9.there e.q 8 2):=aH (HX.th.blk.there (by show 8+2<=13;omega));refine aW ?_;refine dA 44 _ _ rfl e.q 8 #[(rZ X),(tU X)] rfl rfl HY J J ?_;refine⟨⟨rfl,?_⟩,(cE (S:=cI e.q) (.inl rfl) 8 _).mono fun b hb=>⟨aJ,hb⟩⟩;exact HX.own (cE (S:=cI e.q) (.inl rfl) 8 _) (aY.setCells (vs:=[.int .i64 (rZ X),.int .i64 (tU X)]) (o:=8) HX.th.blk) rfl
  refine aZ ?_;rintro w9 hw9 G;refine aQ ?_;refine aS ?_;obtain⟨wx,k6,k7,hf⟩:=G.1 rfl;have H2:=aH (hf.below (cA k7 J) (bI.refl _ _));have v1:=(hw9.cell (p:=⟨Q,0,none⟩) mq z1).trans Y;have v3:=(hw9.cell (p:=⟨e.n,0,none⟩) mn z3).trans A;have zn:w9.cell? (e.q,10)=Z.wn:=H2.cth 10 (fun _ _=>rfl);have zm:=H2.th.blk.frozen 10;have zl:=H2.cth 12 (fun _ _=>rfl);have zk:=H2.th.blk.frozen 12;have h3:=H2.setTh (Z':={Z with o1:=rZ X,o2:=tU X,wn:=asI i}) (fin':=false) 10 (asI i) (fun _ _=>rfl) rfl;have zx:=h3.setTh (Z':={Z with o1:=rZ X,o2:=tU X,wn:=asI i,does:=0}) (fin':=true) 12 true (fun _ _=>rfl) rfl;have HF:=aH (zx.out rfl (by simp only[iF]) ⟨rfl,rfl⟩);clear G k6 k7 hf hw9 h3 zx Y V A;refine aW ?_;go_wp2;refine bodyPost_end (v:=.tuple #[]) (by simp [results,results112,go_sem]) rfl ?_;exact⟨rfl,HF.out⟩
theorem yW{l:Bool}(H:RC w tag w tag t Z last e gs mp m pt s st E O R cr D cd rows [] false)(hn:iF w tag t Z e)(d:Z.does=21)(hr:(Cl.look5).At w tag e r)(M:(0<=Z.seen 0/\Z.seen 0<18446744073709551616)/\(0<=Z.seen 1/\Z.seen 1<18446744073709551616)/\(0<=Z.seen 2/\Z.seen 2<18446744073709551616))(u:m 1=Z.ver)(U:gO (Z.seen 0).toNat t=l)(L:Z.tg=x)(hx:(l=true/\x=0)\/(l=false/\x=1)):
 ∃N T,r=td 21 (fv N T)/\Calls prog N T w fun e' w'=>e'=.returned (.tuple #[])/\gE w tag t last e gs mp pt st E O (stp t m s Z) w':=by
 obtain⟨bp,bq,rfl,hp,hq⟩:=hr;refine⟨_,_,rfl,?_⟩;simp only[cR];obtain⟨sd,hs⟩:=aP Z.said;obtain⟨n,B⟩:∃n,(sd=true/\n=3)\/(sd=false/\n=1):=by
  cases sd
  .exact⟨1,.inr ⟨rfl,rfl⟩⟩
  exact⟨3,.inl ⟨rfl,rfl⟩⟩
 rw[show stp t m s Z=⟨m,s,Z.go n,false⟩ by simp only[stp,d];rw[iN (fun h=>by have:=h.2;rw[U,L]at this;rcases hx with⟨rfl,rfl⟩|⟨rfl,rfl⟩<;>exact absurd this aJ),hs];rcases B with⟨rfl,rfl⟩|⟨rfl,rfl⟩<;>rfl]
 have h4:=H.t4;have HH:=aH H;simp only[iF,d]at hn;obtain⟨n1,n2,n3,n4⟩:=hn;have j:rows=[]:=by have:=H.rs.len;simpa using this
 subst j;have K:w.cell? (bp,0)=(e.p,0):=hp.cell;have i:=hp.2.lt;have G:w.cell? (bq,0)=(e.q,0):=hq.cell;have f:=hq.2.lt;have p0:=H.cp0;have lp:=H.sh.lt;have ls:=H.st_.lt;have q0:=H.cth 0 (fun _ _=>rfl);have lq:=H.th.blk.lt;have F:w.cell? (e.p,2)=[m 1]:=H.cram (k:=1) I;have q5:=H.cth 5 (fun _ _=>rfl);have c:=H.cth 7 (fun _ _=>rfl);have cv:w.cell? (e.v,0)=[Z.ver]:=by rw[n1.2.cell];rfl
 have lv:=n1.2.lt;obtain⟨A,Y⟩:=aO (Z.seen 0:Int);obtain⟨s1,X⟩:=aO (Z.seen 1:Int);obtain⟨s2,V⟩:=aO (Z.seen 2:Int);have cg:w.cell? (e.g,0)=[A]:=by rw[n2.2.cell,Y];rfl
 have lg:=n2.2.lt;have ca:w.cell? (e.a,0)=[s1]:=by rw[n3.2.cell,X];rfl
 have la:=n3.2.lt;have cn:w.cell? (e.n,0)=[s2]:=by rw[n4.2.cell,V];rfl
 have ln:=n4.2.lt;rw[<-Y,<-X,<-V]at M;rw[<-Y]at U;have C:Hid (∀W,Calls prog 102 #[[A],t] W fun e w'=>e=.returned l/\Below W W w'):=aH (fun W=>by
  have:=kJ A.toNat (t:Int) W I;rw[show((A.toNat:Nat):Int)=A by omega,U]at this;exact this)
 rw[L]at q5;rw[u]at F;rw[hs]at c;have zx:=aH M;have zy:=aH (And.intro X V);clear H d n1 n2 n3 n4 M Y X V u U L hs;rcases hx with⟨rfl,rfl⟩|⟨rfl,rfl⟩<;>rcases B with⟨rfl,rfl⟩|⟨rfl,rfl⟩
 all_goals
  go_enter func112,ntmps112
  go_wp2;refine aA 22 ?_
  iterate 22
   first
   |(refine aR1 ?_;constructor
     .intro w9 hw9 hc9 hf9;go_simp
      first
      |exact aE
      |(go_at_call 102;exact bS (C.out _)))
   |refine aU ?_
  refine bZ ?_;intro w9 hw9 hc9 hf9;refine aS ?_;have o:=aH (HH.keep1 hw9);have zw:=(hw9.cell (p:=⟨bp,0,none⟩) i (fun x=>x)).trans K;have zv:=(hw9.cell (p:=⟨bq,0,none⟩) f (fun x=>x)).trans G;have zu:=(hw9.cell (p:=⟨e.a,0,none⟩) la (fun x=>x)).trans ca;have zt:=(hw9.cell (p:=⟨e.n,0,none⟩) ln (fun x=>x)).trans cn;have zs:=(hw9.cell (p:=⟨e.q,7,none⟩) lq (fun x=>x)).trans c;have HC:=aH (GK o.th e.p h4 (e0:=e) ⟨rfl,rfl⟩ (cls:=[]) trivial (by simp));have HD:=aH (RQ o.th e.p h4);clear hc9 hf9 hw9 K G p0 q0 F q5 c cv cg ca cn;refine aW ?_
  try simp only[List.drop_succ_cons,List.drop_zero,List.drop]
  go_wp2_with fail
  first
  |(with_reducible refine HC.out.mono ?_
    rintro e2 w3 ⟨rfl,z,R3,zz,S,hk,Q,P⟩;have b:=aH (((o.rowed hk ⟨rfl,rfl⟩ Q P).as (Z':=Z.go 3) (fun _ _=>rfl) rfl).out rfl (by simp only[iF,cQ.go]) ⟨rfl,rfl⟩);go_wp2;refine bodyPost_end (v:=.tuple #[]) (by simp [results,results112,go_sem]) rfl ?_;exact⟨rfl,b.out⟩)
  |(with_reducible refine HD.out.mono ?_
    rintro e2 w3 ⟨rfl,z,zr,R3,zz,S,hk,y,Q,P⟩;have b:=aH (((o.rowed hk y Q P).as (Z':=Z.go 1) (fun _ _=>rfl) rfl).out rfl (by simp only[iF,cQ.go]) y);go_wp2;refine bodyPost_end (v:=.tuple #[]) (by simp [results,results112,go_sem]) rfl ?_;exact⟨rfl,b.out⟩)
theorem OB(H:RC w tag w tag t Z last e gs mp m pt s st E O R cr D cd rows [] false)(hn:iF w tag t Z e)(d:Z.does=21)(hr:(Cl.look5).At w tag e r)(P:(0<=Z.seen 0/\Z.seen 0<18446744073709551616)/\(0<=Z.seen 1/\Z.seen 1<18446744073709551616)/\(0<=Z.seen 2/\Z.seen 2<18446744073709551616))(W:¬m 1=Z.ver):
 ∃N V,r=td 21 (fv N V)/\Calls prog N V w fun e' w'=>e'=.returned (.tuple #[])/\gE w tag t last e gs mp pt st E O (stp t m s Z) w':=by
 obtain⟨bp,bq,rfl,hp,hq⟩:=hr;refine⟨_,_,rfl,?_⟩;simp only[cR];obtain⟨l,j⟩:=aP Z.said;obtain⟨n,K⟩:∃n,(l=true/\n=3)\/(l=false/\n=1):=by
  cases l
  .exact⟨1,.inr ⟨rfl,rfl⟩⟩
  exact⟨3,.inl ⟨rfl,rfl⟩⟩
 rw[show stp t m s Z=⟨m,s,Z.go n,false⟩ by simp only[stp,d];rw[iN (fun h=>W h.1),j];rcases K with⟨rfl,rfl⟩|⟨rfl,rfl⟩<;>rfl]
 have h4:=H.t4;have HH:=aH H;simp only[iF,d]at hn;obtain⟨i,f,c,b⟩:=hn;have B:rows=[]:=by have:=H.rs.len;simpa using this
 subst B;have M:w.cell? (bp,0)=(e.p,0):=hp.cell;have A:=hp.2.lt;have L:w.cell? (bq,0)=(e.q,0):=hq.cell;have z:=hq.2.lt;have p0:=H.cp0;have lp:=H.sh.lt;have ls:=H.st_.lt;have q0:=H.cth 0 (fun _ _=>rfl);have lq:=H.th.blk.lt;have y:w.cell? (e.p,2)=[m 1]:=H.cram (k:=1) I;have q5:=H.cth 5 (fun _ _=>rfl);have u:=H.cth 7 (fun _ _=>rfl);have cv:w.cell? (e.v,0)=[Z.ver]:=by rw[i.2.cell];rfl
 have lv:=i.2.lt;obtain⟨s0,U⟩:=aO (Z.seen 0:Int);obtain⟨s1,Y⟩:=aO (Z.seen 1:Int);obtain⟨s2,X⟩:=aO (Z.seen 2:Int);have cg:w.cell? (e.g,0)=[s0]:=by rw[f.2.cell,U];rfl
 have lg:=f.2.lt;have ca:w.cell? (e.a,0)=[s1]:=by rw[c.2.cell,Y];rfl
 have la:=c.2.lt;have cn:w.cell? (e.n,0)=[s2]:=by rw[b.2.cell,X];rfl
 have ln:=b.2.lt;rw[<-U,<-Y,<-X]at P;have zw:=W;have zv:¬(Z.ver:Int)=m 1:=fun h=>W h.symm
 rw[j]at u;have zu:=aH P;have zy:=aH (And.intro Y X);clear H d i f c b P U Y X W j;rcases K with⟨rfl,rfl⟩|⟨rfl,rfl⟩
 all_goals
  go_enter func112,ntmps112
  go_wp2;refine aA 22 ?_
  iterate 8
   refine aR ?_;constructor
   .intro w9 hw9 _;refine aS ?_;obtain⟨hc9,hf9⟩:=hw9.all;refine aW ?_;go_simp
    first
    |exact aE
  iterate 12
   refine aU ?_
  iterate 2
   refine aR ?_;constructor
   .intro w9 hw9 _;refine aS ?_;obtain⟨hc9,hf9⟩:=hw9.all;refine aW ?_;go_simp
    first
    |exact aE
  refine aZ ?_;rintro w9 hw9 zx;refine aQ ?_;obtain⟨hc9,hf9⟩:=hw9.all;refine aS ?_;have C:=aH (HH.keep1 hw9);have zt:=(hw9.cell (p:=⟨bp,0,none⟩) A (fun x=>x)).trans M;have zs:=(hw9.cell (p:=⟨bq,0,none⟩) z (fun x=>x)).trans L;have zr:=(hw9.cell (p:=⟨e.a,0,none⟩) la (fun x=>x)).trans ca;have zq:=(hw9.cell (p:=⟨e.n,0,none⟩) ln (fun x=>x)).trans cn;have zp:=(hw9.cell (p:=⟨e.q,7,none⟩) lq (fun x=>x)).trans u;have HC:=aH (GK C.th e.p h4 (e0:=e) ⟨rfl,rfl⟩ (cls:=[]) trivial (by simp));have HD:=aH (RQ C.th e.p h4);clear hc9 hf9 hw9 M L p0 q0 y q5 u cv cg ca cn;refine aW ?_
  try simp only[List.drop_succ_cons,List.drop_zero,List.drop]
  go_wp2_with fail
  first
  |(with_reducible refine HC.out.mono ?_
    rintro e2 w3 ⟨rfl,G,R3,zz,T,hk,S,Q⟩;have o:=aH (((C.rowed hk ⟨rfl,rfl⟩ S Q).as (Z':=Z.go 3) (fun _ _=>rfl) rfl).out rfl (by simp only[iF,cQ.go]) ⟨rfl,rfl⟩);go_wp2;refine bodyPost_end (v:=.tuple #[]) (by simp [results,results112,go_sem]) rfl ?_;exact⟨rfl,o.out⟩)
  |(with_reducible refine HD.out.mono ?_
    rintro e2 w3 ⟨rfl,G,zo,R3,zz,T,hk,F,S,Q⟩;have o:=aH (((C.rowed hk F S Q).as (Z':=Z.go 1) (fun _ _=>rfl) rfl).out rfl (by simp only[iF,cQ.go]) F);go_wp2;refine bodyPost_end (v:=.tuple #[]) (by simp [results,results112,go_sem]) rfl ?_;exact⟨rfl,o.out⟩)
end
end
section
open Go.Maps
def yG(v:Value):Option (DataW Value×List MemPlace):=some (.held v,[])
def VZ(v:Nat):Lit:=.int .u64 v
theorem ZA{v u:Nat}(h:VZ v=VZ u):v=u:=by
 unfold VZ at h;injection h with _ h
 omega
theorem Bo(v:Nat):WideAt.IsKeyLit (VZ v):=by unfold VZ;trivial
theorem Ab(v:Nat)(h:v<18446744073709551616):keyOf prog 23 [v]=some (VZ v):=by
 refine keyOf_int_mk underlying23 ?_;unfold Lit.wf;simp [IntKind.min,IntKind.max,IntKind.bits,IntKind.signed]
 try omega
def KO(w:World)(tag:Nat->Nat)(go n:Nat)(of:Nat->List (List Value)):Prop:=
 tag go=104/\∃D:DataW Value,w.ownsMap prog 23 yG go n D/\∀v,∃A c,D.atKey (VZ v) (.held (.slice none 0 0))=.held (.slice A (of v).length c)/\cU w 0 159 6 A (of v).length c (of v)/\∀b,iI A b->tag b=105
theorem KO.lt{w:World}{go n:Nat}{Y:Nat->List (List Value)}(h:KO w tag go n Y):go<w:=by
 obtain⟨_,D,Z,_⟩:=h;exact Z.lt
theorem KO.kept{w:World}{Z:Nat->Nat}{S:Nat->Prop}{go n:Nat}{T:Nat->List (List Value)}(h:KO w tag go n T)(R:aD S w w')(Q:bI w tag Z)(P:∀b,S b->tag b≠104/\tag b≠105):KO w' Z go n T:=by
 have X:=h.lt;obtain⟨W,D,N,M⟩:=h;have O:=R.block go X (fun z=>(P _ z).1 W);obtain⟨L,Y,K,H,G,F⟩:=N;refine⟨(Q go X).trans W,D,⟨L,Y,O.trans K,H,G,F⟩,fun v=>?_⟩;obtain⟨A,c,E,V,U⟩:=M v;exact⟨A,c,E,V.keptT R U (fun b z=>(P b z).2),V.tagT Q U⟩
theorem KO.put{go n:Nat}{Z:Nat->List (List Value)}{V:Nat}{A:Option Addr}{c:Nat}{l:List (List Value)}{D:DataW Value}(S:tag go=104)(R:w'.ownsMap prog 23 yG go (n+1) (D.put (VZ V) (.held (.slice A l.length c))))(Q:IsMap D)
 (P:∀v,∃A c,D.atKey (VZ v) (.held (.slice none 0 0))=.held (.slice A (Z v).length c)/\cU w' 0 159 6 A (Z v).length c (Z v)/\∀b,iI A b->tag b=105)
 (O:cU w' 0 159 6 A l.length c l) (N:∀b,iI A b->tag b=105):KO w' tag go (n+1) (fun v=>if v=V then l else Z v):=by
 refine⟨S,_,R,fun v=>?_⟩;by_cases e:v=V
 .subst e;refine⟨A,c,?_,?_,N⟩
  .dsimp only;rw[atKey_put_same Q (Bo _),iP rfl]
  dsimp only;rw[iP rfl];exact O
 obtain⟨X,W,U,Y,T⟩:=P v;refine⟨X,W,?_,?_,T⟩
 .dsimp only;rw[atKey_put_other (fun Y=>e (ZA Y)),U,iN e]
 dsimp only;rw[iN e];exact Y
end
section
open Go.Maps
attribute [local go_sem↓] Go.wp_at_zero Go.wp_at_succ
def CM(t k:Nat):Prop:=yL t k\/k=104
section
variable{w0 w w':World}{tag0 tag:Nat->Nat}{t:Nat}{Z:cQ}{last:Int}{e:mG}{gs mp:Nat}{m:Nat->Int}{pt:Nat->Nat}{s:cN}{st:Int}{E O:Value}{R:Option Addr}{cr:Nat}{D:Option Addr}{cd:Nat}{rows:List (List Value)}{cs:List Cl}{fin:Bool}
theorem RC.rebase(h:RC w0 tag0 w tag t Z last e gs mp m pt s st E O R cr D cd rows cs fin){S:Nat->Prop}(W:aD S w w')(T:∀b,S b->tag b=104):RC w' tag w' tag t Z last e gs mp m pt s st E O R cr D cd rows cs fin:=by
 have V:=h.t4;have X:=bI.refl w tag;have Y:∀b,S b->tag b≠100/\tag b≠101/\tag b≠102/\tag b≠105/\tag b≠106/\tag b≠110+t/\tag b≠120+t:=fun b U=>by
  have:=T b U;omega
 exact⟨Kg.refl _ _ _,(W.block e.p h.sh.lt fun z=>(Y _ z).2.2.1 h.tp).trans h.sh,(W.block gs h.st_.lt fun z=>(Y _ z).1 h.ts).trans h.st_,h.wm.kept W (fun z=>(Y _ z).2.1 h.tm),(X _ h.sh.lt).trans h.tp,(X _ h.st_.lt).trans h.ts,(X _ h.wm.lt).trans h.tm,h.th.kept W X (fun b z=>(Y b z).2.2.2.2.2.1) (fun b z=>(Y b z).2.2.2.2.2.2) (fun b z=>(Y b z).2.2.2.1),h.rs.kept W X (fun b z=>(Y b z).2.2.2.2.1),V⟩
end
section
variable{w:World}{tag:Nat->Nat}{t:Nat}{Z:cQ}{last:Int}{e:mG}{gs mp:Nat}{m:Nat->Int}{pt:Nat->Nat}{s:cN}{st:Int}{E O:Value}{R:Option Addr}{cr:Nat}{D:Option Addr}{cd:Nat}{rows:List (List Value)}{cs:List Cl}{r:List Value}
theorem UT(H:RC w tag w tag t Z last e gs mp m pt s st E O R cr D cd rows [.wish2,.firm2,.tell (Z.ver+1),.unlock,.reply] false)(hn:iF w tag t Z e)(d:Z.does=11)(hr:(Cl.index (Z.ver+1)).At w tag e r){go n:Nat}{of:Nat->List (List Value)}(hO:O=.map (some go))(zx:KO w tag go n of)(zh:n<=1000000000)(zg:Z.ver<=1099511627776):
 ∃N L,r=td 11 (fv N L)/\Calls prog N L w fun e' w'=>e'=.returned (.tuple #[])/\Kg (CM t) w tag w' tag/\KO w' tag go (n+1) (fun v=>if v=Z.ver+1 then Z.deeds else of v)/\gE w' tag t last e gs mp pt st E O (stp t m s Z) w':=by
 obtain⟨bv,bp,bq,rfl,hv,hp,hq⟩:=hr;refine⟨_,_,rfl,?_⟩;simp only[cR];rw[show stp t m s Z=⟨m,s.save 0 (Z.ver+1:Nat),Z.go 12,false⟩ by simp only[stp,d]];have h4:=H.t4;have HH:=aH H;subst hO;have K:=hv.cell;have G:=hv.2.lt;have B:w.cell? (bp,0)=(e.p,0):=hp.cell;have F:=hp.2.lt;have y:w.cell? (bq,0)=(e.q,0):=hq.cell;have C:=hq.2.lt;have p0:=H.cp0;have lp:=H.sh.lt;have ls:=H.st_.lt;have zw:=aH zx;have u:=aH (Ab (Z.ver+1) I);obtain⟨V,hV⟩:=aO (((Z.ver+1:Nat):Int):Int);rw[<-hV]at K u⊢;clear hV;clear H hn d zx
 go_enter func176,ntmps176
 go_wp2;refine aA 7 ?_
 iterate 7
  first
  |(refine aR1 ?_;constructor
    .intro w9 hw9 hc9 hf9;go_simp
     first
     |exact aE)
  |refine aU ?_
 refine bZ ?_;intro w9 hw9 hc9 hf9;refine aS ?_;have H1:=aH (HH.keep1 hw9);have zv:=aH hw9;have zu:=aH (zw.kept hw9 (bI.refl _ _) (fun _ x=>x.elim));have zn:w9.cell? (gs,0)=[s.now 0]:=H1.cnow I;have zm:=H1.st_.frozen 0;have Y:=bP w9 gs 0 [V];have o:∀b,cI gs b->tag b=100:=fun b X=>by rw[show b=gs from X];exact H1.ts
 have l:=aH (H1.setNow (a:=0) I V);have zt:=aH (zu.kept Y (bI.refl _ _) (fun b X=>by have:=o b X;omega));have j:(w9.setCell (gs,0) [V]).cell? (bv,0)=[V]:=(Y.cell (p:=⟨bv,0,none⟩) (Nat.lt_of_lt_of_le G hw9.size) (fun z=>by have h1:=o bv z;have h2:=hv.1;omega)).trans ((hw9.cell (p:=⟨bv,0,none⟩) G (fun x=>x)).trans K);have i:(w9.setCell (gs,0) [V]).cell? (bp,0)=(e.p,0):=(Y.cell (p:=⟨bp,0,none⟩) (Nat.lt_of_lt_of_le F hw9.size) (fun z=>by have h1:=o bp z;have h2:=hp.1;omega)).trans ((hw9.cell (p:=⟨bp,0,none⟩) F (fun x=>x)).trans B);have h:(w9.setCell (gs,0) [V]).cell? (bq,0)=(e.q,0):=(Y.cell (p:=⟨bq,0,none⟩) (Nat.lt_of_lt_of_le C hw9.size) (fun z=>by have h1:=o bq z;have h2:=hq.1;omega)).trans ((hw9.cell (p:=⟨bq,0,none⟩) C (fun x=>x)).trans y);have mz:=Nat.le_trans hw9.size Y.size;clear hc9 hf9 hw9 Y o K B y p0;refine aW ?_;simp only[List.drop_succ_cons,List.drop_zero,List.drop];go_wp2;generalize w9.setCell (gs,0) [V]=w2 at*;have zl:=Nat.lt_of_lt_of_le G mz;have zk:=Nat.lt_of_lt_of_le F mz;have zj:=Nat.lt_of_lt_of_le C mz;have zs:w2.cell? (e.p,23)=some (.map (some go)):=by rw[l.sh.cell,Bl]
 have mp:=l.sh.lt;have zr:w2.cell? (e.q,11)=some (.slice D Z.deeds.length cd):=by rw[l.th.blk.cell];rfl
 have mq:=l.th.blk.lt;refine aA 9 ?_
 iterate 9
  first
  |(refine aR1 ?_;constructor
    .intro w9 hw9 hc9 hf9;go_simp
     first
     |exact aE)
  |refine aU ?_
 refine bZ ?_;intro w9 hw9 hc9 hf9;refine aS ?_;have g:=aH (l.keep1 hw9);obtain⟨zz,Dm,W,zy⟩:=zt.kept hw9 (bI.refl _ _) (fun _ x=>x.elim);have zi:=aH (zv.out);have Q:IsMap Dm:=by
  obtain⟨es,zo,_,_,_,hq⟩:=W;exact⟨_,hq⟩
 have zq:=aH W;have U:=aH (And.intro zz (And.intro Q zy));clear W Q zy hc9 hf9 j i h zs zr;refine aW ?_;simp only[List.drop_succ_cons,List.drop_zero,List.drop]
 go_wp2_with (refine wpList_mapUpdate_own _ rfl _ _ _ 66 rfl 23 41 YV underlying66 yG go n Dm rfl zq.out (by unfold maxLen;omega) _ _ (VZ (Z.ver+1)) rfl rfl u.out (.held (.slice D Z.deeds.length cd)) [] rfl ?_;rintro w3 P M;have f:aD (nQ go) w9 w3:=uQ M;have zp:=aH P;have T:=aH f;clear P M f)
 refine bodyPost_end (v:=.tuple #[]) (by simp [results,results176,go_sem]) rfl ?_;have S:∀b,nQ go b->tag b=104:=fun b X=>by rw[show b=go from X];exact U.out.1
 refine⟨rfl,(g.k.mono (fun k hk=>.inl hk)).go (bI.refl _ _) T.out (fun b X=>.inr (S b X)),?_,?_⟩
 .refine KO.put U.out.1 zp.out U.out.2.1 (fun v=>?_) (g.th.deeds.keptT T.out g.th.tD (fun b X=>by rw[S b X];omega)) g.th.tD;obtain⟨A,c,e1,e2,e3⟩:=U.out.2.2 v;exact⟨A,c,e1,e2.keptT T.out e3 (fun b X=>by rw[S b X];omega),e3⟩
 have h5:=(g.rebase T.out S).as (Z':=Z.go 12) (fun _ _=>rfl) rfl;exact h5.out rfl (by simp only[iF,cQ.go]) ⟨rfl,rfl⟩
end
end
section
attribute [local go_sem↓] Go.wp_at_zero Go.wp_at_succ
section
variable{w:World}{tag:Nat->Nat}{t gw gm gs:Nat}{Z:cQ}{A D:Option Addr}{ca cd:Nat}{m:Nat->Int}{s:cN}
theorem Ao(P:gJ w tag t Z gw A ca D cd)(T:fE w tag m gm)(K:iQ w tag s gs)(ht:t<4)(d:Z.does=2)(H:Z.tg=0\/Z.tg=1):
 Calls prog 62 #[(gw,0),(gm,0)] w fun e w'=>e=.returned (.tuple #[])/\iZ w tag t gw gm gs (stp t m s Z) w':=by
 rw[show stp t m s Z=⟨eI m (3+2*t) (Z.tg+1),s,{Z with said:=true,does:=3},false⟩ by simp only[stp,d]];have X:=aH (WS.start P T K);have O:=aH d;have c1:w.cell? (gw,1)=(2:Int):=X.c1 O;have G:w.cell? (gw,0)=t:=X.c 0 I;have F:w.cell? (gw,5)=Z.tg:=X.c 5 I;have W:=X.lt;have n:=X.f 1;have l:=aH (show fE w tag m gm from T);have V:¬cI gm gw:=fun e=>by have S:=P.tg;have N:=T.1;rw[show gw=gm from e]at S;omega
 have k:0<=Z.tg:=I;have j:Z.tg<=1:=I;have h:=aH H;clear H;have R:IntKind.i64.wrap (2*(t:Int))=2*t:=dE I I;have g:IntKind.i64.wrap (2+2*(t:Int))=2+2*t:=dE I I;have b:IntKind.i64.wrap (2+2*(t:Int)+1)=2+2*t+1:=dE I I;have a:=sS I I;have k5:IntKind.u64.wrap (Z.tg+1)=Z.tg+1:=sS I I;clear P T K d
 go_enter func62,ntmps62
 go_wp2;refine bK 15 (cI gm) [14] J J ?_
 iterate 14
  refine aR ?_;constructor
  .intro w9 hw9 hm9;refine aS ?_;have q0:=(hw9.cell (p:=⟨gw,0,none⟩) W V).trans G;have q5:=(hw9.cell (p:=⟨gw,5,none⟩) W V).trans F;refine aW ?_;go_simp
   first
   |exact aE
 refine bA (.nilIface) (fun _ w'=>WS w w' tag t Z gw A ca D cd (eI m (3+2*t) (Z.tg+1)) gm s gs) ?_ ?_
 .intro w9 hw9 hm9;refine aS ?_;have E:=aH (X.below (cA hm9.1 J));have C:=aH (E.rsave (i:=3+2*t) I (x:=Z.tg+1) I (2+2*(t:Int)+1) I);refine aW ?_;go_simp;go_at_call 78;refine C.mono ?_;rintro e r ⟨rfl,S,N⟩;exact⟨_,rfl,⟨rfl,S⟩,N⟩
 refine aZ ?_;rintro M hw9 Y;refine aQ ?_;refine aS ?_;obtain⟨q,o,R,L⟩:=Y.1 rfl;have U:=aH (L.below (cA R J));clear Y L o R q;refine aW ?_;have c6:M.cell? (gw,6)=Z.said:=U.c 6 I;have f6:=U.f 6;have B:=U.lt;have Q:=aH (U.own (Z':={Z with said:=true}) (SH _ _ _ _ true) rfl rfl rfl);have z:(M.setCell (gw,6) true).cell? (gw,1)=(2:Int):=Q.c1 O;have y:=Q.f 1;have u:=aH ((Q.does 3).out false);go_wp2;refine bodyPost_end (v:=.tuple #[]) (by simp [results,results62,go_sem]) rfl ⟨rfl,u.out⟩
theorem XG(W:gJ w tag t Z gw A ca D cd)(V:fE w tag m gm)(U:iQ w tag s gs)(M:t<4)(d:Z.does=3)(X:m 0≠0):
 Calls prog 62 #[(gw,0),(gm,0)] w fun e w'=>e=.returned (.tuple #[])/\iZ w tag t gw gm gs (stp t m s Z) w':=by
 rw[show stp t m s Z=⟨m,s,Z.go 17,false⟩ by simp only[stp,d];rw[iN X]];have Y:=aH (WS.start W V U);have T:=aH d;have c1:w.cell? (gw,1)=(3:Int):=Y.c1 T;have P:w.cell? (gw,0)=t:=Y.c 0 I;have S:=Y.lt;have O:=Y.f 1;have R:=aH (Y.rswapN (x:=(t:Int)+1) X);have Q:=aH ((Y.does 17).out false);clear X;clear W V U d
 go_enter func62,ntmps62
 go_wp2_with fail
 with_reducible refine R.out.mono ?_
 rintro e N ⟨rfl,rfl⟩;go_wp2;refine bodyPost_ret (v:=.tuple #[]) (by simp [results,results62,go_sem]) rfl ⟨rfl,Q.out⟩
theorem WE(S:gJ w tag t Z gw A ca D cd)(R:fE w tag m gm)(Q:iQ w tag s gs)(F:t<4)(d:Z.does=3)(W:m 0=0):
 Calls prog 62 #[(gw,0),(gm,0)] w fun e w'=>e=.returned (.tuple #[])/\iZ w tag t gw gm gs (stp t m s Z) w':=by
 rw[show stp t m s Z=⟨eI m 0 (t+1),s,Z.go 4,false⟩ by simp only[stp,d];rw[iP W]];have Y:=aH (WS.start S R Q);have V:=aH d;have c1:w.cell? (gw,1)=(3:Int):=Y.c1 V;have H:w.cell? (gw,0)=t:=Y.c 0 I;have P:=Y.lt;have G:=Y.f 1;have U:=aH (Y.rswapY (x:=(t:Int)+1) I W);clear W;clear S R Q d
 go_enter func62,ntmps62
 go_wp2_with fail
 with_reducible refine U.out.mono ?_
 rintro e K ⟨rfl,T⟩;have X:=aH T;clear T U;have O:K.cell? (gw,1)=(3:Int):=X.c1 V;have N:=X.f 1;have M:=X.lt;have L:=aH ((X.does 4).out false);go_wp2;refine bodyPost_end (v:=.tuple #[]) (by simp [results,results62,go_sem]) rfl ⟨rfl,L.out⟩
theorem XJ(R:gJ w tag t Z gw A ca D cd)(M:fE w tag m gm)(Q:iQ w tag s gs)(ht:t<4)(d:Z.does=8)(l:Z.i<32)(hv:Z.ver<1099511627776):
 Calls prog 64 #[(gw,0),(gs,0)] w fun e w'=>e=.returned (.tuple #[])/\iZ w tag t gw gm gs (stp t m s Z) w':=by
 rw[show stp t m s Z=⟨m,s.save (dU (Z.ver+1)+Z.i) (Z.r Z.i),Z.next 32 9,false⟩ by simp only[stp,d]];have X:=aH (WS.start R M Q);have L:=aH d;have c1:w.cell? (gw,1)=(8:Int):=X.c1 L;have K:w.cell? (gw,7)=Z.i:=X.c 7 I;have H:w.cell? (gw,8)=[Z.ver]:=X.c 8 I;have W:=X.lt;have k:=X.f 1;have V:¬cI gs gw:=fun e=>by have S:=R.tg;have U:=Q.1;rw[show gw=gs from e]at S;omega
 have G:w.cell? (gw,9+Z.i)=[Z.r Z.i]:=by rw[X.wk.blk.cell,ZR _ _ _ _ l]
 obtain⟨B,T⟩:=aO (dU (Z.ver+1):Nat);have P:B<=40:=by rw[T];unfold dU;omega
 have F:=aH T;rw[<-T];clear T;have E:(Z.i:Int)<32:=I;have j:IntKind.u64.wrap ((Z.ver:Int)+1)=(Z.ver:Int)+1:=sS I I;have h:IntKind.i64.wrap ((B:Int)+(Z.i:Int))=(B:Int)+Z.i:=dE I I;clear R M Q d
 go_enter func64,ntmps64
 go_wp2;refine bK 22 (cI gs) [21] J J ?_
 iterate 21
  refine aR ?_;constructor
  .intro w9 hw9 hm9;refine aS ?_;have g:=(hw9.cell (p:=⟨gw,7,none⟩) W V).trans K;have b:=(hw9.cell (p:=⟨gw,8,none⟩) W V).trans H;have q9:=(hw9.cell (p:=⟨gw,9+Z.i,none⟩) W V).trans G;refine aW ?_;go_simp
   first
   |exact aE
   |(go_at_call 92;exact bS (qU (Z.ver+1) _ I B F _))
 refine bA (.nilIface) (fun _ w'=>WS w w' tag t Z gw A ca D cd m gm (s.save (B+Z.i) (Z.r Z.i)) gs) ?_ ?_
 .intro w9 hw9 hm9;refine aS ?_;have C:=aH (X.below (cA hm9.1 J));have z:=aH (C.ssave (a:=B+Z.i) I (Z.r Z.i) ((B:Int)+Z.i) I);refine aW ?_;go_simp;go_at_call 18;refine z.mono ?_;rintro e q ⟨rfl,S,U⟩;exact⟨_,rfl,⟨rfl,S⟩,U⟩
 refine aZ ?_;rintro w1 hw9 Y;refine aQ ?_;refine aS ?_;obtain⟨o,n,O,N⟩:=Y.1 rfl;have y:=aH (N.below (cA O J));clear Y N n O o;refine aW ?_;have x:=aH (y.next 32 9 I 32 9 rfl rfl);go_wp2_with fail
 with_reducible refine x.out.mono ?_
 rintro e w2 ⟨rfl,U⟩;have u:=aH (U.out false);clear U;go_wp2;refine bodyPost_end (v:=.tuple #[]) (by simp [results,results64,go_sem]) rfl ⟨rfl,u.out⟩
theorem YR(O:gJ w tag t Z gw A ca D cd)(G:fE w tag m gm)(N:iQ w tag s gs)(b:t<4)(d:Z.does=9)(hi:Z.i<4)(hv:Z.ver<1099511627776)(M:s.fl<=1000000000):
 Calls prog 64 #[(gw,0),(gs,0)] w fun e w'=>e=.returned (.tuple #[])/\iZ w tag t gw gm gs (stp t m s Z) w':=by
 rw[show stp t m s Z=⟨m,s.flush t (dU (Z.ver+1)/8+Z.i),Z.next 4 10,false⟩ by simp only[stp,d]];have X:=aH (WS.start O G N);have F:=aH d;have c1:w.cell? (gw,1)=(9:Int):=X.c1 F;have E:w.cell? (gw,0)=t:=X.c 0 I;have C:w.cell? (gw,7)=Z.i:=X.c 7 I;have z:w.cell? (gw,8)=[Z.ver]:=X.c 8 I;have W:=X.lt;have a:=X.f 1;have V:¬cI gs gw:=fun e=>by have R:=O.tg;have U:=N.1;rw[show gw=gs from e]at R;omega
 obtain⟨B,S⟩:=aO (dU (Z.ver+1):Nat);have T:B=8\/B=40:=by rw[S];unfold dU;omega
 have y:=aH S;rw[<-S];clear S;have x:(Z.i:Int)<4:=I;have kv:IntKind.u64.wrap ((Z.ver:Int)+1)=(Z.ver:Int)+1:=sS I I;obtain⟨Q,P,j⟩:∃Q:Nat,B/8=Q/\Q<=5:=⟨B/8,rfl,I⟩;rw[P];have kd:(B:Int).tdiv 8=(Q:Int):=by rw[<-P];rcases T with rfl|rfl<;>rfl
 have u:(B:Int)/8=(Q:Int):=I;have L:IntKind.i64.wrap (Q:Int)=(Q:Int):=dE I I;have kb:IntKind.i64.wrap ((Q:Int)+(Z.i:Int))=(Q:Int)+Z.i:=dE I I;clear P;clear O G N d
 go_enter func64,ntmps64
 go_wp2;refine bK 18 (cI gs) [17] J J ?_
 iterate 17
  refine aR ?_;constructor
  .intro w9 hw9 hm9;refine aS ?_;have q0:=(hw9.cell (p:=⟨gw,0,none⟩) W V).trans E;have q7:=(hw9.cell (p:=⟨gw,7,none⟩) W V).trans C;have q8:=(hw9.cell (p:=⟨gw,8,none⟩) W V).trans z;refine aW ?_;go_simp
   first
   |exact aE
   |(go_at_call 92;exact bS (qU (Z.ver+1) _ I B y _))
 refine bA (.nilIface) (fun _ w'=>WS w w' tag t Z gw A ca D cd m gm (s.flush t (Q+Z.i)) gs) ?_ ?_
 .intro w9 hw9 hm9;refine aS ?_;have r:=aH (X.below (cA hm9.1 J));have q:=aH (r.flush b (l:=Q+Z.i) I M ((Q:Int)+Z.i) I);refine aW ?_;go_simp;go_at_call 97;refine q.mono ?_;rintro e h ⟨rfl,R,U⟩;exact⟨_,rfl,⟨rfl,R⟩,U⟩
 refine aZ ?_;rintro w1 hw9 Y;refine aQ ?_;refine aS ?_;obtain⟨g,L,K,H⟩:=Y.1 rfl;have o:=aH (H.below (cA K J));clear Y H L K g;refine aW ?_;have n:=aH (o.next 4 10 I 4 10 rfl rfl);go_wp2_with fail
 with_reducible refine n.out.mono ?_
 rintro e w2 ⟨rfl,U⟩;have k:=aH (U.out false);clear U;go_wp2;refine bodyPost_end (v:=.tuple #[]) (by simp [results,results64,go_sem]) rfl ⟨rfl,k.out⟩
theorem QA(S:gJ w tag t Z gw A ca D cd)(R:fE w tag m gm)(Q:iQ w tag s gs)(H:t<4)(d:Z.does=10)(W:s.fe<=1000000000):
 Calls prog 64 #[(gw,0),(gs,0)] w fun e w'=>e=.returned (.tuple #[])/\iZ w tag t gw gm gs (stp t m s Z) w':=by
 rw[show stp t m s Z=⟨m,s.fence t,Z.go 11,false⟩ by simp only[stp,d]];have Y:=aH (WS.start S R Q);have V:=aH d;have c1:w.cell? (gw,1)=(10:Int):=Y.c1 V;have G:w.cell? (gw,0)=t:=Y.c 0 I;have P:=Y.lt;have F:=Y.f 1;have U:=aH (Y.fence H W);clear S R Q d
 go_enter func64,ntmps64
 go_wp2_with fail
 with_reducible refine U.out.mono ?_
 rintro e K ⟨rfl,T⟩;have X:=aH T;clear T U;have O:K.cell? (gw,1)=(10:Int):=X.c1 V;have N:=X.f 1;have M:=X.lt;have L:=aH ((X.does 11).out false);go_wp2;refine bodyPost_end (v:=.tuple #[]) (by simp [results,results64,go_sem]) rfl ⟨rfl,L.out⟩
theorem RX(S:gJ w tag t Z gw A ca D cd)(R:fE w tag m gm)(Q:iQ w tag s gs)(H:t<4)(d:Z.does=13)(W:s.fe<=1000000000):
 Calls prog 64 #[(gw,0),(gs,0)] w fun e w'=>e=.returned (.tuple #[])/\iZ w tag t gw gm gs (stp t m s Z) w':=by
 rw[show stp t m s Z=⟨m,s.fence t,Z.go 14,false⟩ by simp only[stp,d]];have Y:=aH (WS.start S R Q);have V:=aH d;have c1:w.cell? (gw,1)=(13:Int):=Y.c1 V;have G:w.cell? (gw,0)=t:=Y.c 0 I;have P:=Y.lt;have F:=Y.f 1;have U:=aH (Y.fence H W);clear S R Q d
 go_enter func64,ntmps64
 go_wp2_with fail
 with_reducible refine U.out.mono ?_
 rintro e K ⟨rfl,T⟩;have X:=aH T;clear T U;have O:K.cell? (gw,1)=(13:Int):=X.c1 V;have N:=X.f 1;have M:=X.lt;have L:=aH ((X.does 14).out false);go_wp2;refine bodyPost_end (v:=.tuple #[]) (by simp [results,results64,go_sem]) rfl ⟨rfl,L.out⟩
theorem PY(T:gJ w tag t Z gw A ca D cd)(S:fE w tag m gm)(R:iQ w tag s gs)(G:t<4)(d:Z.does=11)(F:Z.ver<1099511627776):
 Calls prog 64 #[(gw,0),(gs,0)] w fun e w'=>e=.returned (.tuple #[])/\iZ w tag t gw gm gs (stp t m s Z) w':=by
 rw[show stp t m s Z=⟨m,s.save 0 (Z.ver+1:Nat),Z.go 12,false⟩ by simp only[stp,d]];have Y:=aH (WS.start T S R);have V:=aH d;have c1:w.cell? (gw,1)=(11:Int):=Y.c1 V;have K:w.cell? (gw,8)=[Z.ver]:=Y.c 8 I;have Q:=Y.lt;have H:=Y.f 1;have W:=aH (Y.ssave (a:=0) I ((Z.ver+1:Nat):Int) 0 rfl);rw[show((Z.ver+1:Nat):Int)=(Z.ver:Int)+1 by omega]at W⊢;clear T S R d
 go_enter func64,ntmps64
 go_wp2_with fail
 with_reducible refine W.out.mono ?_
 rintro e L ⟨rfl,U,_⟩;have X:=aH U;clear U W;have P:L.cell? (gw,1)=(11:Int):=X.c1 V;have O:=X.f 1;have N:=X.lt;have M:=aH ((X.does 12).out false);go_wp2;refine bodyPost_end (v:=.tuple #[]) (by simp [results,results64,go_sem]) rfl ⟨rfl,M.out⟩
theorem UK(S:gJ w tag t Z gw A ca D cd)(R:fE w tag m gm)(Q:iQ w tag s gs)(H:t<4)(d:Z.does=12)(W:s.fl<=1000000000):
 Calls prog 64 #[(gw,0),(gs,0)] w fun e w'=>e=.returned (.tuple #[])/\iZ w tag t gw gm gs (stp t m s Z) w':=by
 rw[show stp t m s Z=⟨m,s.flush t 0,Z.go 13,false⟩ by simp only[stp,d]];have Y:=aH (WS.start S R Q);have V:=aH d;have c1:w.cell? (gw,1)=(12:Int):=Y.c1 V;have G:w.cell? (gw,0)=t:=Y.c 0 I;have P:=Y.lt;have F:=Y.f 1;have U:=aH (Y.flush H (l:=0) I W 0 rfl);clear S R Q d
 go_enter func64,ntmps64
 go_wp2_with fail
 with_reducible refine U.out.mono ?_
 rintro e K ⟨rfl,T,_⟩;have X:=aH T;clear T U;have O:K.cell? (gw,1)=(12:Int):=X.c1 V;have N:=X.f 1;have M:=X.lt;have L:=aH ((X.does 13).out false);go_wp2;refine bodyPost_end (v:=.tuple #[]) (by simp [results,results64,go_sem]) rfl ⟨rfl,L.out⟩
theorem SD(T:gJ w tag t Z gw A ca D cd)(S:fE w tag m gm)(R:iQ w tag s gs)(G:t<4)(d:Z.does=14)(F:Z.ver<1099511627776):
 Calls prog 65 #[(gw,0),(gm,0)] w fun e w'=>e=.returned false/\iZ w tag t gw gm gs (stp t m s Z) w':=by
 rw[show stp t m s Z=⟨eI m 1 (Z.ver+1:Nat),s,Z.go 15,false⟩ by simp only[stp,d]];have Y:=aH (WS.start T S R);have V:=aH d;have c1:w.cell? (gw,1)=(14:Int):=Y.c1 V;have K:w.cell? (gw,8)=[Z.ver]:=Y.c 8 I;have Q:=Y.lt;have H:=Y.f 1;have W:=aH (Y.rsave (i:=1) I (x:=((Z.ver+1:Nat):Int)) I 1 rfl);rw[show((Z.ver+1:Nat):Int)=(Z.ver:Int)+1 by omega]at W⊢;clear T S R d
 go_enter func65,ntmps65
 go_wp2_with fail
 with_reducible refine W.out.mono ?_
 rintro e L ⟨rfl,U,_⟩;have X:=aH U;clear U W;have P:L.cell? (gw,1)=(14:Int):=X.c1 V;have O:=X.f 1;have N:=X.lt;have M:=aH ((X.does 15).out false);go_wp2;go_ret;exact⟨rfl,M.out⟩
theorem TA(T:gJ w tag t Z gw A ca D cd)(S:fE w tag m gm)(R:iQ w tag s gs)(H:t<4)(d:Z.does=15):
 Calls prog 65 #[(gw,0),(gm,0)] w fun e w'=>e=.returned false/\iZ w tag t gw gm gs (stp t m s Z) w':=by
 rw[show stp t m s Z=⟨eI m 0 0,s,Z.go 16,false⟩ by simp only[stp,d]];have Y:=aH (WS.start T S R);have W:=aH d;have c1:w.cell? (gw,1)=(15:Int):=Y.c1 W;have Q:=Y.lt;have K:=Y.f 1;have V:=aH (Y.rsave (i:=0) I (x:=0) I 0 rfl);clear T S R d
 go_enter func65,ntmps65
 go_wp2_with fail
 with_reducible refine V.out.mono ?_
 rintro e L ⟨rfl,U,_⟩;have X:=aH U;clear U V;have P:L.cell? (gw,1)=(15:Int):=X.c1 W;have O:=X.f 1;have N:=X.lt;have M:=aH ((X.does 16).out false);go_wp2;go_ret;exact⟨rfl,M.out⟩
theorem SF(X:gJ w tag t Z gw A ca D cd)(W:fE w tag m gm)(V:iQ w tag s gs)(Q:t<4)(d:Z.does=16):
 Calls prog 65 #[(gw,0),(gm,0)] w fun e w'=>e=.returned true/\iZ w tag t gw gm gs (stp t m s Z) w':=by
 rw[show stp t m s Z=⟨m,s,Z.go 0,true⟩ by simp only[stp,d]];have Y:=aH (WS.start X W V);have U:=aH d;have c1:w.cell? (gw,1)=(16:Int):=Y.c1 U;have T:=Y.lt;have R:=Y.f 1;have S:=aH ((Y.does 0).out true);clear X W V d
 go_enter func65,ntmps65
 go_wp2;go_ret;exact⟨rfl,S.out⟩
end
section
variable{w0 w:World}{tag:Nat->Nat}{t:Nat}{Z:cQ}{gw:Nat}{A:Option Addr}{ca:Nat}{D:Option Addr}{cd:Nat}{m:Nat->Int}{gm:Nat}{s:cN}{gs:Nat}
theorem WS.err(h:WS w0 w tag t Z gw A ca D cd m gm s gs)(Y:mR w0)(W:tag 2=0):mR w:=
 (h.k.cell (p:=⟨2,0,none⟩) Y.pos (fun e=>by rcases e with e|e|e|e<;>(have X:tag 2=_:=e;omega))).trans Y
theorem WS.none_(h:WS w0 w tag t Z gw A ca D cd m gm s gs):WS w0 (w.setCell (gw,41) (.slice none 0 0)) tag t {Z with na:=0,asks:=fun _ _=>0} gw none 0 D cd m gm s gs:=by
 have X:=bP w gw 41 (.slice none 0 0);have W:∀b,cI gw b->tag b=10+t:=fun b Y=>by rw[show b=gw from Y];exact h.wk.tg
 refine⟨⟨?_,cU.nil _ _ _ _,h.wk.deeds.keptT X h.wk.tD (fun b Y=>by rw[W b Y];omega),h.wk.tg,?_,h.wk.tD⟩,h.ram.kept X (bI.refl _ _) (fun b Y=>by rw[W b Y];omega),h.st.kept X (bI.refl _ _) (fun b Y=>by rw[W b Y];omega),h.k.setCell (p:=⟨gw,41,none⟩) (.inl (.inr (.inr (.inl h.wk.tg)))) _⟩
 .have Y:=h.wk.blk.set_ 41 (.slice none 0 0);rw[CQ]at Y;exact Y
 rintro b ⟨a,V,_⟩;cases V
theorem WS.fill{g:Nat}(h:WS w0 w tag t Z gw (some ⟨g,0,none⟩) ca D cd m gm s gs)(R:0<Z.na)(x:Int):WS w0 (w.setCells g ((Z.na-1)*5+2) [.int .i64 (IV x),.int .i64 (KE x),.int .i64 (ID x)]) tag t {Z with asks:=(Z.fill x).asks} gw (some ⟨g,0,none⟩) ca D cd m gm s gs:=by
 have X:aD (cI g) w (w.setCells g ((Z.na-1)*5+2) [.int .i64 (IV x),.int .i64 (KE x),.int .i64 (ID x)]):=cE (S:=cI g) (.inl rfl) _ _;have T:=h.wk.tA g ⟨_,rfl,rfl⟩;have W:∀b,cI g b->tag b=20+t:=fun b Y=>by rw[show b=g from Y];exact T
 refine⟨⟨?_,?_,h.wk.deeds.keptT X h.wk.tD (fun b Y=>by rw[W b Y];omega),h.wk.tg,h.wk.tA,h.wk.tD⟩,h.ram.kept X (bI.refl _ _) (fun b Y=>by rw[W b Y];omega),h.st.kept X (bI.refl _ _) (fun b Y=>by rw[W b Y];omega),h.k.trans (X.mono fun b Y=>.inr (.inr (.inr (W b Y))))⟩
 .exact(X.block gw h.wk.blk.lt fun e=>by have:=W _ e;have:=h.wk.tg;omega).trans h.wk.blk
 refine h.wk.asks.sets (oE _ _) (xO _ _) fun i U=>?_
 rw[xJ _ _ _ U,xJ _ _ _ U];show some (Value.int .i64 (if i/5+1=Z.na/\2<=i%5 then(if i%5=2 then IV x else if i%5=3 then KE x else ID x)else Z.asks (i/5) (i%5)))=_;by_cases c:i/5+1=Z.na/\2<=i%5
 .have V:(Z.na-1)*5+2<=i/\i<(Z.na-1)*5+2+3:=I;refine Eq.trans ?_ (iP V).symm;rw[iP c];rcases(by omega:i%5=2\/i%5=3\/i%5=4)with e|e|e
  .rw[e,iP rfl,show i-((Z.na-1)*5+2)=0 by omega];rfl
  .rw[e,iN aJ,iP rfl,show i-((Z.na-1)*5+2)=1 by omega];rfl
  rw[e,iN aJ,iN aJ,show i-((Z.na-1)*5+2)=2 by omega];rfl
 have V:¬((Z.na-1)*5+2<=i/\i<(Z.na-1)*5+2+3):=I;rw[iN c];exact(iN V).symm
theorem WS.ask{T:Option Addr}{X:Nat}(h:WS w0 w tag t Z gw A ca D cd m gm s gs)(g:Int)(N:cU w' 0 181 5 T (Z.na+1) X (eH Z.asks Z.na++[[.int .i64 (Z.i:Int),.int .i64 g,.int .i64 0,.int .i64 0,.int .i64 0]]))(R:aD (iI A) w w')(E:∀b,iI T b->iI A b\/w<=b)
 (z:True):WS w0 (w'.setCell (gw,41) (.slice T (Z.na+1) X)) (cG w tag (20+t)) t {Z with asks:=(Z.ask g).asks,na:=Z.na+1} gw T X D cd m gm s gs:=by
 have V:=cO w tag (20+t);have S:=h.wk.tA;have O:aY w' gw 46 (kE t Z (.slice A Z.na ca) (.slice D Z.deeds.length cd)):=(R.block gw h.wk.blk.lt fun e=>by have:=S _ e;have:=h.wk.tg;omega).trans h.wk.blk;have M:eH Z.asks Z.na++[[.int .i64 (Z.i:Int),.int .i64 g,.int .i64 0,.int .i64 0,.int .i64 0]]=eH (Z.ask g).asks (Z.na+1):=by
  have L:eH (Z.ask g).asks Z.na=eH Z.asks Z.na:=pQ fun j C c B=>iN I
  have K:DJ (Z.ask g).asks Z.na=[.int .i64 (Z.i:Int),.int .i64 g,.int .i64 0,.int .i64 0,.int .i64 0]:=by
   rw[pX];simp [cQ.ask]
  rw[xL,L,K]
 rw[M]at N;have W:=bP w' gw 41 (.slice T (Z.na+1) X);have U:=(V gw h.wk.blk.lt).trans h.wk.tg;have P:∀b,cI gw b->cG w tag (20+t) b=10+t:=fun b Y=>by rw[show b=gw from Y];exact U
 have Q:∀b,iI T b->cG w tag (20+t) b=20+t:=fun b Y=>by
  rcases E b Y with e|e
  .exact(V b (by obtain⟨a,F,rfl⟩:=e;exact(h.wk.asks.lt a F).2)).trans (S b e)
  exact dT _ _ _ e
 have H:aD (fun b=>iI A b) w w':=R;refine⟨⟨?_,?_,?_,U,Q,h.wk.deeds.tagT V h.wk.tD⟩,?_,?_,?_⟩
 .have Y:=O.set_ 41 (.slice T (Z.na+1) X);rw[CQ]at Y;exact Y
 .exact N.keptT W Q (fun b Y=>by rw[P b Y];omega)
 .exact(h.wk.deeds.keptT R h.wk.tD (fun b Y=>by rw[S b Y];omega)).keptT W (h.wk.deeds.tagT V h.wk.tD) (fun b Y=>by rw[P b Y];omega)
 .exact(h.ram.kept R V (fun b Y=>by rw[S b Y];omega)).kept W (bI.refl _ _) (fun b Y=>by rw[P b Y];omega)
 .exact(h.st.kept R V (fun b Y=>by rw[S b Y];omega)).kept W (bI.refl _ _) (fun b Y=>by rw[P b Y];omega)
 have G:=(h.k.trans (R.mono fun b Y=>.inr (.inr (.inr (S b Y))))).retag (fun b Y=>V b (Nat.lt_of_lt_of_le Y h.k.size));exact G.setCell (p:=⟨gw,41,none⟩) (.inl (.inr (.inr (.inl U)))) _
end
section
variable{w0 w:World}{tag:Nat->Nat}{t:Nat}{Z:cQ}{gw:Nat}{A:Option Addr}{ca:Nat}{D:Option Addr}{cd:Nat}{m:Nat->Int}{gm:Nat}{s:cN}{gs:Nat}
theorem WS.sloadB(h:WS w0 w tag t Z gw A ca D cd m gm s gs){a:Nat}(Y:a<72)(a':Int)(e:a'=a)(X:x=s.now a):Calls prog 26 #[(gs,0),a'] w fun e w'=>e=.returned (.tuple #[[x],.nilIface])/\Below w w w':=by
 subst X;refine(h.sload Y a' e).mono ?_;rintro e w' ⟨rfl,rfl⟩;exact⟨rfl,Below.refl _ _⟩
theorem ZU{z:Nat->Int}{i:Nat}(Y:i<4):AT (z 26).toNat (i:Int)=jA z i:=by
 unfold AT jA;by_cases Z:gO (z 26).toNat i=true
 .rw[iP ⟨I,I,by simpa using Z⟩,iP Z]
 rw[iN (fun h=>Z (by simpa using h.2.2)),iN Z]
theorem RG(z:Nat->Int)(i:Nat):0<=jA z i/\jA z i<=1:=by unfold jA;split<;>omega
theorem QI(h:WS w0 w tag t Z gw A ca D cd m gm s gs)(Y:Z.does<=21)(X:t<4)(W:mR w0)(V:tag 2=0)
 (U:Z.does=8->eE Z.r/\(∀i,i<32->0<=Z.r i/\Z.r i<18446744073709551616)/\jL Z.asks Z.na/\Z.na<=4/\Z.r 28+Z.na<=1099511627776/\Z.r 27+1<=1099511627776):
 Calls prog 95 #[(gw,0)] w fun e w'=>e=.returned (.tuple #[])/\iZ w0 tag t gw gm gs ⟨m,s,Z.all t,false⟩ w':=by
 by_cases d:Z.does=8
 .obtain⟨a1,a2,a3,a4,a5,a6⟩:=U d;exact Ae h d X a1 a2 a3 a4 a5 a6 (h.err W V)
 refine(Ba h d Y).mono ?_;rintro e w' ⟨rfl,rfl⟩;refine⟨rfl,?_⟩;rw[show Z.all t=Z from iN d];exact h.out false
end
section
variable{w:World}{tag:Nat->Nat}{t gw gm gs:Nat}{Z:cQ}{A D:Option Addr}{ca cd:Nat}{m:Nat->Int}{s:cN}
theorem OU(Q:gJ w tag t Z gw A ca D cd)(W:fE w tag m gm)(P:iQ w tag s gs)(x:t<4)(d:Z.does=4):
 Calls prog 63 #[(gw,0),(gm,0),(gs,0)] w fun e w'=>e=.returned (.tuple #[])/\iZ w tag t gw gm gs (stp t m s Z) w':=by
 rw[show stp t m s Z=⟨m,s,{Z with ver:=(m 1).toNat,i:=0,does:=5,na:=0,asks:=fun _ _=>0},false⟩ by simp only[stp,d]];have Y:=aH (WS.start Q W P);have H:=aH d;obtain⟨V,X⟩:∃V:Nat,m 1=(V:Int):=by
  obtain⟨_,E,_,K⟩:=W;exact Int.eq_ofNat_of_zero_le (K.bd 1 I).1
 have U:=aH (Y.rload (i:=1) I 1 rfl);rw[X]at U;rw[X,show((V:Int)).toNat=V from rfl];have c1:w.cell? (gw,1)=(4:Int):=Y.c1 d;have G:w.cell? (gw,7)=Z.i:=Y.c 7 I;have F:w.cell? (gw,8)=[Z.ver]:=Y.c 8 I;have O:w.cell? (gw,41)=some (.slice A Z.na ca):=Y.c 41 I;have C:=Y.f 1;have B:=Y.f 7;have z:=Y.f 8;have N:=Y.f 41;have M:=Y.lt;have T:=aH (Y.own (Z':={Z with ver:=V}) (LP _ _ _ _ V) rfl rfl rfl);have S:=aH (T.own (Z':={Z with ver:=V,i:=0}) (LL _ _ _ _ 0) rfl rfl rfl);have R:=aH (S.does 5);have L:=aH (R.none_.out false);clear Q W P T S R d X
 go_enter func63,ntmps63
 go_wp2_with fail
 with_reducible refine U.out.mono ?_
 rintro e y ⟨rfl,rfl⟩;go_wp2;refine bodyPost_end (v:=.tuple #[]) (by simp [results,results63,go_sem]) rfl ⟨rfl,L.out⟩
theorem PJ(M:gJ w tag t Z gw A ca D cd)(L:fE w tag m gm)(K:iQ w tag s gs)(ht:t<4)(d:Z.does=5)(p:Z.i<32):
 Calls prog 63 #[(gw,0),(gm,0),(gs,0)] w fun e w'=>e=.returned (.tuple #[])/\iZ w tag t gw gm gs (stp t m s Z) w':=by
 rw[show stp t m s Z=⟨m,s,{Z with r:=fun j=>if j=Z.i then s.now (dU Z.ver+Z.i)else Z.r j}.next 32 6,false⟩ by simp only[stp,d]];have W:=aH (WS.start M L K);have c1:w.cell? (gw,1)=(5:Int):=W.c1 d;have H:=W.lt;obtain⟨B,V⟩:=aO (dU Z.ver:Nat);have S:B<=40:=by rw[V];unfold dU;omega
 have G:=aH V;rw[<-V];obtain⟨x,T⟩:=aO (s.now (B+Z.i));have U:=aH T;rw[<-T];have R:=aH p;have F:(Z.i:Int)<32:=I;have o:IntKind.i64.wrap ((B:Int)+(Z.i:Int))=(B:Int)+Z.i:=dE I I;clear V T M L K d
 go_enter func63,ntmps63
 go_wp2;refine bK 24 (cI gw) [23] J J ?_
 iterate 19
  refine aR ?_;constructor
  .intro w9 hw9 hm9;refine aS ?_;have X:=aH (W.below (cA hm9.1 J));have n:w9.cell? (gw,7)=Z.i:=X.c 7 I;have l:w9.cell? (gw,8)=[Z.ver]:=X.c 8 I;refine aW ?_;go_simp
   first
   |exact aE
   |(go_at_call 92;exact bS (qU Z.ver _ rfl B G _))
   |(go_at_call 26;exact bS (X.sloadB (a:=B+Z.i) I ((B:Int)+Z.i) I U))
 iterate 4
  refine aR ?_;constructor
  .intro w9 hw9 hm9;go_simp
   first
   |exact aE
 refine bA undef (fun _ w'=>WS w w' tag t {Z with r:=fun j=>if j=Z.i then x else Z.r j} gw A ca D cd m gm s gs) ?_ ?_
 .intro w9 hw9 hm9;refine aS ?_;have X:=aH (W.below (cA hm9.1 J));have k:w9.cell? (gw,9+Z.i)=[Z.r Z.i]:=by rw[X.wk.blk.cell,ZR _ _ _ _ R.out]
  have h:=X.f (9+Z.i);have E:=aH (X.own (Z':={Z with r:=fun j=>if j=Z.i then x else Z.r j}) (QN _ _ _ _ R x) rfl rfl rfl);refine aW ?_;go_simp;exact⟨⟨rfl,E.out⟩,(bP _ gw _ _).mono fun b Q=>by first|exact Q|exact⟨aJ,Q⟩⟩
 refine aZ ?_;rintro w9 hw9 Y;refine aQ ?_;refine aS ?_;obtain⟨u,q,P,O⟩:=Y.1 rfl;have C:=aH (O.below (cA P J));clear Y O q P u;have z:=aH (C.next 32 6 (by show Z.i<100;omega) 32 6 rfl rfl);obtain⟨g,rfl⟩:=aO w9;refine aW ?_;go_wp2_with fail
 with_reducible refine z.out.mono ?_
 rintro e w2 ⟨rfl,N⟩;have y:=aH (N.out false);clear N;go_wp2;refine bodyPost_end (v:=.tuple #[]) (by simp [results,results63,go_sem]) rfl ⟨rfl,y.out⟩
theorem IY(K:gJ w tag t Z gw A ca D cd)(R:fE w tag m gm)(H:iQ w tag s gs)(o:t<4)(d:Z.does=6)(g:Z.i<4)(Q:m (3+2*Z.i)=0)(G:eE Z.r/\(∀i,i<32->0<=Z.r i/\Z.r i<18446744073709551616)/\jL Z.asks Z.na/\Z.na<=4/\Z.r 28+Z.na<=1099511627776/\Z.r 27+1<=1099511627776)(F:mR w)(C:tag 2=0):
 Calls prog 63 #[(gw,0),(gm,0),(gs,0)] w fun e w'=>e=.returned (.tuple #[])/\iZ w tag t gw gm gs (stp t m s Z) w':=by
 rw[show stp t m s Z=⟨m,s,(Z.next 4 8).all t,false⟩ by simp only[stp,d];rw[iN (fun h=>h.1 Q)]];have X:=aH (WS.start K R H);have B:=aH o;have z:=X.lt;have c1:w.cell? (gw,1)=(6:Int):=X.c1 d;have n:w.cell? (gw,7)=Z.i:=X.c 7 I;have U:0<=m (3+2*Z.i)/\m (3+2*Z.i)<18446744073709551616:=by
  obtain⟨_,E,_,q⟩:=R;exact q.bd _ I
 have P:=aH (X.rload (i:=3+2*Z.i) I (2+2*(Z.i:Int)+1) I);have l:=aH d;have T:=aH G;have y:=aH F;have S:=aH C;have Y:Hid ((Z.next 4 8).does=(if Z.i+1=4 then 8 else 6)/\(Z.next 4 8).r=Z.r/\(Z.next 4 8).asks=Z.asks/\(Z.next 4 8).na=Z.na):=aH (by unfold cQ.next;split<;>first|exact⟨rfl,rfl,rfl,rfl⟩|exact⟨d,rfl,rfl,rfl⟩)
 rw[Q]at P;clear K R H G F C d U Q
 go_enter func63,ntmps63
 go_wp2_with fail
 with_reducible refine P.out.mono ?_
 rintro e p ⟨rfl,rfl⟩;go_wp2;refine aA 17 ?_
 iterate 3
  refine aR ?_;constructor
  .intro w9 hw9 hm9;go_simp
   first
   |exact aE
 iterate 13
  refine aU ?_
 refine aR ?_;constructor
 .intro w9 hw9 hm9;go_simp
  first
  |exact aE
 refine aZ ?_;rintro w9 hw9 V;refine aQ ?_;refine aS ?_;have O:=aH (X.below hw9.same);have x:=O.lt;clear V;obtain⟨p,rfl⟩:=aO w9;have N:=aH (O.next 4 8 I 4 8 rfl rfl);refine aW ?_;go_wp2_with fail
 with_reducible refine N.out.mono ?_
 rintro e k ⟨rfl,M⟩;have W:=aH (QI M (by rw[Y.out.1];split<;>omega) B y S (fun _=>by rw[Y.out.2.1,Y.out.2.2.1,Y.out.2.2.2];exact T))
 clear M N;go_wp2_with fail
 with_reducible refine W.out.mono ?_
 rintro e j ⟨rfl,L⟩;have u:=aH L;clear L W;go_wp2;refine bodyPost_end (v:=.tuple #[]) (by simp [results,results63,go_sem]) rfl ⟨rfl,u.out⟩
theorem FP(y:gJ w tag t Z gw A ca D cd)(H:fE w tag m gm)(x:iQ w tag s gs)(ht:t<4)(d:Z.does=6)(hi:Z.i<4)(O:m (3+2*Z.i)≠0/\m (3+2*Z.i)-1=jA Z.r Z.i)(G:eE Z.r/\(∀i,i<32->0<=Z.r i/\Z.r i<18446744073709551616)/\jL Z.asks Z.na/\Z.na<=4/\Z.r 28+Z.na<=1099511627776/\Z.r 27+1<=1099511627776)(u:mR w)(q:tag 2=0):
 Calls prog 63 #[(gw,0),(gm,0),(gs,0)] w fun e w'=>e=.returned (.tuple #[])/\iZ w tag t gw gm gs (stp t m s Z) w':=by
 rw[show stp t m s Z=⟨m,s,(Z.next 4 8).all t,false⟩ by simp only[stp,d];rw[iN (fun h=>h.2 O.2)]];have U:=aH (WS.start y H x);have p:=aH ht;have o:=U.lt;have c1:w.cell? (gw,1)=(6:Int):=U.c1 d;have c7:w.cell? (gw,7)=Z.i:=U.c 7 I;have n:0<=m (3+2*Z.i)/\m (3+2*Z.i)<18446744073709551616:=by
  obtain⟨_,E,_,hu⟩:=H;exact hu.bd _ I
 have l:=aH (U.rload (i:=3+2*Z.i) I (2+2*(Z.i:Int)+1) I);have HD:=aH d;have N:=aH G;have k:=aH u;have M:=aH q;have V:Hid ((Z.next 4 8).does=(if Z.i+1=4 then 8 else 6)/\(Z.next 4 8).r=Z.r/\(Z.next 4 8).asks=Z.asks/\(Z.next 4 8).na=Z.na):=aH (by unfold cQ.next;split<;>first|exact⟨rfl,rfl,rfl,rfl⟩|exact⟨d,rfl,rfl,rfl⟩)
 have L:=O.1;have j:=RG Z.r Z.i;have S:=aH (fun W=>rI (kT Z.r) Z.r (Z.i:Int) W (xA G.2.1));rw[ZU hi]at S;have R:=O.2;generalize m (3+2*Z.i)=g at*;generalize jA Z.r Z.i=T at*;have k1:IntKind.u64.wrap (g-1)=g-1:=sS I I;have k2:IntKind.i64.wrap (g-1)=g-1:=dE I I;have k3:(g !=0)=true:=by simpa using L
 obtain rfl:T=g-1:=R.symm;clear y H x G u q d O R
 go_enter func63,ntmps63
 go_wp2_with fail
 with_reducible refine l.out.mono ?_
 rintro e w1 ⟨rfl,rfl⟩;go_wp2;refine aA 17 ?_
 iterate 9
  refine aR ?_;constructor
  .intro w9 hw9 X;go_simp
   first
   |exact aE
 first|(with_reducible refine aC (fun K Y=>?_))|(refine aC (fun K Y=>?_))
 refine .inl ⟨.agg (kT Z.r),cX,?_,Y _ _ _ _ ?_⟩
 .simp only[bJ,bM];refine⟨?_,fun w9 hw9 X=>?_⟩
  .first|rfl|(go_simp;done)
  refine aS ?_;have f:=aH (sW (U.below (cA X.1 J)).wk.blk);refine aW ?_;refine eG 25 _ rfl gw 9 rfl (kT Z.r) _ f underlying25 rfl (vU _) aE
 iterate 3
  clear Y K;refine aN ?_
  first|(with_reducible refine aC (fun K Y=>?_))|(refine aC (fun K Y=>?_))
  refine .inl ?_;apply Exists.intro;refine⟨cX,?_,Y _ _ _ _ ?_⟩
  .simp only[bJ,bM];refine⟨?_,fun w9 hw9 X=>?_⟩
   .first|rfl|(go_simp;done)
   go_simp
   first
   |exact aE
 clear Y K;refine aN ?_;refine aR ?_;constructor
 .intro w9 hw9 X;refine aS ?_;have q7:w9.cell? (gw,7)=Z.i:=(U.below (cA X.1 J)).c 7 I;refine aW ?_;go_simp
  first
  |exact aE
 first|(with_reducible refine aC (fun K Y=>?_))|(refine aC (fun K Y=>?_))
 refine .inl ?_;apply Exists.intro;refine⟨cX,?_,Y _ _ _ _ ?_⟩
 .simp only[bJ,bM];refine⟨?_,fun w9 hw9 X=>?_⟩
  .first|rfl|(go_simp;done)
  go_simp
  first
  |exact aE
  |(go_at_call 94;exact bS (S.out _))
 iterate 2
  clear Y K;refine aN ?_
  first|(with_reducible refine aC (fun K Y=>?_))|(refine aC (fun K Y=>?_))
  refine .inl ?_;apply Exists.intro;refine⟨cX,?_,Y _ _ _ _ ?_⟩
  .simp only[bJ,bM];refine⟨?_,fun w9 hw9 X=>?_⟩
   .first|rfl|(go_simp;done)
   go_simp
   first
   |exact aE
 clear Y K;refine aN ?_;refine aZ ?_;rintro w9 hw9 P;refine aQ ?_;refine aS ?_;have F:=aH (U.below hw9.same);have b:=F.lt;clear P;obtain⟨w1,rfl⟩:=aO w9;have C:=aH (F.next 4 8 I 4 8 rfl rfl);refine aW ?_;go_wp2_with fail
 with_reducible refine C.out.mono ?_
 rintro e w2 ⟨rfl,B⟩;have Q:=aH (QI B (by rw[V.out.1];split<;>omega) p k M (fun _=>by rw[V.out.2.1,V.out.2.2.1,V.out.2.2.2];exact N))
 clear B C;go_wp2_with fail
 with_reducible refine Q.out.mono ?_
 rintro e w3 ⟨rfl,z⟩;have a:=aH z;clear z Q;go_wp2;refine bodyPost_end (v:=.tuple #[]) (by simp [results,results63,go_sem]) rfl ⟨rfl,a.out⟩
theorem GW(hW:gJ w tag t Z gw A ca D cd)(hR:fE w tag m gm)(hS:iQ w tag s gs)(ht:t<4)(d:Z.does=6)(hi:Z.i<4)(hz:m (3+2*Z.i)≠0/\m (3+2*Z.i)-1≠jA Z.r Z.i)(h2:m (3+2*Z.i)<=2)(hx:eE Z.r/\(∀i,i<32->0<=Z.r i/\Z.r i<18446744073709551616)/\jL Z.asks Z.na/\Z.na<=4/\Z.r 28+Z.na<=1099511627776/\Z.r 27+1<=1099511627776)(hg:mR w)(h0:tag 2=0):
 Calls prog 63 #[(gw,0),(gm,0),(gs,0)] w fun e w'=>e=.returned (.tuple #[])/\iZ w tag t gw gm gs (stp t m s Z) w':=by
 rw[show stp t m s Z=⟨m,s,Z.ask (m (3+2*Z.i)-1),false⟩ by simp only[stp,d];rw[iP hz]];have M:=aH (WS.start hW hR hS);have HT:=aH ht;have zp:=M.lt;have c1:w.cell? (gw,1)=(6:Int):=M.c1 d;have c7:w.cell? (gw,7)=Z.i:=M.c 7 I;have zo:0<=m (3+2*Z.i)/\m (3+2*Z.i)<18446744073709551616:=by
  obtain⟨_,E,_,h⟩:=hR;exact h.bd _ I
 have HV:=aH (M.rload (i:=3+2*Z.i) I (2+2*(Z.i:Int)+1) I);have HD:=aH d;have zn:=aH hx;have HG:=aH hg;have zm:=aH h0;have zz:=hz.1;have zl:=RG Z.r Z.i;have C:=aH (fun W=>rI (kT Z.r) Z.r (Z.i:Int) W (xA hx.2.1));rw[ZU hi]at C;have zy:=hz.2;generalize m (3+2*Z.i)=g at*;generalize jA Z.r Z.i=T at*;have zk:=hx.2.2.2.1;have F:IntKind.u64.wrap (g-1)=g-1:=sS I I;have k2:IntKind.i64.wrap (g-1)=g-1:=dE I I;have k3:(g !=0)=true:=by simpa using zz
 have k4:(g-1 !=T)=true:=by simpa using zy
 obtain⟨i0,z,y,x,q⟩:=MY;have HI:=aH z;have HZ:=aH y;have HS:=aH x;have HY:=aH q;clear hW hR hS hx hg h0 d hz z y x q
 go_enter func63,ntmps63
 go_wp2_with fail
 with_reducible refine HV.out.mono ?_
 rintro e G ⟨rfl,rfl⟩;go_wp2;refine aA 17 ?_
 iterate 9
  refine aR ?_;constructor
  .intro w9 hw9 U;go_simp
   first
   |exact aE
 first|(with_reducible refine aC (fun K S=>?_))|(refine aC (fun K S=>?_))
 refine .inl ⟨.agg (kT Z.r),cX,?_,S _ _ _ _ ?_⟩
 .simp only[bJ,bM];refine⟨?_,fun w9 hw9 U=>?_⟩
  .first|rfl|(go_simp;done)
  refine aS ?_;have HX:=aH (sW (M.below (cA U.1 J)).wk.blk);refine aW ?_;refine eG 25 _ rfl gw 9 rfl (kT Z.r) _ HX underlying25 rfl (vU _) aE
 iterate 3
  clear S K;refine aN ?_
  first|(with_reducible refine aC (fun K S=>?_))|(refine aC (fun K S=>?_))
  refine .inl ?_;apply Exists.intro;refine⟨cX,?_,S _ _ _ _ ?_⟩
  .simp only[bJ,bM];refine⟨?_,fun w9 hw9 U=>?_⟩
   .first|rfl|(go_simp;done)
   go_simp
   first
   |exact aE
 clear S K;refine aN ?_;refine aR ?_;constructor
 .intro w9 hw9 U;refine aS ?_;have q7:w9.cell? (gw,7)=Z.i:=(M.below (cA U.1 J)).c 7 I;refine aW ?_;go_simp
  first
  |exact aE
 first|(with_reducible refine aC (fun K S=>?_))|(refine aC (fun K S=>?_))
 refine .inl ?_;apply Exists.intro;refine⟨cX,?_,S _ _ _ _ ?_⟩
 .simp only[bJ,bM];refine⟨?_,fun w9 hw9 U=>?_⟩
  .first|rfl|(go_simp;done)
  go_simp
  first
  |exact aE
  |(go_at_call 94;exact bS (C.out _))
 iterate 2
  clear S K;refine aN ?_
  first|(with_reducible refine aC (fun K S=>?_))|(refine aC (fun K S=>?_))
  refine .inl ?_;apply Exists.intro;refine⟨cX,?_,S _ _ _ _ ?_⟩
  .simp only[bJ,bM];refine⟨?_,fun w9 hw9 U=>?_⟩
   .first|rfl|(go_simp;done)
   go_simp
   first
   |exact aE
 clear S K;refine aN ?_;refine aZ ?_;rintro w9 hw9 Y;refine aQ ?_;refine aS ?_;have P:=aH (M.below hw9.same);have zj:=P.lt;clear Y;obtain⟨G,rfl⟩:=aO w9;have V:=P.lt;have B:G.cell? (gw,41)=some (.slice A Z.na ca):=P.c 41 I;have zx:G.cell? (gw,7)=Z.i:=P.c 7 I;have O:=P.wk.neA;refine aW ?_;go_wp2;refine bK 15 (iI A) [14] J J ?_
 iterate 13
  refine aR ?_;constructor
  .intro w9 hw9 U;refine aS ?_;have zi:=(hw9.cell (p:=⟨gw,41,none⟩) V O).trans B;have q7:=(hw9.cell (p:=⟨gw,7,none⟩) V O).trans zx;refine aW ?_;go_simp
   first
   |exact aE
 refine bC CK (DM 181 [.int .i64 (Z.i:Int),.int .i64 (g-1),.int .i64 0,.int .i64 0,.int .i64 0]) ⟨_,0,rfl⟩ ?_ ?_
 .intro w9 hw9 X;go_simp;exact⟨⟨⟨_,rfl⟩,⟨_,rfl,aY.new _ _ _⟩⟩,aD.of_same ((Below.refl _ _).alloc (Nat.le_refl _) _)⟩
 refine bD (DN (Z.na+1)) (fun v w'=>∃A' c',v=.slice A' (Z.na+1) c'/\cU w' 0 181 5 A' (Z.na+1) c' (eH Z.asks Z.na++[[.int .i64 (Z.i:Int),.int .i64 (g-1),.int .i64 0,.int .i64 0,.int .i64 0]])/\∀b,iI A' b->iI A b\/G<=b) ⟨_,none,0,rfl⟩ ?_ ?_
 .rintro _ ⟨g9,rfl⟩;refine⟨aF,fun w9 hw9 X=>?_⟩;refine aS ?_;have R:=X;have Y:=X.2;clear X;obtain⟨w0,k0,F,g',hv,Q⟩:=Y.1 J;cases hv;have zh:=hw9.size;have L:=Q.below (cA F J) Q.lt;have zw:=aH (P.wk.asks.below (cA R.1 J));clear Y R Q k0 F;refine aW ?_;refine iM (.tmp 95) (.tmp 104) rfl underlying40 HI HZ HS HY rfl aJ aJ (A:=A) (n:=Z.na) (c:=ca) (rows:=eH Z.asks Z.na) rfl zw (g:=g9) (c':=1) rfl (ys:=[.int .i64 (Z.i:Int),.int .i64 (g-1),.int .i64 0,.int .i64 0,.int .i64 0]) rfl ?_ ?_ I (Nat.zero_le _) ?_
  .intro j hj;rw[L.cell j];simp
  .intro u h;simp only[List.mem_cons,List.not_mem_nil,or_false]at h;rcases h with rfl|rfl|rfl|rfl|rfl<;>rfl
  intro g' zd w' ho zu zt;refine⟨⟨⟨_,_,rfl⟩,⟨_,_,rfl,ho,fun b o=>?_⟩⟩,zu.mono fun b o=>⟨aJ,o⟩⟩;obtain⟨a,ha,rfl⟩:=o;cases ha;rcases zt with⟨a,ha,e⟩|e
  .exact .inl ⟨a,ha,e⟩
  exact .inr (by show G<=g';omega)
 refine aZ ?_;rintro _ ⟨A9,c9,rfl⟩ _ ⟨g9,rfl⟩ w9 hw9 Y;refine aQ ?_;refine aS ?_;obtain⟨w0,k0,F,A8,c8,zs,N,l⟩:=Y.2.1 rfl;cases zs;have H:=aH (P.ask (g-1) (N.below (cA F J)) hw9 l trivial);have zr:=(hw9.cell (p:=⟨gw,41,none⟩) V O).trans B;have zq:=(hw9.frozen (p:=⟨gw,41,none⟩) V O).trans (P.f 41);have zg:=Nat.lt_of_lt_of_le V hw9.size;have zf:=H.c1 HD;have ze:=H.f 1;have zv:Hid (bI w tag (cG G tag (20+t))):=aH (fun b o=>cO G tag (20+t) b (Nat.lt_of_lt_of_le o P.k.size));have HF:=aH ((H.does 7).outT zv false);clear Y N k0 F l w0;refine aW ?_;go_wp2;refine bodyPost_ret (v:=.tuple #[]) (by simp [results,results63,go_sem]) rfl ⟨rfl,HF.out⟩
