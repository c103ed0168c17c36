/-
  Parts of a proof. For all values.
-/
import Derived.Test.YtplpimkgihnmhaaGreatDoorA13
set_option maxRecDepth 100000
set_option maxHeartbeats 40000000
set_option linter.all false
namespace Go.Proofs.YtplpimkgihnmhaaGreatDoor
open Go.Proofs.Tryz Go.RowKit
section
open Go.Maps
attribute [local go_sem ↓] Go.wp_at_zero Go.wp_at_succ
theorem zB(A:Option Addr)(c:Nat)(z:Nat->Int)(b:Bool)(w:World)(h:qY w A 32 c z)(hb:b=true↔eE z):
 Calls prog 150 #[.slice A 32 c] w (TJ b (Dc z) w):=by
 have HI:Hid ((prog.info? 136).map (·.size)=some rz.size):=mU;have H:=aH h;have HB:=aH hb;obtain⟨bA,oA,rfl,vs,ym⟩:=h.at_ I;have c0:=ym 0 I;have wU:=h.bd 0 I;simp only[Nat.add_zero]at c0;clear ym h hb;generalize vk:z 0=z0 at c0 wU;have yg:=aH vk;clear vk
 go_enter func150,ntmps150
 generalize hQ:bodyPost prog Tryz.f150 (TJ b (Dc z) w)=Q;have l:=aH hQ;clear hQ;by_cases h6:z0<=6
 .have d6:decide (6<z0)=false:=by simp;omega
  obtain⟨b1,G⟩:∃b1:Bool,b1=true↔cK z0 (oz z):=by
   by_cases hh:cK z0 (oz z)
   .exact⟨true,fun _=>hh,fun _=>rfl⟩
   exact⟨false,fun h=>Bool.noConfusion h,fun h=>absurd h hh⟩
  have yf:=aH G;clear G;go_wp2_with fail;have yv:Below w w ((w.alloc (.cells rz 136)).alloc (.cells rz 136)):=by go_grown
  have wI:aY ((w.alloc (.cells rz 136)).alloc (.cells rz 136)) w 136 rz:=(aY.new _ _ _).alloc _;have wz:aY ((w.alloc (.cells rz 136)).alloc (.cells rz 136)) (w,1) 136 rz:=aY.newAt _ _ _ (by simp);show Code.wp _ _ _ _ ((w.alloc (.cells rz 136)).alloc (.cells rz 136));generalize(w.alloc (.cells rz 136)).alloc (.cells rz 136)=W1 at*;have zv:=aH (H.below yv);have zd:=aH yv;have zc:=aH wI;have zm:=aH wz;have wy:=(yv.cell (p:=⟨bA,oA,none⟩) vs).trans c0;have yu:bA<W1:=by have:=yv.size;omega
  have uf:=H.cap63;have ue:=H.cap;have e1:¬c=1:=I;have vh:(18:Int)<=c:=I;have ez:IntKind.i64.wrap z0=z0:=IntWalk.i64_in _ I;have wx:Hid (qY W1 (some ⟨bA,oA+1,none⟩) 17 (c-1) (oz z)):=aH ⟨I,I,fun i hi=>zv.bd (1+i) I,fun _=>⟨bA,oA+1,rfl,yu,fun i hi=>by
   obtain⟨g2,o2,he,_,hc⟩:=zv.at_ I;cases he;rw[Nat.add_assoc];exact hc (1+i) I⟩⟩
  clear yv wI wz c0;refine dQ 12 (fun b=>b=w+1) [11] J J ?_;intro ty HA
  iterate 6
   refine aR ?_;constructor
   .intro w9 hw9 _;have c9:=(hw9.cell (p:=⟨bA,oA,none⟩) yu (by show¬bA=w+1;omega)).trans wy;go_simp;exact aE
  refine bC (Ds b1) (ZW b1 (iS (w,2) z0 (oz z))) ⟨_,tz 0,rfl,rfl,J⟩ ?_ ?_
  .intro w9 hw9 _;have ud:=hw9.size;have uc:=zm.lt;go_simp;go_at_call 169
   (with_reducible refine(NS _ _ (oz z) z0 b1 _ (qN wx.out hw9 (fun a ha=>by cases ha;show¬bA=w+1;omega)) yf.out).mono ?_)
   rintro e xd ⟨yl,C,hs,ho,rfl,hT⟩;exact⟨_,rfl,⟨⟨C,rfl,hs,ho⟩,C,rfl,fun T=>(hT T).mono I⟩,aD.of_same yl⟩
  refine bD (Ds b1) (ZW b1 (iS (w,2) z0 (oz z))) ⟨_,tz 0,rfl,rfl,J⟩ ?_ ?_
  .rintro _ ⟨C,rfl,hs,ho⟩;refine⟨rfl,fun w9 hw9 U=>?_⟩;obtain⟨w0,k0,k1,C',hv,hT⟩:=U.2.1 (by rw[HA.out];kernel_rfl);cases hv;go_simp;exact⟨⟨⟨C,rfl,hs,ho⟩,C,rfl,fun T=>(hT T).keeps (aD.of_same (S:=bN) (dG k1 (by rw[HA.out];kernel_rfl))) (fun _ _ h=>h)⟩,aD.refl _ _⟩
  refine bD Fo (Ec b1 (iS (w,2) z0 (oz z))) ⟨_,tz 0,rfl,rfl,J⟩ ?_ ?_
  .rintro _ ⟨C,rfl,hs,ho⟩ _ ⟨C2,rfl,hs2,ho2⟩;refine⟨rfl,fun w9 hw9 U=>?_⟩;obtain⟨w0,k0,k1,C',hv,hT⟩:=U.2.2.1 (by rw[HA.out];kernel_rfl);obtain rfl:C'=C:=by cases hv;rfl
   clear hv;go_simp;exact⟨⟨⟨C',rfl,hs,ho⟩,C',rfl,fun T=>(hT T).keeps (aD.of_same (S:=bN) (dG k1 (by rw[HA.out];kernel_rfl))) (fun _ _ h=>h)⟩,aD.refl _ _⟩
  iterate 2
   refine aC (fun K hK=>?_);refine .inl ?_;apply Exists.intro;refine⟨cX,?_,hK _ _ _ _ ?_⟩
   .simp only[bJ,bM];rintro _ ⟨C8,rfl,xz,xy⟩ _ ⟨C7,rfl,vr,vq⟩ _ ⟨C6,rfl,vp,vo⟩;refine⟨rfl,fun w9 hw9 _=>?_⟩;go_simp;exact aE
   clear hK K;refine aN ?_
  refine bB undef (fun _ w'=>ZN (w,1) 136 b1 (iS (w,2) z0 (oz z)) w') ?_ ?_
  .rintro _ ⟨C8,rfl,xz,xy⟩ _ ⟨C7,rfl,vr,vq⟩ _ ⟨C6,rfl,vp,vo⟩;constructor
   .rfl
   intro w9 hw9 U;have ww:aY w9 (w,1) 136 rz:=(U.1.block _ zm.lt (fun h=>dN h (by rw[HA.out];kernel_rfl))).trans zm;have h9:ZN (w,1) 136 b1 (iS (w,2) z0 (oz z)) (w9.setCells (w,1) 0 C8.toList):=by
    have h1:=U.2.2.2.1;have h5:=h1 (by rw[HA.out];kernel_rfl);clear U h1 hw9;obtain⟨w0,k0,k1,C',hv,hT⟩:=h5;obtain rfl:C'=C8:=by cases hv;rfl
    exact⟨_,C',ww.setCells,XK rfl xz JE xy,fun T=>((hT T).keeps (aD.of_same (S:=bN) (dG k1 (by rw[HA.out];kernel_rfl))) (fun _ _ h=>h)).keeps (cE (S:=fun b=>b=w+1) (.inl rfl) 0 C'.toList) (fun b hb e=>by omega)⟩
   refine dA 131 _ _ rfl (w,1) 0 C8 rfl rfl (ww.there (by show 0+C8.size<=37;omega)) (by rw[jT,xz]) xy ?_;exact⟨⟨rfl,h9⟩,(cE (S:=fun b=>b=w+1) (.inl rfl) 0 C8.toList).mono (fun b h=>⟨aJ,h⟩)⟩
  refine aZ ?_;rintro _ ⟨C8,rfl,xz,xy⟩ _ ⟨C7,rfl,vr,vq⟩ _ ⟨C6,rfl,vp,vo⟩ w9 hw9 U;have wv:∃R,aY w9 (w,1) 136 R/\XZ R rz (R.extract 0 19)/\(b1=true->iS (w,2) z0 (oz z) (R.extract 0 19) w9):=by
   have h1:=U.2.2.2.1;have h5:=h1 rfl;clear U h1;obtain⟨w0,k0,k1,R,C,vn,xs,ut⟩:=h5;have xx:=dG k1 (by rw[HA.out];kernel_rfl);have e:=xs.thing;subst e;exact⟨R,vn.below xx vn.lt,xs,fun T=>(ut T).keeps (aD.of_same (S:=bN) xx) (fun _ _ h=>h)⟩
  clear U;have zg:Hid (aY w9 w 136 rz):=aH ((hw9.block _ zc.lt (by show¬w.heap.size=w+1;omega)).trans zc);have ye:=aH (zd.trans (hw9.below zd.size (fun b hb e=>by omega)));have wu:=aH (H.below ye);have um:bA<w9:=by have:=ye.size;omega
  clear hw9 zm zc zd zv wx wy vh ez e1 yu;simp only[List.drop_succ_cons,List.drop_zero];refine Exists.elim wv (fun R hR=>?_);clear wv;have zl:=aH hR.1;have N:=aH hR.2.1;have wt:=aH hR.2.2;clear hR;have xo:Hid ((prog.info? 136).map (·.size)=some R.size):=by show _=_;rw[mU,N.size]
  cases b1
  .obtain rfl:b=false:=by
    rw[Bool.eq_false_iff];intro T;have h9:=(HB.out.1 T).1.1;rw[show dH z=z0 by unfold dH;rw[yg.out,iP I]]at h9;exact Bool.noConfusion (yf.out.2 h9)
   go_wp2_with (first
    |(refine wpList_load_row rfl 136 _ rfl (w.heap.size+1) rfl 136 R (0,0) _ zl underlying136 rfl xo ?_)
    |(refine wpList_store_row rfl 136 _ _ rfl w.heap.size R rfl rfl 136 rz zg xo (by rw[N.size];rfl) N.one ?_))
   (try simp only[Exit.inBlock,Exit.then])
   rw[<-l.out]
   with_reducible refine bodyPost_ret (bR results150 _ _ w.heap.size 136 R _ (.bool false) J J (aY.setRow zg.out R) underlying136 J xo.out) J ?_
   refine⟨aL ye (Nat.le_refl _) _,R,N.size,N.one,rfl,fun h=>Bool.noConfusion h⟩
  have ws:=(pP wu 27 I);have wq:=(pP wu 28 I);have vg:w9.cell? ((w,1),35)=some (.int .u64 0):=(zl.cell 35).trans (N.rest 35 I);have yd:w9.cell? ((w,1),36)=some (.int .u64 0):=(zl.cell 36).trans (N.rest 36 I);have vf:=zl.frozen 35;have xn:=zl.frozen 36;have wo:=H.bd 27 I;have wn:=H.bd 28 I;generalize xq:z 27=j at ws wo;generalize xp:z 28=r at wq wn;have HV:=aH xq;have HN:=aH xp;have zu:=aH (ON N j r);have yt:=aH (qW (i:=36) (qW (i:=35) N.one (v:=.int .u64 j) rfl) (v:=.int .u64 r) rfl);have zm:=aH ((zl.set_ 35 [j]).set_ 36 [r]);have d:Hid ((prog.info? 136).map (·.size)=some ((R.setIfInBounds 35 [j]).setIfInBounds 36 [r]).size):=by show _=_;rw[mU,zu.size]
  have wm:=aH (((wt.out rfl).keeps (aD.setCell (aD.refl (fun b=>b=w+1) w9) (p:=⟨w+1,35,none⟩) (.inl rfl) [j]) (fun b hb e=>by omega)).keeps (aD.setCell (aD.refl (fun b=>b=w+1) _) (p:=⟨w+1,36,none⟩) (.inl rfl) [r]) (fun b hb e=>by omega));have zc:=aH ((aY.far (show aY w9 w 136 rz from zg) (p:=⟨w+1,35,none⟩) (by simp) [j]).far (p:=⟨w+1,36,none⟩) (by simp) [r]);have zd:=aH ((ye.setCell (p:=⟨w+1,35,none⟩) (by show w.heap.size<=w+1;omega) [j]).setCell (p:=⟨w+1,36,none⟩) (by show w.heap.size<=w+1;omega) [r]);clear xq xp wt zg zl;go_wp2
  go_region
  have ve:=aH (wm.keeps ((aD.refl bN _).drew) (fun _ _ h=>h));have zz:=aH zm.drew;have E:=aH zc.drew;have zy:=aH zd.drew;have wl:w9=((w9.setCell ((w,1),35) [j]).setCell ((w,1),36) [r]).drew.heap.size:=by simp
  have ul:bA<((w9.setCell ((w,1),35) [j]).setCell ((w,1),36) [r]).drew.heap.size:=I;have wk:=(zz.cell 35).trans zu.ver_;have wj:=(zz.cell 36).trans zu.cnt_;clear wl vg yd ws wq vf xn wm zm zc zd;generalize((w9.setCell ((w,1),35) [j]).setCell ((w,1),36) [r]).drew=W2 at*;generalize(R.setIfInBounds 35 [j]).setIfInBounds 36 [r]=R2 at*;by_cases vj:j<=1099511627776
  .have dv:decide (1099511627776<j)=false:=by simp;omega
   by_cases vi:r<=1099511627776
   .have dn:decide (1099511627776<r)=false:=by simp;omega
    have vd:= @run_makeMap prog
    apply_assumption
    go_wp2
    go_loopw [53] (fun i wr=>∃k:Nat,k<=4/\i=.int .i64 k/\Hid (zE w W2 (R.extract 0 19) (lQ (nV z) k) (lQ (nW z) k) (lQ (nL z) k) (lQ (jA z) k) j r z k wr)/\Hid (∀t,t<k->pV z t)) (fun i _=>4-(intOf i).toNat)
    case atStart=>exact⟨0,I,rfl,aH ((⟨(aD.refl _ _).alloc _,⟨R2,zz.alloc _,zu.out,yt.out⟩,jV.start z W2⟩:zE w W2 (R.extract 0 19) (fun _=>0) (fun _=>0) (fun _=>0) (fun _=>0) j r z 0 _).congr (fun t _=>by unfold lQ;rw[iN I]) (fun t _=>by unfold lQ;rw[iN I]) (fun t _=>by unfold lQ;rw[iN I]) (fun t _=>by unfold lQ;rw[iN I])),aH fun t T=>absurd T I⟩
    case round=>
     obtain⟨k,hk,rfl,HS,ze⟩:=hrel;have M:=zz.lt;have zt:=aH (qN (H.below zy) HS.keep (fun a ha=>by cases ha;show¬bA=w+1;omega));clear wk wj dv dn vd;by_cases un:k<4
     .have q1:(k:Int)<4:=I;have Z:=un;have cx:=pP zt (18+k) I;have wi:=zt.bd (18+k) I;have vc:=zt.bd (22+k) I;have wh:Hid (∀W:World,Calls prog 113 #[[z (18+k)]] W fun e w'=>e=.returned (.tuple #[.agg #[(rZ (z (18+k))),(tU (z (18+k)))],(jN (yI (z (18+k))) 3)])/\Below W W w'):=aH (fun W=>QQ _ wi.1 wi.2 W);obtain⟨O,yk,yy,yj⟩:=HS.ex;obtain⟨D,ho,hD⟩:=HS.seen;have xw:=aH ho.isMap;have ys:=aH yk;have X:=aH yy;have L:=aH yj;have HO:=aH ho;have HD:=aH hD;have Y:Hid ((prog.info? 136).map (·.size)=some O.size):=by show _=_;rw[mU,X.size]
      have uk:=HS.keep.size;clear yk yy yj ho hD;have ub:(18:Int)+k=((18+k:Nat):Int):=I;have ua:((18+k:Nat):Int)<32:=I;generalize hs:18+k=s at*;have wg:=aH hs;clear hs;go_wp2_with fail;refine(wh.out _).mono ?_;rintro e w1 ⟨rfl,G⟩;have zv:=aH (HS.below G);have yr:=ys.below G ys.lt;have xm:aY w1 w 136 rz:=(zv.keep.block _ E.lt (by show¬w.heap.size=w+1;omega)).trans E;have yq:=zy.trans (zv.keep.below zy.size (fun b hb e=>by omega));have yc:=HO.kept (row:=none) (w':=w1) ⟨G.os,G.tape,G.output,G.size,fun i hi _=>G.block i hi⟩ (by simp);have uj:=G.size;have tR:bA<w1:=I;have tO:=yc.lt;have zf:=zt.below G;have xl:=pP zf (18+k) I;have wf:=pP zf (22+k) I;have we:=pP zf 26 I;have yd:=(yr.cell 36).trans X.cnt_;have ui:=yr.lt;have xk:BL z k↔((yI (z (18+k))=true\/z (18+k)=0)/\z (22+k)<=r/\(z (18+k)=0↔z (22+k)=0)):=by
       unfold BL;rw[HN.out]
      have yp:= @WV (z (18+k));have xj:= @aCf (z (18+k));have xi:nV z k=rZ (z (18+k)):=rfl;have xh:nW z k=tU (z (18+k)):=rfl;rw[wg.out]at xl xk yp xj xi xh;have tH:(22:Int)+k=((22+k:Nat):Int):=I;have tE:((22+k:Nat):Int)<32:=I;generalize hu:22+k=u at*;have xv:=aH hu;clear hu;generalize hx:z s=x at*;generalize hy:z u=y at*;generalize rZ x=cc at*;generalize tU x=av at*;generalize yI x=f at*;have yb:=aH xi;have ya:=aH xh;have zb:=aH xk;have tD:=aH hx;have wd:=aH hy;have wc:=aH yp;have vb:=aH xj;have za:=aH vc;have B:Hid (z (22+k)=y):=aH (by rw[xv.out];exact wd);clear G xk hx hy yp xj xi xh;have yz:=aH (yr.alloc (.cells #[cc,av] 44));have zs:=aH (xm.alloc (.cells #[cc,av] 44));have xB:=aH (yq.alloc yq.size (.cells #[cc,av] 44));have wb:=aH (yc.alloc (.cells #[cc,av] 44));have va:=aH (zv.alloc (.cells #[cc,av] 44));have xg:=aH (yr.alloc (.cells (2:Int) 44));have wa:=aH (xm.alloc (.cells (2:Int) 44));have uJ:=aH (yq.alloc yq.size (.cells (2:Int) 44));have uA:=aH (yc.alloc (.cells (2:Int) 44));have uz:=aH (zv.alloc (.cells (2:Int) 44));clear yr xm yq yc zf;cases f
      .rw[show jN false 3=3 from rfl];obtain⟨rfl,rfl⟩:=vb.out rfl;by_cases yw:x=0
       .have dx:(x==0)=true:=by simpa using yw
        have zr:=aH yw;clear yw;by_cases F:y=0
        .have dy:(y==0)=true:=by simpa using F
         have uy:decide (0<y)=false:=by simp;omega
         have dc:decide (r<y)=false:=by simp;omega
         have q:=aH F;clear F
         go_wp2_with (at_mapUpdate;with_reducible refine JJ 300 23 4 YV underlying300 (plainElem prog 4) W2 k D [y] true [y] J J J uA.out (by unfold maxLen;omega) (keyOf_int_mk underlying23 (KA za.out.1 za.out.2)) (.lit true) [] (plainElem_bool underlying4 true) ?_)
         intro w4 m V;have zk:=aH (uz.see M V (jV.put B m xw HD));have P:aY w4 (w,1) 136 O:=(V.block _ xg.lt (by simp;omega)).trans xg;have zx:aY w4 w1 44 (2:Int):=(V.block _ (by simp) (by simp;omega)).trans (aY.new _ _ _);have ux:=zx.lt;have zq:=qN (H.below zy) zk.keep (fun a ha=>by cases ha;show¬bA=w+1;omega);have yo:=pP zq 26 I;have a0:=zx.cell 0;have a1:=zx.cell 1;simp only[List.getElem?_toArray,List.getElem?_cons_zero,List.getElem?_cons_succ]at a0 a1;have s0:w4.cell? ⟨w.heap.size+1,19+k*2,none⟩=some (.int .i64 (lQ (nV z) k k)):=by rw[Nat.mul_comm k 2];exact(P.cell _).trans (X.ac_ k Z)
         have s1:w4.cell? ⟨w.heap.size+1,19+k*2+1,none⟩=some (.int .i64 (lQ (nW z) k k)):=by rw[Nat.mul_comm k 2,show 19+2*k+1=20+2*k by omega];exact(P.cell _).trans (X.av_ k Z)
         have s2:=(P.cell (27+k)).trans (X.wh_ k Z);have s3:=(P.cell (31+k)).trans (X.tg_ k Z);have f0:=P.frozen (19+k*2);have f1:=P.frozen (19+k*2+1);have f2:=P.frozen (27+k);have f3:=P.frozen (31+k);have zp:Hid (∀t,t<k+1->pV z t):=aH fun t T=>by
          rcases Nat.lt_or_ge t k with h|h
          .exact ze t h
          obtain rfl:t=k:=I;refine⟨zb.out.2 (by have:=zr.out;have:=q.out;simp;first|omega|(have:=zj.out;omega)),fun u' vm=>?_⟩;rw[B.out];exact fun h=>absurd q h
         obtain⟨gn,zi⟩:∃gn:Nat,z 26=(gn:Int):=⟨(z 26).toNat,(Int.toNat_of_nonneg (H.bd 26 I).1).symm⟩;have yn:gn<18446744073709551616:=by have:=(H.bd 26 I).2;omega
         rw[zi]at yo;have xf:=aH zi;clear zi m V P zx zq xl wf we yd cx;go_wp2_with fail;refine(kJ gn k _ yn).mono ?_;rintro e w6 ⟨rfl,yi⟩;have zw:=aH ((zk.put M k Z 0 0 y).below yi);clear yi s0 s1 s2 s3 f0 f1 f2 f3 a0 a1 yo zk;obtain⟨bt,zh⟩:=aP (gO gn (k:Int):Bool);rw[zh];have zo:Hid (jA z k=if bt=true then 1 else 0):=aH (by unfold jA;rw[xf.out,Int.toNat_natCast,zh]);clear zh;cases bt
         .go_wp2;go_roundw
          case rel=>exact⟨k+1,I,by go_num,aH (zw.congr (fun t _=>by rw[fC,yb.out]) (fun t _=>by rw[fC,ya.out]) (fun t _=>by rw[fC,show nL z k=y from B.out]) (fun t _=>zU _ _ _ (by rw[zo.out];rfl))),zp⟩
          case measure=>simp [intOf];omega
         have uw:w6.cell? ⟨w.heap.size+1,31+k,none⟩=some (.int .i64 (lQ (jA z) k k)):=by
          obtain⟨R9,z1,z2,_⟩:=zw.ex;exact(z1.cell _).trans (z2.tg_ k Z)
         have xn:w6.frozen? ⟨w+1,31+k,none⟩=false:=by
          obtain⟨R9,z1,z2,_⟩:=zw.ex;exact z1.frozen _
         go_wp2;go_roundw
         case rel=>exact⟨k+1,I,aG,aH ((zw.turn M k Z 1).congr (fun t _=>by rw[fC,yb.out]) (fun t _=>by rw[fC,ya.out]) (fun t _=>by rw[fC,show nL z k=y from B.out]) (fun t _=>by rw[fC,zo.out];rfl)),zp⟩
         case measure=>simp [intOf];omega
        have dy:(y==0)=false:=by simpa using F
        have q:=aH F;clear F;obtain rfl:b=false:=by
         rw[Bool.eq_false_iff];intro T;obtain⟨zn,yx⟩:=(HB.out.1 T).2.1 k Z;obtain⟨h1,h2,h3⟩:=zb.out.1 zn
         try simp at h1
         have a1:=zr.out
         first|omega|(have a2:=q.out;first|omega|(have a3:=zj.out;omega))
        go_wp2_with (first
         |(refine wpList_load_row rfl 136 _ rfl (w.heap.size+1) rfl 136 O (0,0) _ xg underlying136 rfl Y ?_)
         |(refine wpList_store_row rfl 136 _ _ rfl w.heap.size O rfl rfl 136 rz wa Y (by rw[X.size];rfl) L ?_))
        (try simp only[Exit.inBlock,Exit.then])
        rw[<-l.out]
        with_reducible refine bodyPost_ret (bR results150 _ _ w.heap.size 136 O _ (.bool false) J J (aY.setRow wa.out O) underlying136 J Y.out) J ?_
        refine⟨aL uJ (Nat.le_refl _) _,O,X.size,L.out,rfl,fun h=>Bool.noConfusion h⟩
       have dx:(x==0)=false:=by simpa using yw
       have zr:=aH yw;clear yw;obtain rfl:b=false:=by
        rw[Bool.eq_false_iff];intro T;obtain⟨zn,yx⟩:=(HB.out.1 T).2.1 k Z;obtain⟨h1,h2,h3⟩:=zb.out.1 zn
        try simp at h1
        have a1:=zr.out
        first|omega|(have a2:=q.out;first|omega|(have a3:=zj.out;omega))
       go_wp2_with (first
        |(refine wpList_load_row rfl 136 _ rfl (w.heap.size+1) rfl 136 O (0,0) _ yz underlying136 rfl Y ?_)
        |(refine wpList_store_row rfl 136 _ _ rfl w.heap.size O rfl rfl 136 rz zs Y (by rw[X.size];rfl) L ?_))
       (try simp only[Exit.inBlock,Exit.then])
       rw[<-l.out]
       with_reducible refine bodyPost_ret (bR results150 _ _ w.heap.size 136 O _ (.bool false) J J (aY.setRow zs.out O) underlying136 J Y.out) J ?_
       refine⟨aL xB (Nat.le_refl _) _,O,X.size,L.out,rfl,fun h=>Bool.noConfusion h⟩
      rw[show jN true 3=0 from rfl];obtain⟨uh,xc⟩:=wc.out rfl;have dx:(x==0)=false:=by simpa using xc
      have zr:=aH xc;have tA:(cc==0)=false:=by simp;omega
      clear xc;by_cases F:y=0
      .have dy:(y==0)=true:=by simpa using F
       have q:=aH F;clear F;obtain rfl:b=false:=by
        rw[Bool.eq_false_iff];intro T;obtain⟨zn,yx⟩:=(HB.out.1 T).2.1 k Z;obtain⟨h1,h2,h3⟩:=zb.out.1 zn
        try simp at h1
        have a1:=zr.out
        first|omega|(have a2:=q.out;first|omega|(have a3:=zj.out;omega))
       go_wp2_with (first
        |(refine wpList_load_row rfl 136 _ rfl (w.heap.size+1) rfl 136 O (0,0) _ yz underlying136 rfl Y ?_)
        |(refine wpList_store_row rfl 136 _ _ rfl w.heap.size O rfl rfl 136 rz zs Y (by rw[X.size];rfl) L ?_))
       (try simp only[Exit.inBlock,Exit.then])
       rw[<-l.out]
       with_reducible refine bodyPost_ret (bR results150 _ _ w.heap.size 136 O _ (.bool false) J J (aY.setRow zs.out O) underlying136 J Y.out) J ?_
       refine⟨aL xB (Nat.le_refl _) _,O,X.size,L.out,rfl,fun h=>Bool.noConfusion h⟩
      have dy:(y==0)=false:=by simpa using F
      have uy:decide (0<y)=true:=by simp;omega
      have q:=aH F;clear F;by_cases hc:y<=r
      .have dc:decide (r<y)=false:=by simp;omega
       have zj:=aH hc;clear hc;have xe:=jV.look (⟨D,wb.out,HD.out⟩:jV z k W2 _) y za.out.1 za.out.2;obtain⟨sn,xb⟩:=aP (qZ z k y);rw[xb]at xe;have xu:=aH xb;clear xb;cases sn
       .skip
        go_wp2_with (at_mapUpdate;with_reducible refine JJ 300 23 4 YV underlying300 (plainElem prog 4) W2 k D [y] true [y] J J J wb.out (by unfold maxLen;omega) (keyOf_int_mk underlying23 (KA za.out.1 za.out.2)) (.lit true) [] (plainElem_bool underlying4 true) ?_)
        intro w4 m V;have zk:=aH (va.see M V (jV.put B m xw HD));have P:aY w4 (w,1) 136 O:=(V.block _ yz.lt (by simp;omega)).trans yz;have zx:aY w4 w1 44 #[cc,av]:=(V.block _ (by simp) (by simp;omega)).trans (aY.new _ _ _);have ux:=zx.lt;have zq:=qN (H.below zy) zk.keep (fun a ha=>by cases ha;show¬bA=w+1;omega);have yo:=pP zq 26 I;have a0:=zx.cell 0;have a1:=zx.cell 1;simp only[List.getElem?_toArray,List.getElem?_cons_zero,List.getElem?_cons_succ]at a0 a1;have s0:w4.cell? ⟨w.heap.size+1,19+k*2,none⟩=some (.int .i64 (lQ (nV z) k k)):=by rw[Nat.mul_comm k 2];exact(P.cell _).trans (X.ac_ k Z)
        have s1:w4.cell? ⟨w.heap.size+1,19+k*2+1,none⟩=some (.int .i64 (lQ (nW z) k k)):=by rw[Nat.mul_comm k 2,show 19+2*k+1=20+2*k by omega];exact(P.cell _).trans (X.av_ k Z)
        have s2:=(P.cell (27+k)).trans (X.wh_ k Z);have s3:=(P.cell (31+k)).trans (X.tg_ k Z);have f0:=P.frozen (19+k*2);have f1:=P.frozen (19+k*2+1);have f2:=P.frozen (27+k);have f3:=P.frozen (31+k);have zp:Hid (∀t,t<k+1->pV z t):=aH fun t T=>by
         rcases Nat.lt_or_ge t k with h|h
         .exact ze t h
         obtain rfl:t=k:=I;refine⟨zb.out.2 (by have:=zr.out;have:=q.out;simp;first|omega|(have:=zj.out;omega)),fun u' vm=>?_⟩;rw[B.out];exact fun h he=>by
          have h9:=xu.out;rw[Bool.eq_false_iff]at h9;exact h9 (nY.2 ⟨u',vm,he⟩)
        obtain⟨gn,zi⟩:∃gn:Nat,z 26=(gn:Int):=⟨(z 26).toNat,(Int.toNat_of_nonneg (H.bd 26 I).1).symm⟩;have yn:gn<18446744073709551616:=by have:=(H.bd 26 I).2;omega
        rw[zi]at yo;have xf:=aH zi;clear zi m V P zx zq xl wf we yd cx;go_wp2_with fail;refine(kJ gn k _ yn).mono ?_;rintro e w6 ⟨rfl,yi⟩;have zw:=aH ((zk.put M k Z cc av y).below yi);clear yi s0 s1 s2 s3 f0 f1 f2 f3 a0 a1 yo zk;obtain⟨bt,zh⟩:=aP (gO gn (k:Int):Bool);rw[zh];have zo:Hid (jA z k=if bt=true then 1 else 0):=aH (by unfold jA;rw[xf.out,Int.toNat_natCast,zh]);clear zh;cases bt
        .go_wp2;go_roundw
         case rel=>exact⟨k+1,I,by go_num,aH (zw.congr (fun t _=>by rw[fC,yb.out]) (fun t _=>by rw[fC,ya.out]) (fun t _=>by rw[fC,show nL z k=y from B.out]) (fun t _=>zU _ _ _ (by rw[zo.out];rfl))),zp⟩
         case measure=>simp [intOf];omega
        have uw:w6.cell? ⟨w.heap.size+1,31+k,none⟩=some (.int .i64 (lQ (jA z) k k)):=by
         obtain⟨R9,z1,z2,_⟩:=zw.ex;exact(z1.cell _).trans (z2.tg_ k Z)
        have xn:w6.frozen? ⟨w+1,31+k,none⟩=false:=by
         obtain⟨R9,z1,z2,_⟩:=zw.ex;exact z1.frozen _
        go_wp2;go_roundw
        case rel=>exact⟨k+1,I,by go_num,aH ((zw.turn M k Z 1).congr (fun t _=>by rw[fC,yb.out]) (fun t _=>by rw[fC,ya.out]) (fun t _=>by rw[fC,show nL z k=y from B.out]) (fun t _=>by rw[fC,zo.out];rfl)),zp⟩
        case measure=>simp [intOf];omega
       skip
       obtain rfl:b=false:=by
        rw[Bool.eq_false_iff];intro T;obtain⟨zn,yx⟩:=(HB.out.1 T).2.1 k Z;obtain⟨u',us,ur⟩:=nY.1 xu;rw[xv.out,wd.out]at yx;exact yx u' us q ur
       go_wp2_with (first
        |(refine wpList_load_row rfl 136 _ rfl (w.heap.size+1) rfl 136 O (0,0) _ yz underlying136 rfl Y ?_)
        |(refine wpList_store_row rfl 136 _ _ rfl w.heap.size O rfl rfl 136 rz zs Y (by rw[X.size];rfl) L ?_))
       (try simp only[Exit.inBlock,Exit.then])
       rw[<-l.out]
       with_reducible refine bodyPost_ret (bR results150 _ _ w.heap.size 136 O _ (.bool false) J J (aY.setRow zs.out O) underlying136 J Y.out) J ?_
       refine⟨aL xB (Nat.le_refl _) _,O,X.size,L.out,rfl,fun h=>Bool.noConfusion h⟩
      have dc:decide (r<y)=true:=by simp;omega
      have zj:=aH hc;clear hc;obtain rfl:b=false:=by
       rw[Bool.eq_false_iff];intro T;obtain⟨zn,yx⟩:=(HB.out.1 T).2.1 k Z;obtain⟨h1,h2,h3⟩:=zb.out.1 zn
       try simp at h1
       have a1:=zr.out
       first|omega|(have a2:=q.out;first|omega|(have a3:=zj.out;omega))
      go_wp2_with (first
       |(refine wpList_load_row rfl 136 _ rfl (w.heap.size+1) rfl 136 O (0,0) _ yz underlying136 rfl Y ?_)
       |(refine wpList_store_row rfl 136 _ _ rfl w.heap.size O rfl rfl 136 rz zs Y (by rw[X.size];rfl) L ?_))
      (try simp only[Exit.inBlock,Exit.then])
      rw[<-l.out]
      with_reducible refine bodyPost_ret (bR results150 _ _ w.heap.size 136 O _ (.bool false) J J (aY.setRow zs.out O) underlying136 J Y.out) J ?_
      refine⟨aL xB (Nat.le_refl _) _,O,X.size,L.out,rfl,fun h=>Bool.noConfusion h⟩
     obtain rfl:k=4:=I;have vQ:=aH ze;have xt:Hid (aY wr w 136 rz):=aH ((HS.keep.block _ E.lt (by show¬w.heap.size=w+1;omega)).trans E);have vz:=aH (zy.trans (HS.keep.below zy.size (fun b hb e=>by omega)));have vy:=aH (ve.keeps HS.keep (fun b hb e=>by omega));obtain⟨O,yk,yy,yj⟩:=HS.ex;have ys:=aH yk;have X:Hid (uD O (R.extract 0 19) (nV z) (nW z) (nL z) (jA z) j r):=aH (yy.congr (fun t T=>by unfold lQ;rw[iP T]) (fun t T=>by unfold lQ;rw[iP T]) (fun t T=>by unfold lQ;rw[iP T]) (fun t T=>by unfold lQ;rw[iP T]));have L:=aH yj;have Y:Hid ((prog.info? 136).map (·.size)=some O.size):=by show _=_;rw[mU,yy.size]
     have vx:Hid (j<=1099511627776/\r<=1099511627776):=aH ⟨vj,vi⟩;have uv:Hid (0<=z0/\z0<=9):=aH ⟨wU.1,I⟩;clear yk yy yj ze HS;go_wp2_with fail;refine dQ 5 bN [] J J ?_;intro ug vl
     iterate 2
      refine aR ?_;constructor
      .intro w9 hw9 _;exact bT 136 _ rfl (w,1) rfl 136 O _ (ys.below hw9.same ys.lt) underlying136 rfl Y aE
     refine bC TC (Ey (iW z0 (oz z) (nV z) (nW z) (nL z) (jA z) j r)) ⟨_,0,rfl⟩ ?_ ?_
     .intro w9 hw9 _;go_simp;go_at_call 59;refine(uC O (R.extract 0 19) (nV z) (nW z) (nL z) (jA z) j r z0 (oz z) w9 X uv (fun i hi=>(H.bd (1+i) I).1) (yf.out.1 (by trivial)) ((vy.weak).below hw9.same) (fun t T=>H.bd (22+t) I) wo wn).mono ?_;rintro e xd ⟨g,D9,rfl,uq,xa,tx,yl⟩;exact⟨_,rfl,⟨⟨g,rfl⟩,⟨g,D9,rfl,uq,xa⟩⟩,aD.of_same yl⟩
     refine aC (fun K hK=>?_);refine .inl ?_;apply Exists.intro;refine⟨cX,?_,hK _ _ _ _ ?_⟩
     .simp only[bJ,bM];rintro _ ⟨g,rfl⟩;refine⟨rfl,fun w9 hw9 _=>?_⟩;go_simp;exact aE
     clear hK K;refine aN ?_;refine bB (.bool b) cX ?_ ?_
     .rintro _ ⟨g,rfl⟩;refine⟨rfl,fun w9 hw9 U=>?_⟩;have vw:Calls prog 170 #[.slice (some ⟨g,0,none⟩) 32 32,.slice (some ⟨bA,oA,none⟩) 32 c] w9 fun e w'=>e=.returned b/\Below w9 w9 w':=by
       have h1:=U.2.1 (by rw[vl.out];kernel_rfl);obtain⟨w0,k0,k1,g',D9,up,xr,xa⟩:=h1;cases up;have uu:=dG k1 (by rw[vl.out];kernel_rfl);refine(tQ _ _ 32 32 32 _ (iW z0 (oz z) (nV z) (nW z) (nL z) (jA z) j r) z _ (by simpa using qY.of_blk (n:=32) (c:=32) (o:=0) (xr.below uu xr.lt) xa I I I) (zt.below hw9.same)).mono ?_;rintro e xd ⟨b',rfl,uo,yl⟩;obtain rfl:b'=b:=by
        rw[Bool.eq_iff_iff,uo,HB.out];have hw:=GS yg HV HN (fun i hi=>(H.bd i hi).1) h6 (yf.out.1 (by trivial)) vx.out.1 vx.out.2 vQ;exact⟨fun h=>hw.1 h.2,fun h=>⟨rfl,hw.2 h⟩⟩
       exact⟨rfl,yl⟩
      go_simp;go_at_call 170;exact bS vw
     refine aZ ?_;rintro _ ⟨g9,rfl⟩ xd yh U;clear U;have vu:=aH (xt.below yh.same xt.lt);have vt:=aH (vz.trans (yh.same.mono vz.size));simp only[List.drop_succ_cons,List.drop_zero]
     go_wp2_with (refine wpList_store_row rfl 136 _ _ rfl w.heap.size O rfl rfl 136 rz vu Y (by rw[X.size];rfl) L ?_)
     (try simp only[Exit.inBlock,Exit.then])
     rw[<-l.out]
     with_reducible refine bodyPost_ret (bR results150 _ _ w.heap.size 136 O _ (.bool b) J J (aY.setRow vu.out O) underlying136 J Y.out) J ?_
     refine⟨aL vt (Nat.le_refl _) _,O,X.size,L.out,rfl,fun _=>⟨?_,?_⟩⟩
     .rw[HV.out,HN.out,<-X.thing];exact X
     rw[<-X.thing,yg.out];exact((vy.keeps (aD.of_same (S:=bN) yh.same) (fun _ _ h=>h)).keeps (fD (S:=fun b=>b=w.heap.size) (.inl rfl) O) (fun b hb e=>by omega)).weak
   have dn:decide (1099511627776<r)=true:=by simp;omega
   apply_assumption
   obtain rfl:b=false:=by
    rw[Bool.eq_false_iff];intro T;have h9:=(HB.out.1 T).1;have a1:=h9.2.2.1;rw[HN.out]at a1;exact vi a1
   go_wp2_with (first
    |(refine wpList_load_row rfl 136 _ rfl (w.heap.size+1) rfl 136 R2 (0,0) _ zz underlying136 rfl d ?_)
    |(refine wpList_store_row rfl 136 _ _ rfl w.heap.size R2 rfl rfl 136 rz E d (by rw[zu.size];rfl) yt ?_))
   (try simp only[Exit.inBlock,Exit.then])
   rw[<-l.out]
   with_reducible refine bodyPost_ret (bR results150 _ _ w.heap.size 136 R2 _ (.bool false) J J (aY.setRow E.out R2) underlying136 J d.out) J ?_
   refine⟨aL zy (Nat.le_refl _) _,R2,zu.size,yt.out,rfl,fun h=>Bool.noConfusion h⟩
  have dv:decide (1099511627776<j)=true:=by simp;omega
  apply_assumption
  obtain rfl:b=false:=by
   rw[Bool.eq_false_iff];intro T;have h9:=(HB.out.1 T).1;have a1:=h9.2.2.2;rw[HV.out]at a1;exact vj a1
  go_wp2_with (first
   |(refine wpList_load_row rfl 136 _ rfl (w.heap.size+1) rfl 136 R2 (0,0) _ zz underlying136 rfl d ?_)
   |(refine wpList_store_row rfl 136 _ _ rfl w.heap.size R2 rfl rfl 136 rz E d (by rw[zu.size];rfl) yt ?_))
  (try simp only[Exit.inBlock,Exit.then])
  rw[<-l.out]
  with_reducible refine bodyPost_ret (bR results150 _ _ w.heap.size 136 R2 _ (.bool false) J J (aY.setRow E.out R2) underlying136 J d.out) J ?_
  refine⟨aL zy (Nat.le_refl _) _,R2,zu.size,yt.out,rfl,fun h=>Bool.noConfusion h⟩
 have d6:decide (6<z0)=true:=by simp;omega
 obtain rfl:b=false:=by
  rw[Bool.eq_false_iff];intro T;have h9:=rS (HB.out.1 T).1.1;have h0:=yg.out;unfold dH at h9;rw[h0]at h9;split at h9<;>omega
 go_wp2_with (first
  |(refine wpList_load_row rfl 136 _ rfl (w,1) rfl 136 rz (0,0) _ (aY.newAt _ _ _ (by simp)) underlying136 rfl HI ?_)
  |(refine wpList_store_row rfl 136 _ _ rfl w.heap.size rz rfl rfl 136 rz ((aY.new _ _ _).alloc _) HI rfl JE ?_))
 (try simp only[Exit.inBlock,Exit.then])
 rw[<-l.out]
 with_reducible refine bodyPost_ret (bR results150 _ _ w.heap.size 136 rz _ (.bool false) J J (aY.setRow ((aY.new _ _ _).alloc _) rz) underlying136 J HI.out) J ?_
 refine⟨aL (show Below w w ((w.alloc (.cells rz 136)).alloc (.cells rz 136)) by go_grown) (Nat.le_refl _) _,rz,rfl,JE,rfl,fun h=>Bool.noConfusion h⟩
