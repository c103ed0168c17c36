/-
  Part of a proof: RecO. For all values.
-/
import Derived.Test.YtplpimkgihnmhaaGreatDoorA12
set_option maxRecDepth 100000
set_option maxHeartbeats 40000000
set_option linter.all false
namespace Go.Proofs.YtplpimkgihnmhaaGreatDoor
open Go.Proofs.Tryz Go.RowKit
section
open Go.Maps
attribute [local go_sem ↓] Go.wp_at_zero Go.wp_at_succ
theorem zB(A:Option Addr)(c:Nat)(z:Nat->Int)(b:Bool)(w:World)(h:qY w A 32 c z)(hb:b=true↔eE z):
 Calls prog 150 #[.slice A 32 c] w (TJ b (Dc z) w):=by
 have HI:Hid ((prog.info? 136).map (·.size)=some rz.size):=mU;have H:=Lib.hid h;have HB:=Lib.hid hb;obtain⟨bA,oA,rfl,vq,yl⟩:=h.at_ (by omega);have c0:=yl 0 (by omega);have wz:=h.bd 0 (by omega);simp only[Nat.add_zero]at c0;clear yl h hb;generalize vi:z 0=z0 at c0 wz;have yf:=Lib.hid vi;clear vi
 go_enter func150,ntmps150
 generalize hQ:bodyPost prog Tryz.f150 (TJ b (Dc z) w)=Q;have d:=Lib.hid hQ;clear hQ;by_cases h6:z0<=6
 .have d6:decide (6<z0)=false:=by simp;omega
  obtain⟨b1,F⟩:∃b1:Bool,b1=true↔cK z0 (oz z):=by
   by_cases hh:cK z0 (oz z)
   .exact⟨true,fun _=>hh,fun _=>rfl⟩
   .exact⟨false,fun h=>Bool.noConfusion h,fun h=>absurd h hh⟩
  have ye:=Lib.hid F;clear F;go_wp2_with fail;have yu:Below w.heap.size w ((w.alloc (.cells rz 136)).alloc (.cells rz 136)):=by go_grown
  have wy:aY ((w.alloc (.cells rz 136)).alloc (.cells rz 136)) w.heap.size 136 rz:=(aY.new _ _ _).alloc _;have wx:aY ((w.alloc (.cells rz 136)).alloc (.cells rz 136)) (w.heap.size+1) 136 rz:=aY.newAt _ _ _ (by simp);show Code.wp _ _ _ _ ((w.alloc (.cells rz 136)).alloc (.cells rz 136));generalize(w.alloc (.cells rz 136)).alloc (.cells rz 136)=W1 at*;have zu:=Lib.hid (H.out.below yu);have zc:=Lib.hid yu;have zb:=Lib.hid wy;have zl:=Lib.hid wx;have ww:=(yu.cell (p:=⟨bA,oA,none⟩) vq).trans c0;have yt:bA<W1.heap.size:=by have:=yu.size;omega
  have uc:=H.out.cap63;have ub:=H.out.cap;have e1:¬c=1:=by omega
  have vf:(18:Int)<=c:=by omega
  have ez:IntKind.i64.wrap z0=z0:=IntWalk.i64_in _ (by omega);have wv:Hid (qY W1 (some ⟨bA,oA+1,none⟩) 17 (c-1) (oz z)):=Lib.hid ⟨by omega,by omega,fun i hi=>zu.out.bd (1+i) (by omega),fun _=>⟨bA,oA+1,rfl,yt,fun i hi=>by
   obtain⟨g2,o2,he,_,hc⟩:=zu.out.at_ (by omega);cases he;rw[Nat.add_assoc];exact hc (1+i) (by omega)⟩⟩
  clear yu wy wx c0;refine dQ 12 (fun b=>b=w.heap.size+1) [11] (by kernel_rfl) (by kernel_rfl) ?_;intro tv HA
  iterate 6
   refine aC (fun K M=>?_);refine .inl ?_;apply Exists.intro;refine⟨cX,?_,M _ _ _ _ ?_⟩
   .simp only[bJ,bM];refine⟨rfl,fun w9 hw9 _=>?_⟩;have c9:=(hw9.cell (p:=⟨bA,oA,none⟩) yt (by show¬bA=w.heap.size+1;omega)).trans ww;go_simp;exact⟨⟨rfl,trivial⟩,aD.refl _ _⟩
   clear M K
   try simp only[Act.put,List.setIfInBounds_toArray,List.set_cons_zero,List.set_cons_succ]
  refine aC (fun K M=>?_);refine .inr (.inr ⟨Ds b1,ZW b1 (iS (w.heap.size+2) z0 (oz z)),⟨_,tz 0,rfl,rfl,by kernel_rfl⟩,?_,M _ _ _ _ ?_⟩)
  .simp only[bJ,bM];refine⟨rfl,fun w9 hw9 _=>?_⟩;have ua:=hw9.size;have tR:=zl.out.lt;go_simp;go_at_call 169
   (with_reducible refine(NS _ _ (oz z) z0 b1 _ (qN wv.out hw9 (fun a ha=>by cases ha;show¬bA=w.heap.size+1;omega)) ye.out).mono ?_)
   rintro e xb ⟨yk,C,hs,ho,rfl,hT⟩;exact⟨_,rfl,⟨⟨C,rfl,hs,ho⟩,C,rfl,fun T=>(hT T).mono (by omega)⟩,aD.of_same yk⟩
  clear M K
  try simp only[Act.put,List.setIfInBounds_toArray,List.set_cons_zero,List.set_cons_succ]
  refine aC (fun K M=>?_);refine .inr (.inr ⟨Ds b1,ZW b1 (iS (w.heap.size+2) z0 (oz z)),⟨_,tz 0,rfl,rfl,by kernel_rfl⟩,?_,M _ _ _ _ ?_⟩)
  .simp only[bJ,bM];rintro _ ⟨C,rfl,hs,ho⟩;refine⟨rfl,fun w9 hw9 U=>?_⟩;obtain⟨w0,k0,k1,C',hv,hT⟩:=U.2.1 (by rw[HA.out];kernel_rfl);cases hv;go_simp;exact⟨⟨⟨C,rfl,hs,ho⟩,C,rfl,fun T=>(hT T).keeps (aD.of_same (S:=bN) (dG k1 (by rw[HA.out];kernel_rfl))) (fun _ _ h=>h)⟩,aD.refl _ _⟩
  clear M K
  try simp only[Act.put,List.setIfInBounds_toArray,List.set_cons_zero,List.set_cons_succ]
  refine aC (fun K M=>?_);refine .inr (.inr ⟨Fo,Ec b1 (iS (w.heap.size+2) z0 (oz z)),⟨_,tz 0,rfl,rfl,by kernel_rfl⟩,?_,M _ _ _ _ ?_⟩)
  .simp only[bJ,bM];rintro _ ⟨C,rfl,hs,ho⟩ _ ⟨C2,rfl,tu,tt⟩;refine⟨rfl,fun w9 hw9 U=>?_⟩;obtain⟨w0,k0,k1,C',hv,hT⟩:=U.2.2.1 (by rw[HA.out];kernel_rfl);obtain rfl:C'=C:=by cases hv;rfl
   clear hv;go_simp;exact⟨⟨⟨C',rfl,hs,ho⟩,C',rfl,fun T=>(hT T).keeps (aD.of_same (S:=bN) (dG k1 (by rw[HA.out];kernel_rfl))) (fun _ _ h=>h)⟩,aD.refl _ _⟩
  clear M K
  try simp only[Act.put,List.setIfInBounds_toArray,List.set_cons_zero,List.set_cons_succ]
  iterate 2
   refine aC (fun K M=>?_);refine .inl ?_;apply Exists.intro;refine⟨cX,?_,M _ _ _ _ ?_⟩
   .simp only[bJ,bM];rintro _ ⟨C8,rfl,xx,xw⟩ _ ⟨C7,rfl,vp,vo⟩ _ ⟨C6,rfl,vn,vm⟩;refine⟨rfl,fun w9 hw9 _=>?_⟩;go_simp;exact⟨⟨rfl,trivial⟩,aD.refl _ _⟩
   clear M K
   try simp only[Act.put,List.setIfInBounds_toArray,List.set_cons_zero,List.set_cons_succ]
  refine aC (fun K M=>?_);refine .inl ⟨undef,fun _ w'=>ZN (w.heap.size+1) 136 b1 (iS (w.heap.size+2) z0 (oz z)) w',?_,M _ _ _ _ ?_⟩
  .simp only[bJ,bM];rintro _ ⟨C8,rfl,xx,xw⟩ _ ⟨C7,rfl,vp,vo⟩ _ ⟨C6,rfl,vn,vm⟩;constructor
   .rfl
   intro w9 hw9 U;have wu:aY w9 (w.heap.size+1) 136 rz:=(U.1.block _ zl.out.lt (fun h=>dN h (by rw[HA.out];kernel_rfl))).trans zl.out;have h9:ZN (w.heap.size+1) 136 b1 (iS (w.heap.size+2) z0 (oz z)) (w9.setCells (w.heap.size+1) 0 C8.toList):=by
    have h1:=U.2.2.2.1;have h5:=h1 (by rw[HA.out];kernel_rfl);clear U h1 hw9;obtain⟨w0,k0,k1,C',hv,hT⟩:=h5;obtain rfl:C'=C8:=by cases hv;rfl
    exact⟨_,C',wu.setCells,XK rfl xx JE xw,fun T=>((hT T).keeps (aD.of_same (S:=bN) (dG k1 (by rw[HA.out];kernel_rfl))) (fun _ _ h=>h)).keeps (cE (S:=fun b=>b=w.heap.size+1) (.inl rfl) 0 C'.toList) (fun b hb e=>by omega)⟩
   refine dA 131 _ _ rfl (w.heap.size+1) 0 C8 rfl rfl (wu.there (by show 0+C8.size<=37;omega)) (by rw[jT,xx]) xw ?_;exact⟨⟨rfl,h9⟩,(cE (S:=fun b=>b=w.heap.size+1) (.inl rfl) 0 C8.toList).mono (fun b h=>⟨by decide,h⟩)⟩
  clear M K
  try simp only[Act.put,List.setIfInBounds_toArray,List.set_cons_zero,List.set_cons_succ]
  refine cP ?_;simp only[bM];rintro _ ⟨C8,rfl,xx,xw⟩ _ ⟨C7,rfl,vp,vo⟩ _ ⟨C6,rfl,vn,vm⟩ w9 hw9 U;have wt:∃R,aY w9 (w.heap.size+1) 136 R/\XZ R rz (R.extract 0 19)/\(b1=true->iS (w.heap.size+2) z0 (oz z) (R.extract 0 19) w9):=by
   have h1:=U.2.2.2.1;have h5:=h1 rfl;clear U h1;obtain⟨w0,k0,k1,R,C,vl,xq,uq⟩:=h5;have xv:=dG k1 (by rw[HA.out];kernel_rfl);have e:=xq.thing;subst e;exact⟨R,vl.below xv vl.lt,xq,fun T=>(uq T).keeps (aD.of_same (S:=bN) xv) (fun _ _ h=>h)⟩
  clear U;have zf:Hid (aY w9 w.heap.size 136 rz):=Lib.hid ((hw9.block _ zb.out.lt (by show¬w.heap.size=w.heap.size+1;omega)).trans zb.out);have yd:=Lib.hid (zc.out.trans (hw9.below zc.out.size (fun b hb e=>by omega)));have ws:=Lib.hid (H.out.below yd.out);have uj:bA<w9.heap.size:=by have:=yd.out.size;omega
  clear hw9 zl zb zc zu wv ww vf ez e1 yt;simp only[List.drop_succ_cons,List.drop_zero];refine Exists.elim wt (fun R hR=>?_);clear wt;have zk:=Lib.hid hR.1;have N:=Lib.hid hR.2.1;have wq:=Lib.hid hR.2.2;clear hR;have xm:Hid ((prog.info? 136).map (·.size)=some R.size):=by show _=_;rw[mU,N.out.size]
  cases b1
  .obtain rfl:b=false:=by
    rw[Bool.eq_false_iff];intro T;have h9:=(HB.out.1 T).1.1;rw[show dH z=z0 by unfold dH;rw[yf.out,if_pos (by omega)]]at h9;exact Bool.noConfusion (ye.out.2 h9)
   go_wp2_with (first
    |(refine wpList_load_row rfl 136 _ rfl (w.heap.size+1) rfl 136 R (0,0) _ zk.out underlying136 rfl xm.out ?_)
    |(refine wpList_store_row rfl 136 _ _ rfl w.heap.size R rfl rfl 136 rz zf.out xm.out (by rw[N.out.size];rfl) N.out.one ?_))
   (try simp only[Exit.inBlock,Exit.then])
   rw[<-d.out]
   with_reducible refine bodyPost_ret (bR results150 _ _ w.heap.size 136 R _ (.bool false) (by kernel_rfl) (by kernel_rfl) (aY.setRow zf.out R) underlying136 (by kernel_rfl) xm.out) (by kernel_rfl) ?_
   refine⟨aL yd.out (Nat.le_refl _) _,R,N.out.size,N.out.one,rfl,fun h=>Bool.noConfusion h⟩
  .have x27:=(pP ws.out 27 (by omega));have wo:=(pP ws.out 28 (by omega));have ve:w9.cell? ⟨w.heap.size+1,35,none⟩=some (.int .u64 0):=(zk.out.cell 35).trans (N.out.rest 35 (by omega));have yc:w9.cell? ⟨w.heap.size+1,36,none⟩=some (.int .u64 0):=(zk.out.cell 36).trans (N.out.rest 36 (by omega));have vd:=zk.out.frozen 35;have xl:=zk.out.frozen 36;have wn:=H.out.bd 27 (by omega);have wm:=H.out.bd 28 (by omega);generalize xo:z 27=j at x27 wn;generalize xn:z 28=B at wo wm;have HV:=Lib.hid xo;have HN:=Lib.hid xn;have zt:=Lib.hid (ON N.out j B);have ys:=Lib.hid (qW (i:=36) (qW (i:=35) N.out.one (v:=.int .u64 j) rfl) (v:=.int .u64 B) rfl);have zl:=Lib.hid ((zk.out.set_ 35 (.int .u64 j)).set_ 36 (.int .u64 B));have zz:Hid ((prog.info? 136).map (·.size)=some ((R.setIfInBounds 35 (.int .u64 j)).setIfInBounds 36 (.int .u64 B)).size):=by show _=_;rw[mU,zt.out.size]
   have wl:=Lib.hid (((wq.out rfl).keeps (aD.setCell (aD.refl (fun b=>b=w.heap.size+1) w9) (p:=⟨w.heap.size+1,35,none⟩) (.inl rfl) (.int .u64 j)) (fun b hb e=>by omega)).keeps (aD.setCell (aD.refl (fun b=>b=w.heap.size+1) _) (p:=⟨w.heap.size+1,36,none⟩) (.inl rfl) (.int .u64 B)) (fun b hb e=>by omega));have zb:=Lib.hid ((aY.far (show aY w9 w.heap.size 136 rz from zf.out) (p:=⟨w.heap.size+1,35,none⟩) (by simp) (.int .u64 j)).far (p:=⟨w.heap.size+1,36,none⟩) (by simp) (.int .u64 B));have zc:=Lib.hid ((yd.out.setCell (p:=⟨w.heap.size+1,35,none⟩) (by show w.heap.size<=w.heap.size+1;omega) (.int .u64 j)).setCell (p:=⟨w.heap.size+1,36,none⟩) (by show w.heap.size<=w.heap.size+1;omega) (.int .u64 B));clear xo xn wq zf zk;go_wp2
   go_region
   have vc:Hid (iS (w.heap.size+2) z0 (oz z) (R.extract 0 19) ((w9.setCell ⟨w.heap.size+1,35,none⟩ (.int .u64 j)).setCell ⟨w.heap.size+1,36,none⟩ (.int .u64 B)).drew):=Lib.hid (wl.out.keeps ((aD.refl bN _).drew) (fun _ _ h=>h));have zy:=Lib.hid zl.out.drew;have r:=Lib.hid zb.out.drew;have zx:=Lib.hid zc.out.drew;have wk:w9.heap.size=((w9.setCell ⟨w.heap.size+1,35,none⟩ (.int .u64 j)).setCell ⟨w.heap.size+1,36,none⟩ (.int .u64 B)).drew.heap.size:=by simp
   have ui:bA<((w9.setCell ⟨w.heap.size+1,35,none⟩ (.int .u64 j)).setCell ⟨w.heap.size+1,36,none⟩ (.int .u64 B)).drew.heap.size:=by omega
   have wj:=(zy.out.cell 35).trans zt.out.ver_;have wi:=(zy.out.cell 36).trans zt.out.cnt_;clear wk ve yc x27 wo vd xl wl zl zb zc;generalize((w9.setCell ⟨w.heap.size+1,35,none⟩ (.int .u64 j)).setCell ⟨w.heap.size+1,36,none⟩ (.int .u64 B)).drew=W2 at*;generalize(R.setIfInBounds 35 (.int .u64 j)).setIfInBounds 36 (.int .u64 B)=R2 at*;by_cases vh:j<=1099511627776
   .have dv:decide (1099511627776<j)=false:=by simp;omega
    by_cases vg:B<=1099511627776
    .have dn:decide (1099511627776<B)=false:=by simp;omega
     have vb:= @run_makeMap prog
     apply_assumption
     go_wp2
     go_loopw [53] (fun i wr=>∃k:Nat,k<=4/\i=.int .i64 k/\Hid (zE w W2 (R.extract 0 19) (lQ (nV z) k) (lQ (nW z) k) (lQ (nL z) k) (lQ (jA z) k) j B z k wr)/\Hid (∀t,t<k->pV z t)) (fun i _=>4-(intOf i).toNat)
     case atStart=>exact⟨0,by omega,rfl,Lib.hid ((⟨(aD.refl _ _).alloc _,⟨R2,zy.out.alloc _,zt.out,ys.out⟩,jV.start z W2⟩:zE w W2 (R.extract 0 19) (fun _=>0) (fun _=>0) (fun _=>0) (fun _=>0) j B z 0 _).congr (fun t _=>by unfold lQ;rw[if_neg (by omega)]) (fun t _=>by unfold lQ;rw[if_neg (by omega)]) (fun t _=>by unfold lQ;rw[if_neg (by omega)]) (fun t _=>by unfold lQ;rw[if_neg (by omega)])),Lib.hid fun t T=>absurd T (by omega)⟩
     case round=>
      obtain⟨k,hk,rfl,HS,zd⟩:=hrel;have L:w.heap.size+1<W2.heap.size:=zy.out.lt;have zs:=Lib.hid (qN (H.out.below zx.out) HS.out.keep (fun a ha=>by cases ha;show¬bA=w.heap.size+1;omega));clear wj wi dv dn vb;by_cases uk:k<4
      .have q1:(k:Int)<4:=by omega
       have Z:=uk;have cx:=pP zs.out (18+k) (by omega);have wh:=zs.out.bd (18+k) (by omega);have va:=zs.out.bd (22+k) (by omega);have wg:Hid (∀W:World,Calls prog 113 #[.int .u64 (z (18+k))] W fun e w'=>e=.returned (.tuple #[.agg #[.int .i64 (rZ (z (18+k))),.int .i64 (tU (z (18+k)))],.int .i64 (jN (yI (z (18+k))) 3)])/\Below W.heap.size W w'):=Lib.hid (fun W=>QQ _ wh.1 wh.2 W);obtain⟨O,yj,yx,yi⟩:=HS.out.ex;obtain⟨D,ho,hD⟩:=HS.out.seen;have xu:=Lib.hid ho.isMap;have yr:=Lib.hid yj;have X:=Lib.hid yx;have G:=Lib.hid yi;have HO:=Lib.hid ho;have HD:=Lib.hid hD;have Y:Hid ((prog.info? 136).map (·.size)=some O.size):=by show _=_;rw[mU,X.out.size]
       have uh:=HS.out.keep.size;clear yj yx yi ho hD;have tO:(18:Int)+k=((18+k:Nat):Int):=by omega
       have tH:((18+k:Nat):Int)<32:=by omega
       generalize hs:18+k=s at*;have wf:=Lib.hid hs;clear hs;go_wp2_with fail;refine(wg.out _).mono ?_;rintro e w1 ⟨rfl,F⟩;have zu:=Lib.hid (HS.out.below F);have yq:=yr.out.below F yr.out.lt;have xk:aY w1 w.heap.size 136 rz:=(zu.out.keep.block _ r.out.lt (by show¬w.heap.size=w.heap.size+1;omega)).trans r.out;have yp:=zx.out.trans (zu.out.keep.below zx.out.size (fun b hb e=>by omega));have yb:=HO.out.kept (row:=none) (w':=w1) ⟨F.os,F.tape,F.output,F.size,fun i hi _=>F.block i hi⟩ (by simp);have ug:=F.size;have tE:bA<w1.heap.size:=by omega
       have tD:W2.heap.size<w1.heap.size:=yb.lt;have ze:=zs.out.below F;have xj:=pP ze (18+k) (by omega);have we:=pP ze (22+k) (by omega);have wd:=pP ze 26 (by omega);have yc:=(yq.cell 36).trans X.out.cnt_;have uf:=yq.lt;have xi:BL z k↔((yI (z (18+k))=true\/z (18+k)=0)/\z (22+k)<=B/\(z (18+k)=0↔z (22+k)=0)):=by
        unfold BL;rw[HN.out]
       have yo:= @WV (z (18+k));have xh:= @aCf (z (18+k));have xg:nV z k=rZ (z (18+k)):=rfl;have xf:nW z k=tU (z (18+k)):=rfl;rw[wf.out]at xj xi yo xh xg xf;have tA:(22:Int)+k=((22+k:Nat):Int):=by omega
       have ty:((22+k:Nat):Int)<32:=by omega
       generalize hu:22+k=u at*;have xt:=Lib.hid hu;clear hu;generalize hx:z s=x at*;generalize hy:z u=y at*;generalize rZ x=cc at*;generalize tU x=av at*;generalize yI x=f at*;have ya:=Lib.hid xg;have xz:=Lib.hid xf;have za:=Lib.hid xi;have tx:=Lib.hid hx;have wc:=Lib.hid hy;have wb:=Lib.hid yo;have uz:=Lib.hid xh;have yz:=Lib.hid va;have q:Hid (z (22+k)=y):=Lib.hid (by rw[xt.out];exact wc.out);clear F xi hx hy yo xh xg xf;have yy:=Lib.hid (yq.alloc (.cells #[.int .i64 cc,.int .i64 av] 44));have zr:=Lib.hid (xk.alloc (.cells #[.int .i64 cc,.int .i64 av] 44));have xy:=Lib.hid (yp.alloc yp.size (.cells #[.int .i64 cc,.int .i64 av] 44));have wa:=Lib.hid (yb.alloc (.cells #[.int .i64 cc,.int .i64 av] 44));have uy:=Lib.hid (zu.out.alloc (.cells #[.int .i64 cc,.int .i64 av] 44));have xe:=Lib.hid (yq.alloc (.cells #[.int .i64 0,.int .i64 0] 44));have vz:=Lib.hid (xk.alloc (.cells #[.int .i64 0,.int .i64 0] 44));have ux:=Lib.hid (yp.alloc yp.size (.cells #[.int .i64 0,.int .i64 0] 44));have uw:=Lib.hid (yb.alloc (.cells #[.int .i64 0,.int .i64 0] 44));have uv:=Lib.hid (zu.out.alloc (.cells #[.int .i64 0,.int .i64 0] 44));clear yq xk yp yb ze;cases f
       .rw[show jN false 3=3 from rfl];obtain⟨rfl,rfl⟩:=uz.out rfl;by_cases yv:x=0
        .have dx:(x==0)=true:=by simpa using yv
         have zq:=Lib.hid yv;clear yv;by_cases E:y=0
         .have dy:(y==0)=true:=by simpa using E
          have uu:decide (0<y)=false:=by simp;omega
          have dc:decide (B<y)=false:=by simp;omega
          have m:=Lib.hid E;clear E
          go_wp2_with (at_mapUpdate;with_reducible refine JJ 300 23 4 YV underlying300 (plainElem prog 4) W2.heap.size k D (.int .u64 y) (.bool true) (.int .u64 y) (by kernel_rfl) (by kernel_rfl) (by kernel_rfl) uw.out (by unfold maxLen;omega) (keyOf_int_mk underlying23 (KA yz.out.1 yz.out.2)) (.lit (.bool true)) [] (plainElem_bool underlying4 true) ?_)
          intro w4 l V;have zj:=Lib.hid (uv.out.see L V (jV.put q.out l xu.out HD.out));have P:aY w4 (w.heap.size+1) 136 O:=(V.block _ xe.out.lt (by simp;omega)).trans xe.out;have zw:aY w4 w1.heap.size 44 #[.int .i64 0,.int .i64 0]:=(V.block _ (by simp) (by simp;omega)).trans (aY.new _ _ _);have ut:w1.heap.size<w4.heap.size:=zw.lt;have zp:=qN (H.out.below zx.out) zj.out.keep (fun a ha=>by cases ha;show¬bA=w.heap.size+1;omega);have yn:=pP zp 26 (by omega);have a0:=zw.cell 0;have a1:=zw.cell 1;simp only[List.getElem?_toArray,List.getElem?_cons_zero,List.getElem?_cons_succ]at a0 a1;have s0:w4.cell? ⟨w.heap.size+1,19+k*2,none⟩=some (.int .i64 (lQ (nV z) k k)):=by rw[Nat.mul_comm k 2];exact(P.cell _).trans (X.out.ac_ k Z)
          have s1:w4.cell? ⟨w.heap.size+1,19+k*2+1,none⟩=some (.int .i64 (lQ (nW z) k k)):=by rw[Nat.mul_comm k 2,show 19+2*k+1=20+2*k by omega];exact(P.cell _).trans (X.out.av_ k Z)
          have s2:=(P.cell (27+k)).trans (X.out.wh_ k Z);have s3:=(P.cell (31+k)).trans (X.out.tg_ k Z);have f0:=P.frozen (19+k*2);have f1:=P.frozen (19+k*2+1);have f2:=P.frozen (27+k);have f3:=P.frozen (31+k);have zo:Hid (∀t,t<k+1->pV z t):=Lib.hid fun t T=>by
           rcases Nat.lt_or_ge t k with h|h
           .exact zd.out t h
           .obtain rfl:t=k:=by omega
            refine⟨za.out.2 (by have:=zq.out;have:=m.out;simp;first|omega|(have:=zi.out;omega)),fun u' vk=>?_⟩;rw[q.out];exact fun h=>absurd m.out h
          obtain⟨gn,zh⟩:∃gn:Nat,z 26=(gn:Int):=⟨(z 26).toNat,(Int.toNat_of_nonneg (H.out.bd 26 (by omega)).1).symm⟩;have ym:gn<18446744073709551616:=by have:=(H.out.bd 26 (by omega)).2;omega
          rw[zh]at yn;have xd:=Lib.hid zh;clear zh l V P zw zp xj we wd yc cx;go_wp2_with fail;refine(kJ gn k _ ym).mono ?_;rintro e w6 ⟨rfl,yh⟩;have zv:=Lib.hid ((zj.out.put L k Z 0 0 y).below yh);clear yh s0 s1 s2 s3 f0 f1 f2 f3 a0 a1 yn zj;obtain⟨bt,zg⟩:∃bt:Bool,gO gn (k:Int)=bt:=⟨_,rfl⟩;rw[zg];have zn:Hid (jA z k=if bt=true then 1 else 0):=Lib.hid (by unfold jA;rw[xd.out,Int.toNat_natCast,zg]);clear zg;cases bt
          .go_wp2;go_roundw
           case rel=>exact⟨k+1,by omega,by go_num,Lib.hid (zv.out.congr (fun t _=>by rw[fC,ya.out]) (fun t _=>by rw[fC,xz.out]) (fun t _=>by rw[fC,show nL z k=y from q.out]) (fun t _=>zU _ _ _ (by rw[zn.out];rfl))),zo⟩
           case measure=>simp [intOf];omega
          .have s36:w6.cell? ⟨w.heap.size+1,31+k,none⟩=some (.int .i64 (lQ (jA z) k k)):=by
            obtain⟨R9,z1,z2,_⟩:=zv.out.ex;exact(z1.cell _).trans (z2.tg_ k Z)
           have xl:w6.frozen? ⟨w.heap.size+1,31+k,none⟩=false:=by
            obtain⟨R9,z1,z2,_⟩:=zv.out.ex;exact z1.frozen _
           go_wp2;go_roundw
           case rel=>exact⟨k+1,by omega,by go_num,Lib.hid ((zv.out.turn L k Z 1).congr (fun t _=>by rw[fC,ya.out]) (fun t _=>by rw[fC,xz.out]) (fun t _=>by rw[fC,show nL z k=y from q.out]) (fun t _=>by rw[fC,zn.out];rfl)),zo⟩
           case measure=>simp [intOf];omega
         .have dy:(y==0)=false:=by simpa using E
          have m:=Lib.hid E;clear E;obtain rfl:b=false:=by
           rw[Bool.eq_false_iff];intro T;obtain⟨zm,yw⟩:=(HB.out.1 T).2.1 k Z;obtain⟨h1,h2,h3⟩:=za.out.1 zm
           try simp at h1
           have a1:=zq.out
           first|omega|(have a2:=m.out;first|omega|(have a3:=zi.out;omega))
          go_wp2_with (first
           |(refine wpList_load_row rfl 136 _ rfl (w.heap.size+1) rfl 136 O (0,0) _ xe.out underlying136 rfl Y.out ?_)
           |(refine wpList_store_row rfl 136 _ _ rfl w.heap.size O rfl rfl 136 rz vz.out Y.out (by rw[X.out.size];rfl) G.out ?_))
          (try simp only[Exit.inBlock,Exit.then])
          rw[<-d.out]
          with_reducible refine bodyPost_ret (bR results150 _ _ w.heap.size 136 O _ (.bool false) (by kernel_rfl) (by kernel_rfl) (aY.setRow vz.out O) underlying136 (by kernel_rfl) Y.out) (by kernel_rfl) ?_
          refine⟨aL ux.out (Nat.le_refl _) _,O,X.out.size,G.out,rfl,fun h=>Bool.noConfusion h⟩
        .have dx:(x==0)=false:=by simpa using yv
         have zq:=Lib.hid yv;clear yv;obtain rfl:b=false:=by
          rw[Bool.eq_false_iff];intro T;obtain⟨zm,yw⟩:=(HB.out.1 T).2.1 k Z;obtain⟨h1,h2,h3⟩:=za.out.1 zm
          try simp at h1
          have a1:=zq.out
          first|omega|(have a2:=m.out;first|omega|(have a3:=zi.out;omega))
         go_wp2_with (first
          |(refine wpList_load_row rfl 136 _ rfl (w.heap.size+1) rfl 136 O (0,0) _ yy.out underlying136 rfl Y.out ?_)
          |(refine wpList_store_row rfl 136 _ _ rfl w.heap.size O rfl rfl 136 rz zr.out Y.out (by rw[X.out.size];rfl) G.out ?_))
         (try simp only[Exit.inBlock,Exit.then])
         rw[<-d.out]
         with_reducible refine bodyPost_ret (bR results150 _ _ w.heap.size 136 O _ (.bool false) (by kernel_rfl) (by kernel_rfl) (aY.setRow zr.out O) underlying136 (by kernel_rfl) Y.out) (by kernel_rfl) ?_
         refine⟨aL xy.out (Nat.le_refl _) _,O,X.out.size,G.out,rfl,fun h=>Bool.noConfusion h⟩
       .rw[show jN true 3=0 from rfl];obtain⟨ue,xa⟩:=wb.out rfl;have dx:(x==0)=false:=by simpa using xa
        have zq:=Lib.hid xa;have tw:(cc==0)=false:=by simp;omega
        clear xa;by_cases E:y=0
        .have dy:(y==0)=true:=by simpa using E
         have m:=Lib.hid E;clear E;obtain rfl:b=false:=by
          rw[Bool.eq_false_iff];intro T;obtain⟨zm,yw⟩:=(HB.out.1 T).2.1 k Z;obtain⟨h1,h2,h3⟩:=za.out.1 zm
          try simp at h1
          have a1:=zq.out
          first|omega|(have a2:=m.out;first|omega|(have a3:=zi.out;omega))
         go_wp2_with (first
          |(refine wpList_load_row rfl 136 _ rfl (w.heap.size+1) rfl 136 O (0,0) _ yy.out underlying136 rfl Y.out ?_)
          |(refine wpList_store_row rfl 136 _ _ rfl w.heap.size O rfl rfl 136 rz zr.out Y.out (by rw[X.out.size];rfl) G.out ?_))
         (try simp only[Exit.inBlock,Exit.then])
         rw[<-d.out]
         with_reducible refine bodyPost_ret (bR results150 _ _ w.heap.size 136 O _ (.bool false) (by kernel_rfl) (by kernel_rfl) (aY.setRow zr.out O) underlying136 (by kernel_rfl) Y.out) (by kernel_rfl) ?_
         refine⟨aL xy.out (Nat.le_refl _) _,O,X.out.size,G.out,rfl,fun h=>Bool.noConfusion h⟩
        .have dy:(y==0)=false:=by simpa using E
         have uu:decide (0<y)=true:=by simp;omega
         have m:=Lib.hid E;clear E;by_cases hc:y<=B
         .have dc:decide (B<y)=false:=by simp;omega
          have zi:=Lib.hid hc;clear hc;have xc:=jV.look (⟨D,wa.out,HD.out⟩:jV z k W2.heap.size _) y yz.out.1 yz.out.2;obtain⟨sn,wU⟩:∃sn,qZ z k y=sn:=⟨_,rfl⟩;rw[wU]at xc;have xs:=Lib.hid wU;clear wU;cases sn
          .skip
           go_wp2_with (at_mapUpdate;with_reducible refine JJ 300 23 4 YV underlying300 (plainElem prog 4) W2.heap.size k D (.int .u64 y) (.bool true) (.int .u64 y) (by kernel_rfl) (by kernel_rfl) (by kernel_rfl) wa.out (by unfold maxLen;omega) (keyOf_int_mk underlying23 (KA yz.out.1 yz.out.2)) (.lit (.bool true)) [] (plainElem_bool underlying4 true) ?_)
           intro w4 l V;have zj:=Lib.hid (uy.out.see L V (jV.put q.out l xu.out HD.out));have P:aY w4 (w.heap.size+1) 136 O:=(V.block _ yy.out.lt (by simp;omega)).trans yy.out;have zw:aY w4 w1.heap.size 44 #[.int .i64 cc,.int .i64 av]:=(V.block _ (by simp) (by simp;omega)).trans (aY.new _ _ _);have ut:w1.heap.size<w4.heap.size:=zw.lt;have zp:=qN (H.out.below zx.out) zj.out.keep (fun a ha=>by cases ha;show¬bA=w.heap.size+1;omega);have yn:=pP zp 26 (by omega);have a0:=zw.cell 0;have a1:=zw.cell 1;simp only[List.getElem?_toArray,List.getElem?_cons_zero,List.getElem?_cons_succ]at a0 a1;have s0:w4.cell? ⟨w.heap.size+1,19+k*2,none⟩=some (.int .i64 (lQ (nV z) k k)):=by rw[Nat.mul_comm k 2];exact(P.cell _).trans (X.out.ac_ k Z)
           have s1:w4.cell? ⟨w.heap.size+1,19+k*2+1,none⟩=some (.int .i64 (lQ (nW z) k k)):=by rw[Nat.mul_comm k 2,show 19+2*k+1=20+2*k by omega];exact(P.cell _).trans (X.out.av_ k Z)
           have s2:=(P.cell (27+k)).trans (X.out.wh_ k Z);have s3:=(P.cell (31+k)).trans (X.out.tg_ k Z);have f0:=P.frozen (19+k*2);have f1:=P.frozen (19+k*2+1);have f2:=P.frozen (27+k);have f3:=P.frozen (31+k);have zo:Hid (∀t,t<k+1->pV z t):=Lib.hid fun t T=>by
            rcases Nat.lt_or_ge t k with h|h
            .exact zd.out t h
            .obtain rfl:t=k:=by omega
             refine⟨za.out.2 (by have:=zq.out;have:=m.out;simp;first|omega|(have:=zi.out;omega)),fun u' vk=>?_⟩;rw[q.out];exact fun h he=>by
              have h9:=xs.out;rw[Bool.eq_false_iff]at h9;exact h9 (nY.2 ⟨u',vk,he⟩)
           obtain⟨gn,zh⟩:∃gn:Nat,z 26=(gn:Int):=⟨(z 26).toNat,(Int.toNat_of_nonneg (H.out.bd 26 (by omega)).1).symm⟩;have ym:gn<18446744073709551616:=by have:=(H.out.bd 26 (by omega)).2;omega
           rw[zh]at yn;have xd:=Lib.hid zh;clear zh l V P zw zp xj we wd yc cx;go_wp2_with fail;refine(kJ gn k _ ym).mono ?_;rintro e w6 ⟨rfl,yh⟩;have zv:=Lib.hid ((zj.out.put L k Z cc av y).below yh);clear yh s0 s1 s2 s3 f0 f1 f2 f3 a0 a1 yn zj;obtain⟨bt,zg⟩:∃bt:Bool,gO gn (k:Int)=bt:=⟨_,rfl⟩;rw[zg];have zn:Hid (jA z k=if bt=true then 1 else 0):=Lib.hid (by unfold jA;rw[xd.out,Int.toNat_natCast,zg]);clear zg;cases bt
           .go_wp2;go_roundw
            case rel=>exact⟨k+1,by omega,by go_num,Lib.hid (zv.out.congr (fun t _=>by rw[fC,ya.out]) (fun t _=>by rw[fC,xz.out]) (fun t _=>by rw[fC,show nL z k=y from q.out]) (fun t _=>zU _ _ _ (by rw[zn.out];rfl))),zo⟩
            case measure=>simp [intOf];omega
           .have s36:w6.cell? ⟨w.heap.size+1,31+k,none⟩=some (.int .i64 (lQ (jA z) k k)):=by
             obtain⟨R9,z1,z2,_⟩:=zv.out.ex;exact(z1.cell _).trans (z2.tg_ k Z)
            have xl:w6.frozen? ⟨w.heap.size+1,31+k,none⟩=false:=by
             obtain⟨R9,z1,z2,_⟩:=zv.out.ex;exact z1.frozen _
            go_wp2;go_roundw
            case rel=>exact⟨k+1,by omega,by go_num,Lib.hid ((zv.out.turn L k Z 1).congr (fun t _=>by rw[fC,ya.out]) (fun t _=>by rw[fC,xz.out]) (fun t _=>by rw[fC,show nL z k=y from q.out]) (fun t _=>by rw[fC,zn.out];rfl)),zo⟩
            case measure=>simp [intOf];omega
          .skip
           obtain rfl:b=false:=by
            rw[Bool.eq_false_iff];intro T;obtain⟨zm,yw⟩:=(HB.out.1 T).2.1 k Z;obtain⟨u',up,uo⟩:=nY.1 xs.out;rw[xt.out,wc.out]at yw;exact yw u' up m.out uo
           go_wp2_with (first
            |(refine wpList_load_row rfl 136 _ rfl (w.heap.size+1) rfl 136 O (0,0) _ yy.out underlying136 rfl Y.out ?_)
            |(refine wpList_store_row rfl 136 _ _ rfl w.heap.size O rfl rfl 136 rz zr.out Y.out (by rw[X.out.size];rfl) G.out ?_))
           (try simp only[Exit.inBlock,Exit.then])
           rw[<-d.out]
           with_reducible refine bodyPost_ret (bR results150 _ _ w.heap.size 136 O _ (.bool false) (by kernel_rfl) (by kernel_rfl) (aY.setRow zr.out O) underlying136 (by kernel_rfl) Y.out) (by kernel_rfl) ?_
           refine⟨aL xy.out (Nat.le_refl _) _,O,X.out.size,G.out,rfl,fun h=>Bool.noConfusion h⟩
         .have dc:decide (B<y)=true:=by simp;omega
          have zi:=Lib.hid hc;clear hc;obtain rfl:b=false:=by
           rw[Bool.eq_false_iff];intro T;obtain⟨zm,yw⟩:=(HB.out.1 T).2.1 k Z;obtain⟨h1,h2,h3⟩:=za.out.1 zm
           try simp at h1
           have a1:=zq.out
           first|omega|(have a2:=m.out;first|omega|(have a3:=zi.out;omega))
          go_wp2_with (first
           |(refine wpList_load_row rfl 136 _ rfl (w.heap.size+1) rfl 136 O (0,0) _ yy.out underlying136 rfl Y.out ?_)
           |(refine wpList_store_row rfl 136 _ _ rfl w.heap.size O rfl rfl 136 rz zr.out Y.out (by rw[X.out.size];rfl) G.out ?_))
          (try simp only[Exit.inBlock,Exit.then])
          rw[<-d.out]
          with_reducible refine bodyPost_ret (bR results150 _ _ w.heap.size 136 O _ (.bool false) (by kernel_rfl) (by kernel_rfl) (aY.setRow zr.out O) underlying136 (by kernel_rfl) Y.out) (by kernel_rfl) ?_
          refine⟨aL xy.out (Nat.le_refl _) _,O,X.out.size,G.out,rfl,fun h=>Bool.noConfusion h⟩
      .obtain rfl:k=4:=by omega
       have vy:=Lib.hid zd.out;have xr:Hid (aY wr w.heap.size 136 rz):=Lib.hid ((HS.out.keep.block _ r.out.lt (by show¬w.heap.size=w.heap.size+1;omega)).trans r.out);have vx:=Lib.hid (zx.out.trans (HS.out.keep.below zx.out.size (fun b hb e=>by omega)));have vw:=Lib.hid (vc.out.keeps HS.out.keep (fun b hb e=>by omega));obtain⟨O,yj,yx,yi⟩:=HS.out.ex;have yr:=Lib.hid yj;have X:Hid (uD O (R.extract 0 19) (nV z) (nW z) (nL z) (jA z) j B):=Lib.hid (yx.congr (fun t T=>by unfold lQ;rw[if_pos T]) (fun t T=>by unfold lQ;rw[if_pos T]) (fun t T=>by unfold lQ;rw[if_pos T]) (fun t T=>by unfold lQ;rw[if_pos T]));have G:=Lib.hid yi;have Y:Hid ((prog.info? 136).map (·.size)=some O.size):=by show _=_;rw[mU,yx.size]
       have vu:Hid (j<=1099511627776/\B<=1099511627776):=Lib.hid ⟨vh,vg⟩;have us:Hid (0<=z0/\z0<=9):=Lib.hid ⟨wz.1,by omega⟩;clear yj yx yi zd HS;go_wp2_with fail;refine dQ 5 bN [] (by kernel_rfl) (by kernel_rfl) ?_;intro ud vj
       iterate 2
        refine aC (fun K M=>?_);refine .inl ?_;apply Exists.intro;refine⟨cX,?_,M _ _ _ _ ?_⟩
        .simp only[bJ,bM];refine⟨rfl,fun w9 hw9 _=>?_⟩;exact bT 136 _ rfl (w.heap.size+1) rfl 136 O _ (yr.out.below hw9.same yr.out.lt) underlying136 rfl Y.out ⟨⟨rfl,trivial⟩,aD.refl _ _⟩
        clear M K
        try simp only[Act.put,List.setIfInBounds_toArray,List.set_cons_zero,List.set_cons_succ]
       refine aC (fun K M=>?_);refine .inr (.inr ⟨TC,Ey (iW z0 (oz z) (nV z) (nW z) (nL z) (jA z) j B),⟨_,0,rfl⟩,?_,M _ _ _ _ ?_⟩)
       .simp only[bJ,bM];refine⟨rfl,fun w9 hw9 _=>?_⟩;go_simp;go_at_call 59;refine(uC O (R.extract 0 19) (nV z) (nW z) (nL z) (jA z) j B z0 (oz z) w9 X.out us.out (fun i hi=>(H.out.bd (1+i) (by omega)).1) (ye.out.1 (by trivial)) ((vw.out.weak).below hw9.same) (fun t T=>H.out.bd (22+t) (by omega)) wn wm).mono ?_;rintro e xb ⟨g,D9,rfl,un,wI,ts,yk⟩;exact⟨_,rfl,⟨⟨g,rfl⟩,⟨g,D9,rfl,un,wI⟩⟩,aD.of_same yk⟩
       clear M K
       try simp only[Act.put,List.setIfInBounds_toArray,List.set_cons_zero,List.set_cons_succ]
       refine aC (fun K M=>?_);refine .inl ?_;apply Exists.intro;refine⟨cX,?_,M _ _ _ _ ?_⟩
       .simp only[bJ,bM];rintro _ ⟨g,rfl⟩;refine⟨rfl,fun w9 hw9 _=>?_⟩;go_simp;exact⟨⟨rfl,trivial⟩,aD.refl _ _⟩
       clear M K
       try simp only[Act.put,List.setIfInBounds_toArray,List.set_cons_zero,List.set_cons_succ]
       refine aC (fun K M=>?_);refine .inl ⟨.bool b,cX,?_,M _ _ _ _ ?_⟩
       .simp only[bJ,bM];rintro _ ⟨g,rfl⟩;refine⟨rfl,fun w9 hw9 U=>?_⟩;have vt:Calls prog 170 #[.slice (some ⟨g,0,none⟩) 32 32,.slice (some ⟨bA,oA,none⟩) 32 c] w9 fun e w'=>e=.returned (.bool b)/\Below w9.heap.size w9 w':=by
         have h1:=U.2.1 (by rw[vj.out];kernel_rfl);obtain⟨w0,k0,k1,g',D9,um,xp,wI⟩:=h1;cases um;have ur:=dG k1 (by rw[vj.out];kernel_rfl);refine(tQ _ _ 32 32 32 _ (iW z0 (oz z) (nV z) (nW z) (nL z) (jA z) j B) z _ (by simpa using qY.of_blk (n:=32) (c:=32) (o:=0) (xp.below ur xp.lt) wI (by omega) (by omega) (by omega)) (zs.out.below hw9.same)).mono ?_;rintro e xb ⟨b',rfl,ul,yk⟩;obtain rfl:b'=b:=by
          rw[Bool.eq_iff_iff,ul,HB.out];have hw:=GS yf.out HV.out HN.out (fun i hi=>(H.out.bd i hi).1) h6 (ye.out.1 (by trivial)) vu.out.1 vu.out.2 vy.out;exact⟨fun h=>hw.1 h.2,fun h=>⟨rfl,hw.2 h⟩⟩
         exact⟨rfl,yk⟩
        go_simp;go_at_call 170;exact bS vt
       clear M K
       try simp only[Act.put,List.setIfInBounds_toArray,List.set_cons_zero,List.set_cons_succ]
       refine cP ?_;simp only[bM];rintro _ ⟨g9,rfl⟩ xb yg U;clear U;have vs:=Lib.hid (xr.out.below yg.same xr.out.lt);have vr:=Lib.hid (vx.out.trans (yg.same.mono vx.out.size));simp only[List.drop_succ_cons,List.drop_zero]
       go_wp2_with (refine wpList_store_row rfl 136 _ _ rfl w.heap.size O rfl rfl 136 rz vs.out Y.out (by rw[X.out.size];rfl) G.out ?_)
       (try simp only[Exit.inBlock,Exit.then])
       rw[<-d.out]
       with_reducible refine bodyPost_ret (bR results150 _ _ w.heap.size 136 O _ (.bool b) (by kernel_rfl) (by kernel_rfl) (aY.setRow vs.out O) underlying136 (by kernel_rfl) Y.out) (by kernel_rfl) ?_
       refine⟨aL vr.out (Nat.le_refl _) _,O,X.out.size,G.out,rfl,fun _=>⟨?_,?_⟩⟩
       .rw[HV.out,HN.out,<-X.out.thing];exact X.out
       .rw[<-X.out.thing,yf.out];exact((vw.out.keeps (aD.of_same (S:=bN) yg.same) (fun _ _ h=>h)).keeps (fD (S:=fun b=>b=w.heap.size) (.inl rfl) O) (fun b hb e=>by omega)).weak
    .have dn:decide (1099511627776<B)=true:=by simp;omega
     apply_assumption
     obtain rfl:b=false:=by
      rw[Bool.eq_false_iff];intro T;have h9:=(HB.out.1 T).1;have a1:=h9.2.2.1;rw[HN.out]at a1;exact vg a1
     go_wp2_with (first
      |(refine wpList_load_row rfl 136 _ rfl (w.heap.size+1) rfl 136 R2 (0,0) _ zy.out underlying136 rfl zz.out ?_)
      |(refine wpList_store_row rfl 136 _ _ rfl w.heap.size R2 rfl rfl 136 rz r.out zz.out (by rw[zt.out.size];rfl) ys.out ?_))
     (try simp only[Exit.inBlock,Exit.then])
     rw[<-d.out]
     with_reducible refine bodyPost_ret (bR results150 _ _ w.heap.size 136 R2 _ (.bool false) (by kernel_rfl) (by kernel_rfl) (aY.setRow r.out R2) underlying136 (by kernel_rfl) zz.out) (by kernel_rfl) ?_
     refine⟨aL zx.out (Nat.le_refl _) _,R2,zt.out.size,ys.out,rfl,fun h=>Bool.noConfusion h⟩
   .have dv:decide (1099511627776<j)=true:=by simp;omega
    apply_assumption
    obtain rfl:b=false:=by
     rw[Bool.eq_false_iff];intro T;have h9:=(HB.out.1 T).1;have a1:=h9.2.2.2;rw[HV.out]at a1;exact vh a1
    go_wp2_with (first
     |(refine wpList_load_row rfl 136 _ rfl (w.heap.size+1) rfl 136 R2 (0,0) _ zy.out underlying136 rfl zz.out ?_)
     |(refine wpList_store_row rfl 136 _ _ rfl w.heap.size R2 rfl rfl 136 rz r.out zz.out (by rw[zt.out.size];rfl) ys.out ?_))
    (try simp only[Exit.inBlock,Exit.then])
    rw[<-d.out]
    with_reducible refine bodyPost_ret (bR results150 _ _ w.heap.size 136 R2 _ (.bool false) (by kernel_rfl) (by kernel_rfl) (aY.setRow r.out R2) underlying136 (by kernel_rfl) zz.out) (by kernel_rfl) ?_
    refine⟨aL zx.out (Nat.le_refl _) _,R2,zt.out.size,ys.out,rfl,fun h=>Bool.noConfusion h⟩
 .have d6:decide (6<z0)=true:=by simp;omega
  obtain rfl:b=false:=by
   rw[Bool.eq_false_iff];intro T;have h9:=rS (HB.out.1 T).1.1;have h0:=yf.out;unfold dH at h9;rw[h0]at h9;split at h9<;>omega
  go_wp2_with (first
   |(refine wpList_load_row rfl 136 _ rfl (w.heap.size+1) rfl 136 rz (0,0) _ (aY.newAt _ _ _ (by simp)) underlying136 rfl HI.out ?_)
   |(refine wpList_store_row rfl 136 _ _ rfl w.heap.size rz rfl rfl 136 rz ((aY.new _ _ _).alloc _) HI.out rfl JE ?_))
  (try simp only[Exit.inBlock,Exit.then])
  rw[<-d.out]
  with_reducible refine bodyPost_ret (bR results150 _ _ w.heap.size 136 rz _ (.bool false) (by kernel_rfl) (by kernel_rfl) (aY.setRow ((aY.new _ _ _).alloc _) rz) underlying136 (by kernel_rfl) HI.out) (by kernel_rfl) ?_
  refine⟨aL (show Below w.heap.size w ((w.alloc (.cells rz 136)).alloc (.cells rz 136)) by go_grown) (Nat.le_refl _) _,rz,rfl,JE,rfl,fun h=>Bool.noConfusion h⟩
