/-
  Parts of a proof. For all values.
-/
import Derived.Test.YtplpimkgihnmhaaGreatDoorA29
import Derived.Test.YtplpimkgihnmhaaGreatDoorA30
set_option maxRecDepth 100000
set_option maxHeartbeats 4000000
set_option linter.all false
namespace Go.Proofs.YtplpimkgihnmhaaGreatDoor
open Go.Proofs.Tryz Go.RowKit
variable{t n cr cd st ch V:Nat}{w' w:World}{m tgl:Nat->Int}{rows hist:List (List Value)}{tag':Nat->Nat}{D H R:Option Addr}{r:List Value}
section
attribute [local go_sem↓] Go.wp_at_zero Go.wp_at_succ
section
variable{w:World}{tag:Nat->Nat}{m:Nat->Int}{s:cN}{th:Nat->cQ}{tgl:Nat->Int}{st:Nat}{hist dl:List (List Value)}{p gm gs:Nat}{gw:Nat->Nat}{H:Option Addr}{ch:Nat}{E:Option Addr}{ce:Nat}
theorem aBc(t:Nat)(m:Nat->Int)(s:cN)(Z:cQ)(d:Z.does=11):stp t m s Z=⟨m,s.save 0 (Z.ver+1:Nat),Z.go 12,false⟩:=by simp only[stp,d]
def aBO(V:Int)(r:List Value):List Value:=.int .u64 V::r
structure aCc (w:World) (tag:Nat->Nat) (m:Nat->Int) (s:cN) (th:Nat->cQ) (tgl:Nat->Int) (st:Nat) (hist dl:List (List Value)) (p gm gs:Nat) (gw:Nat->Nat) (H:Option Addr) (ch:Nat) (b0:Nat) (A5:Option Addr) (c5:Nat) (rows:List (List Value)) (V1:Int) (k:Nat) (wr:World) (tagr:Nat->Nat) (E:Option Addr) (ce:Nat):Prop where
 ps:PS wr tagr m s th tgl st hist (dl++(rows.take k).map (aBO V1)) p gm gs gw H ch E ce
 kp:Kp w tag wr tagr
 lb:LB wr tagr b0 44 (2:Int)
 own:cU wr 0 159 6 A5 rows.length c5 rows
 t0:∀b,iI A5 b->tagr b=0
theorem Mr(h:PS w tag m s th tgl st hist dl p gm gs gw H ch E ce)(ht:t<4)(hi:eX m s th V)(d0:(th t).does≠0)(hV:4*V+4<=1099511627776)(vr:s.fl<=1000000000)(vq:s.fe<=1000000000)(wz:qG (th t))(hg:mR w)(h0:tag 2=0)(uJ:st<=100000000)(uA:hist.length<=100000000)(vp:(th t).does=11)(yg:oS (th t).deeds)(wy:(th t).ver<1099511627776)(uz:dl.length<=400000000):
 Calls prog 45 #[(p,0),t] w fun e w'=>e=.returned (.tuple #[.agg (2:Int),false,.nilIface])/\∃zb,bI w tag zb/\aD (PT tag) w w'/\
  ∃E' y,PS w' zb m (s.save 0 ((th t).ver+1:Nat)) (jG th t ((th t).go 12)) tgl (st+1) hist (dl++(th t).deeds.map (aBO (((th t).ver+1:Nat):Int))) p gm gs gw H ch E' y:=by
 have hL:=aBc t m s (th t) vp;have yf:=aH hL;clear hL;obtain⟨rows,N⟩:=aO ((th t).deeds);obtain⟨r,yn⟩:=aO ((((th t).ver+1:Nat):Int):Int);obtain⟨Z,hθ⟩:=aO ((th t).go 12);have ye:Z.deeds=rows:=by rw[hθ,N];rfl
 rw[<-N,<-yn,<-hθ];rw[<-N]at yg;obtain⟨s',zj⟩:∃s',s'=s.save 0 r:=⟨_,rfl⟩;have yd:s'.now 0=r:=by rw[zj];show(if 0=0 then r else s.now 0)=r;rw[iP rfl]
 have vk:0<=r/\r<18446744073709551616:=I;rw[<-zj];rw[<-yn,<-hθ,<-zj]at yf;have yc:=aH ye;have wx:=aH yd;have za:=aH yg;clear N yn hθ ye zj yd yg wy;have R:Hid (PS (w.alloc (.cells (2:Int) 44)) (cG w tag 0) m s th tgl st hist dl p gm gs gw H ch E ce):=aH (h.kept (S:=bN) (aD.of_same ((Below.refl _ _).alloc (Nat.le_refl _) _)) (cO _ _ _) (fun _ x=>x.elim));have yb:Hid (Kp w tag (w.alloc (.cells (2:Int) 44)) (cG w tag 0)):=aH ((Kp.refl w tag).go (S:=bN) (cO _ _ _) (aD.of_same ((Below.refl _ _).alloc (Nat.le_refl _) _)) (fun _ x=>x.elim));have yz:Hid (LB (w.alloc (.cells (2:Int) 44)) (cG w tag 0) w 44 (2:Int)):=aH ⟨dT _ _ _ (Nat.le_refl _),aY.new _ _ _⟩;have ww:=aH hi;have HG:=aH hg;have wv:=aH h0;have wu:=aH wz;have ya:=aH d0;obtain⟨i0,xh,xg,xf,xe⟩:=aBE;have HI:=aH xh;have HZ:=aH xg;have HS:=aH xf;have HY:=aH xe;clear xh xg xf xe;clear h hi hg h0 wz d0
 go_enter func45,ntmps45
 go_upto_region 1 with(fail)
 show Code.wp _ _ _ _ (w.alloc (.cells (2:Int) 44));generalize w.alloc (.cells (2:Int) 44)=w1 at*;obtain⟨M,ym⟩:=aO w.heap.size;have wt:Hid (w.heap.size<=M):=aH I;rw[<-ym]at yz;rw[<-ym];clear ym;generalize cG w tag 0=zc at*;have zy:=aH (DV R ht);unfold cR at zy;go_wp2_with fail
 with_reducible refine zy.out.mono ?_
 rintro e ve ⟨rfl,rfl⟩;clear zy;obtain⟨A,ca,D,cd,hw⟩:=R.wk t ht;have c1:w1.cell? ⟨gw t,1,none⟩=some (.int .i64 ((th t).does:Int)):=mS hw.blk 1 I;have xB:=hw.blk.lt;have q0:¬((th t).does:Int)=0:=by have:=ya.out;omega
 have ws:=R.c 10 (xF _ _ _ _ _ _ _);have wq:=R.f 10;have xz:=R.sh.lt;have xy:p≠gw t:=fun e=>by have h1:=R.tp;have h2:=hw.tg;rw[e]at h1;omega
 have wn:gw t≠p:=fun e=>xy e.symm
 have zz:=aH (R.steps);have yy:=aH (yb.go (bI.refl _ _) (bP w1 p 10 (.int .i64 ((st+1:Nat):Int))) (fun b W=>by rw[show b=p from W];unfold PT;rw[R.tp];omega));have yx:=aH (yz.kept (bP w1 p 10 (.int .i64 ((st+1:Nat):Int))) (bI.refl _ _) (fun b W=>by rw[show b=p from W,R.tp];omega));rw[show((st+1:Nat):Int)=(st:Int)+1 by omega]at zz yy yx;clear hw R yb yz;have vj:((th t).does:Int)=11:=I;go_wp2;show Code.wp _ _ _ _ (w1.setCell ⟨p,10,none⟩ (.int .i64 ((st:Int)+1)));generalize w1.setCell ⟨p,10,none⟩ (.int .i64 ((st:Int)+1))=w2 at*;have c0:w2.cell? (p,0)=(gm,0):=zz.c 0 (Oq _ _ _ _ _ _ _);have yw:w2.cell? ⟨p,1,none⟩=some (.pointer (some ⟨gs,0,none⟩)):=zz.c 1 (yH _ _ _ _ _ _ _);have xx:=zz.sh.lt;clear c1 xB q0 ws wq xz xy wn;refine bK 9 bN [] J J ?_
 iterate 9
  refine aR ?_;constructor
  .intro w9 hw9 hm9;refine aS ?_;obtain⟨hc9,hf9⟩:=hw9.all;refine aW ?_;go_simp
   first
   |exact aE
 refine aZ ?_;rintro w9 hw9 _;refine aQ ?_;refine aS ?_;have zx:=aH (zz.below hw9.same);have yv:=aH (yy.below hw9.same);have xw:=aH (yx.below hw9.same);have yu:=yv.err HG wv;obtain⟨A,ca,D,cd,hw⟩:=zx.wk t ht;have yt:=aH (aAH ww ht ya hw zx.ram zx.sto hV vr vq wu yu.1 yu.2);clear hw hw9 yu c0 yw xx;rw[yf.out]at yt;refine aW ?_;go_wp2_with fail
 with_reducible refine yt.out.mono ?_
 rintro e w4 ⟨rfl,xd⟩;obtain⟨B,yl,yk,xc⟩:=zx.step ht xd;have yr:∀b,rW zc t b->PT zc b:=fun b W=>JA ht W
 have zr:=aH xc;have xv:=aH (yv.go yl yk yr);have Q:=aH (xw.kept yk yl (fun b W=>by have:=yr b W;unfold PT at this;omega));clear xd yl yk xc yr yt zx yv xw zz yy yx;have HV:=aH (PA gs 0 s' w4 zr.sto.2 I);rw[wx.out,show((0:Nat):Int)=(0:Int)from rfl]at HV;have yw:w4.cell? (p,1)=(gs,0):=zr.c 1 (yH _ _ _ _ _ _ _);go_wp2_with fail
 with_reducible refine HV.out.mono ?_
 rintro e vd ⟨rfl,rfl⟩;clear HV;have zw:=aH (zr.retag (cO w4 B 0));have xu:=aH (xv.go (S:=bN) (cO w4 B 0) (aD.refl _ _) (fun _ x=>x.elim));have xt:=aH (Q.kept (S:=bN) (aD.refl _ _) (cO w4 B 0) (fun _ x=>x.elim));obtain⟨A4,vc,D4,vb,yj⟩:=zw.wk t ht;rw[cD]at yj;have yq:=aH (aCG yj (by rw[yc.out];exact za));rw[yc.out]at yq;clear yj zr xv Q yw;go_wp2_with fail
 with_reducible refine yq.out.mono ?_
 rintro e w5 ⟨A5,c5,rfl,yi,zi⟩;have zq:∀b,iI A5 b->cG w4 B 0 b=0:=fun b W=>dT _ _ _ (yi.high W)
 have xs:Hid (∃Y E' y,aCc w tag m s' (jG th t Z) tgl (st+1) hist dl p gm gs gw H ch M A5 c5 rows r 0 w5 Y E' y):=aH ⟨cG w4 B 0,E,ce,by
  have hx:=zw.below zi;simpa using hx,xu.below zi,xt.below zi,yi.mono (Nat.zero_le _),zq⟩
 clear yi zi zq zw xu xt yq;have vi:=za.out.1;have xr:=wt.out;have vh:0<=(t:Int):=I;generalize wU:rows.length=n at*;have zp:=aH wU;clear wU;go_wp2;obtain⟨wo,rfl⟩:=aO (w5:World)
 go_loopw [68] (fun i wr=>∃k:Nat,k<=n/\i=.int .i64 k/\Hid (∃Y E' y,aCc w tag m s' (jG th t Z) tgl (st+1) hist dl p gm gs gw H ch M A5 c5 rows r k wr Y E' y)) (fun i _=>n-(intOf i).toNat)
 case atStart=>exact⟨0,I,rfl,xs⟩
 case round=>
  clear xs;obtain⟨k,hk,rfl,xb⟩:=hrel;obtain⟨Y,E1,yh,zf⟩:=xb.out;have HX:=aH zf;clear xb zf;by_cases wI:k<n
  .have q1:(k:Int)<n:=I;obtain⟨z,q,o,l,d,x5,ze⟩:=za.out.2 (rows[k]'(by rw[zp.out];exact wI)) (List.getElem_mem _);have G:rows[k]? =some [.int .i64 z,.int .i64 q,.int .i64 o,.int .i64 l,.int .i64 d,.int .i64 x5]:=by rw[List.getElem?_eq_getElem (by rw[zp.out];exact wI),ze]
   obtain⟨ga,zh,rfl,vw,U⟩:=HX.own.slr.at_ (by rw[zp.out];omega);have c0:wr.cell? (ga,zh+k*6)=z:=by have:=U k _ G 0 _ rfl;simpa using this
   have c1:=U k _ G 1 _ rfl;have c2:=U k _ G 2 _ rfl;have c3:=U k _ G 3 _ rfl;have c4:=U k _ G 4 _ rfl;have wm:=U k _ G 5 _ rfl;have wl:=aH G;clear U ze G;have wj:Hid (PS (wr.alloc (.cells #[z,q,o,l,d,x5] 159)) (cG wr Y 0) m s' (jG th t Z) tgl (st+1) hist (dl++(rows.take k).map (aBO r)) p gm gs gw H ch E1 yh):=aH (HX.ps.kept (S:=bN) (aD.of_same ((Below.refl _ _).alloc (Nat.le_refl _) _)) (cO _ _ _) (fun _ x=>x.elim));have wi:Hid (Kp w tag (wr.alloc (.cells #[z,q,o,l,d,x5] 159)) (cG wr Y 0)):=aH (HX.kp.go (S:=bN) (cO _ _ _) (aD.of_same ((Below.refl _ _).alloc (Nat.le_refl _) _)) (fun _ x=>x.elim));have wh:Hid (LB (wr.alloc (.cells #[z,q,o,l,d,x5] 159)) (cG wr Y 0) M 44 (2:Int)):=aH (HX.lb.kept (S:=bN) (aD.of_same ((Below.refl _ _).alloc (Nat.le_refl _) _)) (cO _ _ _) (fun _ x=>x.elim));have F:Hid (LB (wr.alloc (.cells #[z,q,o,l,d,x5] 159)) (cG wr Y 0) wr 159 #[z,q,o,l,d,x5]):=aH ⟨dT _ _ _ (Nat.le_refl _),aY.new _ _ _⟩;have xq:Hid (cU (wr.alloc (.cells #[z,q,o,l,d,x5] 159)) 0 159 6 (some ⟨ga,zh,none⟩) rows.length c5 rows):=aH (HX.own.below ((Below.refl _ _).alloc (Nat.le_refl _) _));have xp:Hid (∀b,iI (some ⟨ga,zh,none⟩) b->cG wr Y 0 b=0):=aH (HX.own.tagT (cO _ _ _) HX.t0);clear HX;generalize zt:dl++(rows.take k).map (aBO r)=dk at*;have zg:=aH zt;have vo:dk.length<=400000004:=by rw[<-zt];simp;omega
   clear zt
   go_upto_region 14 with(fail)
   show Code.wp _ _ _ _ (wr.alloc (.cells #[z,q,o,l,d,x5] 159));generalize wr.alloc (.cells #[z,q,o,l,d,x5] 159)=w7 at*;generalize wr.heap.size=K at*;generalize cG wr Y 0=zs at*;clear c0 c1 c2 c3 c4 wm vw;have P:=wj;have zo:=P.c 12 (Lm _ _ _ _ _ _ _);have d0:w7.cell? (K,0)=z:=F.cell 0;have d1:w7.cell? (K,1)=q:=F.cell 1;have d2:w7.cell? (K,2)=o:=F.cell 2;have d3:w7.cell? (K,3)=l:=F.cell 3;have d4:w7.cell? (K,4)=d:=F.cell 4;have d5:w7.cell? (K,5)=x5:=F.cell 5;have O:=P.sh.lt;have X:=F.out.2.lt;have zn:¬iI E1 p:=fun e=>by have:=P.tE p e;have:=P.tp;omega
   have T:¬iI E1 K:=fun e=>by have:=P.tE _ e;have:=F.out.1;omega
   refine bK 10 (iI E1) [9] J J ?_
   iterate 8
    refine aR ?_;constructor
    .intro w9 hw9 hm9;refine aS ?_;have xo:=(hw9.cell (p:=⟨p,12,none⟩) O zn).trans zo;have wg:=(hw9.cell (p:=⟨K,0,none⟩) X T).trans d0;have wf:=(hw9.cell (p:=⟨K,1,none⟩) X T).trans d1;have we:=(hw9.cell (p:=⟨K,2,none⟩) X T).trans d2;have wd:=(hw9.cell (p:=⟨K,3,none⟩) X T).trans d3;have wc:=(hw9.cell (p:=⟨K,4,none⟩) X T).trans d4;have wb:=(hw9.cell (p:=⟨K,5,none⟩) X T).trans d5;refine aW ?_;go_simp
     first
     |exact aE
   refine bC CK (DM 161 [.int .u64 r,.int .i64 z,.int .i64 q,.int .i64 o,.int .i64 l,.int .i64 d,.int .i64 x5]) ⟨_,0,rfl⟩ ?_ ?_
   .intro w9 hw9 L;refine aS ?_;have xo:=(hw9.cell (p:=⟨p,12,none⟩) O zn).trans zo;have wg:=(hw9.cell (p:=⟨K,0,none⟩) X T).trans d0;have wf:=(hw9.cell (p:=⟨K,1,none⟩) X T).trans d1;have we:=(hw9.cell (p:=⟨K,2,none⟩) X T).trans d2;have wd:=(hw9.cell (p:=⟨K,3,none⟩) X T).trans d3;have wc:=(hw9.cell (p:=⟨K,4,none⟩) X T).trans d4;have wb:=(hw9.cell (p:=⟨K,5,none⟩) X T).trans d5;refine aW ?_;go_simp;exact⟨⟨⟨_,rfl⟩,⟨_,rfl,aY.new _ _ _⟩⟩,aD.of_same ((Below.refl _ _).alloc (Nat.le_refl _) _)⟩
   refine bD (DN (dk.length+1)) (fun vv w'=>∃A' c',vv=.slice A' (dk.length+1) c'/\cU w' 0 161 7 A' (dk.length+1) c' (dk++[[.int .u64 r,.int .i64 z,.int .i64 q,.int .i64 o,.int .i64 l,.int .i64 d,.int .i64 x5]])/\∀b,iI A' b->iI E1 b\/w7<=b) ⟨_,none,0,rfl⟩ ?_ ?_
   .rintro _ ⟨g9,rfl⟩;refine⟨aF,fun w9 hw9 L=>?_⟩;refine aS ?_;have v:=L;have C:=L.2;clear L;obtain⟨w0,k0,k1,g',hv,zu⟩:=C.1 J;cases hv;have vg:=hw9.size;have yp:=zu.below (cA k1 J) zu.lt;have zm:=aH (P.de.below (cA v.1 J));clear C v zu k0 k1;refine aW ?_;refine iM (.tmp 76) (.tmp 80) rfl underlying155 HI HZ HS HY rfl aJ aJ (A:=E1) (n:=dk.length) (c:=yh) (rows:=dk) rfl zm (g:=g9) (c':=1) rfl (ys:=[.int .u64 r,.int .i64 z,.int .i64 q,.int .i64 o,.int .i64 l,.int .i64 d,.int .i64 x5]) rfl ?_ ?_ I (Nat.zero_le _) ?_
    .intro j hj;rw[yp.cell j];simp
    .intro u hu;simp only[List.mem_cons,List.not_mem_nil,or_false]at hu;rcases hu with rfl|rfl|rfl|rfl|rfl|rfl|rfl<;>rfl
    intro g' va w' ho vu vt;refine⟨⟨⟨_,_,rfl⟩,⟨_,_,rfl,ho,fun b W=>?_⟩⟩,vu.mono fun b W=>⟨aJ,W⟩⟩;obtain⟨a,ha,rfl⟩:=W;cases ha;rcases vt with⟨a,ha,e⟩|e
    .exact .inl ⟨a,ha,e⟩
    exact .inr (by show w7<=g';omega)
   refine aZ ?_;rintro _ ⟨A9,c9,rfl⟩ _ ⟨g9,rfl⟩ w9 hw9 C;refine aQ ?_;refine aS ?_;obtain⟨w0,k0,k1,A8,c8,vs,zd,xa⟩:=C.2.1 rfl;cases vs;have xn:=aH (zd.below (cA k1 J));have xm:=aH xa;clear C zd k0 k1 xa w0;have xl:=aH (P.deed xn hw9 xm);have zl:=P.tE;have zv:=cO w7 zs 5;have xk:=(zv p O).trans P.tp;have zk:∀b,cI p b->cG w7 zs 5 b=3:=fun b W=>by rw[show b=p from W];exact xk
   have xj:=aH ((wi.go zv hw9 (fun b W=>by unfold PT;rw[zl b W];omega)).go (bI.refl _ _) (bP w9 p 12 (.slice A9 (dk.length+1) c9)) (fun b W=>by unfold PT;rw[zk b W];omega));have xi:=aH ((wh.kept hw9 zv (fun b W=>by rw[zl b W];omega)).kept (bP w9 p 12 (.slice A9 (dk.length+1) c9)) (bI.refl _ _) (fun b W=>by rw[zk b W];omega));have yo:=aH (xq.tagT zv xp);have zm:=aH ((xq.keptT hw9 xp (fun b W=>by rw[zl b W];omega)).keptT (bP w9 p 12 (.slice A9 (dk.length+1) c9)) yo (fun b W=>by rw[zk b W];omega));have vn:=(hw9.cell (p:=⟨p,12,none⟩) O zn).trans zo;have vm:=(hw9.frozen (p:=⟨p,12,none⟩) O zn).trans (P.f 12);have vl:=Nat.lt_of_lt_of_le O hw9.size;have wa:Hid (∃Y E' y,aCc w tag m s' (jG th t Z) tgl (st+1) hist dl p gm gs gw H ch M (some ⟨ga,zh,none⟩) c5 rows r (k+1) (w9.setCell (p,12) (.slice A9 (dk.length+1) c9)) Y E' y):=aH ⟨cG w7 zs 5,A9,c9,by
    have hx:=xl.out;rw[<-zg.out]at hx;rw[<-zg.out];have e1:rows.take (k+1)=rows.take k++[[.int .i64 z,.int .i64 q,.int .i64 o,.int .i64 l,.int .i64 d,.int .i64 x5]]:=by rw[List.take_add_one,wl.out];rfl
    rw[e1,List.map_append,<-List.append_assoc];exact hx,xj.out,xi.out,zm.out,yo.out⟩
   clear hw9 xn xm zl xk zk zo d0 d1 d2 d3 d4 d5 xl xj xi zm yo zv;refine aW ?_;go_wp2;go_roundw
   case rel=>exact⟨k+1,I,aG,wa⟩
   case measure=>simp [intOf];omega
  obtain rfl:k=n:=I;have q1:¬(k:Int)<k:=I;have Q:=aH HX.lb;have vf:=Q.out.2.lt;have r0:wr.cell? (M,0)=(0:Int):=Q.cell 0;have r1:wr.cell? (M,1)=(0:Int):=Q.cell 1;have e0:=Q.out.2.frozen 0;have e1:=Q.out.2.frozen 1;have vQ:Hid (aD (cI M) wr ((wr.setCell (M,0) (0:Int)).setCell (M,1) (0:Int))):=aH ((bP wr M 0 _).setCell (p:=⟨M,1,none⟩) (.inl rfl) _);have vz:=aH ((Q.out.2.set_ 0 (0:Int)).set_ 1 (0:Int));have vy:∀b,cI M b->Y b=0:=fun b W=>by rw[show b=M from W];exact Q.out.1
  have zw:=aH (HX.ps.kept vQ (bI.refl _ _) (fun b W=>.inl (vy b W)));have zq:=aH HX.kp.t;have vx:Hid (aD (PT tag) w ((wr.setCell (M,0) (0:Int)).setCell (M,1) (0:Int))):=aH ((HX.kp.k.setCell (p:=⟨M,0,none⟩) (.inr xr) _).setCell (p:=⟨M,1,none⟩) (.inr xr) _);go_wp2;refine bodyPost_ret (kR results45 _ _ M 44 (2:Int) _ false .nilIface rfl rfl rfl vz underlying44 rfl eU) rfl ⟨rfl,Y,zq.out,vx.out,E1,yh,?_⟩;have hx:=zw.out;rw[<-zp.out,List.take_length]at hx;exact hx
end
def AR(F:pH):Prop:=∀t,t<4->qG (F.th t)
theorem NK(a k v Z:Int)(b:Bool):qG (cQ.call a k v Z b):=fun j Y=>⟨Int.le_refl 0,by show(0:Int)<_;omega⟩
theorem UF{s:cN}{Z:cQ}(Q:t<4)(V:s.Ok)(h:qG Z):qG (stp t m s Z).t:=by
 have U:∀n d,qG (Z.next n d):=fun n d=>by unfold cQ.next;split<;>exact h
 have T:∀W:cQ,qG W->qG (W.all t):=fun W S=>by unfold cQ.all;split<;>exact S
 have X:∀v i,i<32->dU v+i<72:=fun v i R=>by unfold dU;omega
 unfold stp;split
 case h_5=>unfold cQ.next;split<;>exact h
 case h_6=>split;exact h;exact T _ (U _ _)
 case h_7=>exact T _ (by unfold cQ.next;split<;>exact h)
 case h_18=>
  intro j Y;show 0<=(if j=0 then _ else _)/\(if j=0 then _ else _)<_;split
  .exact V.now _ (X _ _ I)
  exact h j Y
 case h_19=>
  intro j Y;show 0<=(if j=1 then _ else _)/\(if j=1 then _ else _)<_;split
  .rw[Nat.add_assoc];exact V.now _ (X _ _ I)
  exact h j Y
 case h_20=>
  intro j Y;show 0<=(if j=2 then _ else _)/\(if j=2 then _ else _)<_;split
  .rw[Nat.add_assoc];exact V.now _ (X _ _ I)
  exact h j Y
 all_goals first|exact h|exact U _ _|(split<;>first|exact h|(split<;>exact h))
theorem De(k:Int):AR (pH.new k):=fun t _=>fun j Z=>⟨Int.le_refl 0,by show(0:Int)<_;omega⟩
theorem NH{F:pH}(h:AR F)(t:Nat)(a k v:Int):AR (F.call t a k v):=fun u Z=>by
 show qG (jG _ _ _ u);by_cases e:u=t
 .subst e;rw[cD];exact NK _ _ _ _ _
 rw[dK _ _ e];exact h u Z
theorem PK{F:pH}(h:AR F)(Y:F.s.Ok)(X:t<4):AR (F.step t):=fun u Z=>by
 show qG (jG _ _ _ u);by_cases e:u=t
 .subst e;rw[cD];exact UF X Y (h u Z)
 rw[dK _ _ e];exact h u Z
theorem aAu{F:pH}(h:AR F)(l:Nat):AR (F.land l):=h
theorem aAV{F:pH}(h:AR F)(x:Nat):AR (F.crash x):=fun u Z=>by
 show qG (cQ.fall _);unfold cQ.fall;split
 .exact h u Z
 exact NK _ _ _ _ _
theorem aAA{t:Nat}(ht:t<4):∀(n:Nat) {N:Nat} {F:pH},lM N F->N+n<=100000000->AR F->AR (pH.run t n F).1
 |0,N,F,_,_,h=>h
 |n+1,N,F,hok,hN,h=>by
  unfold pH.run;by_cases d:(F.th t).does=0
  .rw[iP d];exact h
  .rw[iN d];exact aAA ht n (FY hok ht d I) I (PK h hok.inv.ok ht)
theorem VJ(t:Nat)(m:Nat->Int)(s:cN)(Z:cQ):(stp t m s Z).t.a=Z.a/\(stp t m s Z).t.k=Z.k/\(stp t m s Z).t.v=Z.v/\(stp t m s Z).t.tg=Z.tg:=by
 have X:∀(Y:cQ) n d,(Y.next n d).a=Y.a/\(Y.next n d).k=Y.k/\(Y.next n d).v=Y.v/\(Y.next n d).tg=Y.tg:=fun Y n d=>by unfold cQ.next;split<;>exact⟨rfl,rfl,rfl,rfl⟩
 have O:∀(Y:cQ),(Y.all t).a=Y.a/\(Y.all t).k=Y.k/\(Y.all t).v=Y.v/\(Y.all t).tg=Y.tg:=fun Y=>by unfold cQ.all;split<;>exact⟨rfl,rfl,rfl,rfl⟩
 unfold stp;split<;>(try split)<;>(try split)<;>first
  |exact⟨rfl,rfl,rfl,rfl⟩
  |exact X _ _ _
  |(obtain⟨W,V,U,T⟩:=O (Z.next 4 8);obtain⟨S,R,Q,P⟩:=X Z 4 8;exact⟨W.trans S,V.trans R,U.trans Q,T.trans P⟩)
  |(obtain⟨W,V,U,T⟩:=O ((Z.fill (m (2+2*Z.i))).next 4 8);obtain⟨S,R,Q,P⟩:=X (Z.fill (m (2+2*Z.i))) 4 8;exact⟨W.trans S,V.trans R,U.trans Q,T.trans P⟩)
section
variable{w:World}{tag:Nat->Nat}{F:pH}{p gm gs:Nat}{gw:Nat->Nat}{N:Nat}
theorem DZ.mk'{Z:pH}(h:Kp w tag w' tag')(Y:gH w' tag' Z p gm gs gw):DZ w tag Z p gm gs gw w':=⟨tag',h.t,h.k,Y⟩
theorem gH.below(h:gH w tag F p gm gs gw)(W:Below w w w'):gH w' tag F p gm gs gw:=by
 obtain⟨H,Z,E,Y,X⟩:=h;exact⟨H,Z,E,Y,X.below W⟩
theorem DZ.same(h:gH w tag F p gm gs gw)(Z:Below w w w'):DZ w tag F p gm gs gw w':=⟨tag,bI.refl _ _,aD.of_same Z,h.below Z⟩
theorem aCX(h:gH w tag F p gm gs gw)(Z:lM N F)(hN:N<=100000000)(S:AR F)(D:mR w)(C:tag 2=0)(R:t<4)(d:(F.th t).does≠0):
 Calls prog 45 #[.pointer (some ⟨p,0,none⟩),.int .i64 (t:Int)] w fun e w'=>e=.returned (.tuple #[.agg #[.int .i64 (if(F.loc t).fin=true then(F.loc t).t.o1 else 0),.int .i64 (if(F.loc t).fin=true then(F.loc t).t.o2 else 0)],.bool (F.loc t).fin,.nilIface])/\DZ w tag (F.step t) p gm gs gw w':=by
 obtain⟨H,B,E,A,L⟩:=h;have z:=Z.stp;have hv:=Z.ver;have y:=Z.fl;have x:=Z.fe;have r:=Z.hl;by_cases X:(F.th t).does=11
 .obtain⟨hdd,hver⟩:=Z.inv.deeds R X;have Q:F.loc t=⟨F.m,F.s.save 0 ((F.th t).ver+1:Nat),(F.th t).go 12,false⟩:=aBc t F.m F.s (F.th t) X;have q:=qK Z F.V (Nat.le_refl _);refine(Mr L R Z.inv d I I I (S t R) D C I I X hdd I (by simp;omega)).mono ?_;rintro e w' ⟨rfl,Y,U,T,j,K,W⟩;rw[Q];refine⟨rfl,Y,U,T,H,B,j,K,?_⟩;have M:(aB (F.step t).of (F.step t).V).map qV=(aB F.of F.V).map qV++(F.th t).deeds.map (aBO (((F.th t).ver+1:Nat):Int)):=by
   rw[Bw,if_pos X,List.map_append,List.map_map,hver];rfl
  rw[M];have o:(F.step t).m=F.m:=by show(F.loc t).m=_;rw[Q]
  have n:(F.step t).s=F.s.save 0 ((F.th t).ver+1:Nat):=by show(F.loc t).s=_;rw[Q]
  have l:(F.step t).th=jG F.th t ((F.th t).go 12):=by show jG _ _ (F.loc t).t=_;rw[Q]
  have P:(F.step t).tgl=F.tgl:=by show(if(F.loc t).fin=true then _ else _)=_;rw[Q];rfl
  have O:(F.step t).hist=F.hist:=by show(if(F.loc t).fin=true then _ else _)=_;rw[Q];rfl
  rw[o,n,l,P,O];exact W
 .have M:(aB (F.step t).of (F.step t).V).map qV=(aB F.of F.V).map qV:=by rw[Bw,if_neg X]
  cases hf:(F.loc t).fin with
  |false=>
   refine(aBm L R Z.inv d I I I (S t R) D C I I hf X).mono ?_;rintro e w' ⟨rfl,Y,U,T,W⟩;refine⟨by simp,Y,U,T,H,B,E,A,?_⟩;have P:(F.step t).tgl=F.tgl:=by show(if(F.loc t).fin=true then _ else _)=_;rw[hf];rfl
   have O:(F.step t).hist=F.hist:=by show(if(F.loc t).fin=true then _ else _)=_;rw[hf];rfl
   rw[M,P,O];exact W
  |true=>
   refine(aAx L R Z.inv d I I I (S t R) D C I I hf X).mono ?_;rintro e w' ⟨rfl,Y,U,T,i,G,W⟩;obtain⟨g,f,c,b⟩:=VJ t F.m F.s (F.th t);refine⟨by simp [pH.loc],Y,U,T,i,G,E,A,?_⟩;have P:(F.step t).tgl=fun u=>if u=t then(F.th t).tg else F.tgl u:=by show(if(F.loc t).fin=true then _ else _)=_;rw[hf];rfl
   have O:(F.step t).hist=F.hist++[yE 2 t (F.th t).a (F.th t).k (F.th t).v (F.loc t).t.o1 (F.loc t).t.o2 (F.loc t).t.wn (F.steps+1:Nat)]:=by show(if(F.loc t).fin=true then _ else _)=_;rw[hf];rfl
   rw[M,P,O];rw[g,f,c,b]at W;exact W
theorem aBT(h:gH w tag F p gm gs gw)(X:lM N F)(z:N<=100000000)(t a k v:Int):
 Calls prog 44 #[(p,0),t,.agg #[a,k,v]] w fun e w'=>e=.returned (gS (F.callE t a k v))/\DZ w tag (if F.callE t a k v=0 then F.call t.toNat a k v else F) p gm gs gw w':=by
 have T:=h;obtain⟨H,B,E,A,S⟩:=h;have G:=X.stp;have D:=X.hl;unfold pH.callE;by_cases M:0<=t/\t<4
 .have e:((t.toNat:Nat):Int)=t:=I;rw[iN (fun q=>q M)];by_cases d:(F.th t.toNat).does=0
  .rw[iN (fun q=>q d)];cases ho:cB a k v with
   |false=>
    rw[iP rfl,iN aJ];have Z:=Oz S (t:=t.toNat) I a k v d ho;rw[e]at Z;refine Z.mono ?_;rintro R w' ⟨rfl,W⟩;exact⟨by simp [gS],DZ.same T W⟩
   |true=>
    rw[iN aJ,iP rfl];have Z:=aBV S (t:=t.toNat) I a k v d ho (X.tg _ I) I I;rw[e]at Z;refine Z.mono ?_;rintro R w' ⟨rfl,Y,Q,P,L,V,K,U,O⟩;refine⟨by simp [gS],Y,Q,P,L,V,K,U,?_⟩;have C:=e;show PS w' Y F.m F.s (jG F.th t.toNat (cQ.call a k v (1-F.tgl t.toNat) false)) F.tgl (F.steps+1) (F.hist++[yE 1 (t.toNat:Nat) a k v 0 0 0 (F.steps+1:Nat)]) _ p gm gs gw L V K U;rw[C];exact O
  rw[iP d,iN aJ];have Z:=aAS S (t:=t.toNat) I a k v d;rw[e]at Z;refine Z.mono ?_;rintro R w' ⟨rfl,W⟩;exact⟨by simp [gS],DZ.same T W⟩
 rw[iP M,iN aJ];refine(aAj p t a k v w M).mono ?_;rintro R w' ⟨rfl,W⟩;exact⟨by simp [gS],DZ.same T W⟩
theorem aCW(h:gH w tag F p gm gs gw)(Y:t<4):Calls prog 29 #[(p,0),t] w fun e w'=>e=.returned ((F.th t).does:Int)/\w=w':=by
 obtain⟨H,X,E,W,Z⟩:=h;exact aCd Z Y
theorem Mw(t n:Nat)(F:pH)(d:(F.th t).does≠0):(pH.run t (n+1) F).1=(pH.run t n (F.step t)).1/\(pH.run t (n+1) F).2=(pH.run t n (F.step t)).2+1:=by
 rw[pH.run,iN d];exact⟨rfl,rfl⟩
theorem Mq(t n:Nat)(F:pH)(d:(F.th t).does=0):pH.run t n F=(F,0):=by
 cases n with
 |zero=>rfl
 |succ n=>rw[pH.run,iP d]
structure aBB (w:World) (tag:Nat->Nat) (F0:pH) (t n N:Nat) (p gm gs:Nat) (gw:Nat->Nat) (k:Nat) (wr:World) (tagr:Nat->Nat) (F:pH):Prop where
 ps:gH wr tagr F p gm gs gw
 kp:Kp w tag wr tagr
 ok:lM (N+k) F
 sb:AR F
 r1:(pH.run t n F0).1=(pH.run t (n-k) F).1
 r2:(pH.run t n F0).2=(pH.run t (n-k) F).2+k
theorem aCZ(h:gH w tag F p gm gs gw)(B:lM N F)(hN:N+1000<=100000000)(A:AR F)(g:mR w)(f:tag 2=0)(z:t<4)(n:Nat)(hn:n<=1000):
 Calls prog 47 #[(p,0),t,n] w fun e w'=>e=.returned (.tuple #[((pH.run t n F).2:Int),.nilIface])/\DZ w tag (pH.run t n F).1 p gm gs gw w':=by
 have P:Hid (Calls prog 69 #[(p,0),t] w fun e w'=>e=.returned (.tuple #[(gw t,0),.nilIface])/\w=w'):=aH (by
  obtain⟨H,ch,E,ce,a⟩:=h;exact DV a z)
 have O:Hid (∃Z σr,aBB w tag F t n N p gm gs gw 0 w Z σr):=aH ⟨tag,F,h,Kp.refl _ _,B,A,rfl,rfl⟩;have c:=aH g;have u:=aH f;have q1:¬(n:Int)<0:=I;have q2:¬1000<(n:Int):=I;obtain⟨l,S⟩:=aO ((pH.run t n F).1);obtain⟨c1,R⟩:=aO ((pH.run t n F).2);rw[<-S,<-R];have M:=aH S;have L:=aH R;clear h B A g f S R
 go_enter func47,ntmps47
 go_wp2_with fail
 with_reducible refine P.out.mono ?_
 rintro e w1 ⟨rfl,rfl⟩;go_wp2;obtain⟨v,rfl⟩:=aO (w:World)
 go_loopw [28] (fun i wr=>∃k:Nat,k<=n/\i=.int .i64 k/\Hid (∃Z σr,aBB v tag F t n N p gm gs gw k wr Z σr)) (fun i _=>n-(intOf i).toNat)
 case atStart=>exact⟨0,I,rfl,O⟩
 case round=>
  clear O;obtain⟨k,hk,rfl,G⟩:=hrel;obtain⟨Z,σr,X⟩:=G.out;have Y:=aH X;clear G X;by_cases zz:k<n
  .have b:(k:Int)<n:=I;have y:=aH (aCW Y.ps z);by_cases d:(σr.th t).does=0
   .have Q:=Mq t (n-k) σr d;have W:Hid (DZ v tag l p gm gs gw wr):=aH (by
     rw[M.out,Y.r1,Q];exact DZ.mk' Y.kp Y.ps)
    have V:Hid (c1=k):=aH (by rw[L.out,Y.r2,Q];omega);have s:Hid (Calls prog 29 #[(p,0),t] wr fun e w'=>e=.returned (0:Int)/\wr=w'):=aH (by have:=y.out;rw[d]at this;exact this);clear y Q d;go_wp2_with fail
    with_reducible refine s.out.mono ?_
    rintro e w2 ⟨rfl,rfl⟩;go_wp2
    go_ret2
    exact⟨by rw[V.out];rfl,W.out⟩
   have q4:¬((σr.th t).does:Int)=0:=I;have U:=Y.kp.err c u;have K:=aH (aCX Y.ps Y.ok I Y.sb U.1 U.2 z d);have T:=aH d;clear U d;go_wp2_with fail
   with_reducible refine y.out.mono ?_
   rintro e w2 ⟨rfl,rfl⟩;go_wp2_with fail
   with_reducible refine K.out.mono ?_
   rintro e w3 ⟨rfl,D⟩;have r:Hid (∃Z σr,aBB v tag F t n N p gm gs gw (k+1) w3 Z σr):=aH (by
    obtain⟨C,q,o,m⟩:=D;obtain⟨Q,j⟩:=Mw t (n-k-1) σr T;rw[show n-k-1+1=n-k by omega]at Q j;refine⟨C,σr.step t,m,Y.kp.go q o (fun _ x=>x),FY (N:=N+k) Y.ok z T I,PK Y.sb Y.ok.inv.ok z,?_,?_⟩
    .rw[Y.r1,Q,show n-(k+1)=n-k-1 by omega]
    rw[Y.r2,j,show n-(k+1)=n-k-1 by omega];omega)
   clear D K y T;go_wp2;go_roundw
   case rel=>exact⟨k+1,I,aG,r⟩
   case measure=>simp [intOf];omega
  obtain rfl:k=n:=I;have b:¬(k:Int)<k:=I;have W:Hid (DZ v tag l p gm gs gw wr):=aH (by
   rw[M.out,Y.r1,Nat.sub_self];exact DZ.mk' Y.kp Y.ps)
  have V:Hid (c1=k):=aH (by rw[L.out,Y.r2,Nat.sub_self];show 0+k=k;omega);go_wp2
  go_ret2
  exact⟨by rw[V.out];rfl,W.out⟩
theorem aBw(p:Nat)(t n:Int)(w:World)(Z:¬(0<=t/\t<4)):Calls prog 47 #[(p,0),t,n] w fun e w'=>e=.returned (.tuple #[(0:Int),.iface 53 (2:Int)])/\w=w':=by
 have Y:=aH (FR p t w Z);clear Z
 go_enter func47,ntmps47
 go_wp2_with fail
 with_reducible refine Y.out.mono ?_
 rintro e X ⟨rfl,rfl⟩;go_wp2
 go_ret2
 exact⟨rfl,rfl⟩
theorem aCM(h:gH w tag F p gm gs gw)(W:t<4)(n:Int)(R:¬(0<=n/\n<=1000)):Calls prog 47 #[(p,0),t,n] w fun e w'=>e=.returned (.tuple #[(0:Int),.iface 53 (1:Int)])/\w=w':=by
 have Z:Hid (Calls prog 69 #[(p,0),t] w fun e w'=>e=.returned (.tuple #[(gw t,0),.nilIface])/\w=w'):=aH (by
  obtain⟨H,U,E,T,Y⟩:=h;exact DV Y W)
 clear h;by_cases S:n<0
 .go_enter func47,ntmps47
  go_wp2_with fail
  with_reducible refine Z.out.mono ?_
  rintro e X ⟨rfl,rfl⟩;go_wp2
  go_ret2
  exact⟨rfl,rfl⟩
 have V:1000<n:=I
 go_enter func47,ntmps47
 go_wp2_with fail
 with_reducible refine Z.out.mono ?_
 rintro e X ⟨rfl,rfl⟩;go_wp2
 go_ret2
 exact⟨rfl,rfl⟩
theorem aBn(h:gH w tag F p gm gs gw)(l:Int):Calls prog 68 #[(p,0),l] w fun e w'=>e=.returned (if 0<=l/\l<9 then .nilIface else .iface 53 (2:Int))/\DZ w tag (if 0<=l/\l<9 then F.land l.toNat else F) p gm gs gw w':=by
 have S:=h;obtain⟨H,N,E,M,W⟩:=h;have O:w.cell? (p,1)=(gs,0):=W.c 1 (yH _ _ _ _ _ _ _);by_cases U:0<=l/\l<9
 .rw[iP U,iP U];have T:=aH (QT gs l.toNat F.s w W.sto.2 I);rw[show((l.toNat:Nat):Int)=l by omega]at T;have Y:=aH W;clear W S
  go_enter func68,ntmps68
  go_wp2_with fail
  with_reducible refine T.out.mono ?_
  rintro e P ⟨rfl,V,Z⟩;have X:∀b,nQ gs b->tag b=2:=fun b Q=>by rw[show b=gs from Q];exact Y.sto.1
  have R:Hid (DZ w tag (F.land l.toNat) p gm gs gw P):=aH ⟨tag,bI.refl _ _,Z.mono (fun b Q=>by unfold PT;rw[X b Q];omega),H,N,E,M,(Z.block p Y.sh.lt fun e=>by have:=X _ e;have:=Y.tp;omega).trans Y.sh,Y.ram.kept Z (bI.refl _ _) (fun b e=>by rw[X b e];omega),⟨Y.sto.1,V⟩,fun t L=>by
   obtain⟨A,K,D,G,C⟩:=Y.wk t L;exact⟨A,K,D,G,C.kept Z (bI.refl _ _) (fun b e=>by rw[X b e];omega) (fun b e=>by rw[X b e];omega) (fun b e=>by rw[X b e];omega)⟩,Y.hi.keptT Z Y.tH (fun b e=>by rw[X b e];omega),Y.de.keptT Z Y.tE (fun b e=>by rw[X b e];omega),Y.tp,Y.tH,Y.tE⟩
  clear V Z X;go_wp2;go_ret;exact⟨rfl,R.out⟩
 rw[iN U,iN U];have T:=aH (Pm gs l w U);have R:=aH (DZ.same S (Below.refl _ _));clear W S
 go_enter func68,ntmps68
 go_wp2_with fail
 with_reducible refine T.out.mono ?_
 rintro e P ⟨rfl,rfl⟩;go_wp2;go_ret;exact⟨rfl,R.out⟩
end
section
variable{w w':World}{tag:Nat->Nat}{m m':Nat->Int}{s s':cN}{th:Nat->cQ}{tgl:Nat->Int}{st:Nat}{hist dl:List (List Value)}{p gm gs:Nat}{gw:Nat->Nat}{H:Option Addr}{ch:Nat}{E:Option Addr}{ce:Nat}
theorem PS.ram_(h:PS w tag m s th tgl st hist dl p gm gs gw H ch E ce)(S:fE w' tag m' gm)(Y:aD (cI gm) w w'):PS w' tag m' s th tgl st hist dl p gm gs gw H ch E ce:=by
 have Z:∀b,cI gm b->tag b=1:=fun b X=>by rw[show b=gm from X];exact h.ram.1
 refine⟨(Y.block p h.sh.lt fun e=>by have:=Z _ e;have:=h.tp;omega).trans h.sh,S,h.sto.kept Y (bI.refl _ _) (fun b e=>by rw[Z b e];omega),fun t W=>?_,h.hi.keptT Y h.tH (fun b e=>by rw[Z b e];omega),h.de.keptT Y h.tE (fun b e=>by rw[Z b e];omega),h.tp,h.tH,h.tE⟩;obtain⟨A,V,D,U,T⟩:=h.wk t W;exact⟨A,V,D,U,T.kept Y (bI.refl _ _) (fun b e=>by rw[Z b e];omega) (fun b e=>by rw[Z b e];omega) (fun b e=>by rw[Z b e];omega)⟩
theorem PS.sto_(h:PS w tag m s th tgl st hist dl p gm gs gw H ch E ce)(S:aY w' gs 123 (nI s'))(Y:aD (cI gs) w w'):PS w' tag m s' th tgl st hist dl p gm gs gw H ch E ce:=by
 have Z:∀b,cI gs b->tag b=2:=fun b X=>by rw[show b=gs from X];exact h.sto.1
 refine⟨(Y.block p h.sh.lt fun e=>by have:=Z _ e;have:=h.tp;omega).trans h.sh,h.ram.kept Y (bI.refl _ _) (fun b e=>by rw[Z b e];omega),⟨h.sto.1,S⟩,fun t W=>?_,h.hi.keptT Y h.tH (fun b e=>by rw[Z b e];omega),h.de.keptT Y h.tE (fun b e=>by rw[Z b e];omega),h.tp,h.tH,h.tE⟩;obtain⟨A,V,D,U,T⟩:=h.wk t W;exact⟨A,V,D,U,T.kept Y (bI.refl _ _) (fun b e=>by rw[Z b e];omega) (fun b e=>by rw[Z b e];omega) (fun b e=>by rw[Z b e];omega)⟩
theorem PS.cut(h:PS w tag m s th tgl st hist dl p gm gs gw H ch E ce){k:Nat}(U:k<=dl.length)(T:E≠none):PS (w.setCell (p,12) (.slice E k ce)) tag m s th tgl st hist (dl.take k) p gm gs gw H ch E ce:=by
 have Z:=bP w p 12 (.slice E k ce);have Y:∀b,cI p b->tag b=3:=fun b X=>by rw[show b=p from X];exact h.tp
 have W:(dl.take k).length=k:=by rw[List.length_take];omega
 refine⟨?_,h.ram.kept Z (bI.refl _ _) (fun b e=>by rw[Y b e];omega),h.sto.kept Z (bI.refl _ _) (fun b e=>by rw[Y b e];omega),fun t V=>?_,h.hi.keptT Z h.tH (fun b e=>by rw[Y b e];omega),?_,h.tp,h.tH,h.tE⟩
 .have X:=h.sh.set_ 12 (.slice E k ce);rw[Hg]at X;rw[W];exact X
 .obtain⟨A,ca,D,cd,hw⟩:=h.wk t V;exact⟨A,ca,D,cd,hw.kept Z (bI.refl _ _) (fun b e=>by rw[Y b e];omega) (fun b e=>by rw[Y b e];omega) (fun b e=>by rw[Y b e];omega)⟩
 rw[W];exact(h.de.take k U T).keptT Z h.tE (fun b e=>by rw[Y b e];omega)
theorem PS.congrT(h:PS w tag m s th tgl st hist dl p gm gs gw H ch E ce){th':Nat->cQ}(e:∀t,t<4->th' t=th t):PS w tag m s th' tgl st hist dl p gm gs gw H ch E ce:=
 ⟨h.sh,h.ram,h.sto,fun t Z=>by rw[e t Z];exact h.wk t Z,h.hi,h.de,h.tp,h.tH,h.tE⟩
def wsA(gw:Nat->Nat):Array Value:=jM 4 fun i=>cR (gw i)
theorem aCr(Y X:Nat)(Z:Nat->Nat)(W:Nat->Int)(V:Int)(H D:Value):(uL Y X (fun t=>cR (Z t)) W V H D).extract 2 (2+4)=wsA Z:=by
 rw[uL,pS I];refine jJ fun i U=>?_
 unfold shV;rw[iN I,iN I,iP I,show 2+i-2=i by omega]
theorem PS.range(h:PS w tag m s th tgl st hist dl p gm gs gw H ch E ce):w.rangeAt p 2 (wsA gw).toList:=by
 rw[<-aCr gm gs gw tgl (st:Int) (.slice H hist.length ch) (.slice E dl.length ce)];exact World.rangeAt_of_block (t:=157) (fr:=(0,0)) h.sh 2 4
theorem aBQ(Z:Nat->Nat):(prog.info? 154).map (·.size)=some (wsA Z).size:=by rw[wsA,dJ];kernel_rfl
theorem IF(Z:Nat->Nat)(k:Nat)(Y:k<4)(w:World):(Instr.index 154 (.agg (wsA Z)) k).run prog w=.ok (Z k,0) w:=by
 have X:(k:Int)<4:=I;have W:(wsA Z)[k]? =some (.pointer (some ⟨Z k,0,none⟩)):=cW Y;simp [Instr.index,asIntOf,run_underlying underlying154,part,underlying37,isAgg,Sem.run_bind,Y,X,W]
def fallK(th:Nat->cQ)(k u:Nat):cQ:=if u<k then(th u).fall else th u
theorem EQ(th:Nat->cQ)(k:Nat)(d:(th k).does=0):fallK th k=fallK th (k+1):=by
 funext u
 unfold fallK;by_cases h:u<k
 .rw[iP h,iP I]
 rw[iN h];by_cases e:u=k
 .subst e;rw[iP I];unfold cQ.fall;rw[iP d]
 rw[iN I]
theorem FC(th:Nat->cQ)(k:Nat)(d:(th k).does≠0):jG (fallK th k) k (cQ.call (th k).a (th k).k (th k).v (th k).tg true)=fallK th (k+1):=by
 funext u
 unfold jG fallK;by_cases e:u=k
 .subst e;rw[iP rfl,iP I];unfold cQ.fall;rw[iN d]
 rw[iN e];by_cases h:u<k
 .rw[iP h,iP I]
 rw[iN h,iN I]
theorem Dy(th:Nat->cQ)(k:Nat):fallK th k k=th k:=iN I
structure aCw (dl:List (List Value)) (n0:Nat) (V:Nat):Prop where
 le:n0<=dl.length
 row:∀i,i<dl.length->∃v r,dl[i]? =some (Value.int .u64 (v:Int)::r)/\0<=v/\(V<v↔n0<=i)
theorem aAB(Z:Nat->List (List Value)){V':Nat}(h:V'=V\/V'+1=V):aCw ((aB Z V).map qV) (aB Z V').length V'/\((aB Z V).map qV).take (aB Z V').length=(aB Z V').map qV:=by
 rcases h with rfl|rfl
 .refine⟨⟨by simp,fun i U=>?_⟩,by rw[<-List.map_take,List.take_length]⟩;have Y:i<(aB Z V').length:=by simpa using U
  refine⟨(((aB Z V')[i]).1:Int),((aB Z V')[i]).2,?_,I,?_⟩
  .rw[List.getElem?_map,List.getElem?_eq_getElem Y];rfl
  have:=JL Z V' _ (List.getElem_mem Y);constructor
  .intro q;omega
  intro q;omega
 have W:aB Z (V'+1)=aB Z V'++(Z (V'+1)).map fun d=>(V'+1,d):=rfl
 refine⟨⟨by rw[W];simp,fun i U=>?_⟩,by rw[<-List.map_take,aAK]⟩;have Y:i<(aB Z (V'+1)).length:=by simpa using U
 refine⟨(((aB Z (V'+1))[i]).1:Int),((aB Z (V'+1))[i]).2,?_,I,?_⟩
 .rw[List.getElem?_map,List.getElem?_eq_getElem Y];rfl
 by_cases q:i<(aB Z V').length
 .have e:(aB Z (V'+1))[i]=(aB Z V')[i]:=by simp only[W];rw[List.getElem_append_left q]
  rw[e];have:=JL Z V' _ (List.getElem_mem q);constructor
  .intro h;omega
  intro h;omega
 have e:((aB Z (V'+1))[i]).1=V'+1:=by
  have X:(aB Z (V'+1))[i]? =((Z (V'+1)).map fun d=>(V'+1,d))[i-(aB Z V').length]? :=by rw[W,List.getElem?_append_right I]
  rw[List.getElem?_eq_getElem Y,List.getElem?_map]at X;cases hq:(Z (V'+1))[i-(aB Z V').length]? with
  |none=>rw[hq]at X;simp at X
  |some y=>rw[hq]at X;simp at X;rw[X]
 rw[e];constructor
 .intro h;omega
 intro h;omega
structure aBh (w:World) (tag:Nat->Nat) (m:Nat->Int) (s:cN) (th:Nat->cQ) (tgl:Nat->Int) (st:Nat) (hist dl:List (List Value)) (p gm gs:Nat) (gw:Nat->Nat) (H:Option Addr) (ch:Nat) (E:Option Addr) (ce:Nat) (n0 V k:Nat) (wr:World) (tagr:Nat->Nat):Prop where
 ps:PS wr tagr m s th tgl st hist (dl.take k) p gm gs gw H ch E ce
 kp:Kp w tag wr tagr
 lo:n0<=k
 hi:k<=dl.length
structure DF (w:World) (tag:Nat->Nat) (m:Nat->Int) (s:cN) (th:Nat->cQ) (tgl:Nat->Int) (st:Nat) (hist dl:List (List Value)) (p gm gs:Nat) (gw:Nat->Nat) (H:Option Addr) (ch:Nat) (E:Option Addr) (ce:Nat) (k:Nat) (wr:World) (tagr:Nat->Nat):Prop where
 ps:PS wr tagr m s (fallK th k) tgl st hist dl p gm gs gw H ch E ce
 kp:Kp w tag wr tagr
theorem aCH(h:PS w tag m s th tgl st hist dl p gm gs gw H ch E ce)(x:Nat)(hx:x<18446744073709551616)(V B:Nat)(hv:(s.crash x).now 0=(V:Int))(hV:V<=1099511627776)(zm:aCw dl B V)(wm:st<=100000000)(wl:hist.length<=100000000)(wj:dl.length<=400000000):
 Calls prog 48 #[.pointer (some ⟨p,0,none⟩),.int .u64 (x:Int)] w fun e w'=>e=.returned (.tuple #[])/\∃ze,bI w tag ze/\aD (PT tag) w w'/\
  ∃H' wx,PS w' ze (kA V) (s.crash x) (fun t=>(th t).fall) tgl (st+1) (hist++[yE 3 0 0 0 0 0 0 0 (st+1:Nat)]) (dl.take B) p gm gs gw H' wx E ce:=by
 obtain⟨i0,xn,xm,xl,xk⟩:=EH;have HI:=aH xn;have HZ:=aH xm;have HS:=aH xl;have HY:=aH xk;have zs:=h.c 10 (xF _ _ _ _ _ _ _);have xg:=h.f 10;have zl:=h.sh.lt;have U:=aH h.steps;have zd:=aH ((Kp.refl w tag).go (bI.refl _ _) (bP w p 10 (.int .i64 ((st+1:Nat):Int))) (fun b Q=>by rw[show b=p from Q];unfold PT;rw[h.tp];omega));rw[show((st+1:Nat):Int)=(st:Int)+1 by omega]at U zd;have HV:=aH hv;have yp:=aH zm;clear h xn xm xl xk hv zm
 go_enter func48,ntmps48
 go_wp2_with fail;show Code.wp _ _ _ _ (w.setCell ⟨p,10,none⟩ (.int .i64 ((st:Int)+1)));generalize w.setCell ⟨p,10,none⟩ (.int .i64 ((st:Int)+1))=w1 at*;clear zs xg zl;have zk:=U.c 11 (Iv _ _ _ _ _ _ _);have zs:w1.cell? ⟨p,10,none⟩=some (.int .i64 ((st:Int)+1)):=by have:=U.c 10 (xF _ _ _ _ _ _ _);rw[show((st+1:Nat):Int)=(st:Int)+1 by omega]at this;exact this
 have W:=U.sh.lt;have zx:¬iI H p:=fun e=>by have:=U.tH p e;have:=U.tp;omega
 refine bK 12 (iI H) [11] J J ?_
 iterate 10
  refine aR ?_;constructor
  .intro w9 hw9 hm9;refine aS ?_;have yo:=(hw9.cell (p:=⟨p,11,none⟩) W zx).trans zk;have yn:=(hw9.cell (p:=⟨p,10,none⟩) W zx).trans zs;refine aW ?_;go_simp
   first
   |exact aE
 refine bC CK (DM 61 [.int .i64 3,.int .i64 0,.int .i64 0,.int .i64 0,.int .i64 0,.int .i64 0,.int .i64 0,.int .i64 0,.int .i64 ((st:Int)+1)]) ⟨_,0,rfl⟩ ?_ ?_
 .intro w9 hw9 N;refine aS ?_;have yo:=(hw9.cell (p:=⟨p,11,none⟩) W zx).trans zk;have yn:=(hw9.cell (p:=⟨p,10,none⟩) W zx).trans zs;refine aW ?_;go_simp;exact⟨⟨⟨_,rfl⟩,⟨_,rfl,aY.new _ _ _⟩⟩,aD.of_same ((Below.refl _ _).alloc (Nat.le_refl _) _)⟩
 refine bD (DN (hist.length+1)) (fun vv w'=>∃A' c',vv=.slice A' (hist.length+1) c'/\cU w' 0 61 9 A' (hist.length+1) c' (hist++[[.int .i64 3,.int .i64 0,.int .i64 0,.int .i64 0,.int .i64 0,.int .i64 0,.int .i64 0,.int .i64 0,.int .i64 ((st:Int)+1)]])/\∀b,iI A' b->iI H b\/w1<=b) ⟨_,none,0,rfl⟩ ?_ ?_
 .rintro _ ⟨g9,rfl⟩;refine⟨aF,fun w9 hw9 N=>?_⟩;refine aS ?_;have zy:=N;have z:=N.2;clear N;obtain⟨w0,k0,k1,g',hv,zo⟩:=z.1 J;cases hv;have ww:=hw9.size;have zc:=zo.below (cA k1 J) zo.lt;have xf:=aH (U.hi.below (cA zy.1 J));clear z zy zo k0 k1;refine aW ?_;refine iM (.tmp 19) (.tmp 25) rfl underlying65 HI HZ HS HY rfl aJ aJ (A:=H) (n:=hist.length) (c:=ch) (rows:=hist) rfl xf (g:=g9) (c':=1) rfl (ys:=[.int .i64 3,.int .i64 0,.int .i64 0,.int .i64 0,.int .i64 0,.int .i64 0,.int .i64 0,.int .i64 0,.int .i64 ((st:Int)+1)]) rfl ?_ ?_ I (Nat.zero_le _) ?_
  .intro j hj;rw[zc.cell j];simp
  .intro u hu;simp only[List.mem_cons,List.not_mem_nil,or_false]at hu;rcases hu with rfl|rfl|rfl|rfl|rfl|rfl|rfl|rfl|rfl<;>rfl
  intro g' wq w' ho xb xa;refine⟨⟨⟨_,_,rfl⟩,⟨_,_,rfl,ho,fun b Q=>?_⟩⟩,xb.mono fun b Q=>⟨aJ,Q⟩⟩;obtain⟨a,ha,rfl⟩:=Q;cases ha;rcases xa with⟨a,ha,e⟩|e
  .exact .inl ⟨a,ha,e⟩
  exact .inr (by show w1<=g';omega)
 refine aZ ?_;rintro _ ⟨M,K,rfl⟩ _ ⟨g9,rfl⟩ w9 hw9 z;refine aQ ?_;refine aS ?_;obtain⟨w0,k0,k1,A8,c8,wU,zf,xj⟩:=z.2.1 rfl;cases wU;have ym:=aH (zf.below (cA k1 J));have yl:=aH xj;clear z zf k0 k1 xj w0;have y:=aH (U.event ym hw9 yl);have yk:=U.tH;have yj:=cO w1 tag 4;have yi:=(yj p W).trans U.tp;have yh:∀b,cI p b->cG w1 tag 4 b=3:=fun b Q=>by rw[show b=p from Q];exact yi
 have yg:=aH ((zd.go yj hw9 (fun b Q=>by unfold PT;rw[yk b Q];omega)).go (bI.refl _ _) (bP w9 p 11 (.slice M (hist.length+1) K)) (fun b Q=>by unfold PT;rw[yh b Q];omega));have yf:=(hw9.cell (p:=⟨p,11,none⟩) W zx).trans zk;have ye:=(hw9.frozen (p:=⟨p,11,none⟩) W zx).trans (U.f 11);have yd:=Nat.lt_of_lt_of_le W hw9.size;have zg:[.int .i64 3,.int .i64 0,.int .i64 0,.int .i64 0,.int .i64 0,.int .i64 0,.int .i64 0,.int .i64 0,.int .i64 ((st:Int)+1)]=yE 3 0 0 0 0 0 0 0 ((st+1:Nat):Int):=by unfold yE;rw[show((st+1:Nat):Int)=(st:Int)+1 by omega]
 rw[zg]at y;clear hw9 ym yl yk yi yh zk zs zg U zd;obtain⟨Z,yv⟩:=aO (hist++[yE 3 0 0 0 0 0 0 0 ((st+1:Nat):Int)]);rw[<-yv]at y;have yc:=aH yv;clear yv;generalize cG w1 tag 4=Y at*;have xe:(w9.setCell (p,11) (.slice M (hist.length+1) K)).cell? (p,1)=(gs,0):=y.c 1 (yH _ _ _ _ _ _ _);have yb:=y.sh.lt;have ya:=aH (aCF gs x s _ y.sto.2 hx);refine aW ?_;go_wp2_with fail
 with_reducible refine ya.out.mono ?_
 rintro e w3 ⟨rfl,xi,yu⟩;have zw:=aH (y.sto_ xi yu);have xB:∀b,cI gs b->Y b=2:=fun b Q=>by rw[show b=gs from Q];exact y.sto.1
 have xz:=aH (yg.go (bI.refl _ _) yu (fun b Q=>by unfold PT;rw[xB b Q];omega));clear xi yu xB y yg ya yf ye yd xe yb;have c0:w3.cell? (p,0)=(gm,0):=zw.c 0 (Oq _ _ _ _ _ _ _);have xy:=zw.sh.lt;obtain⟨_,EE,l,zt⟩:=zw.ram;have xx:=aH (aBU gm EE m w3 l zt);have zr:=aH l;clear l zt;go_wp2_with fail
 with_reducible refine xx.out.mono ?_
 rintro e w4 ⟨rfl,yt⟩;have zj:=zw.ram.1;have zb:∀b,cI gm b->Y b=1:=fun b Q=>by rw[show b=gm from Q];exact zj
 have za:aD (cI gm) w3 w4:=by rw[yt];exact jD w3 gm _
 have o:Hid (PS w4 Y (fun _=>0) (s.crash x) th tgl (st+1) Z dl p gm gs gw M K E ce):=aH (zw.ram_ ⟨zj,_,by rw[yt];exact zr.setRow _,aBq⟩ za);have xw:=aH (xz.go (bI.refl _ _) za (fun b Q=>by unfold PT;rw[zb b Q];omega));clear yt za zw xz xx zr c0 xy;have xv:=aH (DO p gs V _ (s.crash x) w4 o.sh (yH _ _ _ _ _ _ _) o.sto.2 HV I);have wv:(0:Int)<=V:=I;have wu:(V:Int)<=1099511627776:=I;go_wp2_with fail
 with_reducible refine xv.out.mono ?_
 rintro e w5 ⟨rfl,rfl⟩;have c0:w4.cell? (p,0)=(gm,0):=o.c 0 (Oq _ _ _ _ _ _ _);have xu:=o.sh.lt;obtain⟨_,EE,l,zt⟩:=o.ram;have yz:=aH (IH gm 1 (V:Int) EE (fun _=>0) w4 l zt I);have zr:=aH l;have xt:=aH zt;rw[show((1:Nat):Int)=(1:Int)from rfl]at yz;clear l zt xv;go_wp2_with fail
 with_reducible refine yz.out.mono ?_
 rintro e w5 ⟨rfl,G⟩;have S:aD (cI gm) w4 w5:=by rw[G];exact bP w4 gm 1 _
 have zi:Hid (PS w5 Y (kA V) (s.crash x) th tgl (st+1) Z dl p gm gs gw M K E ce):=aH (o.ram_ ⟨zj,_,by rw[G];exact zr.set_ 1 _,xt.set_ I⟩ S);have xs:=aH (xw.go (bI.refl _ _) S (fun b Q=>by unfold PT;rw[zb b Q];omega));clear G S o xw yz zr xt c0 xu zb zj;have zv:=zi.c 12 (Lm _ _ _ _ _ _ _);have xr:=zi.sh.lt;have xq:Hid (aBh w tag (kA V) (s.crash x) th tgl (st+1) Z dl p gm gs gw M K E ce B V dl.length w5 Y):=aH ⟨by rw[List.take_length];exact zi,xs.out,yp.le,Nat.le_refl _⟩;clear zi xs;generalize hL:dl.length=L at*;have xp:=aH hL;clear hL;go_wp2;clear zv xr;obtain⟨wo,rfl⟩:=aO (w5:World)
 go_loopw [5] (fun i wr=>∃k:Nat,k<=L/\i=.int .i64 ((k:Int)-1)/\Hid (aBh w tag (kA V) (s.crash x) th tgl (st+1) Z dl p gm gs gw M K E ce B V k wr Y)) (fun i _=>(intOf i+1).toNat)
 case atStart=>exact⟨L,I,rfl,xq⟩
 case round=>
  clear xq;obtain⟨k,hk,rfl,C⟩:=hrel;have zu:(dl.take k).length=k:=by rw[List.length_take,xp.out];omega
  have zv:wr.cell? (p,12)=some (.slice E k ce):=by have:=C.ps.c 12 (Lm _ _ _ _ _ _ _);rw[zu]at this;exact this
  have zl:=C.ps.sh.lt;rcases Nat.eq_zero_or_pos k with hk0|hk0
  .subst hk0;have O:Hid (PS wr Y (kA V) (s.crash x) (fallK th 0) tgl (st+1) Z (dl.take B) p gm gs gw M K E ce):=aH (by
    have hx:=C.ps;rw[show(0:Nat)=B by have:=C.lo;omega]at hx;exact hx.congrT (fun t _=>iN I))
   have zq:Hid (DF w tag (kA V) (s.crash x) th tgl (st+1) Z (dl.take B) p gm gs gw M K E ce 0 wr Y):=aH ⟨O.out,C.kp⟩;have zp:=aH O.range;have yy:=O.sh.lt;clear C O
   go_wp2_with (with_reducible refine OJ 154 p 2 (wsA gw) J zp.out underlying154 J (aBQ gw) ?_)
   clear zp yy zu zv zl;obtain⟨wI,rfl⟩:=aO (wr:World)
   go_loopw [85] (fun i wr=>∃k:Nat,k<=4/\i=.int .i64 k/\Hid (DF w tag (kA V) (s.crash x) th tgl (st+1) Z (dl.take B) p gm gs gw M K E ce k wr Y)) (fun i _=>4-(intOf i).toNat)
   case atStart=>exact⟨0,I,rfl,zq⟩
   case round=>
    clear zq;obtain⟨u,hu,rfl,X⟩:=hrel;by_cases F:u<4
    .have q1:(u:Int)<4:=I;have xd:=IF gw u F;obtain⟨A,ca,D,cd,T⟩:=X.ps.wk u F;rw[Dy]at T;have c1:wr.cell? (gw u,1)=((th u).does:Int):=mS T.blk 1 I;have xc:=T.blk.lt;by_cases d:(th u).does=0
     .have q0:((th u).does:Int)=0:=I;rw[q0]at c1;have P:Hid (DF w tag (kA V) (s.crash x) th tgl (st+1) Z (dl.take B) p gm gs gw M K E ce (u+1) wr Y):=aH ⟨by rw[<-EQ th u d];exact X.ps,X.kp⟩;clear T X d q0;go_wp2;go_roundw
      case rel=>exact⟨u+1,I,aG,P⟩
      case measure=>simp [intOf];omega
     have q0:¬((th u).does:Int)=0:=I;have a2:wr.cell? (gw u,2)=(th u).a:=mS T.blk 2 I;have a3:wr.cell? (gw u,3)=(th u).k:=mS T.blk 3 I;have a4:wr.cell? (gw u,4)=(th u).v:=mS T.blk 4 I;have a5:wr.cell? (gw u,5)=(th u).tg:=mS T.blk 5 I;have yx:=aH d;clear T d;go_wp2;refine aA 9 ?_
     iterate 9
      refine aR ?_;constructor
      .intro w9 hw9 hm9;refine aS ?_;obtain⟨hc9,hf9⟩:=hw9.all;refine aW ?_;go_simp
       first
       |exact aE
     refine aZ ?_;rintro w9 hw9 _;refine aQ ?_;refine aS ?_;have R:=aH (X.ps.below hw9.same);have q:=aH (X.kp.below hw9.same);obtain⟨A,ca,D,cd,T⟩:=R.wk u F;have HC:=aH (Bc T (th u).a (th u).k (th u).v (th u).tg true);clear T hw9 X a2 a3 a4 a5 c1;refine aW ?_;go_wp2_with fail
     with_reducible refine HC.out.mono ?_
     rintro e w5 ⟨rfl,G,S⟩;have P:Hid (DF w tag (kA V) (s.crash x) th tgl (st+1) Z (dl.take B) p gm gs gw M K E ce (u+1) w5 Y):=aH (by
      obtain⟨yr,yq⟩:=R.call F G S;exact⟨by rw[<-FC th u yx.out];exact yr,q.go (bI.refl _ _) S yq⟩)
     clear G S HC R q;go_wp2;go_roundw
     case rel=>exact⟨u+1,I,aG,P⟩
     case measure=>simp [intOf];omega
    obtain rfl:u=4:=I;have q1:¬((4:Nat):Int)<4:=I;have yw:=aH (X.ps.congrT (fun t ht=>(iP ht).symm));go_wp2;refine bodyPost_end (v:=.tuple #[]) (by simp [results,results48,go_sem]) rfl ⟨rfl,Y,X.kp.t,X.kp.k,M,K,?_⟩;have eh:hist++[yE 3 0 0 0 0 0 0 0 ((st:Int)+1)]=Z:=by rw[yc.out,show((st+1:Nat):Int)=(st:Int)+1 by omega]
    rw[eh];exact yw
  obtain⟨j,rfl⟩:∃j,k=j+1:=⟨k-1,I⟩;obtain⟨v,r,zn,wn,zh⟩:=yp.row j (by rw[xp.out];omega);obtain⟨b,wz,hE,wy,zz⟩:=C.ps.de.slr.at_ (by rw[zu];omega);have cv:wr.cell? (b,wz+j*7)=[v]:=by
   have:=zz j _ (by rw[List.getElem?_take,iP I];exact zn) 0 _ rfl;simpa using this
  have xo:=C.ps.de.slr.cap;rw[zu]at xo;have q2:(j:Int)<=ce:=I;have q3:(j:Int)<(j:Int)+1:=I;by_cases xh:(V:Int)<v
  .have hne:E≠none:=by rw[hE];simp
   have HE:=aH hE;have wt:=C.ps.f 12;have P:Hid (aBh w tag (kA V) (s.crash x) th tgl (st+1) Z dl p gm gs gw M K E ce B V j (wr.setCell (p,12) (.slice E j ce)) Y):=aH ⟨by
    have hx:=C.ps.cut (k:=j) (by rw[zu];omega) hne;rw[List.take_take,show min j (j+1)=j by omega]at hx;exact hx,C.kp.go (bI.refl _ _) (bP wr p 12 _) (fun b Q=>by rw[show b=p from Q];unfold PT;rw[C.ps.tp];omega),zh.1 xh,by have:=C.hi;omega⟩
   rw[hE]at zv P;clear C zz zn zh hne hE;go_wp2;go_roundw
   case rel=>exact⟨j,I,aG,by rw[HE.out];exact P⟩
   case measure=>simp [intOf]<;>omega
  have ws:¬B<=j:=fun e=>xh (zh.2 e)
  have HE:=aH hE;rw[hE]at zv;clear zz zn zh hE;have O:Hid (PS wr Y (kA V) (s.crash x) (fallK th 0) tgl (st+1) Z (dl.take B) p gm gs gw M K E ce):=aH (by
   have hx:=C.ps;rw[show(j+1:Nat)=B by have:=C.lo;omega]at hx;exact hx.congrT (fun t _=>iN I))
  have zq:Hid (DF w tag (kA V) (s.crash x) th tgl (st+1) Z (dl.take B) p gm gs gw M K E ce 0 wr Y):=aH ⟨O.out,C.kp⟩;have zp:=aH O.range;have yy:=O.sh.lt;clear C O
  go_wp2_with (with_reducible refine OJ 154 p 2 (wsA gw) J zp.out underlying154 J (aBQ gw) ?_)
  clear zp yy zu zv zl cv wy;obtain⟨wI,rfl⟩:=aO (wr:World)
  go_loopw [85] (fun i wr=>∃k:Nat,k<=4/\i=.int .i64 k/\Hid (DF w tag (kA V) (s.crash x) th tgl (st+1) Z (dl.take B) p gm gs gw M K E ce k wr Y)) (fun i _=>4-(intOf i).toNat)
  case atStart=>exact⟨0,I,rfl,zq⟩
  case round=>
   clear zq;obtain⟨u,hu,rfl,X⟩:=hrel;by_cases F:u<4
   .have q1:(u:Int)<4:=I;have xd:=IF gw u F;obtain⟨A,ca,D,cd,T⟩:=X.ps.wk u F;rw[Dy]at T;have c1:wr.cell? (gw u,1)=((th u).does:Int):=mS T.blk 1 I;have xc:=T.blk.lt;by_cases d:(th u).does=0
    .have q0:((th u).does:Int)=0:=I;rw[q0]at c1;have P:Hid (DF w tag (kA V) (s.crash x) th tgl (st+1) Z (dl.take B) p gm gs gw M K E ce (u+1) wr Y):=aH ⟨by rw[<-EQ th u d];exact X.ps,X.kp⟩;clear T X d q0;go_wp2;go_roundw
     case rel=>exact⟨u+1,I,aG,P⟩
     case measure=>simp [intOf];omega
    have q0:¬((th u).does:Int)=0:=I;have a2:wr.cell? (gw u,2)=(th u).a:=mS T.blk 2 I;have a3:wr.cell? (gw u,3)=(th u).k:=mS T.blk 3 I;have a4:wr.cell? (gw u,4)=(th u).v:=mS T.blk 4 I;have a5:wr.cell? (gw u,5)=(th u).tg:=mS T.blk 5 I;have yx:=aH d;clear T d;go_wp2;refine aA 9 ?_
    iterate 9
     refine aR ?_;constructor
     .intro w9 hw9 hm9;refine aS ?_;obtain⟨hc9,hf9⟩:=hw9.all;refine aW ?_;go_simp
      first
      |exact aE
    refine aZ ?_;rintro w9 hw9 _;refine aQ ?_;refine aS ?_;have R:=aH (X.ps.below hw9.same);have q:=aH (X.kp.below hw9.same);obtain⟨A,ca,D,cd,T⟩:=R.wk u F;have HC:=aH (Bc T (th u).a (th u).k (th u).v (th u).tg true);clear T hw9 X a2 a3 a4 a5 c1;refine aW ?_;go_wp2_with fail
    with_reducible refine HC.out.mono ?_
    rintro e w5 ⟨rfl,G,S⟩;have P:Hid (DF w tag (kA V) (s.crash x) th tgl (st+1) Z (dl.take B) p gm gs gw M K E ce (u+1) w5 Y):=aH (by
     obtain⟨yr,yq⟩:=R.call F G S;exact⟨by rw[<-FC th u yx.out];exact yr,q.go (bI.refl _ _) S yq⟩)
    clear G S HC R q;go_wp2;go_roundw
    case rel=>exact⟨u+1,I,aG,P⟩
    case measure=>simp [intOf];omega
   obtain rfl:u=4:=I;have q1:¬((4:Nat):Int)<4:=I;have yw:=aH (X.ps.congrT (fun t ht=>(iP ht).symm));go_wp2;refine bodyPost_end (v:=.tuple #[]) (by simp [results,results48,go_sem]) rfl ⟨rfl,Y,X.kp.t,X.kp.k,M,K,?_⟩;have eh:hist++[yE 3 0 0 0 0 0 0 0 ((st:Int)+1)]=Z:=by rw[yc.out,show((st+1:Nat):Int)=(st:Int)+1 by omega]
   rw[eh];exact yw
end
section
variable{w:World}{tag:Nat->Nat}{F:pH}{p gm gs:Nat}{gw:Nat->Nat}{N:Nat}
theorem aAX(h:gH w tag F p gm gs gw)(Z:lM N F)(v:N+1<=100000000)(x:Nat)(A:x<18446744073709551616):
 Calls prog 48 #[(p,0),[x]] w fun e w'=>e=.returned (.tuple #[])/\DZ w tag (F.crash x) p gm gs gw w':=by
 obtain⟨H,y,E,G,D⟩:=h;obtain⟨X,W⟩:=BH Z x;have Y:(F.s.crash x).now 0=((F.crash x).V:Int):=X.inv.ver;obtain⟨C,S⟩:=aAB F.of (V:=F.V) (V':=(F.crash x).V) W;have O:=Z.stp;have M:=Z.hl;have z:=Z.ver;have L:=qK Z F.V (Nat.le_refl _);refine(aCH D x A (F.crash x).V (aB F.of (F.crash x).V).length Y (by rcases W with e|e<;>omega) C I I (by simp;omega)).mono ?_
 rintro e w' ⟨rfl,U,R,Q,B,P,T⟩;refine⟨rfl,U,R,Q,B,P,E,G,?_⟩;rw[S]at T;have K:(F.crash x).m=kA ((F.crash x).V:Int):=by show kA ((F.s.crash x).now 0)=_;rw[Y]
 rw[K];exact T
theorem OO(h:gH w tag F p gm gs gw)(Z:lM N F)(m:N<=100000000)(M:∀r∈F.hist,∀u∈r,u.oneCell'=true):
 Calls prog 31 #[(p,0)] w fun e w'=>∃A c,e=.returned (.slice A F.hist.length c)/\cU w' w 61 9 A F.hist.length c F.hist/\Below w w w':=by
 obtain⟨H,x,E,j,Q⟩:=h;have L:=Q.c 11 (Iv _ _ _ _ _ _ _);have K:=Q.sh.lt;have G:=aH Q.hi.slr;have D:=aH M;have l:F.hist.length<=100000000:=by have:=Z.hl;have:=Z.stp;omega
 obtain⟨i,Y,W,V,U⟩:=EH;have C:=aH Y;have B:=aH W;have z:=aH V;have y:=aH U;clear Q M Y W V U Z m;generalize o:F.hist.length=n at*;generalize F.hist=rows at*;clear o
 go_enter func31,ntmps31
 go_wp2_with (refine pY (.const (.slice none 0 0)) (.tmp 6) rfl rfl underlying65 C B z y rfl aJ aJ (A:=none) (n:=0) (c:=0) (rows:=[]) rfl (cU.nil _ w _ _) (X:=H) (k:=n) (d:=x) (xs:=rows) rfl G D I (Nat.le_refl _) ?_;rintro v c1 t T S R)
 have P:=aH T;have O:Hid (Below w w t):=aH (S.below (Nat.le_refl _) (fun b _ s=>by obtain⟨a,q,_⟩:=s;cases q));clear T S R;go_wp2;go_ret;refine⟨v,c1,rfl,?_,O.out⟩;have:=P.out;simpa using this
theorem aBj(h:gH w tag F p gm gs gw)(Z:lM N F)(U:N<=100000000):Calls prog 41 #[(p,0)] w fun e w'=>e=.returned F.V/\w=w':=by
 obtain⟨H,X,E,W,Y⟩:=h;exact DO p gs F.V _ F.s w Y.sh (yH _ _ _ _ _ _ _) Y.sto.2 Z.inv.ver (by have:=Z.ver;have:=Z.stp;omega)
def pH.rcd(F:pH)(i:Nat):Int:=F.s.now (dU F.V+i)
theorem NX(Z:lM N F):∀i,i<32->0<=F.rcd i/\F.rcd i<18446744073709551616:=fun i Y=>Z.inv.ok.now _ (by unfold dU;omega)
theorem Ic(h:gH w tag F p gm gs gw)(Z:lM N F)(U:N<=100000000):Calls prog 38 #[(p,0)] w fun e w'=>e=.returned (.agg (kT F.rcd))/\Below w w w':=by
 obtain⟨H,X,E,W,Y⟩:=h;exact aBK p gs F.V _ F.s w Y.sh (yH _ _ _ _ _ _ _) Y.sto.2 Z.inv.ver (by have:=Z.ver;have:=Z.stp;omega) Z.inv.ok _ (xA (NX Z))
theorem aAI(h:gH w tag F p gm gs gw)(Q:lM N F)(hN:N<=100000000):
 Calls prog 36 #[(p,0)] w fun e w'=>∃A c,e=.returned (.slice A (aB F.of F.V).length c)/\cU w' w 159 6 A (aB F.of F.V).length c ((aB F.of F.V).map (·.2))/\Below w w w':=by
 obtain⟨H,ch,E,ce,a⟩:=h;have z:=a.c 12 (Lm _ _ _ _ _ _ _);rw[List.length_map]at z;have zz:=a.sh.lt;have S:=a.de.slr;rw[List.length_map]at S;have HX:=aH S;have zr:=S.cap;have d:=S.cap63;have hl:(aB F.of F.V).length<=400000000:=by have:=qK Q F.V (Nat.le_refl _);have:=Q.ver;have:=Q.stp;omega
 have HR:Hid (∀x∈aB F.of F.V,LR x.2):=aH (fun x hx=>by
  have hm:x.2∈(aB F.of F.V).map (·.2):=List.mem_map_of_mem hx;rw[rY]at hm;obtain⟨l,hl,zw⟩:=List.mem_flatten.1 hm;obtain⟨u,hu,rfl⟩:=List.mem_map.1 hl;exact(Q.of_ (u+1) I (by have:=List.mem_range.1 hu;omega)).2 _ zw)
 obtain⟨i0,t,s,r,q⟩:=JV;have HI:=aH t;have HZ:=aH s;have HS:=aH r;have HY:=aH q;clear a S t s r q Q hN;generalize zt:aB F.of F.V=T at*;generalize hn:T.length=n at*;have HN:=aH hn;clear hn zt;have y:Hid (∃A c,(Value.slice none 0 0:Value)=.slice A 0 c/\cU w w 159 6 A 0 c ((T.take 0).map (·.2))):=aH ⟨none,0,rfl,by simpa using cU.nil w w 159 6⟩
 go_enter func36,ntmps36
 go_wp2;obtain⟨B,rfl⟩:=aO (w:World)
 go_loopw [11,3] (fun i l wr=>∃k:Nat,k<=n/\i=.int .i64 k/\Below B B wr/\Hid (∃A c,l=.slice A k c/\cU wr B 159 6 A k c ((T.take k).map (·.2)))) (fun i _ _=>n-(intOf i).toNat)
 case atStart=>exact⟨0,I,rfl,Below.refl _ _,y⟩
 case round=>
  clear y z zz;obtain⟨k,hk,rfl,U,o⟩:=hrel;obtain⟨A1,c1,rfl,m⟩:=o.out;have HO:=aH m;clear o m;by_cases zs:k<n
  .have q1:(k:Int)<n:=I;have C:k<T.length:=by rw[HN.out];exact zs
   obtain⟨P,O,M,L,K,G,R⟩:=HR.out T[k] (List.getElem_mem C);have Y:(T.map qV)[k]? =some [.int .u64 (T[k].1:Int),.int .i64 P,.int .i64 O,.int .i64 M,.int .i64 L,.int .i64 K,.int .i64 G]:=by
    rw[List.getElem?_map,List.getElem?_eq_getElem C];show some (Value.int .u64 _::T[k].2)=_;rw[R]
   obtain⟨D,X,rfl,W,Z⟩:=HX.at_ I;obtain⟨v,hv⟩:=aO ((T[k].1:Int):Int);rw[<-hv]at Y;have c0:wr.cell? (D,X+k*7)=[v]:=(U.cell (p:=⟨D,X+k*7,none⟩) W).trans (by have:=Z k _ Y 0 _ rfl;simpa using this);have zp:=(U.cell (p:=⟨D,X+k*7+1,none⟩) W).trans (Z k _ Y 1 _ rfl);have c2:=(U.cell (p:=⟨D,X+k*7+2,none⟩) W).trans (Z k _ Y 2 _ rfl);have c3:=(U.cell (p:=⟨D,X+k*7+3,none⟩) W).trans (Z k _ Y 3 _ rfl);have c4:=(U.cell (p:=⟨D,X+k*7+4,none⟩) W).trans (Z k _ Y 4 _ rfl);have c5:=(U.cell (p:=⟨D,X+k*7+5,none⟩) W).trans (Z k _ Y 5 _ rfl);have c6:=(U.cell (p:=⟨D,X+k*7+6,none⟩) W).trans (Z k _ Y 6 _ rfl);have HT:Hid ((T.take (k+1)).map (·.2)=(T.take k).map (·.2)++[[.int .i64 P,.int .i64 O,.int .i64 M,.int .i64 L,.int .i64 K,.int .i64 G]]):=aH (by
    rw[List.take_add_one,List.getElem?_eq_getElem C,List.map_append];simp [R])
   have zq:=Nat.lt_of_lt_of_le W U.size;clear Z Y R hv;have HV:Hid (∀j,j<6->((wr.alloc (.cells #[.int .u64 v,.int .i64 P,.int .i64 O,.int .i64 M,.int .i64 L,.int .i64 K,.int .i64 G] 161)).alloc (.cells #[.int .i64 P,.int .i64 O,.int .i64 M,.int .i64 L,.int .i64 K,.int .i64 G] 159)).cell? ⟨wr.heap.size+1,j,none⟩=[Value.int .i64 P,.int .i64 O,.int .i64 M,.int .i64 L,.int .i64 K,.int .i64 G][j]?):=Lib.hid (fun j _=>by
    rw[(aY.newAt (wr.alloc (.cells #[[v],P,O,M,L,K,G] 161)) 159 #[P,O,M,L,K,G] (n:=wr+1) (by simp)).cell j];simp)
   have H1:=aH (CI ⟨P,O,M,L,K,G,rfl⟩)
   go_wp2_with (refine qJ (.tmp 15) (.tmp 18) rfl rfl underlying41 HI HZ HS HY rfl aJ aJ (A:=A1) (n:=k) (c:=c1) (rows:=(T.take k).map (·.2)) rfl (HO.below (by go_grown)) (g:=wr+1) (c':=1) rfl (ys:=[.int .i64 P,.int .i64 O,.int .i64 M,.int .i64 L,.int .i64 K,.int .i64 G]) rfl HV H1 I (by have:=U.size;simp;omega) ?_;rintro g' zv w' m f zu)
   have zy:Hid (cU w' B 159 6 (some ⟨g',0,none⟩) (k+1) zv ((T.take (k+1)).map (·.2))):=aH (by rw[HT.out];exact m);have zx:Below B B w':=Below.trans ((U.alloc U.size _).alloc (by have:=U.size;simp;omega) _) (f.below (by have:=U.size;simp;omega) (fun b hb e=>by have:=HO.high e;omega));clear m f zu HV;go_wp2;go_roundw
   case rel=>exact⟨k+1,I,aG,zx,aH ⟨_,_,rfl,zy.out⟩⟩
   case measure=>simp [intOf];omega
  obtain rfl:k=n:=I;have q1:¬(k:Int)<k:=I;go_wp2;go_ret;refine⟨A1,c1,rfl,?_,U⟩;have:=HO.out;rw[<-HN.out,List.take_length]at this;rw[HN.out]at this;exact this
end
end
section
section
variable{X:Nat->Prop}{w w':World}{tag tag':Nat->Nat}{m m':Nat->Int}{s:cN}{th:Nat->cQ}{tgl:Nat->Int}{fins:Nat->Bool}{st st':Nat}{hist:List (List Value)}{of:Nat->List (List Value)}{p gs mp go n:Nat}{pt:Nat->Nat}{H:Option Addr}{ch:Nat}{S:Nat->Prop}{t:Nat}{Z Z':cQ}
theorem RS.shop(h:RS X w tag m s th tgl fins st hist of p gs mp go n pt H ch)(Y:aD (cI p) w w')(W:aY w' p 68 (yJ gs m' pt (st':Int) (.slice H hist.length ch) (.map (some go)))):RS X w' tag m' s th tgl fins st' hist of p gs mp go n pt H ch:=by
 have Z:∀b,cI p b->tag b=102:=fun b W=>by rw[show b=p from W];exact h.tp
 have V:=bI.refl w tag;exact⟨W,(Y.block gs h.st_.lt fun e=>by have:=Z _ e;have:=h.ts;omega).trans h.st_,h.wm.kept Y (fun e=>by have:=Z _ e;have:=h.tm;omega),h.om.kept Y V (fun b e=>by have:=Z b e;omega),h.hi.keptT Y h.tH (fun b e=>by have:=Z b e;omega),
  h.tp,h.ts,h.tm,h.tH,fun u U T=>(h.th_ u U T).kept Y V (fun b e=>by have:=Z b e;omega)⟩
theorem RS.setSt(h:RS X w tag m s th tgl fins st hist of p gs mp go n pt H ch)(x:Nat):RS X (w.setCell (p,21) x) tag m s th tgl fins x hist of p gs mp go n pt H ch:=by
 refine h.shop (bP _ _ _ _) ?_;have:=h.sh.set_ 21 x;rw[LW]at this;exact this
theorem RS.event{W:Option Addr}{c':Nat}{row:List Value}(h:RS X w tag m s th tgl fins st hist of p gs mp go n pt H ch)(G:cU w' 0 61 9 W (hist.length+1) c' (hist++[row]))(T:aD (iI H) w w')(F:∀b,iI W b->iI H b\/w<=b):
 RS X (w'.setCell (p,22) (.slice W (hist.length+1) c')) (cG w tag 103) m s th tgl fins st (hist++[row]) of p gs mp go n pt W c':=by
 have Y:=cO w tag 103;have V:=h.tH;have Z:=bP w' p 22 (.slice W (hist.length+1) c');have Q:=(Y p h.sh.lt).trans h.tp;have S:∀b,cI p b->cG w tag 103 b=102:=fun b U=>by rw[show b=p from U];exact Q
 have P:∀b,iI W b->cG w tag 103 b=103:=fun b U=>by
  rcases F b U with e|e
  .exact(Y b (by obtain⟨a,M,rfl⟩:=e;exact(h.hi.lt a M).2)).trans (V b e)
  exact dT _ _ _ e
 have R:aY w' p _ _:=(T.block p h.sh.lt fun e=>by have:=V _ e;have:=h.tp;omega).trans h.sh;have O:(hist++[row]).length=hist.length+1:=by simp
 have N:=T.size;refine⟨?_,(Z.block gs (Nat.lt_of_lt_of_le h.st_.lt N) fun e=>by have:=S _ e;have:=(Y gs h.st_.lt).trans h.ts;omega).trans ((T.block gs h.st_.lt fun e=>by have:=V _ e;have:=h.ts;omega).trans h.st_),(h.wm.kept T (fun e=>by have:=V _ e;have:=h.tm;omega)).kept Z (fun e=>by have:=S _ e;have:=(Y mp h.wm.lt).trans h.tm;omega),(h.om.kept T Y (fun b e=>by have:=V b e;omega)).kept Z (bI.refl _ _) (fun b e=>by have:=S b e;omega),?_,Q,(Y gs h.st_.lt).trans h.ts,(Y mp h.wm.lt).trans h.tm,P,fun u L K=>((h.th_ u L K).kept T Y (fun b e=>by have:=V b e;omega)).kept Z (bI.refl _ _) (fun b e=>by have:=S b e;omega)⟩
 .have U:=R.set_ 22 (.slice W (hist.length+1) c');rw[ND]at U;rw[O];exact U
 rw[O];exact G.keptT Z P (fun b e=>by have:=S b e;omega)
theorem RS.same(h:RS X w tag m s th tgl fins st hist of p gs mp go n pt H ch){th':Nat->cQ}{tgl':Nat->Int}{fins':Nat->Bool}(W:∀u,u<4->th' u=th u)(V:∀u,u<4->tgl' u=tgl u)(U:∀u,u<4->fins' u=fins u):RS X w tag m s th' tgl' fins' st hist of p gs mp go n pt H ch:=
 ⟨h.sh,h.st_,h.wm,h.om,h.hi,h.tp,h.ts,h.tm,h.tH,fun u Z Y=>by rw[W u Z,V u Z,U u Z];exact h.th_ u Z Y⟩
theorem lT.cells{last Y:Int}{q:Nat}{fin fin':Bool}(h:lT w tag t Z last q R cr D cd rows fin)(V:aD (cI q) w w')(X:aY w' q 140 (vN t Z' Y (.slice R rows.length cr) (.slice D Z'.deeds.length cd) fin'))(U:Z'.deeds=Z.deeds):lT w' tag t Z' Y q R cr D cd rows fin':=by
 have W:∀b,cI q b->tag b=110+t:=fun b X=>by rw[show b=q from X];exact h.tg
 refine⟨X,h.row.keptT V h.tR (fun b z=>by have:=W _ z;omega),?_,h.tg,h.tR,h.tD⟩;rw[U];exact h.deeds.keptT V h.tD (fun b z=>by have:=W _ z;omega)
end
def wM(k:Nat):Prop:=100<=k
def kK(w:World)(tag:Nat->Nat)(F:pH)(p gs go:Nat)(pt:Nat->Nat):Prop:=
 ∃n mp H ch,n<=F.steps/\RS IR w tag F.m F.s F.th F.tgl (fun _=>false) F.steps F.hist F.of p gs mp go n pt H ch
def SI(w:World)(tag:Nat->Nat)(F':pH)(p gs go:Nat)(pt:Nat->Nat)(w':World):Prop:=∃tag',Kg wM w tag w' tag'/\kK w' tag' F' p gs go pt
section
variable{w w':World}{tag tag':Nat->Nat}{F F':pH}{p gs mp go:Nat}{pt:Nat->Nat}{S:Nat->Prop}
theorem kK.below(h:kK w tag F p gs go pt)(V:Below w w w'):kK w' tag F p gs go pt:=by
 obtain⟨n,Z,H,Y,X,W⟩:=h;exact⟨n,Z,H,Y,X,W.below V (bI.refl _ _)⟩
theorem SI.same(h:kK w tag F p gs go pt)(Z:Below w w w'):SI w tag F p gs go pt w':=⟨tag,(Kg.refl _ _ _).below Z,h.below Z⟩
theorem SI.trans{w0:World}{Z:Nat->Nat}(V:Kg wM w0 Z w tag)(h:SI w tag F' p gs go pt w'):SI w0 Z F' p gs go pt w':=by
 obtain⟨Y,X,W⟩:=h;exact⟨Y,V.trans X,W⟩
theorem kK.th(h:kK w tag F p gs go pt)(Y:t<4):VQ w tag t (F.th t) (F.tgl t) p (pt t) false:=by
 obtain⟨n,X,H,W,V,Z⟩:=h;exact Z.th_ t Y trivial
theorem QS{Z:cQ}(d:Z.does=0):gF Z=[]:=by unfold gF;simp only[d]
theorem uW{s:cN}{th:Nat->cQ}(h:eX m s th V)(U:t<4)(d:(th t).does≠0):∃c cs,gF (th t)=c::cs/\c.step=(th t).does:=by
 have T:=h.does t U;have X:bO (th t).does->fO m s V t (th t):=fun W=>(h.holder U W).2.1
 generalize R:th t=Z at*;have S:Z.does=1\/Z.does=2\/Z.does=3\/Z.does=4\/Z.does=5\/Z.does=6\/Z.does=7\/Z.does=8\/Z.does=9\/Z.does=10\/Z.does=11\/Z.does=12\/Z.does=13\/Z.does=14\/Z.does=15\/Z.does=16\/Z.does=17\/Z.does=18\/Z.does=19\/Z.does=20\/Z.does=21:=I;rcases S with d|d|d|d|d|d|d|d|d|d|d|d|d|d|d|d|d|d|d|d|d
 case inr.inr.inr.inr.inl=>
  have Y:=X (by unfold bO;omega);unfold fO at Y;simp only[d]at Y;rw[d];unfold gF;simp only[d];rw[uT Y.2.2.1];exact⟨_,_,rfl,rfl⟩
 case inr.inr.inr.inr.inr.inr.inr.inl=>
  have Y:=X (by unfold bO;omega);unfold fO at Y;simp only[d]at Y;rw[d];unfold gF;simp only[d];rw[uR _ Y.2.2.1];exact⟨_,_,rfl,rfl⟩
 case inr.inr.inr.inr.inr.inr.inr.inr.inl=>
  have Y:=X (by unfold bO;omega);unfold fO at Y;simp only[d]at Y;rw[d];unfold gF;simp only[d];rw[uV _ Y.2.2.1];exact⟨_,_,rfl,rfl⟩
 all_goals(rw[d];unfold gF;simp only[d];exact⟨_,_,rfl,rfl⟩)
end
section
variable{X:Nat->Prop}{w w' w1:World}{tag tag':Nat->Nat}{m m':Nat->Int}{s:cN}{th:Nat->cQ}{tgl:Nat->Int}{fins:Nat->Bool}{st st':Nat}{hist:List (List Value)}{of:Nat->List (List Value)}{p gs mp go n:Nat}{pt:Nat->Nat}{H:Option Addr}{ch:Nat}{S:Nat->Prop}{t:Nat}{Z Z':cQ}
theorem iF.own{Z:cQ}{e:mG}(h:iF w tag t Z e)(O:t<4)(X:aD S w w')(Y:bI w tag tag')(T:∀b,S b->tag b=110+t\/tag b=120+t):iF w' tag' t Z e:=by
 have W:∀b,S b->tag b≠130+t:=fun b z=>by have:=T b z;omega
 have U:∀b,S b->tag b≠140+t/\tag b≠160+t:=fun b z=>by have:=T b z;omega
 have V:∀b,S b->tag b≠150+t:=fun b z=>by have:=T b z;omega
 have R:∀b,S b->tag b≠170+t:=fun b z=>by have:=T b z;omega
 have Q:∀b,S b->tag b≠180+t:=fun b z=>by have:=T b z;omega
 have P:∀b,S b->tag b≠190+t:=fun b z=>by have:=T b z;omega
 unfold iF at h⊢;split at h
 .exact⟨h.1.kept X Y W,h.2.1.kept X Y U,h.2.2.kept X Y V⟩
 .obtain⟨h1,h2,z,h3,h4⟩:=h;exact⟨h1.kept X Y W,h2.kept X Y U,z,h3.kept X Y V,h4⟩
 .exact⟨h.1.kept X Y W,h.2.1.kept X Y U,h.2.2.kept X Y V⟩
 .exact⟨h.1.kept X Y W,h.2.1.kept X Y U,h.2.2.kept X Y V⟩
 .exact h.kept X Y V
 iterate 5 exact⟨h.1.kept X Y W,h.2.1.kept X Y R,h.2.2.1.kept X Y Q,h.2.2.2.kept X Y P⟩
 trivial
theorem RS.go1(h:RS IR w tag m s th tgl fins st hist of p gs mp go n pt H ch)(G:t<4){e:mG}{T:Option Addr}{Z:Nat}{c:Cl}{cs:List Cl}(Y:lT w tag t (th t) (tgl t) (pt t) R cr D cd (r::rows) false)(F:c.At w tag e r)(E:dD w tag e cs rows)(C:iF w tag t (th t) e)(u:e.p=p)(o:e.q=pt t)
 (S:Below w w w1) (y:cU w1 w 142 2 T rows.length Z rows):
 ∃X,Kg wM w tag (w1.setCell (pt t,1) (.slice T rows.length Z)) X/\RS (TP t) (w1.setCell (pt t,1) (.slice T rows.length Z)) X m s th tgl fins st hist of p gs mp go n pt H ch/\RC (w1.setCell (pt t,1) (.slice T rows.length Z)) X (w1.setCell (pt t,1) (.slice T rows.length Z)) X t (th t) (tgl t) e gs mp m pt s (st:Int) (.slice H hist.length ch) (.map (some go)) T Z D cd rows cs false/\c.At (w1.setCell (pt t,1) (.slice T rows.length Z)) X e r/\iF (w1.setCell (pt t,1) (.slice T rows.length Z)) X t (th t) e:=by
 have W:=cO w tag (120+t);have U:aD bN w w1:=aD.of_same S;have P:=(W _ Y.blk.lt).trans Y.tg;have V:=bP w1 (pt t) 1 (.slice T rows.length Z);have Q:∀b,cI (pt t) b->cG w tag (120+t) b=110+t:=fun b S=>by rw[show b=pt t from S];exact P
 have B:∀b,iI T b->cG w tag (120+t) b=120+t:=fun b S=>dT _ _ _ (y.high S)
 have v:=((h.less (TP t)).kept U W (fun _ x=>x.elim));have A:=v.own G V (bI.refl _ _) (fun b S=>.inl (Q b S));have N:aY w1 (pt t) 140 _:=(U.block _ Y.blk.lt (fun x=>x.elim)).trans Y.blk;have O:lT (w1.setCell (pt t,1) (.slice T rows.length Z)) (cG w tag (120+t)) t (th t) (tgl t) e.q T Z D cd rows false:=by
  rw[o];exact⟨N.set_ 1 (.slice T rows.length Z),(y.mono (Nat.zero_le _)).keptT V B (fun b z=>by have:=Q _ z;omega),(Y.deeds.keptT U Y.tD (fun _ x=>x.elim)).keptT V (Y.deeds.tagT W Y.tD) (fun b z=>by have:=Q _ z;omega),P,B,Y.deeds.tagT W Y.tD⟩
 have M:=(F.kept U W (fun _ x=>x.elim)).kept V (bI.refl _ _) (fun b z=>by have:=Q b z;omega);have L:=(E.kept U W (fun _ x=>x.elim)).kept V (bI.refl _ _) (fun b z=>by have:=Q b z;omega);have K:=(C.kept U W (fun _ x=>x.elim)).own G V (bI.refl _ _) (fun b z=>.inl (Q b z));exact⟨_,(Kg.start S W).go (bI.refl _ _) V (fun b z=>by have:=Q b z;unfold wM;omega),A,A.rc G u O L,M,K⟩
theorem RS.ended(h:RS IR w tag m s th tgl fins st hist of p gs mp go n pt H ch)(S:t<4){x:Int}{f:Bool}(V:aD (cI (pt t)) w w')(W:∀Q P,aY w (pt t) 140 (vN t (th t) (tgl t) Q P (fins t))->aY w' (pt t) 140 (vN t (th t) x Q P f)):
 RS IR w' tag m s th (fun u=>if u=t then x else tgl u) (fun u=>if u=t then f else fins u) st hist of p gs mp go n pt H ch:=by
 obtain⟨e,R,M,D,L,X,T,K,G,F,E⟩:=h.th_ t S trivial;have U:∀b,cI (pt t) b->tag b=110+t:=fun b W=>by rw[show b=pt t from W];exact T.tg
 have Y:=bI.refl w tag;have O:=(h.less (TP t)).own S V Y (fun b W=>.inl (U b W));have N:=O.put (Z:=th t) (last:=x) (fin:=f) ⟨e,R,M,D,L,X,T.cells V (W _ _ T.blk) rfl,K.kept V Y (fun b z=>by have:=U b z;omega),G.own S V Y (fun b z=>.inl (U b z)),F,E⟩;refine N.same (fun u C=>?_) (fun _ _=>rfl) (fun _ _=>rfl);unfold jG;split
 .rename_i e;rw[e]
 rfl
end
theorem FB{N:Nat}{F:pH}(Z:lM N F)(Y:t<4):sE F.of (F.th t)=(F.step t).of:=by
 show _=if(F.th t).does=11 then AL F.of (F.V+1) (F.th t).deeds else F.of
 unfold sE;by_cases e:(F.th t).does=11
 .rw[iP e,iP e,(Z.inv.deeds Y e).2];rfl
 rw[iN e,iN e]
end
section
attribute [local go_sem↓] Go.wp_at_zero Go.wp_at_succ
theorem FI.tailIf{m:Nat}{b Z c:Nat}(h:FI m w (some ⟨b,Z,none⟩) (n+1) c (r::rows))(M:1<=m):FI m w (if c=1 then some ⟨b,Z,none⟩else some ⟨b,Z+m,none⟩) n (c-1) rows:=by
 have W:=h.len;simp only[List.length_cons]at W;have Q:=h.cap;have P:=h.cap63;refine⟨I,fun x V=>h.each x (by simp [V]),I,I,fun O=>?_⟩;obtain⟨N,X,e,Y,U⟩:=h.at_ I;cases e;refine⟨b,Z+m,by rw[iN I],Y,fun i T S j v R=>?_⟩;have:=U (i+1) T (by simpa using S) j v R;rw[show Z+m+i*m+j=Z+(i+1)*m+j by rw[Nat.add_mul];omega];exact this
theorem eC{P:Program}{f:FuncId}{fn:Func}{c:Code}(X:P.funcs[f]? =some fn)(Z:(fn.name== "runtime.NumGoroutine")=false)(W:fn.body=some c)(Y:Array Value)(w:World):(callFunc f Y).run P w=.ok (.enter f Y) w:=by
 unfold callFunc;simp [go_sem,X,Z,W];intro e;rw[e]at Z;simp at Z
theorem Cl.At.enters{tag:Nat->Nat}{e:mG}{c:Cl}(h:c.At w tag e r):∃N Y,r=td c.step (fv N Y)/\∀Z W,(callFunc N Z).run prog W=.ok (.enter N Z) W:=by
 cases c<;>unfold Cl.At at h
 case says1=>obtain⟨a,b,h,_⟩:=h;exact⟨_,_,h,eC (fn:=Tryz.f115) J J rfl⟩
 case says2=>obtain⟨a,b,h,_⟩:=h;exact⟨_,_,h,eC (fn:=Tryz.f117) J J rfl⟩
 case lock=>obtain⟨a,b,h,_⟩:=h;exact⟨_,_,h,eC (fn:=Tryz.f126) J J rfl⟩
 case which=>obtain⟨a,h,_⟩:=h;exact⟨_,_,h,eC (fn:=Tryz.f137) J J rfl⟩
 case copy=>obtain⟨a,b,c,d,h,_⟩:=h;exact⟨_,_,h,eC (fn:=Tryz.f138) J J rfl⟩
 case asks=>obtain⟨a,b,c,d,x,y,h,_⟩:=h;exact⟨_,_,h,eC (fn:=Tryz.f152) J J rfl⟩
 case fetch=>obtain⟨a,b,c,d,x,y,z,h,_⟩:=h;exact⟨_,_,h,eC (fn:=Tryz.f153) J J rfl⟩
 case write=>obtain⟨a,b,c,d,h,_⟩:=h;exact⟨_,_,h,eC (fn:=Tryz.f171) J J rfl⟩
 case wish=>obtain⟨a,b,c,d,h,_⟩:=h;exact⟨_,_,h,eC (fn:=Tryz.f172) J J rfl⟩
 case firm=>obtain⟨a,b,h,_⟩:=h;exact⟨_,_,h,eC (fn:=Tryz.f174) J J rfl⟩
 case index=>obtain⟨a,b,c,h,_⟩:=h;exact⟨_,_,h,eC (fn:=Tryz.f176) J J rfl⟩
 case wish2=>obtain⟨a,b,h,_⟩:=h;exact⟨_,_,h,eC (fn:=Tryz.f177) J J rfl⟩
 case firm2=>obtain⟨a,b,h,_⟩:=h;exact⟨_,_,h,eC (fn:=Tryz.f178) J J rfl⟩
 case tell=>obtain⟨a,b,h,_⟩:=h;exact⟨_,_,h,eC (fn:=Tryz.f179) J J rfl⟩
 case unlock=>obtain⟨a,h,_⟩:=h;exact⟨_,_,h,eC (fn:=Tryz.f180) J J rfl⟩
 case reply=>obtain⟨a,h,_⟩:=h;exact⟨_,_,h,eC (fn:=Tryz.f181) J J rfl⟩
 case look1=>obtain⟨a,h,_⟩:=h;exact⟨_,_,h,eC (fn:=Tryz.f108) J J rfl⟩
 case look2=>obtain⟨a,h,_⟩:=h;exact⟨_,_,h,eC (fn:=Tryz.f109) J J rfl⟩
 case look3=>obtain⟨a,b,h,_⟩:=h;exact⟨_,_,h,eC (fn:=Tryz.f110) J J rfl⟩
 case look4=>obtain⟨a,b,h,_⟩:=h;exact⟨_,_,h,eC (fn:=Tryz.f111) J J rfl⟩
 case look5=>obtain⟨a,b,h,_⟩:=h;exact⟨_,_,h,eC (fn:=Tryz.f112) J J rfl⟩
section
variable{w:World}{tag:Nat->Nat}{F:pH}{p gs mp go:Nat}{pt:Nat->Nat}{N:Nat}
theorem kK.cth(h:kK w tag F p gs go pt)(Y:t<4):w.cell? (p,17+t)=(pt t,0)/\p<w:=by
 obtain⟨n,X,H,W,V,Z⟩:=h;exact⟨by rw[Z.sh.cell,BN _ _ _ _ _ _ Y];rfl,Z.sh.lt⟩
theorem xI(h:kK w tag F p gs go pt)(E:lM N F)(A:t<4):Calls prog 19 #[(p,0),t] w fun e w'=>e=.returned ((F.th t).does:Int)/\w=w':=by
 obtain⟨u,s⟩:=h.cth A;obtain⟨e,R,B,D,g,Z,X,Y,O,f,b⟩:=h.th A;have T:bV (t:Int) 0 3=true:=by unfold bV;rw[decide_eq_true_eq];omega
 have Q:=aH T;have o:¬(t:Int)<0:=I;have n:(t:Int)<4:=I;have V:w.cell? (pt t,1)=some (.slice R Z.length B):=by rw[X.blk.cell];rfl
 have v:=X.blk.lt;by_cases d:(F.th t).does=0
 .rw[QS d]at Y;have C:Z=[]:=by cases Z with|nil=>rfl|cons _ _=>exact Y.elim
  subst C;rw[d];have P:w.cell? (pt t,1)=some (.slice R 0 B):=V;clear V X Y O h T d
  go_enter func19,ntmps19
  go_wp2_with (go_at_call 55;refine(bQ _ _ _ _).mono ?_;rintro e w' ⟨rfl,rfl⟩;rw[Q.out])
  go_ret;exact⟨rfl,rfl⟩
 obtain⟨c,a,L,K⟩:=uW E.inv A d;rw[L]at Y;cases Z with
 |nil=>exact Y.elim
 |cons r Z=>
  obtain⟨H,Y⟩:=Y;obtain⟨M,y,rfl,_⟩:=H.enters;rw[K]at X;have U:=X.row.slr;obtain⟨x,G,rfl,q,W⟩:=U.at_ (by simp);have m:w.cell? (x,G)=((F.th t).does:Int):=by
   have:=W 0 _ rfl 0 _ rfl;simpa using this
  have P:w.cell? (pt t,1)=some (.slice (some ⟨x,G,none⟩) (Z.length+1) B):=V;have l:¬Z.length+1=0:=I;have k:¬((Z.length+1:Nat):Int)=0:=I;have j:¬(Z.length:Int)+1=0:=I;have i:(0:Int)<(Z.length:Int)+1:=I;have z:=U.cap63;have S:=U.cap;simp only[List.length_cons]at S;clear V X Y O h T H W U L K E
  go_enter func19,ntmps19
  go_wp2_with (go_at_call 55;refine(bQ _ _ _ _).mono ?_;rintro e w' ⟨rfl,rfl⟩;rw[Q.out])
  go_ret;exact⟨rfl,rfl⟩
end
theorem SG{k Y N Z:Nat}{c c':Array Value}(h:td k (fv N c)=td Y (fv Z c')):N=Z/\c=c':=by
 unfold td fv at h;simp only[List.cons.injEq,Value.func.injEq,Fn.func.injEq]at h;exact⟨h.2.1.1,h.2.1.2.2⟩
section
variable{w:World}{tag:Nat->Nat}{F:pH}{p gs mp go:Nat}{pt:Nat->Nat}{N:Nat}
def KR(w:World)(tag:Nat->Nat)(F:pH)(p:Nat)(pt:Nat->Nat)(t:Nat)(e:mG)(ga:Nat)(cr:Nat)(D:Option Addr)(cd:Nat)(M:Nat)(caps:Array Value)(rows:List (List Value))(c:Cl)(cs:List Cl):Prop:=
 lT w tag t (F.th t) (F.tgl t) (pt t) (some ⟨ga,0,none⟩) cr D cd (td (F.th t).does (fv M caps)::rows) false/\c.At w tag e (td (F.th t).does (fv M caps))/\dD w tag e cs rows/\iF w tag t (F.th t) e/\e.p=p/\e.q=pt t/\gF (F.th t)=c::cs/\∀args W,(callFunc M args).run prog W=.ok (.enter M args) W
theorem ZI{s:cN}{u:Nat->List (List Value)}(h:RS IR w tag m s F.th F.tgl (fun _=>false) st hist u p gs mp go n pt H ch)(P:lM N F)(L:t<4)(d:(F.th t).does≠0):∃e q U D cd M Y rows c cs,KR w tag F p pt t e q U D cd M Y rows c cs:=by
 obtain⟨e,R,U,D,cd,rows,X,Z,T,K,G⟩:=h.th_ t L trivial;obtain⟨c,cs,V,S⟩:=uW P.inv L d;rw[V]at Z;cases rows with
 |nil=>exact Z.elim
 |cons r rows=>
  obtain⟨W,Z⟩:=Z;obtain⟨M,Y,rfl,Q⟩:=W.enters;rw[S]at X W;rcases X.row.own.2 with⟨E,_⟩|⟨C,B,A,O,o,l,z,y,k,x⟩
  .exact absurd (congrArg (fun v=>match v with|Value.slice _ n _=>n|_=>0) E) (by simp)
  .simp only[Value.slice.injEq]at O;obtain⟨rfl,_,_⟩:=O;exact⟨e,C,U,D,cd,M,Y,rows,c,cs,X,W,Z,T,K,G,V,Q⟩
theorem KR.below{e:mG}{V:Nat}{M:Nat}{Z:Array Value}{c:Cl}{cs:List Cl}(h:KR w tag F p pt t e V cr D cd M Z rows c cs)(X:Below w w w')(Y:bI w tag tag'):KR w' tag' F p pt t e V cr D cd M Z rows c cs:=by
 obtain⟨U,T,S,R,Q⟩:=h;have W:aD bN w w':=aD.of_same X;exact⟨U.below X Y,T.kept W Y (fun _ x=>x.elim),S.below X Y,R.kept W Y (fun _ x=>x.elim),Q⟩
theorem Kg.keepL{b:Nat}{ty:TypeId}{cs:Array Value}(Z:Kg wM w tag w' tag')(h:LB w tag b ty cs):LB w' tag' b ty cs:=h.kept Z.k Z.t (fun b X=>by have Y:100<=tag b:=X;omega)
theorem BJ(Z:t<4):∀k,CM t k->wM k:=fun k h=>by unfold CM yL at h;unfold wM;omega
theorem dD.one{e:mG}:∀{cs:List Cl} {rs:List (List Value)},dD w tag e cs rs->∀r∈rs,∀u∈r,u.oneCell'=true
 |[],[],_,r,hr,_,_=>by cases hr
 |c::cs,x::rs,h,r,hr,u,hu=>by
  rcases List.mem_cons.1 hr with rfl|hr
  .obtain⟨f,caps,rfl⟩:=h.1.name;simp only[td,List.mem_cons,List.not_mem_nil,or_false]at hu;rcases hu with rfl|rfl<;>rfl
  .exact dD.one h.2 r hr u hu
theorem tC{P:Program}{ops:Array Oper}{Q:Exit->Act->World->Prop}{Z:List Oper}{o:Oper}{a:Act}{v:Value}(X:o.guard=none)(W:(execOp a.eval o).run P w=.ok (.value v) w)(h:wpList P ops Q Z (a.put o.dst v) w):wpList P ops Q (o::Z) a w:=by
 refine wpList_step fun K Y=>?_
 rw[iP (by unfold Region.wanted;rw[X])];unfold Oper.wp;rw[W];exact Y _ _ h
theorem YU(w:World):(sizeOf 142).run prog w=.ok 2 w:=J
theorem CL(a:Act)(w:World)(x:Operand)(Y n c:Nat)(V:Option Addr)(U:a.eval x=.slice (some ⟨Y,0,none⟩) (n+1) c)(Q:n+1<=c)(Z:V=if c=1 then some ⟨Y,0,none⟩else some ⟨Y,0+2,none⟩)(o:Oper)(T:o.op=.slice 138 x (some (.const (1:Int))) none none):
 (execOp a.eval o).run prog w=.ok (.value (.slice V n (c-1))) w:=by
 unfold execOp;have X:a.eval (.const (1:Int))=.int .i64 1:=rfl;simp only[T,U,Option.map_some,Option.map_none,X];clear X U;have S:(1:Int)<=(n:Int)+1:=I;have R:=YU;by_cases W:c=1
 .subst W;obtain rfl:n=0:=I;rw[iP rfl]at Z;subst Z;go_simp
 rw[iN W]at Z;subst Z;go_simp
theorem wW(Z:cQ):(gF Z).length<=100:=by
 unfold gF;split<;>simp [kG,kB,jP,qI]<;>omega
theorem YZ(h:kK w tag F p gs go pt)(zi:lM N F)(hN:N<=100000000)(ye:AR F)(q:t<4)(d:(F.th t).does≠0)(zw:(F.loc t).fin=false):
 Calls prog 24 #[(p,0),t] w fun e w'=>e=.returned (.tuple #[.agg (2:Int),false,(0:Int)])/\SI w tag (F.step t) p gs go pt w':=by
 obtain⟨n,mp,H,ch,hn,hr⟩:=h;have zh:bV (t:Int) 0 3=true:=by unfold bV;rw[decide_eq_true_eq];omega
 have yd:=aH zh;have R:Hid (RS IR (w.alloc (.cells (2:Int) 44)) (cG w tag 0) F.m F.s F.th F.tgl (fun _=>false) F.steps F.hist F.of p gs mp go n pt H ch):=aH (hr.below ((Below.refl _ _).alloc (Nat.le_refl _) _) (cO _ _ _));have zg:Hid (Kg wM w tag (w.alloc (.cells (2:Int) 44)) (cG w tag 0)):=aH (Kg.start ((Below.refl _ _).alloc (Nat.le_refl _) _) (cO _ _ _));have zv:Hid (LB (w.alloc (.cells (2:Int) 44)) (cG w tag 0) w 44 (2:Int)):=aH ⟨dT _ _ _ (Nat.le_refl _),aY.new _ _ _⟩;have HD:=aH (xI (t:=t) (⟨n,mp,H,ch,hn,R.out⟩:kK (w.alloc (.cells (2:Int) 44)) (cG w tag 0) F p gs go pt) zi q);have T:=aH zi;have yc:=aH ye;have zf:=aH d;have HN:=aH hn;have q0:¬((F.th t).does:Int)=0:=I;have G:=aH zw;clear zw;clear hr zi ye d zh hn
 go_enter func24,ntmps24
 go_upto_region 1 with(fail)
 show Code.wp _ _ _ _ (w.alloc (.cells (2:Int) 44));generalize(w.alloc (.cells (2:Int) 44))=w1 at*;generalize cG w tag 0=Y at*;obtain⟨O,zn⟩:=aO w.heap.size;have ze:Hid (w.heap.size<=O):=aH I;rw[<-zn]at zv;rw[<-zn];clear zn
 go_wp2_with (go_at_call 55;refine(bQ _ _ _ _).mono ?_;rintro e w' ⟨rfl,rfl⟩;rw[yd.out])
 with_reducible refine HD.out.mono ?_
 rintro e wv ⟨rfl,rfl⟩;have yb:=R.sh.lt;have ya:w1.cell? ⟨p,21,none⟩=some (.int .i64 (F.steps:Int)):=by rw[R.sh.cell,xD]
 have xB:=R.sh.frozen 21;have xb:=T.stp;have k1:IntKind.i64.wrap ((F.steps:Int)+1)=(F.steps:Int)+1:=dE I I;have K:=aH (R.setSt (F.steps+1));have zu:∀b,cI p b->Y b=102:=fun b y=>by rw[show b=p from y];exact R.tp
 have zt:=aH (zg.go (bI.refl _ _) (bP w1 p 21 (.int .i64 ((F.steps+1:Nat):Int))) (fun b y=>by unfold wM;rw[zu b y];omega));have zs:=aH (zv.kept (bP w1 p 21 (.int .i64 ((F.steps+1:Nat):Int))) (bI.refl _ _) (fun b y=>by rw[zu b y];omega));rw[show((F.steps+1:Nat):Int)=(F.steps:Int)+1 by omega]at K zt zs;clear HD R zg zv zu
 go_upto_region 6 with(fail)
 show Code.wp _ _ _ _ (w1.setCell ⟨p,21,none⟩ (.int .i64 ((F.steps:Int)+1)));generalize w1.setCell ⟨p,21,none⟩ (.int .i64 ((F.steps:Int)+1))=U at*;clear yb ya xB k1 q0;refine aS ?_;have xz:U.cell? (p,17+t)=(pt t,0):=by rw[K.sh.cell,BN _ _ _ _ _ _ q];rfl
 have xy:=K.sh.lt;obtain⟨e,i,cr,D,cd,M,Z,rows,c,cs,V⟩:=ZI K T q zf;have Q:=V.1.row.slr;have r0:U.cell? (i,0)=((F.th t).does:Int):=by
  obtain⟨b',g,e1,zm,hc⟩:=Q.at_ (by simp);cases e1;have:=hc 0 _ rfl 0 _ rfl;simpa using this
 have r1:U.cell? (i,1)=some (.func (.func M) #[] Z):=by
  obtain⟨b',g,e1,zm,hc⟩:=Q.at_ (by simp);cases e1;have:=hc 0 _ rfl 1 _ rfl;simpa [fv]using this
 have xx:i<U:=by
  obtain⟨b',g,e1,zm,hc⟩:=Q.at_ (by simp);cases e1;exact zm
 have q1:U.cell? (pt t,1)=some (.slice (some ⟨i,0,none⟩) (rows.length+1) cr):=by rw[V.1.blk.cell];rfl
 have xw:=V.1.blk.lt;have t4:(t:Int)<4:=I;have q5:¬(rows.length:Int)+1=0:=I;have q8:(0:Int)<(rows.length:Int)+1:=I;have xf:=Q.cap63;have E:=Q.cap;simp only[List.length_cons]at E;have W:Below U U (U.alloc (.cells #[((F.th t).does:Int),.func (.func M) #[] Z] 142)):=(Below.refl _ _).alloc (Nat.le_refl _) _;have zr:=aH ((Q.tailIf I).below W);have zd:=aH (K.below W (cO U Y 0));have zc:=aH (zt.trans (Kg.start W (cO U Y 0)));have zb:=aH (zs.kept (S:=bN) (aD.of_same W) (cO U Y 0) (fun _ x=>x.elim));have za:Hid (LB (U.alloc (.cells #[((F.th t).does:Int),.func (.func M) #[] Z] 142)) (cG U Y 0) U 142 #[((F.th t).does:Int),.func (.func M) #[] Z]):=aH ⟨dT _ _ _ (Nat.le_refl _),aY.new _ _ _⟩;have C:=aH (V.below W (cO U Y 0));have H1:=aH V.2.2.1.one;have xe:rows.length<=100:=by
  have h1:=V.2.2.1.len;have h2:=wW (F.th t);rw[V.2.2.2.2.2.2.1,List.length_cons]at h2;omega
 obtain⟨i0,yo,yn,ym,yl⟩:=wL;have HI:=aH yo;have HZ:=aH yn;have HS:=aH ym;have HY:=aH yl;clear yo yn ym yl W;obtain⟨XA,zl⟩:∃XA,XA=(if cr=1 then some (⟨i,0,none⟩:Addr)else some ⟨i,0+2,none⟩):=⟨_,rfl⟩;rw[<-zl]at zr;have yz:=aH zl;have yy:=aH E;clear zl;have xa:=V.2.2.2.2.2.2.2;clear Q V K zt zs;refine aW ?_
 go_upto_region 8 with(fail)
 show Code.wp _ _ _ _ (U.alloc (.cells #[((F.th t).does:Int),.func (.func M) #[] Z] 142));generalize(U.alloc (.cells #[((F.th t).does:Int),.func (.func M) #[] Z] 142))=w3 at*;generalize U.heap.size=b3 at*;generalize cG U Y 0=xc at*;have yx:w3.cell? (pt t,1)=some (.slice (some ⟨i,0,none⟩) (rows.length+1) cr):=by rw[C.out.1.blk.cell];rfl
 have yw:=C.out.1.blk.frozen 1;have o:=C.out.1.blk.lt;clear xz xy r0 r1 xx q1 xw
 go_upto_region 9 with(first
  |(refine tC rfl (CL _ _ (.tmp 41) i rows.length cr XA rfl yy yz _ rfl) ?_)
  |(refine pY (.const (.slice none 0 0)) (.tmp 42) rfl rfl underlying138 HI HZ HS HY rfl aJ aJ (A:=none) (n:=0) (c:=0) (rows:=[]) rfl (cU.nil _ w3 _ _) (X:=XA) (k:=rows.length) (d:=cr-1) (xs:=rows) rfl zr H1 I (Nat.le_refl _) ?_;rintro A1 c1 w4 yk yj yi;have B:Below w3 w3 w4:=yj.below (Nat.le_refl _) (fun b _ y=>by obtain⟨a,ha,_⟩:=y;cases ha);have xv:=(B.cell (p:=⟨pt t,1,none⟩) o).trans yx;have xu:=(B.frozen (p:=⟨pt t,1,none⟩) o).trans yw;have xt:pt t<w4:=Nat.lt_of_lt_of_le o B.size;have yv:=aH yk;have yu:=aH B;clear yk yj yi B))
 show Code.wp _ _ _ _ (w4.setCell (pt t,1) (.slice A1 rows.length c1));refine aS ?_;have yt:Hid (cU w4 w3 142 2 A1 rows.length c1 rows):=aH (by simpa using yv.out);obtain⟨h1,h2,h3,h4,h5,h6,h7,h8⟩:=C.out;obtain⟨xd,l,zk,f,zz,zy⟩:=zd.go1 q h1 h2 h3 h4 h5 h6 yu yt;have ys:=aH (zc.trans l);have yr:=aH zk;have yq:=aH (l.keepL zb);have zq:=aH (l.keepL za);have hv:=T.ver;have wU:=T.stp;have xr:=T.fl;have xq:=T.fe;have xp:=HN.out;have zp:=aH (And.intro h5 h6);obtain⟨M',xh,yh,v⟩:=Fs (n:=n) T.inv zf f h7 zz zy rfl zk.om I I I I (yc.out t q);obtain⟨rfl,rfl⟩:=SG yh;have z:=aH v;clear h1 h2 h3 h4 h5 h6 h7 h8 l zk f zz zy v yh yv yt zd zc zb za C yu zr H1 yz hv xr xq xp;refine aW ?_;generalize(w4.setCell (pt t,1) (.slice A1 rows.length c1))=w5 at*;have x1:w5.cell? (b3,1)=some (.func (.func M) #[] Z):=zq.cell 1;have xo:=zq.out.2.lt;clear yx yw o xv xu xt;go_wp2_with fail
 (try simp only[Array.empty_append,Array.append_empty])
 with_reducible refine z.out.mono ?_
 rintro e' w6 ⟨rfl,zx⟩;refine aS ?_;obtain⟨L,n6,yg,zj,yf⟩:=yr.back q zp.out.1 zp.out.2 zx;have yp:=aH (ys.trans (zj.mono (BJ q)));have P:=aH ((zj.mono (BJ q)).keepL yq);have xn:=aH yg;have zo:Hid (RS IR w6 L (F.loc t).m (F.loc t).s (jG F.th t (F.loc t).t) (fun u=>if u=t then F.tgl t else F.tgl u) (fun u=>if u=t then(F.loc t).fin else false) (F.steps+1) F.hist (sE F.of (F.th t)) p gs mp go n6 pt H ch):=aH yf;clear zx zj yf yg x1 xo ys yr yq zq z zp;rw[G.out]at zo;obtain⟨e6,R6,wu,D6,wt,xg,r,_⟩:=zo.th_ t q trivial;rw[iP rfl,iP rfl,cD]at r;have j:=aH r;clear r;refine aW ?_;have wI:w6.cell? (pt t,12)=false:=by rw[j.blk.cell];rfl
 have wz:=j.blk.lt;have wy:=P.out.2.lt;have wx:w6.cell? (O,0)=(0:Int):=P.cell 0;have ww:w6.cell? (O,1)=(0:Int):=P.cell 1;have e0:=P.out.2.frozen 0;have e1:=P.out.2.frozen 1;have xm:Hid (aD (cI O) w6 ((w6.setCell (O,0) (0:Int)).setCell (O,1) (0:Int))):=aH ((bP w6 O 0 _).setCell (p:=⟨O,1,none⟩) (.inl rfl) _);have xl:=aH ((P.out.2.set_ 0 (0:Int)).set_ 1 (0:Int));have xk:∀b,cI O b->L b=0:=fun b y=>by rw[show b=O from y];exact P.out.1
 have xj:=aH (zo.kept xm (bI.refl _ _) (fun b y=>by rw[xk b y];omega));have xi:Hid (Kg wM w tag ((w6.setCell (O,0) (0:Int)).setCell (O,1) (0:Int)) L):=aH ⟨yp.t,(yp.k.setCell (p:=⟨O,0,none⟩) (.inr ze) _).setCell (p:=⟨O,1,none⟩) (.inr ze) _⟩;go_wp2;refine bodyPost_ret (kR results24 _ _ O 44 (2:Int) _ false (0:Int) rfl rfl rfl xl underlying44 rfl eU) rfl ⟨rfl,L,xi.out,n6,mp,H,ch,by have:=HN.out;have:=xn.out;show n6<=F.steps+1;omega,?_⟩;have hx:=xj.same (th':=(F.step t).th) (tgl':=(F.step t).tgl) (fins':=fun _=>false) (fun _ _=>rfl) (fun u _=>by
  show(if(F.loc t).fin=true then _ else F.tgl) u=_;rw[G.out];show F.tgl u=if u=t then F.tgl t else F.tgl u
  by_cases e:u=t
  .rw[iP e,e]
  rw[iN e]) (fun u _=>by split<;>rfl)
 rw[FB T.out q]at hx;have eh:(F.step t).hist=F.hist:=by show(if(F.loc t).fin=true then _ else _)=_;rw[G.out];rfl
 rw[eh];exact hx
theorem VG(h:kK w tag F p gs go pt)(zf:lM N F)(hN:N<=100000000)(wj:AR F)(ht:t<4)(d:(F.th t).does≠0)(yy:(F.loc t).fin=true):
 Calls prog 24 #[(p,0),t] w fun e w'=>e=.returned (.tuple #[.agg #[(F.loc t).t.o1,(F.loc t).t.o2],true,(0:Int)])/\SI w tag (F.step t) p gs go pt w':=by
 obtain⟨Z,hθ⟩:=aO ((F.loc t).t);rw[<-hθ];have zl:=aH hθ;clear hθ;obtain⟨n,mp,H,ch,hn,hr⟩:=h;have yd:bV (t:Int) 0 3=true:=by unfold bV;rw[decide_eq_true_eq];omega
 have wi:=aH yd;have q:Hid (RS IR (w.alloc (.cells (2:Int) 44)) (cG w tag 0) F.m F.s F.th F.tgl (fun _=>false) F.steps F.hist F.of p gs mp go n pt H ch):=aH (hr.below ((Below.refl _ _).alloc (Nat.le_refl _) _) (cO _ _ _));have yc:Hid (Kg wM w tag (w.alloc (.cells (2:Int) 44)) (cG w tag 0)):=aH (Kg.start ((Below.refl _ _).alloc (Nat.le_refl _) _) (cO _ _ _));have yx:Hid (LB (w.alloc (.cells (2:Int) 44)) (cG w tag 0) w 44 (2:Int)):=aH ⟨dT _ _ _ (Nat.le_refl _),aY.new _ _ _⟩;have HD:=aH (xI (t:=t) (⟨n,mp,H,ch,hn,q.out⟩:kK (w.alloc (.cells (2:Int) 44)) (cG w tag 0) F p gs go pt) zf ht);have C:=aH zf;have wh:=aH wj;have yb:=aH d;have HN:=aH hn;have q0:¬((F.th t).does:Int)=0:=I;have zx:=aH yy;have wg:=aH zf.hl;clear yy;obtain⟨j0,wI,wz,wy,wx⟩:=EH;have JI:=aH wI;have JZ:=aH wz;have JS:=aH wy;have JY:=aH wx;clear wI wz wy wx;clear hr zf wj d yd hn
 go_enter func24,ntmps24
 go_upto_region 1 with(fail)
 show Code.wp _ _ _ _ (w.alloc (.cells (2:Int) 44));generalize(w.alloc (.cells (2:Int) 44))=w1 at*;generalize cG w tag 0=P at*;obtain⟨i,yi⟩:=aO w.heap.size;have ya:Hid (w.heap.size<=i):=aH I;rw[<-yi]at yx;rw[<-yi];clear yi
 go_wp2_with (go_at_call 55;refine(bQ _ _ _ _).mono ?_;rintro e w' ⟨rfl,rfl⟩;rw[wi.out])
 with_reducible refine HD.out.mono ?_
 rintro e uk ⟨rfl,rfl⟩;have wf:=q.sh.lt;have zw:w1.cell? ⟨p,21,none⟩=some (.int .i64 (F.steps:Int)):=by rw[q.sh.cell,xD]
 have we:=q.sh.frozen 21;have us:=C.stp;have k1:IntKind.i64.wrap ((F.steps:Int)+1)=(F.steps:Int)+1:=dE I I;have zy:=aH (q.setSt (F.steps+1));have yw:∀b,cI p b->P b=102:=fun b Y=>by rw[show b=p from Y];exact q.tp
 have yv:=aH (yc.go (bI.refl _ _) (bP w1 p 21 (.int .i64 ((F.steps+1:Nat):Int))) (fun b Y=>by unfold wM;rw[yw b Y];omega));have yu:=aH (yx.kept (bP w1 p 21 (.int .i64 ((F.steps+1:Nat):Int))) (bI.refl _ _) (fun b Y=>by rw[yw b Y];omega));rw[show((F.steps+1:Nat):Int)=(F.steps:Int)+1 by omega]at zy yv yu;clear HD q yc yx yw
 go_upto_region 6 with(fail)
 show Code.wp _ _ _ _ (w1.setCell ⟨p,21,none⟩ (.int .i64 ((F.steps:Int)+1)));generalize w1.setCell ⟨p,21,none⟩ (.int .i64 ((F.steps:Int)+1))=E at*;clear wf zw we k1 q0;refine aS ?_;have wd:E.cell? (p,17+t)=(pt t,0):=by rw[zy.sh.cell,BN _ _ _ _ _ _ ht];rfl
 have wc:=zy.sh.lt;obtain⟨e,ga,cr,D,cd,M,Q,rows,c,cs,K⟩:=ZI zy C ht yb;have o:=K.1.row.slr;have r0:E.cell? (ga,0)=((F.th t).does:Int):=by
  obtain⟨b',ze,e1,yh,hc⟩:=o.at_ (by simp);cases e1;have:=hc 0 _ rfl 0 _ rfl;simpa using this
 have r1:E.cell? (ga,1)=some (.func (.func M) #[] Q):=by
  obtain⟨b',ze,e1,yh,hc⟩:=o.at_ (by simp);cases e1;have:=hc 0 _ rfl 1 _ rfl;simpa [fv]using this
 have wb:ga<E:=by
  obtain⟨b',ze,e1,yh,hc⟩:=o.at_ (by simp);cases e1;exact yh
 have q1:E.cell? (pt t,1)=some (.slice (some ⟨ga,0,none⟩) (rows.length+1) cr):=by rw[K.1.blk.cell];rfl
 have vQ:=K.1.blk.lt;have t4:(t:Int)<4:=I;have q5:¬(rows.length:Int)+1=0:=I;have q8:(0:Int)<(rows.length:Int)+1:=I;have uw:=o.cap63;have zv:=o.cap;simp only[List.length_cons]at zv;have O:Below E E (E.alloc (.cells #[((F.th t).does:Int),.func (.func M) #[] Q] 142)):=(Below.refl _ _).alloc (Nat.le_refl _) _;have yt:=aH ((o.tailIf I).below O);have xB:=aH (zy.below O (cO E P 0));have xz:=aH (yv.trans (Kg.start O (cO E P 0)));have xy:=aH (yu.kept (S:=bN) (aD.of_same O) (cO E P 0) (fun _ x=>x.elim));have xx:Hid (LB (E.alloc (.cells #[((F.th t).does:Int),.func (.func M) #[] Q] 142)) (cG E P 0) E 142 #[((F.th t).does:Int),.func (.func M) #[] Q]):=aH ⟨dT _ _ _ (Nat.le_refl _),aY.new _ _ _⟩;have zu:=aH (K.below O (cO E P 0));have H1:=aH K.2.2.1.one;have uv:rows.length<=100:=by
  have h1:=K.2.2.1.len;have h2:=wW (F.th t);rw[K.2.2.2.2.2.2.1,List.length_cons]at h2;omega
 obtain⟨i0,ww,wv,wu,wt⟩:=wL;have HI:=aH ww;have HZ:=aH wv;have HS:=aH wu;have HY:=aH wt;clear ww wv wu wt O;obtain⟨XA,yg⟩:∃XA,XA=(if cr=1 then some (⟨ga,0,none⟩:Addr)else some ⟨ga,0+2,none⟩):=⟨_,rfl⟩;rw[<-yg]at yt;have xw:=aH yg;have xv:=aH zv;clear yg;have yr:=K.2.2.2.2.2.2.2;clear o K zy yv yu;refine aW ?_
 go_upto_region 8 with(fail)
 show Code.wp _ _ _ _ (E.alloc (.cells #[((F.th t).does:Int),.func (.func M) #[] Q] 142));generalize(E.alloc (.cells #[((F.th t).does:Int),.func (.func M) #[] Q] 142))=w3 at*;generalize E.heap.size=b3 at*;generalize cG E P 0=ut at*;have xu:w3.cell? (pt t,1)=some (.slice (some ⟨ga,0,none⟩) (rows.length+1) cr):=by rw[zu.out.1.blk.cell];rfl
 have xt:=zu.out.1.blk.frozen 1;have zk:=zu.out.1.blk.lt;clear wd wc r0 r1 wb q1 vQ
 go_upto_region 9 with(first
  |(refine tC rfl (CL _ _ (.tmp 41) ga rows.length cr XA rfl xv xw _ rfl) ?_)
  |(refine pY (.const (.slice none 0 0)) (.tmp 42) rfl rfl underlying138 HI HZ HS HY rfl aJ aJ (A:=none) (n:=0) (c:=0) (rows:=[]) rfl (cU.nil _ w3 _ _) (X:=XA) (k:=rows.length) (d:=cr-1) (xs:=rows) rfl yt H1 I (Nat.le_refl _) ?_;rintro A1 c1 w4 ws wr wq;have zt:Below w3 w3 w4:=wr.below (Nat.le_refl _) (fun b _ Y=>by obtain⟨a,ha,_⟩:=Y;cases ha);have vz:=(zt.cell (p:=⟨pt t,1,none⟩) zk).trans xu;have vy:=(zt.frozen (p:=⟨pt t,1,none⟩) zk).trans xt;have vx:pt t<w4:=Nat.lt_of_lt_of_le zk zt.size;have xr:=aH ws;have xq:=aH zt;clear ws wr wq zt))
 show Code.wp _ _ _ _ (w4.setCell (pt t,1) (.slice A1 rows.length c1));refine aS ?_;have xp:Hid (cU w4 w3 142 2 A1 rows.length c1 rows):=aH (by simpa using xr.out);obtain⟨h1,h2,h3,h4,h5,h6,h7,h8⟩:=zu.out;obtain⟨uu,zg,yf,zd,zc,zb⟩:=xB.go1 ht h1 h2 h3 h4 h5 h6 xq xp;have xo:=aH (xz.trans zg);have xn:=aH yf;have xm:=aH (zg.keepL xy);have yq:=aH (zg.keepL xx);have hv:=C.ver;have ur:=C.stp;have vw:=C.fl;have vu:=C.fe;have vt:=HN.out;have yp:=aH (And.intro h5 h6);obtain⟨M',vb,wo,zp⟩:=Fs (n:=n) C.inv yb zd h7 zc zb rfl yf.om I I I I (wh.out t ht);obtain⟨rfl,rfl⟩:=SG wo;have zs:=aH zp;clear h1 h2 h3 h4 h5 h6 h7 h8 zg yf zd zc zb zp wo xr xp xB xz xy xx zu xq yt H1 xw hv vw vu vt;refine aW ?_;generalize(w4.setCell (pt t,1) (.slice A1 rows.length c1))=w5 at*;have x1:w5.cell? (b3,1)=some (.func (.func M) #[] Q):=yq.cell 1;have vs:=yq.out.2.lt;clear xu xt zk vz vy vx;go_wp2_with fail
 (try simp only[Array.empty_append,Array.append_empty])
 with_reducible refine zs.out.mono ?_
 rintro e' w6 ⟨rfl,za⟩;refine aS ?_;obtain⟨y,n6,wm,ye,wl⟩:=xn.back ht yp.out.1 yp.out.2 za;have xl:=aH (xo.trans (ye.mono (BJ ht)));have xk:=aH ((ye.mono (BJ ht)).keepL xm);have vr:=aH wm;have zr:Hid (RS IR w6 y (F.loc t).m (F.loc t).s (jG F.th t (F.loc t).t) (fun u=>if u=t then F.tgl t else F.tgl u) (fun u=>if u=t then(F.loc t).fin else false) (F.steps+1) F.hist (sE F.of (F.th t)) p gs mp go n6 pt H ch):=aH wl;clear za ye wl wm x1 vs xo xn xm yq zs yp;rw[zx.out]at zr;obtain⟨e6,R6,uj,D6,ui,va,zo,_⟩:=zr.th_ t ht trivial;rw[iP rfl,iP rfl,cD]at zo;have W:=aH zo;clear zo;refine aW ?_;have vq:w6.cell? (pt t,12)=true:=by rw[W.blk.cell];rfl
 have vp:=W.blk.lt;rw[<-zl.out]at W zr;have vo:w6.cell? (pt t,5)=Z.tg:=by rw[W.blk.cell];rfl
 have q6:w6.cell? (pt t,6)=(F.tgl t):=by rw[W.blk.cell];rfl
 have vn:=W.blk.frozen 12;have f6:=W.blk.frozen 6;have zj:aD (cI (pt t)) w6 ((w6.setCell (pt t,12) false).setCell (pt t,6) Z.tg):=(bP _ _ _ _).trans (bP _ _ _ _);have yo:∀b,cI (pt t) b->y b=110+t:=fun b Y=>by rw[show b=pt t from Y];exact W.tg
 have U:=aH (zr.ended ht (x:=Z.tg) (f:=false) zj (fun Rv Dv Y=>(Y.set_ 12 false).set_ 6 Z.tg));have xj:=aH (xl.go (bI.refl _ _) zj (fun b Y=>by unfold wM;rw[yo b Y];omega));have xi:=aH (xk.kept zj (bI.refl _ _) (fun b Y=>by rw[yo b Y];omega));have xh:=aH W.tg;clear zj yo W zr xl xk
 go_upto_region 13 with(fail)
 show Code.wp _ _ _ _ ((w6.setCell (pt t,12) false).setCell (pt t,6) Z.tg);generalize(w6.setCell ⟨pt t,12,none⟩ (.bool false)).setCell ⟨pt t,6,none⟩ (.int .i64 Z.tg)=w7 at*;clear vq vp vo q6 vn f6;refine aS ?_;obtain⟨e7,R7,uh,D7,ug,uJ,V,_⟩:=U.th_ t ht trivial;rw[cD]at V;have a2:w7.cell? ⟨pt t,2,none⟩=some (.int .i64 Z.a):=by rw[V.blk.cell];rfl
 have a3:w7.cell? ⟨pt t,3,none⟩=some (.int .i64 Z.k):=by rw[V.blk.cell];rfl
 have a4:w7.cell? ⟨pt t,4,none⟩=some (.int .i64 Z.v):=by rw[V.blk.cell];rfl
 have a8:w7.cell? ⟨pt t,8,none⟩=some (.int .i64 Z.o1):=by rw[V.blk.cell];rfl
 have a9:w7.cell? ⟨pt t,9,none⟩=some (.int .i64 Z.o2):=by rw[V.blk.cell];rfl
 have yn:w7.cell? ⟨pt t,10,none⟩=some (.int .i64 Z.wn):=by rw[V.blk.cell];rfl
 have T:=V.blk.lt;have L:=U.sh.lt;have zi:w7.cell? ⟨p,22,none⟩=some (.slice H F.hist.length ch):=by rw[U.sh.cell,QW]
 have zw:w7.cell? ⟨p,21,none⟩=some (.int .i64 ((F.steps:Int)+1)):=by rw[U.sh.cell,xD];rfl
 have l:¬iI H p:=fun e=>by have:=U.tH p e;have:=U.tp;omega
 have R:¬iI H (pt t):=fun e=>by have:=U.tH _ e;have:=xh.out;omega
 have uq:=wg.out;clear V;refine aW ?_;refine bK 25 (iI H) [24] J J ?_
 iterate 23
  refine aR ?_;constructor
  .intro w9 hw9 hm9;refine aS ?_;have xg:=(hw9.cell (p:=⟨p,22,none⟩) L l).trans zi;have xf:=(hw9.cell (p:=⟨p,21,none⟩) L l).trans zw;have vm:=(hw9.cell (p:=⟨pt t,2,none⟩) T R).trans a2;have vl:=(hw9.cell (p:=⟨pt t,3,none⟩) T R).trans a3;have vk:=(hw9.cell (p:=⟨pt t,4,none⟩) T R).trans a4;have vj:=(hw9.cell (p:=⟨pt t,8,none⟩) T R).trans a8;have vi:=(hw9.cell (p:=⟨pt t,9,none⟩) T R).trans a9;have xe:=(hw9.cell (p:=⟨pt t,10,none⟩) T R).trans yn;refine aW ?_;go_simp
   first
   |exact aE
 refine bC CK (DM 61 [.int .i64 2,.int .i64 (t:Int),.int .i64 Z.a,.int .i64 Z.k,.int .i64 Z.v,.int .i64 Z.o1,.int .i64 Z.o2,.int .i64 Z.wn,.int .i64 ((F.steps:Int)+1)]) ⟨_,0,rfl⟩ ?_ ?_
 .intro w9 hw9 G;refine aS ?_;have xg:=(hw9.cell (p:=⟨p,22,none⟩) L l).trans zi;have xf:=(hw9.cell (p:=⟨p,21,none⟩) L l).trans zw;have vm:=(hw9.cell (p:=⟨pt t,2,none⟩) T R).trans a2;have vl:=(hw9.cell (p:=⟨pt t,3,none⟩) T R).trans a3;have vk:=(hw9.cell (p:=⟨pt t,4,none⟩) T R).trans a4;have vj:=(hw9.cell (p:=⟨pt t,8,none⟩) T R).trans a8;have vi:=(hw9.cell (p:=⟨pt t,9,none⟩) T R).trans a9;have xe:=(hw9.cell (p:=⟨pt t,10,none⟩) T R).trans yn;refine aW ?_;go_simp;exact⟨⟨⟨_,rfl⟩,⟨_,rfl,aY.new _ _ _⟩⟩,aD.of_same ((Below.refl _ _).alloc (Nat.le_refl _) _)⟩
 refine bD (DN (F.hist.length+1)) (fun vv w'=>∃A' c',vv=.slice A' (F.hist.length+1) c'/\cU w' 0 61 9 A' (F.hist.length+1) c' (F.hist++[[.int .i64 2,.int .i64 (t:Int),.int .i64 Z.a,.int .i64 Z.k,.int .i64 Z.v,.int .i64 Z.o1,.int .i64 Z.o2,.int .i64 Z.wn,.int .i64 ((F.steps:Int)+1)]])/\∀b,iI A' b->iI H b\/w7<=b) ⟨_,none,0,rfl⟩ ?_ ?_
 .rintro _ ⟨g9,rfl⟩;refine⟨aF,fun w9 hw9 G=>?_⟩;refine aS ?_;have zz:=G;have B:=G.2;clear G;obtain⟨w0,k0,k1,g',hv,zn⟩:=B.1 J;cases hv;have up:=hw9.size;have ym:=zn.below (cA k1 J) zn.lt;have vh:=aH (U.hi.below (cA zz.1 J));clear B zz zn k0 k1;refine aW ?_;refine iM (.tmp 69) (.tmp 88) rfl underlying65 JI JZ JS JY rfl aJ aJ (A:=H) (n:=F.hist.length) (c:=ch) (rows:=F.hist) rfl vh (g:=g9) (c':=1) rfl (ys:=[.int .i64 2,.int .i64 (t:Int),.int .i64 Z.a,.int .i64 Z.k,.int .i64 Z.v,.int .i64 Z.o1,.int .i64 Z.o2,.int .i64 Z.wn,.int .i64 ((F.steps:Int)+1)]) rfl ?_ ?_ I (Nat.zero_le _) ?_
  .intro j hj;rw[ym.cell j];simp
  .intro u hu;simp only[List.mem_cons,List.not_mem_nil,or_false]at hu;rcases hu with rfl|rfl|rfl|rfl|rfl|rfl|rfl|rfl|rfl<;>rfl
  intro g' uf w' ho uA uz;refine⟨⟨⟨_,_,rfl⟩,⟨_,_,rfl,ho,fun b Y=>?_⟩⟩,uA.mono fun b Y=>⟨aJ,Y⟩⟩;obtain⟨a,ha,rfl⟩:=Y;cases ha;rcases uz with⟨a,ha,e⟩|e
  .exact .inl ⟨a,ha,e⟩
  exact .inr (by show w7<=g';omega)
 refine aZ ?_;rintro _ ⟨A9,c9,rfl⟩ _ ⟨g9,rfl⟩ w9 hw9 B;refine aQ ?_;refine aS ?_;obtain⟨w0,k0,k1,A8,c8,uy,yz,wk⟩:=B.2.1 rfl;cases uy;have xd:=aH (yz.below (cA k1 J));have yr:=aH wk;clear B yz k0 k1 wk w0;have yl:=aH (U.event xd hw9 yr);have zq:=U.tH;have zh:=cO w7 y 103;have yk:∀b,cI p b->cG w7 y 103 b=102:=fun b Y=>by rw[show b=p from Y];exact(zh p L).trans U.tp
 have yj:=aH ((xj.go zh hw9 (fun b Y=>by unfold wM;rw[zq b Y];omega)).go (bI.refl _ _) (bP w9 p 22 (.slice A9 (F.hist.length+1) c9)) (fun b Y=>by unfold wM;rw[yk b Y];omega));have z:=aH ((xi.kept hw9 zh (fun b Y=>by rw[zq b Y];omega)).kept (bP w9 p 22 (.slice A9 (F.hist.length+1) c9)) (bI.refl _ _) (fun b Y=>by rw[yk b Y];omega));have xc:=(hw9.cell (p:=⟨p,22,none⟩) L l).trans zi;have xb:=(hw9.frozen (p:=⟨p,22,none⟩) L l).trans (U.sh.frozen 22);have vg:=Nat.lt_of_lt_of_le L hw9.size;clear hw9 xd yr zh yk zq U xj xi a2 a3 a4 a8 a9 yn T L zi zw l R xh;refine aW ?_
 go_upto_region 14 with(fail)
 show Code.wp _ _ _ _ (w9.setCell (p,22) (.slice A9 (F.hist.length+1) c9));generalize w9.setCell (p,22) (.slice A9 (F.hist.length+1) c9)=wa at*;generalize cG w7 y 103=zm at*;clear xc xb vg;refine aS ?_;obtain⟨e8,R8,ue,D8,ud,ux,r,_⟩:=yl.th_ t ht trivial;rw[cD]at r;have a8:wa.cell? (pt t,8)=Z.o1:=by rw[r.blk.cell];rfl
 have a9:wa.cell? (pt t,9)=Z.o2:=by rw[r.blk.cell];rfl
 have uo:=r.blk.lt;have un:=z.out.2.lt;have um:wa.cell? (i,0)=(0:Int):=z.cell 0;have ul:wa.cell? (i,1)=(0:Int):=z.cell 1;have e0:=z.out.2.frozen 0;have e1:=z.out.2.frozen 1;have xa:Hid (aD (cI i) wa ((wa.setCell (i,0) Z.o1).setCell (i,1) Z.o2)):=aH ((bP wa i 0 _).setCell (p:=⟨i,1,none⟩) (.inl rfl) _);have vf:=aH ((z.out.2.set_ 0 Z.o1).set_ 1 Z.o2);have wU:∀b,cI i b->zm b=0:=fun b Y=>by rw[show b=i from Y];exact z.out.1
 have ve:=aH (yl.kept xa (bI.refl _ _) (fun b Y=>by rw[wU b Y];omega));have vd:Hid (Kg wM w tag ((wa.setCell (i,0) Z.o1).setCell (i,1) Z.o2) zm):=aH ⟨yj.t,(yj.k.setCell (p:=⟨i,0,none⟩) (.inr ya) _).setCell (p:=⟨i,1,none⟩) (.inr ya) _⟩;clear r wU xa yl yj z;refine aW ?_;go_wp2;refine bodyPost_ret (kR results24 _ _ i 44 #[Z.o1,Z.o2] _ true (0:Int) rfl rfl rfl vf underlying44 rfl eU) rfl ⟨rfl,zm,vd.out,n6,mp,A9,c9,by have:=HN.out;have:=vr.out;show n6<=F.steps+1;omega,?_⟩;obtain⟨o1,o2,o3,o4⟩:=VJ t F.m F.s (F.th t);have vc:Z.tg=(F.th t).tg:=by rw[zl.out];exact o4
 have hx:=ve.same (th':=(F.step t).th) (tgl':=(F.step t).tgl) (fins':=fun _=>false) (fun u _=>by rw[zl.out];rfl) (fun u _=>by
  show(if(F.loc t).fin=true then(fun u=>if u=t then(F.th t).tg else F.tgl u)else F.tgl) u=_;rw[zx.out,iP rfl,vc];show(if u=t then _ else F.tgl u)=if u=t then _ else(if u=t then F.tgl t else F.tgl u)
  by_cases e:u=t
  .rw[iP e,iP e]
  .rw[iN e,iN e,iN e]) (fun u _=>by
  by_cases e:u=t
  .rw[iP e]
  rw[iN e,iN e])
 rw[FB C.out ht]at hx;have eh:(F.step t).hist=F.hist++[yE 2 t (F.th t).a (F.th t).k (F.th t).v (F.loc t).t.o1 (F.loc t).t.o2 (F.loc t).t.wn (F.steps+1:Nat)]:=by show(if(F.loc t).fin=true then _ else _)=_;rw[zx.out];rfl
 rw[eh];have er:[.int .i64 2,.int .i64 (t:Int),.int .i64 Z.a,.int .i64 Z.k,.int .i64 Z.v,.int .i64 Z.o1,.int .i64 Z.o2,.int .i64 Z.wn,.int .i64 ((F.steps:Int)+1)]=yE 2 t (F.th t).a (F.th t).k (F.th t).v (F.loc t).t.o1 (F.loc t).t.o2 (F.loc t).t.wn (F.steps+1:Nat):=by
  unfold yE;rw[show((F.steps+1:Nat):Int)=(F.steps:Int)+1 by omega,zl.out,show(F.loc t).t.a=(F.th t).a from o1,show(F.loc t).t.k=(F.th t).k from o2,show(F.loc t).t.v=(F.th t).v from o3]
 rw[er]at hx;exact hx
end
section
variable{w:World}{tag:Nat->Nat}{t:Nat}{Z:cQ}{last:Int}{q:Nat}{R:Option Addr}{cr:Nat}{D:Option Addr}{cd:Nat}{rows:List (List Value)}{fin:Bool}
def Dd(w:World)(q:Nat):World:=((((((w.setCell (q,1) (.slice none 0 0)).setCell (q,7) false).setCell (q,8) (0:Int)).setCell (q,9) (0:Int)).setCell (q,10) (0:Int)).setCell (q,11) (.slice none 0 0)).setCell (q,12) false
theorem XE(w:World)(q:Nat):aD (cI q) w (Dd w q):=
 ((((((bP _ _ _ _).trans (bP _ _ _ _)).trans (bP _ _ _ _)).trans (bP _ _ _ _)).trans (bP _ _ _ _)).trans (bP _ _ _ _)).trans (bP _ _ _ _)
theorem Gi(t:Nat)(Z:cQ)(last:Int)(X W:Value)(fin Y:Bool):(((((((vN t Z last X W fin).setIfInBounds 1 (.slice none 0 0)).setIfInBounds 7 false).setIfInBounds 8 (0:Int)).setIfInBounds 9 (0:Int)).setIfInBounds 10 (0:Int)).setIfInBounds 11 (.slice none 0 0)).setIfInBounds 12 false=vN t (cQ.call Z.a Z.k Z.v Z.tg Y) last (.slice none 0 0) (.slice none 0 0) false:=by
 unfold vN cQ.call;simp only[List.setIfInBounds_toArray,List.set_cons_succ,List.set_cons_zero]
theorem Fd(h:lT w tag t Z last q R cr D cd rows fin)(Y:Bool):lT (Dd w q) tag t (cQ.call Z.a Z.k Z.v Z.tg Y) last q none 0 none 0 [] false:=by
 refine⟨?_,cU.nil _ _ _ _,cU.nil _ _ _ _,h.tg,?_,?_⟩
 .have h1:=((((((h.blk.set_ 1 (.slice none 0 0)).set_ 7 false).set_ 8 (0:Int)).set_ 9 (0:Int)).set_ 10 (0:Int)).set_ 11 (.slice none 0 0)).set_ 12 false;rw[Gi]at h1;exact h1
 .rintro b ⟨a,X,_⟩;cases X
 rintro b ⟨a,X,_⟩;cases X
theorem YQ(h:lT w tag t Z last q R cr D cd rows fin)(p:Nat)(m:t<4)(X:Bool):
 Calls prog 61 #[(p,0),(q,0),X] w fun e w'=>e=.returned (.tuple #[])/\∃Y,Kg (eJ t) w tag w' Y/\VQ w' Y t (cQ.call Z.a Z.k Z.v Z.tg X) last p q false:=by
 have K:=aH (Fd h X);have H:Hid (Kg (eJ t) w tag (Dd w q) tag):=aH ((Kg.refl _ _ _).go (bI.refl _ _) (XE w q) (fun b hb=>.inl (by rw[show b=q from hb];exact h.tg)));have c1:w.cell? (q,1)=some (.slice R rows.length cr):=by rw[h.blk.cell];rfl
 have l:w.cell? (q,7)=Z.said:=by rw[h.blk.cell];rfl
 have j:w.cell? (q,8)=Z.o1:=by rw[h.blk.cell];rfl
 have i:w.cell? (q,9)=Z.o2:=by rw[h.blk.cell];rfl
 have G:w.cell? (q,10)=Z.wn:=by rw[h.blk.cell];rfl
 have F:w.cell? (q,11)=some (.slice D Z.deeds.length cd):=by rw[h.blk.cell];rfl
 have E:w.cell? (q,12)=fin:=by rw[h.blk.cell];rfl
 have g:=h.blk.frozen 1;have f:=h.blk.frozen 7;have d:=h.blk.frozen 8;have c:=h.blk.frozen 9;have C:=h.blk.frozen 10;have B:=h.blk.frozen 11;have A:=h.blk.frozen 12;have zz:=h.blk.lt;clear h;obtain⟨u,y⟩:∃u,u=X:=⟨_,rfl⟩;have HA:=aH y
 go_enter func61,ntmps61
 go_upto_region 1 with(fail)
 show Code.wp _ _ _ _ (Dd w q);generalize Dd w q=w1 at*;clear c1 l j i G F E g f d c C B A;cases X with
 |true=>
  have P:=aH (PW K p m);go_wp2_with fail
  with_reducible refine P.out.mono ?_
  rintro e O ⟨rfl,V,S,x,Q,W,N,⟨M,L⟩,U,T,s,r,o,n⟩;have z:Hid (∃Y,Kg (eJ t) w tag O Y/\VQ O Y t (cQ.call Z.a Z.k Z.v Z.tg true) last p q false):=aH ⟨V,H.trans N,S,x,Q,none,0,W,U,T,⟨s,r,o,n⟩,M,L⟩;clear N M L U T s r o n P K H;go_wp2;exact bodyPost_end (v:=.tuple #[]) (by simp [results,results61,go_sem]) rfl ⟨rfl,z.out⟩
 |false=>
  have P:=aH (RQ K p m);go_wp2_with fail
  with_reducible refine P.out.mono ?_
  rintro e O ⟨rfl,V,S,x,Q,W,N,⟨M,L⟩,U,T⟩;have z:Hid (∃Y,Kg (eJ t) w tag O Y/\VQ O Y t (cQ.call Z.a Z.k Z.v Z.tg false) last p q false):=aH ⟨V,H.trans N,S,x,Q,none,0,W,U,T,trivial,M,L⟩;clear N M L U T P K H;go_wp2;exact bodyPost_end (v:=.tuple #[]) (by simp [results,results61,go_sem]) rfl ⟨rfl,z.out⟩
end
section
variable{w:World}{tag:Nat->Nat}{F:pH}{p gs mp go:Nat}{pt:Nat->Nat}{N:Nat}
theorem SK(p:Nat)(t a k v:Int)(w:World)(W:¬(0<=t/\t<4)):Calls prog 22 #[(p,0),t,.agg #[a,k,v]] w fun e w'=>e=.returned (2:Int)/\Below w w w':=by
 have Z:bV t 0 3=false:=by unfold bV;rw[decide_eq_false_iff_not];omega
 have Y:=aH Z;have X:Hid (Below w w (w.alloc (.cells #[a,k,v] 39))):=aH ((Below.refl _ _).alloc (Nat.le_refl _) _);clear Z W
 go_enter func22,ntmps22
 go_wp2_with (go_at_call 55;refine(bQ _ _ _ _).mono ?_;rintro e w' ⟨rfl,rfl⟩;rw[Y.out])
 go_ret;exact⟨rfl,X.out⟩
theorem MA(h:kK w tag F p gs go pt)(Y:lM N F)(U:t<4)(a k v:Int)(d:(F.th t).does≠0):Calls prog 22 #[(p,0),t,.agg #[a,k,v]] w fun e w'=>e=.returned (6:Int)/\Below w w w':=by
 have Z:bV (t:Int) 0 3=true:=by unfold bV;rw[decide_eq_true_eq];omega
 have X:=aH Z;have W:Hid (Below w w (w.alloc (.cells #[a,k,v] 39))):=aH ((Below.refl _ _).alloc (Nat.le_refl _) _);have V:=aH (xI (h.below ((Below.refl w w).alloc (Nat.le_refl _) (.cells #[a,k,v] 39))) Y U);have T:¬((F.th t).does:Int)=0:=I;clear Z h Y d
 go_enter func22,ntmps22
 go_wp2_with (go_at_call 55;refine(bQ _ _ _ _).mono ?_;rintro e w' ⟨rfl,rfl⟩;rw[X.out])
 with_reducible refine V.out.mono ?_
 rintro e S ⟨rfl,rfl⟩;go_wp2;go_ret;exact⟨rfl,W.out⟩
theorem JD(h:kK w tag F p gs go pt)(X:lM N F)(Q:t<4)(a k v:Int)(d:(F.th t).does=0)(P:cB a k v=false):Calls prog 22 #[(p,0),t,.agg #[a,k,v]] w fun e w'=>e=.returned (1:Int)/\Below w w w':=by
 have Z:bV (t:Int) 0 3=true:=by unfold bV;rw[decide_eq_true_eq];omega
 have V:=aH Z;have R:Hid (Below w w (w.alloc (.cells #[a,k,v] 39))):=aH ((Below.refl _ _).alloc (Nat.le_refl _) _);have T:=aH (xI (h.below ((Below.refl w w).alloc (Nat.le_refl _) (.cells #[a,k,v] 39))) X Q);rw[d]at T;have S:=aH (fun W=>eK a k v W);rw[P]at S;clear Z h X d
 go_enter func22,ntmps22
 go_wp2_with (go_at_call 55;refine(bQ _ _ _ _).mono ?_;rintro e w' ⟨rfl,rfl⟩;rw[V.out])
 with_reducible refine T.out.mono ?_
 rintro e O ⟨rfl,rfl⟩;go_wp2_with fail
 with_reducible refine(S.out _).mono ?_
 rintro e M ⟨rfl,Y⟩;have U:=aH (R.trans (Y.mono (by simp)));clear Y;go_wp2;go_ret;exact⟨rfl,U.out⟩
theorem RS.asked{s:cN}{th:Nat->cQ}{X:Nat->List (List Value)}(h:RS IR w tag m s th tgl (fun _=>false) st hist X p gs mp go n pt H ch)(U:t<4)(Y:lT w tag t (th t) (tgl t) (pt t) R cr D cd rows false)(a k v x:Int)(W:aD (cI (pt t)) w w')(Z:aY w' (pt t) 140 (vN t {th t with a:=a,k:=k,v:=v,tg:=x} (tgl t) (.slice R rows.length cr) (.slice D (th t).deeds.length cd) false)):
 RS (TP t) w' tag m s th tgl (fun _=>false) st hist X p gs mp go n pt H ch/\lT w' tag t {th t with a:=a,k:=k,v:=v,tg:=x} (tgl t) (pt t) R cr D cd rows false:=by
 have V:∀b,cI (pt t) b->tag b=110+t:=fun b Z=>by rw[show b=pt t from Z];exact Y.tg
 exact⟨(h.less (TP t)).own U W (bI.refl _ _) (fun b Z=>.inl (V b Z)),Y.cells W Z rfl⟩
theorem XQ(Z:t<4):∀k,eJ t k->wM k:=fun k h=>by unfold eJ at h;unfold wM;omega
theorem RS.begun{s:cN}{th:Nat->cQ}{Y:Nat->Bool}{X:Nat->List (List Value)}(h:RS (TP t) w tag m s th tgl Y st hist X p gs mp go n pt H ch)(T:t<4){Z:cQ}(W:Kg (eJ t) w tag w' tag')(S:VQ w' tag' t Z (tgl t) p (pt t) false)(R:Y t=false):
 RS IR w' tag' m s (jG th t Z) tgl Y st hist X p gs mp go n pt H ch:=by
 have V:=h.own T W.k W.t (fun b U=>by unfold eJ at U;omega);refine(V.put S).same (fun _ _=>rfl) (fun u _=>?_) (fun u _=>?_)
 .split
  .rename_i e;rw[e]
  rfl
 split
 .rename_i e;rw[e,R]
 rfl
theorem WX(h:kK w tag F p gs go pt)(zm:lM N F)(hN:N<=100000000)(ht:t<4)(a k v:Int)(d:(F.th t).does=0)(ho:cB a k v=true):Calls prog 22 #[(p,0),t,.agg #[a,k,v]] w fun e w'=>e=.returned (0:Int)/\SI w tag (F.call t a k v) p gs go pt w':=by
 obtain⟨n,mp,H,ch,hn,hr⟩:=h;have zl:bV (t:Int) 0 3=true:=by unfold bV;rw[decide_eq_true_eq];omega
 have yk:=aH zl;have zu:Hid (RS IR (w.alloc (.cells #[a,k,v] 39)) (cG w tag 0) F.m F.s F.th F.tgl (fun _=>false) F.steps F.hist F.of p gs mp go n pt H ch):=aH (hr.below ((Below.refl _ _).alloc (Nat.le_refl _) _) (cO _ _ _));have zk:Hid (Kg wM w tag (w.alloc (.cells #[a,k,v] 39)) (cG w tag 0)):=aH (Kg.start ((Below.refl _ _).alloc (Nat.le_refl _) _) (cO _ _ _));have S:Hid (LB (w.alloc (.cells #[a,k,v] 39)) (cG w tag 0) w 39 #[a,k,v]):=aH ⟨dT _ _ _ (Nat.le_refl _),aY.new _ _ _⟩;have HD:=aH (xI (t:=t) (⟨n,mp,H,ch,hn,zu.out⟩:kK (w.alloc (.cells #[a,k,v] 39)) (cG w tag 0) F p gs go pt) zm ht);rw[d]at HD;have HR:=aH (fun W=>eK a k v W);rw[ho]at HR;have zt:=aH zm;have HN:=aH hn;obtain⟨i0,yu,yt,yr,yq⟩:=EH;have HI:=aH yu;have HZ:=aH yt;have HS:=aH yr;have HY:=aH yq;clear yu yt yr yq hr zm d ho zl hn
 go_enter func22,ntmps22
 go_upto_region 1 with(fail)
 show Code.wp _ _ _ _ (w.alloc (.cells #[.int .i64 a,.int .i64 k,.int .i64 v] 39));generalize(w.alloc (.cells #[.int .i64 a,.int .i64 k,.int .i64 v] 39))=w1 at*;generalize cG w tag 0=yl at*;obtain⟨V,zn⟩:=aO w.heap.size;rw[<-zn]at S;rw[<-zn];clear zn
 go_wp2_with (go_at_call 55;refine(bQ _ _ _ _).mono ?_;rintro e w' ⟨rfl,rfl⟩;rw[yk.out])
 with_reducible refine HD.out.mono ?_
 rintro e xo ⟨rfl,rfl⟩;have yj:=S.out.2.lt;have o0:w1.cell? ⟨V,0,none⟩=some (.int .i64 a):=S.cell 0;have o1:w1.cell? ⟨V,1,none⟩=some (.int .i64 k):=S.cell 1;have o2:w1.cell? ⟨V,2,none⟩=some (.int .i64 v):=S.cell 2;go_wp2_with fail
 with_reducible refine(HR.out _).mono ?_
 rintro e w2 ⟨rfl,zy⟩;have y:=aH (zu.below zy (bI.refl _ _));have zj:=aH (zk.below zy);have Q:=aH (S.below zy);clear zy zu zk S o0 o1 o2 yj HD;have yi:w2.cell? ⟨p,17+t,none⟩=some (.pointer (some ⟨pt t,0,none⟩)):=by rw[y.sh.cell,BN _ _ _ _ _ _ ht];rfl
 have yh:=y.sh.lt;have t4:(t:Int)<4:=I;have P:=Q.out.2.lt;have o0:w2.cell? ⟨V,0,none⟩=some (.int .i64 a):=Q.cell 0;have o1:w2.cell? ⟨V,1,none⟩=some (.int .i64 k):=Q.cell 1;have o2:w2.cell? ⟨V,2,none⟩=some (.int .i64 v):=Q.cell 2;obtain⟨e,R,cr,D,cd,rows,q,_⟩:=y.th_ t ht trivial;have x:=aH q;have q6:w2.cell? ⟨pt t,6,none⟩=some (.int .i64 (F.tgl t)):=by rw[q.blk.cell];rfl
 have zi:=q.blk.lt;have O:¬cI (pt t) V:=fun e=>by have e':V=pt t:=e;have h1:=Q.out.1;have h2:=q.tg;rw[e']at h1;omega
 clear q;have k1:IntKind.i64.wrap (1-F.tgl t)=1-F.tgl t:=by rcases zt.tg t ht with e|e<;>rw[e]<;>rfl
 go_upto_region 8 with(fail)
 refine bK 11 (cI (pt t)) [10] J J ?_
 iterate 6
  refine aR ?_;constructor
  .intro w9 hw9 z;refine aS ?_;have x0:=(hw9.cell (p:=⟨V,0,none⟩) P O).trans o0;have x1:=(hw9.cell (p:=⟨V,1,none⟩) P O).trans o1;have x2:=(hw9.cell (p:=⟨V,2,none⟩) P O).trans o2;refine aW ?_;go_simp
   first
   |exact aE
 first|(with_reducible refine aC (fun K hK=>?_))|(refine aC (fun K hK=>?_))
 refine .inl ?_;apply Exists.intro;refine⟨cX,?_,hK _ _ _ _ ?_⟩
 .simp only[bJ,bM];refine⟨?_,fun w9 hw9 z=>?_⟩
  .first|rfl|(go_simp;done)
  refine aS ?_;have x6:=((cA z.1 J).cell (p:=⟨pt t,6,none⟩) zi).trans q6;refine aW ?_;go_simp
  first
  |exact aE
 iterate 3
  clear hK K;refine aN ?_
  first|(with_reducible refine aC (fun K hK=>?_))|(refine aC (fun K hK=>?_))
  refine .inl ?_;apply Exists.intro;refine⟨cX,?_,hK _ _ _ _ ?_⟩
  .simp only[bJ,bM];refine⟨?_,fun w9 hw9 z=>?_⟩
   .first|rfl|(go_simp;done)
   refine aS ?_;have x0:=(hw9.cell (p:=⟨V,0,none⟩) P O).trans o0;have x1:=(hw9.cell (p:=⟨V,1,none⟩) P O).trans o1;have x2:=(hw9.cell (p:=⟨V,2,none⟩) P O).trans o2;refine aW ?_;go_simp
   first
   |exact aE
 clear hK K;refine aN ?_;refine bA undef (fun _ w'=>aY w' (pt t) 140 (vN t {F.th t with a:=a,k:=k,v:=v} (F.tgl t) (.slice R rows.length cr) (.slice D (F.th t).deeds.length cd) false)) ?_ ?_
 .intro w9 hw9 z;refine aS ?_;have HX:=aH (x.blk.below (cA z.1 J) x.blk.lt);have r2:w9.cell? ⟨pt t,2,none⟩=some (.int .i64 (F.th t).a):=by rw[HX.cell];rfl
  have r3:w9.cell? ⟨pt t,3,none⟩=some (.int .i64 (F.th t).k):=by rw[HX.cell];rfl
  have r4:w9.cell? ⟨pt t,4,none⟩=some (.int .i64 (F.th t).v):=by rw[HX.cell];rfl
  have e2:=HX.frozen 2;have e3:=HX.frozen 3;have e4:=HX.frozen 4;have xt:=HX.lt;refine aW ?_;go_simp;exact⟨⟨rfl,((HX.set_ 2 (.int .i64 a)).set_ 3 (.int .i64 k)).set_ 4 (.int .i64 v)⟩,(((bP _ (pt t) 2 _).setCell (p:=⟨pt t,3,none⟩) (.inl rfl) _).setCell (p:=⟨pt t,4,none⟩) (.inl rfl) _).mono fun b Y=>by first|exact Y|exact⟨by decide,Y⟩⟩
 refine aZ ?_;rintro w9 hw9 Z;refine aQ ?_;refine aS ?_;obtain⟨wx,k0,yp,hf⟩:=Z.1 rfl;have r:=aH (hf.below (cA yp J) hf.lt);clear Z hf k0 yp wx;have yg:=r.lt;have q5:w9.cell? ⟨pt t,5,none⟩=some (.int .i64 (F.th t).tg):=by rw[r.cell];rfl
 have f5:=r.frozen 5;have f:aD (cI (pt t)) w2 (w9.setCell ⟨pt t,5,none⟩ (.int .i64 (1-F.tgl t))):=hw9.trans (bP _ _ _ _);have zh:=aH (y.asked ht x a k v (1-F.tgl t) f (r.set_ 5 (.int .i64 (1-F.tgl t))));have zs:∀b,cI (pt t) b->yl b=110+t:=fun b Y=>by rw[show b=pt t from Y];exact x.tg
 have zg:=aH (zj.go (bI.refl _ _) f (fun b Y=>by unfold wM;rw[zs b Y];omega));have zf:=aH (Q.kept f (bI.refl _ _) (fun b Y=>by rw[zs b Y];omega));clear f zs r hw9 yi yh P o0 o1 o2 q6 zi y zj Q x O;refine aW ?_
 go_upto_region 9 with(fail)
 show Code.wp _ _ _ _ (w9.setCell ⟨pt t,5,none⟩ (.int .i64 (1-F.tgl t)));generalize w9.setCell ⟨pt t,5,none⟩ (.int .i64 (1-F.tgl t))=w4 at*;clear q5 f5 yg;refine aS ?_;obtain⟨yo,zw⟩:=zh.out;have ze:=aH yo;have zd:=aH (YQ zw p ht false);clear yo zw zh;refine aW ?_;go_wp2_with fail
 with_reducible refine zd.out.mono ?_
 rintro e w5 ⟨rfl,o,l,yn⟩;have L:=aH (ze.begun ht l yn rfl);have zc:=aH (zg.trans (l.mono (XQ ht)));have zb:=aH (zf.kept l.k l.t (fun b Y=>by unfold eJ at Y;omega));clear l yn ze zg zf zd;have yf:=L.sh.lt;have zz:w5.cell? ⟨p,21,none⟩=some (.int .i64 (F.steps:Int)):=by rw[L.sh.cell,xD]
 have ye:=L.sh.frozen 21;have xs:=zt.stp;have xr:=zt.hl;have k2:IntKind.i64.wrap ((F.steps:Int)+1)=(F.steps:Int)+1:=dE I I;have X:=aH (L.setSt (F.steps+1));have zr:∀b,cI p b->o b=102:=fun b Y=>by rw[show b=p from Y];exact L.tp
 have za:=aH (zc.go (bI.refl _ _) (bP w5 p 21 (.int .i64 ((F.steps+1:Nat):Int))) (fun b Y=>by unfold wM;rw[zr b Y];omega));have G:=aH (zb.kept (bP w5 p 21 (.int .i64 ((F.steps+1:Nat):Int))) (bI.refl _ _) (fun b Y=>by rw[zr b Y];omega));rw[show((F.steps+1:Nat):Int)=(F.steps:Int)+1 by omega]at X za G;clear L zc zb zr
 go_upto_region 11 with(fail)
 show Code.wp _ _ _ _ (w5.setCell ⟨p,21,none⟩ (.int .i64 ((F.steps:Int)+1)));generalize w5.setCell ⟨p,21,none⟩ (.int .i64 ((F.steps:Int)+1))=w6 at*;clear yf zz ye k2;have T:=X.sh.lt;have E:=G.out.2.lt;have zq:w6.cell? ⟨p,22,none⟩=some (.slice H F.hist.length ch):=by rw[X.sh.cell,QW]
 have zz:w6.cell? ⟨p,21,none⟩=some (.int .i64 ((F.steps:Int)+1)):=by rw[X.sh.cell,xD];rfl
 have o0:w6.cell? (V,0)=a:=G.cell 0;have o1:w6.cell? (V,1)=k:=G.cell 1;have o2:w6.cell? ⟨V,2,none⟩=some (.int .i64 v):=G.cell 2;have C:¬iI H p:=fun e=>by have:=X.tH p e;have:=X.tp;omega
 have B:¬iI H V:=fun e=>by have:=X.tH V e;have:=G.out.1;omega
 refine bK 14 (iI H) [13] J J ?_
 iterate 12
  refine aR ?_;constructor
  .intro w9 hw9 z;refine aS ?_;have yz:=(hw9.cell (p:=⟨p,22,none⟩) T C).trans zq;have yy:=(hw9.cell (p:=⟨p,21,none⟩) T C).trans zz;have yd:=(hw9.cell (p:=⟨V,0,none⟩) E B).trans o0;have yc:=(hw9.cell (p:=⟨V,1,none⟩) E B).trans o1;have yb:=(hw9.cell (p:=⟨V,2,none⟩) E B).trans o2;refine aW ?_;go_simp
   first
   |exact aE
 refine bC CK (DM 61 [.int .i64 1,.int .i64 (t:Int),.int .i64 a,.int .i64 k,.int .i64 v,.int .i64 0,.int .i64 0,.int .i64 0,.int .i64 ((F.steps:Int)+1)]) ⟨_,0,rfl⟩ ?_ ?_
 .intro w9 hw9 U;refine aS ?_;have yz:=(hw9.cell (p:=⟨p,22,none⟩) T C).trans zq;have yy:=(hw9.cell (p:=⟨p,21,none⟩) T C).trans zz;have yd:=(hw9.cell (p:=⟨V,0,none⟩) E B).trans o0;have yc:=(hw9.cell (p:=⟨V,1,none⟩) E B).trans o1;have yb:=(hw9.cell (p:=⟨V,2,none⟩) E B).trans o2;refine aW ?_;go_simp;exact⟨⟨⟨_,rfl⟩,⟨_,rfl,aY.new _ _ _⟩⟩,aD.of_same ((Below.refl _ _).alloc (Nat.le_refl _) _)⟩
 refine bD (DN (F.hist.length+1)) (fun vv w'=>∃A' c',vv=.slice A' (F.hist.length+1) c'/\cU w' 0 61 9 A' (F.hist.length+1) c' (F.hist++[[.int .i64 1,.int .i64 (t:Int),.int .i64 a,.int .i64 k,.int .i64 v,.int .i64 0,.int .i64 0,.int .i64 0,.int .i64 ((F.steps:Int)+1)]])/\∀b,iI A' b->iI H b\/w6<=b) ⟨_,none,0,rfl⟩ ?_ ?_
 .rintro _ ⟨g9,rfl⟩;refine⟨aF,fun w9 hw9 U=>?_⟩;refine aS ?_;have M:=U;have Z:=U.2;clear U;obtain⟨w0,k0,k1,g',hv,i⟩:=Z.1 J;cases hv;have xq:=hw9.size;have zp:=i.below (cA k1 J) i.lt;have ya:=aH (X.hi.below (cA M.1 J));clear Z M i k0 k1;refine aW ?_;refine iM (.tmp 53) (.tmp 61) rfl underlying65 HI HZ HS HY rfl aJ aJ (A:=H) (n:=F.hist.length) (c:=ch) (rows:=F.hist) rfl ya (g:=g9) (c':=1) rfl (ys:=[.int .i64 1,.int .i64 (t:Int),.int .i64 a,.int .i64 k,.int .i64 v,.int .i64 0,.int .i64 0,.int .i64 0,.int .i64 ((F.steps:Int)+1)]) rfl ?_ ?_ I (Nat.zero_le _) ?_
  .intro j hj;rw[zp.cell j];simp
  .intro u hu;simp only[List.mem_cons,List.not_mem_nil,or_false]at hu;rcases hu with rfl|rfl|rfl|rfl|rfl|rfl|rfl|rfl|rfl<;>rfl
  intro g' xn w' ho xy xx;refine⟨⟨⟨_,_,rfl⟩,⟨_,_,rfl,ho,fun b Y=>?_⟩⟩,xy.mono fun b Y=>⟨aJ,Y⟩⟩;obtain⟨a,ha,rfl⟩:=Y;cases ha;rcases xx with⟨a,ha,e⟩|e
  .exact .inl ⟨a,ha,e⟩
  exact .inr (by show w6<=g';omega)
 refine aZ ?_;rintro _ ⟨A9,c9,rfl⟩ _ ⟨g9,rfl⟩ w9 hw9 Z;refine aQ ?_;refine aS ?_;obtain⟨w0,k0,k1,A8,c8,xw,zv,ym⟩:=Z.2.1 rfl;cases xw;have yx:=aH (zv.below (cA k1 J));have yw:=aH ym;clear Z zv k0 k1 ym w0;have xB:=aH (X.event yx hw9 yw);have zx:=X.tH;have zo:=cO w6 o 103;have yv:∀b,cI p b->cG w6 o 103 b=102:=fun b Y=>by rw[show b=p from Y];exact(zo p T).trans X.tp
 have xz:=aH ((za.go zo hw9 (fun b Y=>by unfold wM;rw[zx b Y];omega)).go (bI.refl _ _) (bP w9 p 22 (.slice A9 (F.hist.length+1) c9)) (fun b Y=>by unfold wM;rw[yv b Y];omega));have xv:=(hw9.cell (p:=⟨p,22,none⟩) T C).trans zq;have xu:=(hw9.frozen (p:=⟨p,22,none⟩) T C).trans (X.sh.frozen 22);have xp:=Nat.lt_of_lt_of_le T hw9.size;clear hw9 yx yw zo yv zx;refine aW ?_;go_wp2;go_ret;refine⟨rfl,_,xz.out,n,mp,A9,c9,by have:=HN.out;show n<=F.steps+1;omega,?_⟩;have hx:=xB.out;rw[show [.int .i64 1,.int .i64 (t:Int),.int .i64 a,.int .i64 k,.int .i64 v,.int .i64 0,.int .i64 0,.int .i64 0,.int .i64 ((F.steps:Int)+1)]=yE 1 t a k v 0 0 0 ((F.steps+1:Nat):Int) by unfold yE;rw[show((F.steps+1:Nat):Int)=(F.steps:Int)+1 by omega]]at hx;exact hx
theorem Ge(h:kK w tag F p gs go pt)(Y:lM N F)(U:N<=100000000)(t a k v:Int):
 Calls prog 22 #[(p,0),t,.agg #[a,k,v]] w fun e w'=>e=.returned (F.callE t a k v)/\SI w tag (if F.callE t a k v=0 then F.call t.toNat a k v else F) p gs go pt w':=by
 unfold pH.callE;by_cases W:0<=t/\t<4
 .have e:((t.toNat:Nat):Int)=t:=I;rw[iN (fun q=>q W)];by_cases d:(F.th t.toNat).does=0
  .rw[iN (fun q=>q d)];cases ho:cB a k v with
   |false=>
    rw[iP rfl,iN aJ];have Z:=JD h Y (t:=t.toNat) I a k v d ho;rw[e]at Z;refine Z.mono ?_;rintro V w' ⟨rfl,X⟩;exact⟨rfl,SI.same h X⟩
   |true=>
    rw[iN aJ,iP rfl];have Z:=WX h Y U (t:=t.toNat) I a k v d ho;rw[e]at Z;exact Z
  rw[iP d,iN aJ];have Z:=MA h Y (t:=t.toNat) I a k v d;rw[e]at Z;refine Z.mono ?_;rintro V w' ⟨rfl,X⟩;exact⟨rfl,SI.same h X⟩
 rw[iP W,iN aJ];refine(SK p t a k v w W).mono ?_;rintro V w' ⟨rfl,X⟩;exact⟨rfl,SI.same h X⟩
end
section
variable{w:World}{tag:Nat->Nat}{F:pH}{p gs mp go:Nat}{pt:Nat->Nat}{N:Nat}
theorem EC{X:Nat->Prop}{s:cN}{th:Nat->cQ}{Z:Nat->Bool}{Y:Nat->List (List Value)}(h:RS X w tag m s th tgl Z st hist Y p gs mp go n pt H ch):Calls prog 42 #[(p,0)] w fun e w'=>e=.returned [s.now 0]/\w=w':=by
 have W:w.cell? (p,0)=(gs,0):=by rw[h.sh.cell,Dq];rfl
 have V:w.cell? (gs,0)=[s.now 0]:=by rw[h.st_.cell,KU _ _ I]
 have U:=h.sh.lt;have T:=h.st_.lt;clear h
 go_enter func42,ntmps42
 go_wp2;go_ret;exact⟨rfl,rfl⟩
theorem Ou(h:kK w tag F p gs go pt)(Z:lM N F):Calls prog 42 #[(p,0)] w fun e w'=>e=.returned [F.V]/\w=w':=by
 obtain⟨n,X,H,W,U,Y⟩:=h;have:=EC Y;rw[Z.inv.ver]at this;exact this
theorem Fr(h:kK w tag F p gs go pt)(Z:lM N F)(X:N<=100000000)(Y:AR F)(W:t<4)(d:(F.th t).does≠0):
 Calls prog 24 #[.pointer (some ⟨p,0,none⟩),.int .i64 (t:Int)] w fun e w'=>e=.returned (.tuple #[.agg #[.int .i64 (if(F.loc t).fin=true then(F.loc t).t.o1 else 0),.int .i64 (if(F.loc t).fin=true then(F.loc t).t.o2 else 0)],.bool (F.loc t).fin,.int .i64 0])/\SI w tag (F.step t) p gs go pt w':=by
 cases hf:(F.loc t).fin with
 |false=>simpa using YZ h Z X Y W d hf
 |true=>simpa using VG h Z X Y W d hf
structure aAT (w:World) (tag:Nat->Nat) (F0:pH) (t n N:Nat) (p gs go:Nat) (pt:Nat->Nat) (k:Nat) (wr:World) (tagr:Nat->Nat) (F:pH):Prop where
 rs:kK wr tagr F p gs go pt
 kg:Kg wM w tag wr tagr
 ok:lM (N+k) F
 sb:AR F
 r1:(pH.run t n F0).1=(pH.run t (n-k) F).1
 r2:(pH.run t n F0).2=(pH.run t (n-k) F).2+k
theorem aCk(h:kK w tag F p gs go pt)(D:lM N F)(a:N+1000<=100000000)(C:AR F)(z:t<4)(n:Nat)(hn:n<=1000):
 Calls prog 46 #[(p,0),t,n] w fun e w'=>e=.returned (.tuple #[((pH.run t n F).2:Int),(0:Int)])/\SI w tag (pH.run t n F).1 p gs go pt w':=by
 have Q:Hid (∃Z σr,aAT w tag F t n N p gs go pt 0 w Z σr):=aH ⟨tag,F,h,Kg.refl _ _ _,D,C,rfl,rfl⟩;have P:bV (t:Int) 0 3=true:=by unfold bV;rw[decide_eq_true_eq];omega
 have y:=aH P;have O:bV (n:Int) 0 1000=true:=by unfold bV;rw[decide_eq_true_eq];omega
 have x:=aH O;obtain⟨q,T⟩:=aO ((pH.run t n F).1);obtain⟨c1,S⟩:=aO ((pH.run t n F).2);rw[<-T,<-S];have M:=aH T;have L:=aH S;clear h D C T S P O
 go_enter func46,ntmps46
 go_wp2_with fail
 with_reducible refine(bQ _ _ _ _).mono ?_
 rintro e l ⟨rfl,rfl⟩;rw[y.out];go_wp2_with fail
 with_reducible refine(bQ _ _ _ _).mono ?_
 rintro e l ⟨rfl,rfl⟩;rw[x.out];go_wp2;obtain⟨A,rfl⟩:=aO (w:World)
 go_loopw [8] (fun i wr=>∃k:Nat,k<=n/\i=.int .i64 k/\Hid (∃Z σr,aAT A tag F t n N p gs go pt k wr Z σr)) (fun i _=>n-(intOf i).toNat)
 case atStart=>exact⟨0,I,rfl,Q⟩
 case round=>
  clear Q;obtain⟨k,b,rfl,H⟩:=hrel;obtain⟨Z,σr,X⟩:=H.out;have Y:=aH X;clear H X;by_cases f:k<n
  .have m:(k:Int)<n:=I;have B:=aH (xI Y.rs Y.ok z);by_cases d:(σr.th t).does=0
   .have R:=Mq t (n-k) σr d;have W:Hid (SI A tag q p gs go pt wr):=aH (by
     rw[M.out,Y.r1,R];exact⟨Z,Y.kg,Y.rs⟩)
    have V:Hid (c1=k):=aH (by rw[L.out,Y.r2,R];omega);have v:Hid (Calls prog 19 #[(p,0),t] wr fun e w'=>e=.returned (0:Int)/\wr=w'):=aH (by have:=B.out;rw[d]at this;exact this);clear B R d;go_wp2_with fail
    with_reducible refine v.out.mono ?_
    rintro e j ⟨rfl,rfl⟩;go_wp2
    go_ret2
    exact⟨by rw[V.out];rfl,W.out⟩
   have c:¬((σr.th t).does:Int)=0:=I;have K:=aH (Fr Y.rs Y.ok I Y.sb z d);have U:=aH d;clear d;go_wp2_with fail
   with_reducible refine B.out.mono ?_
   rintro e j ⟨rfl,rfl⟩;go_wp2_with fail
   with_reducible refine K.out.mono ?_
   rintro e g ⟨rfl,G⟩;have u:Hid (∃Z σr,aAT A tag F t n N p gs go pt (k+1) g Z σr):=aH (by
    obtain⟨E,s,r⟩:=G;obtain⟨R,o⟩:=Mw t (n-k-1) σr U;rw[show n-k-1+1=n-k by omega]at R o;refine⟨E,σr.step t,r,Y.kg.trans s,FY (N:=N+k) Y.ok z U I,PK Y.sb Y.ok.inv.ok z,?_,?_⟩
    .rw[Y.r1,R,show n-(k+1)=n-k-1 by omega]
    rw[Y.r2,o,show n-(k+1)=n-k-1 by omega];omega)
   clear G K B U;go_wp2;go_roundw
   case rel=>exact⟨k+1,I,aG,u⟩
   case measure=>simp [intOf];omega
  obtain rfl:k=n:=I;have m:¬(k:Int)<k:=I;have W:Hid (SI A tag q p gs go pt wr):=aH (by
   rw[M.out,Y.r1,Nat.sub_self];exact⟨Z,Y.kg,Y.rs⟩)
  have V:Hid (c1=k):=aH (by rw[L.out,Y.r2,Nat.sub_self];show 0+k=k;omega);go_wp2
  go_ret2
  exact⟨by rw[V.out];rfl,W.out⟩
theorem aCE(p:Nat)(t n:Int)(w:World)(X:¬(0<=t/\t<4)):Calls prog 46 #[(p,0),t,n] w fun e w'=>e=.returned (.tuple #[(0:Int),(2:Int)])/\w=w':=by
 have Z:bV t 0 3=false:=by unfold bV;rw[decide_eq_false_iff_not];omega
 have Y:=aH Z;clear Z X
 go_enter func46,ntmps46
 go_wp2_with (go_at_call 55;refine(bQ _ _ _ _).mono ?_;rintro e w' ⟨rfl,rfl⟩;rw[Y.out])
 go_ret2
 exact⟨rfl,rfl⟩
theorem aBy(p:Nat)(t n:Int)(w:World)(U:0<=t/\t<4)(T:¬(0<=n/\n<=1000)):Calls prog 46 #[(p,0),t,n] w fun e w'=>e=.returned (.tuple #[(0:Int),(1:Int)])/\w=w':=by
 have Z:bV t 0 3=true:=by unfold bV;rw[decide_eq_true_eq];omega
 have X:=aH Z;have Y:bV n 0 1000=false:=by unfold bV;rw[decide_eq_false_iff_not];omega
 have W:=aH Y;clear Z Y U T
 go_enter func46,ntmps46
 go_wp2_with fail
 with_reducible refine(bQ _ _ _ _).mono ?_
 rintro e V ⟨rfl,rfl⟩;rw[X.out];go_wp2_with fail
 with_reducible refine(bQ _ _ _ _).mono ?_
 rintro e V ⟨rfl,rfl⟩;rw[W.out];go_wp2
 go_ret2
 exact⟨rfl,rfl⟩
def lG(t n:Int):Int:=if¬(0<=t/\t<4)then 2 else if¬(0<=n/\n<=1000)then 1 else 0
theorem aCu(h:kK w tag F p gs go pt)(Y:lM N F)(V:N+1000<=100000000)(X:AR F)(t n:Int):
 Calls prog 46 #[.pointer (some ⟨p,0,none⟩),.int .i64 t,.int .i64 n] w fun e w'=>e=.returned (.tuple #[.int .i64 (if lG t n=0 then((pH.run t.toNat n.toNat F).2:Int)else 0),.int .i64 (lG t n)])/\SI w tag (if lG t n=0 then(pH.run t.toNat n.toNat F).1 else F) p gs go pt w':=by
 by_cases Z:0<=t/\t<4
 .by_cases hn:0<=n/\n<=1000
  .have e:lG t n=0:=by unfold lG;rw[if_neg (fun q=>q Z),if_neg (fun q=>q hn)]
   rw[e,if_pos rfl,if_pos rfl];have W:=aCk h Y V X (t:=t.toNat) (by omega) n.toNat (by omega);rw[show((t.toNat:Nat):Int)=t by omega,show((n.toNat:Nat):Int)=n by omega]at W;exact W
  .have e:lG t n=1:=by unfold lG;rw[if_neg (fun q=>q Z),if_pos hn]
   rw[e,if_neg (by decide),if_neg (by decide)];refine(aBy p t n w Z hn).mono ?_;rintro e w' ⟨rfl,rfl⟩;exact⟨rfl,SI.same h (Below.refl _ _)⟩
 .have e:lG t n=2:=by unfold lG;rw[if_pos Z]
  rw[e,if_neg (by decide),if_neg (by decide)];refine(aCE p t n w Z).mono ?_;rintro e w' ⟨rfl,rfl⟩;exact⟨rfl,SI.same h (Below.refl _ _)⟩
