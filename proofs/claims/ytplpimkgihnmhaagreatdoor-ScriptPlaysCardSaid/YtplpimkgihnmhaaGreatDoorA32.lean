/-
  Parts of a proof. For all values.
-/
import Derived.Test.YtplpimkgihnmhaaGreatDoorA31
set_option maxRecDepth 100000
set_option maxHeartbeats 4000000
set_option linter.all false
namespace Go.Proofs.YtplpimkgihnmhaaGreatDoor
open Go.Proofs.Tryz Go.RowKit
section
attribute [local go_sem↓] Go.wp_at_zero Go.wp_at_succ
section
variable{w w':World}{tag tag':Nat->Nat}{F:pH}{p gs mp go:Nat}{pt:Nat->Nat}{N:Nat}{m:Nat->Int}{s:cN}{th:Nat->cQ}{tgl:Nat->Int}{fins:Nat->Bool}{st:Nat}{hist:List (List Value)}{of:Nat->List (List Value)}{n:Nat}{H:Option Addr}{ch:Nat}
theorem RS.fell{s':cN}{X:Nat}(h:RS IR w tag m s th tgl fins st hist of p gs mp go n pt H ch)(S:w<=X)(R:aY w' gs 74 (kD s' X))(Q:gP s'.want X 0 w')(W:aD (nQ gs) w w'):RS IR w' (cG w tag 101) m s' th tgl fins st hist of p gs X go n pt H ch:=by
 have Z:=cO w tag 101;have Y:∀b,nQ gs b->tag b=100:=fun b V=>by rw[show b=gs from V];exact h.ts
 refine⟨(W.block p h.sh.lt fun e=>by have:=Y _ e;have:=h.tp;omega).trans h.sh,R,Q.mono (Nat.zero_le _),h.om.kept W Z (fun b e=>by have:=Y b e;omega),h.hi.keptT W h.tH (fun b e=>by have:=Y b e;omega),(Z p h.sh.lt).trans h.tp,(Z gs h.st_.lt).trans h.ts,dT _ _ _ S,h.hi.tagT Z h.tH,fun u U T=>(h.th_ u U T).kept W Z (fun b e=>by have:=Y b e;omega)⟩
def kU(v:Int):Array Value:= #[.int .u64 0,[v],.int .u64 0,.int .u64 0,.int .u64 0,.int .u64 0,.int .u64 0,.int .u64 0,.int .u64 0,.int .u64 0,.int .u64 0,.int .u64 0,.int .u64 0,.int .u64 0,.int .u64 0,.int .u64 0]
theorem aAa(v:Int){i:Nat}(h:i<16):(kU v)[i]? =some (.int .u64 (kA v i)):=by
 rcases(by omega:i=0\/i=1\/i=2\/i=3\/i=4\/i=5\/i=6\/i=7\/i=8\/i=9\/i=10\/i=11\/i=12\/i=13\/i=14\/i=15)with rfl|rfl|rfl|rfl|rfl|rfl|rfl|rfl|rfl|rfl|rfl|rfl|rfl|rfl|rfl|rfl<;>rfl
theorem aAY(W:Nat)(m:Nat->Int)(V:Nat->Nat)(U:Int)(E O:Value)(v:Int):fF (yJ W m V U E O) 1 (kU v).toList=yJ W (kA v) V U E O:=by
 refine Array.ext_getElem? fun i=>?_
 have T:(yJ W m V U E O).size=24:=Cv _ _ _ _ _ _;by_cases X:i<24
 .rw[iR _ _ _ _ (by rw[T];exact X)];rw[yJ,cW X,yJ,cW X];by_cases Z:1<=i/\i<1+(kU v).toList.length
  .rw[iP Z];have S:i<17:=by have:(kU v).toList.length=16:=rfl;rw[this]at Z;omega
   rw[Array.getElem?_toList,aAa v (i:=i-1) I];unfold As;rw[iN I,iP S]
  rw[iN Z];have S:¬(1<=i/\i<17):=by have:(kU v).toList.length=16:=rfl;rw[this]at Z;omega
  unfold As;by_cases Y:i=0
  .rw[iP Y,iP Y]
  have R:¬i<17:=I;rw[iN Y,iN Y,iN R,iN R]
 rw[Array.getElem?_eq_none (by rw[fA,T];omega),Array.getElem?_eq_none (by rw[Cv];omega)]
theorem aBd(v:Int):(prog.info? 32).map (·.size)=some (kU v).size:=J
theorem aAW(v:Int):(kU v).all (·.oneCell')=true:=J
theorem aCs(Z:Nat->Nat){k:Nat}(h:k<4)(w:World):(Instr.index 64 (.agg #[(Z 0,0),(Z 1,0),(Z 2,0),(Z 3,0)]) k).run prog w=.ok (Z k,0) w:=by
 rcases(by omega:k=0\/k=1\/k=2\/k=3)with rfl|rfl|rfl|rfl
 all_goals kernel_rfl
structure aBt (w:World) (tag:Nat->Nat) (m:Nat->Int) (s:cN) (th:Nat->cQ) (tgl:Nat->Int) (st:Nat) (hist:List (List Value)) (of:Nat->List (List Value)) (p gs mp go n:Nat) (pt:Nat->Nat) (H:Option Addr) (ch:Nat) (k:Nat) (wr:World) (tagr:Nat->Nat):Prop where
 rs:RS IR wr tagr m s (fallK th k) tgl (fun _=>false) st hist of p gs mp go n pt H ch
 kg:Kg wM w tag wr tagr
theorem aBX(h:kK w tag F p gs go pt)(f:lM N F)(hN:N+1<=100000000)(x:Nat)(hx:x<18446744073709551616):
 Calls prog 49 #[(p,0),[x]] w fun e w'=>e=.returned (.tuple #[])/\SI w tag (F.crash x) p gs go pt w':=by
 obtain⟨n,mp,H,ch,hn,hr⟩:=h;have ye:=aH hr;have HN:=aH hn;have zo:=aH f.inv;have xt:=f.stp;have xs:=f.hl;have yd:=hr.sh.lt;have E:w.cell? ⟨p,21,none⟩=some (.int .i64 (F.steps:Int)):=by rw[hr.sh.cell,xD]
 have yc:=hr.sh.frozen 21;have k1:IntKind.i64.wrap ((F.steps:Int)+1)=(F.steps:Int)+1:=dE I I;have Y:=aH (hr.setSt (F.steps+1));have zn:∀b,cI p b->tag b=102:=fun b U=>by rw[show b=p from U];exact hr.tp
 have zv:=aH ((Kg.refl wM w tag).go (bI.refl _ _) (bP w p 21 (.int .i64 ((F.steps+1:Nat):Int))) (fun b U=>by unfold wM;rw[zn b U];omega));rw[show((F.steps+1:Nat):Int)=(F.steps:Int)+1 by omega]at Y zv;obtain⟨i0,yu,yt,yr,yq⟩:=EH;have HI:=aH yu;have HZ:=aH yt;have HS:=aH yr;have HY:=aH yq;clear yu yt yr yq hr hn zn ye f
 go_enter func49,ntmps49
 go_upto_region 1 with(fail)
 show Code.wp _ _ _ _ (w.setCell ⟨p,21,none⟩ (.int .i64 ((F.steps:Int)+1)));generalize w.setCell ⟨p,21,none⟩ (.int .i64 ((F.steps:Int)+1))=w2 at*;clear yd E yc k1;have X:=Y.sh.lt;have y:w2.cell? ⟨p,22,none⟩=some (.slice H F.hist.length ch):=by rw[Y.sh.cell,QW]
 have E:w2.cell? ⟨p,21,none⟩=some (.int .i64 ((F.steps:Int)+1)):=by rw[Y.sh.cell,xD];rfl
 have T:¬iI H p:=fun e=>by have:=Y.tH p e;have:=Y.tp;omega
 refine bK 12 (iI H) [11] J J ?_
 iterate 10
  refine aR ?_;constructor
  .intro w9 hw9 hm9;refine aS ?_;have zm:=(hw9.cell (p:=⟨p,22,none⟩) X T).trans y;have zl:=(hw9.cell (p:=⟨p,21,none⟩) X T).trans E;refine aW ?_;go_simp
   first
   |exact aE
 refine bC CK (DM 61 [.int .i64 3,.int .i64 0,.int .i64 0,.int .i64 0,.int .i64 0,.int .i64 0,.int .i64 0,.int .i64 0,.int .i64 ((F.steps:Int)+1)]) ⟨_,0,rfl⟩ ?_ ?_
 .intro w9 hw9 W;refine aS ?_;have zm:=(hw9.cell (p:=⟨p,22,none⟩) X T).trans y;have zl:=(hw9.cell (p:=⟨p,21,none⟩) X T).trans E;refine aW ?_;go_simp;exact⟨⟨⟨_,rfl⟩,⟨_,rfl,aY.new _ _ _⟩⟩,aD.of_same ((Below.refl _ _).alloc (Nat.le_refl _) _)⟩
 refine bD (DN (F.hist.length+1)) (fun vv w'=>∃A' c',vv=.slice A' (F.hist.length+1) c'/\cU w' 0 61 9 A' (F.hist.length+1) c' (F.hist++[[.int .i64 3,.int .i64 0,.int .i64 0,.int .i64 0,.int .i64 0,.int .i64 0,.int .i64 0,.int .i64 0,.int .i64 ((F.steps:Int)+1)]])/\∀b,iI A' b->iI H b\/w2<=b) ⟨_,none,0,rfl⟩ ?_ ?_
 .rintro _ ⟨g9,rfl⟩;refine⟨aF,fun w9 hw9 W=>?_⟩;refine aS ?_;have O:=W;have V:=W.2;clear W;obtain⟨w0,k0,k1,g',hv,B⟩:=V.1 J;cases hv;have xr:=hw9.size;have zu:=B.below (cA k1 J) B.lt;have yb:=aH (Y.hi.below (cA O.1 J));clear V O B k0 k1;refine aW ?_;refine iM (.tmp 17) (.tmp 23) rfl underlying65 HI HZ HS HY rfl aJ aJ (A:=H) (n:=F.hist.length) (c:=ch) (rows:=F.hist) rfl yb (g:=g9) (c':=1) rfl (ys:=[.int .i64 3,.int .i64 0,.int .i64 0,.int .i64 0,.int .i64 0,.int .i64 0,.int .i64 0,.int .i64 0,.int .i64 ((F.steps:Int)+1)]) rfl ?_ ?_ I (Nat.zero_le _) ?_
  .intro j hj;rw[zu.cell j];simp
  .intro u hu;simp only[List.mem_cons,List.not_mem_nil,or_false]at hu;rcases hu with rfl|rfl|rfl|rfl|rfl|rfl|rfl|rfl|rfl<;>rfl
  intro g' xo w' ho xw xv;refine⟨⟨⟨_,_,rfl⟩,⟨_,_,rfl,ho,fun b U=>?_⟩⟩,xw.mono fun b U=>⟨aJ,U⟩⟩;obtain⟨a,ha,rfl⟩:=U;cases ha;rcases xv with⟨a,ha,e⟩|e
  .exact .inl ⟨a,ha,e⟩
  exact .inr (by show w2<=g';omega)
 refine aZ ?_;rintro _ ⟨m,l,rfl⟩ _ ⟨g9,rfl⟩ w9 hw9 V;refine aQ ?_;refine aS ?_;obtain⟨w0,k0,k1,A8,c8,xu,zy,yp⟩:=V.2.1 rfl;cases xu;have zk:=aH (zy.below (cA k1 J));have zj:=aH yp;clear V zy k0 k1 yp w0;have M:=aH (Y.event zk hw9 zj);have zz:=Y.tH;have zt:=cO w2 tag 103;have zi:∀b,cI p b->cG w2 tag 103 b=102:=fun b U=>by rw[show b=p from U];exact(zt p X).trans Y.tp
 have zh:=aH ((zv.go zt hw9 (fun b U=>by unfold wM;rw[zz b U];omega)).go (bI.refl _ _) (bP w9 p 22 (.slice m (F.hist.length+1) l)) (fun b U=>by unfold wM;rw[zi b U];omega));have zg:=(hw9.cell (p:=⟨p,22,none⟩) X T).trans y;have zf:=(hw9.frozen (p:=⟨p,22,none⟩) X T).trans (Y.sh.frozen 22);have ya:=Nat.lt_of_lt_of_le X hw9.size;clear hw9 zk zj zt zi zz Y zv y E T X;refine aW ?_
 go_upto_region 2 with(fail)
 show Code.wp _ _ _ _ (w9.setCell (p,22) (.slice m (F.hist.length+1) l));generalize w9.setCell (p,22) (.slice m (F.hist.length+1) l)=w3 at*;generalize cG w2 tag 103=zx at*;clear zg zf ya;have c0:w3.cell? (p,0)=(gs,0):=by rw[M.sh.cell,Dq];rfl
 have xB:=M.sh.lt;have ze:=aH (aCA gs mp x F.s w3 M.st_ hx);go_wp2_with fail
 with_reducible refine ze.out.mono ?_
 rintro e w4 ⟨rfl,m',yo,yn,ym,zr⟩;have L:=aH (M.fell yo yn ym zr);have zd:=aH (zh.go (cO w3 zx 101) zr (fun b U=>by rw[show b=gs from U];unfold wM;rw[M.ts];omega));clear yo yn ym zr M zh ze c0 xB;generalize cG w3 zx 101=zw at*;have HV:=aH (EC L);obtain⟨v,hv⟩:=aO ((F.s.crash x).now 0);rw[<-hv]at HV;have xz:=aH hv;clear hv;have zc:Hid (w4.there p 1 (kU v).size):=aH (L.sh.there (by rw[Cv];show 1+16<=24;omega));have C:aD (cI p) w4 (w4.setCells p 1 (kU v).toList):=cE (S:=cI p) (.inl rfl) 1 _;have Q:Hid (RS IR (w4.setCells p 1 (kU v).toList) zw (kA v) (F.s.crash x) F.th F.tgl (fun _=>false) (F.steps+1) _ F.of p gs m' go n pt m l):=aH (L.shop C (by
  have:=aY.setCells (vs:=(kU v).toList) (o:=1) L.sh;rw[aAY]at this;exact this))
 have zb:=aH (zd.go (bI.refl _ _) C (fun b U=>by rw[show b=p from U];unfold wM;rw[L.tp];omega));have za:=aH (aBd v);have yz:=aH (aAW v);clear C;go_wp2_with fail
 with_reducible refine HV.out.mono ?_
 rintro e xn ⟨rfl,rfl⟩
 go_wp2_with (with_reducible refine oI 32 p 1 (kU v) J J zc.out za.out yz.out ?_;generalize w4.setCells p 1 (kU v).toList=w5 at*;have t0:w5.cell? (p,17)=(pt 0,0):=(Q.out.sh.cell 17).trans (BN (t:=0) _ _ _ _ _ _ I);have t1:w5.cell? (p,18)=(pt 1,0):=(Q.out.sh.cell 18).trans (BN (t:=1) _ _ _ _ _ _ I);have t2:w5.cell? (p,19)=(pt 2,0):=(Q.out.sh.cell 19).trans (BN (t:=2) _ _ _ _ _ _ I);have t3:w5.cell? (p,20)=(pt 3,0):=(Q.out.sh.cell 20).trans (BN (t:=3) _ _ _ _ _ _ I);have xy:=Q.out.sh.lt)
 have yy:Hid (∃Z,aBt w tag (kA v) (F.s.crash x) F.th F.tgl (F.steps+1) (F.hist++[[.int .i64 3,.int .i64 0,.int .i64 0,.int .i64 0,.int .i64 0,.int .i64 0,.int .i64 0,.int .i64 0,.int .i64 ((F.steps:Int)+1)]]) F.of p gs m' go n pt m l 0 w5 Z):=aH ⟨zw,Q.same (fun u _=>iN I) (fun _ _=>rfl) (fun _ _=>rfl),zb.out⟩;clear L zd Q zb HV zc za yz xy;clear t0 t1 t2 t3;have HL:Hid (∀k:Nat,k<4->∀w,(Instr.index 64 (.agg #[(pt 0,0),(pt 1,0),(pt 2,0),(pt 3,0)]) k).run prog w=.ok (pt k,0) w):=aH (fun k hk w=>aCs pt hk w)
 go_loopw [43] (fun i wr=>∃k:Nat,k<=4/\i=.int .i64 k/\Hid (∃Z,aBt w tag (kA v) (F.s.crash x) F.th F.tgl (F.steps+1) (F.hist++[[.int .i64 3,.int .i64 0,.int .i64 0,.int .i64 0,.int .i64 0,.int .i64 0,.int .i64 0,.int .i64 0,.int .i64 ((F.steps:Int)+1)]]) F.of p gs m' go n pt m l k wr Z)) (fun i _=>4-(intOf i).toNat)
 case atStart=>exact⟨0,I,rfl,yy⟩
 case round=>
  clear yy;obtain⟨k,hk,rfl,yl⟩:=hrel;obtain⟨Z,yk⟩:=yl.out;have z:=aH yk;clear yl yk;by_cases G:k<4
  .have q3:(k:Int)<4:=I;have xq:=HL.out k G;obtain⟨e,R,cr,D,cd,rows,K,P,zq,yj,yi⟩:=z.rs.th_ k G trivial;rw[Dy]at K P zq;have q:wr.cell? (pt k,1)=some (.slice R rows.length cr):=by rw[K.blk.cell];rfl
   have xp:=K.blk.lt;by_cases d:(F.th k).does=0
   .rw[QS d]at P;have xx:rows=[]:=by cases rows with|nil=>rfl|cons _ _=>exact P.elim
    subst xx;have yx:wr.cell? (pt k,1)=some (.slice R 0 cr):=q;have zs:Hid (∃Z,aBt w tag (kA v) (F.s.crash x) F.th F.tgl (F.steps+1) (F.hist++[[.int .i64 3,.int .i64 0,.int .i64 0,.int .i64 0,.int .i64 0,.int .i64 0,.int .i64 0,.int .i64 0,.int .i64 ((F.steps:Int)+1)]]) F.of p gs m' go n pt m l (k+1) wr Z):=aH ⟨Z,by rw[<-EQ F.th k d];exact z.rs,z.kg⟩;clear K P zq yj yi q d z;go_wp2;go_roundw
    case rel=>exact⟨k+1,I,aG,zs⟩
    case measure=>simp [intOf];omega
   obtain⟨c,cs,yh,_⟩:=uW zo G d;rw[yh]at P;cases rows with
   |nil=>exact P.elim
   |cons r rows=>
    have yx:wr.cell? (pt k,1)=some (.slice R (rows.length+1) cr):=q;have q5:(0:Int)<(rows.length:Int)+1:=I;have yw:=aH (YQ K p G true);have yv:=aH d;clear K P zq yj yi q d yh;go_wp2_with fail
    with_reducible refine yw.out.mono ?_
    rintro e2 w6 ⟨rfl,yg,zp,yf⟩;have zs:Hid (∃Z,aBt w tag (kA v) (F.s.crash x) F.th F.tgl (F.steps+1) (F.hist++[[.int .i64 3,.int .i64 0,.int .i64 0,.int .i64 0,.int .i64 0,.int .i64 0,.int .i64 0,.int .i64 0,.int .i64 ((F.steps:Int)+1)]]) F.of p gs m' go n pt m l (k+1) w6 Z):=aH ⟨yg,by rw[<-FC F.th k yv.out];exact(z.rs.less (TP k)).begun G zp yf rfl,z.kg.trans (zp.mono (XQ G))⟩;clear zp yf yw z yv;go_wp2;go_roundw
    case rel=>exact⟨k+1,I,aG,zs⟩
    case measure=>simp [intOf];omega
  obtain rfl:k=4:=I;have HF:Hid (SI w tag (F.crash x) p gs go pt wr):=aH ⟨Z,z.kg,n,m',m,l,by have:=HN.out;show n<=F.steps+1;omega,by
   have hx:=z.rs.same (th':=(F.crash x).th) (tgl':=(F.crash x).tgl) (fins':=fun _=>false) (fun u hu=>(iP hu).symm) (fun _ _=>rfl) (fun _ _=>rfl);rw[xz.out,show [.int .i64 3,.int .i64 0,.int .i64 0,.int .i64 0,.int .i64 0,.int .i64 0,.int .i64 0,.int .i64 0,.int .i64 ((F.steps:Int)+1)]=yE 3 0 0 0 0 0 0 0 ((F.steps+1:Nat):Int) by unfold yE;rw[show((F.steps+1:Nat):Int)=(F.steps:Int)+1 by omega]]at hx;exact hx⟩
  clear z;go_wp2;exact bodyPost_end (v:=.tuple #[]) (by simp [results,results49,go_sem]) rfl ⟨rfl,HF.out⟩
