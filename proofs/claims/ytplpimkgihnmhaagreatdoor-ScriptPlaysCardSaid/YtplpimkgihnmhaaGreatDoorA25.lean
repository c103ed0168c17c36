/-
  Parts of a proof. For all values.
-/
import Derived.Test.YtplpimkgihnmhaaGreatDoorA20
import Derived.Test.YtplpimkgihnmhaaGreatDoorA24
set_option maxRecDepth 100000
set_option maxHeartbeats 4000000
set_option linter.all false
namespace Go.Proofs.YtplpimkgihnmhaaGreatDoor
open Go.Proofs.Tryz Go.RowKit
variable{z:Nat->Int}{P:Nat->Prop}{w:World}{R:Array Value}
section
attribute [local go_sem↓] Go.wp_at_zero Go.wp_at_succ
theorem kY{P:Program}{fn:Func}{p q s:Tmp}{ty:TypeId}(h:fn.results= #[.tmp q,.tmp s,.cell p ty])(Z:Array Value)(w:World)(g:Nat)(t:TypeId)(cs:Array Value)(d:TypeDesc)(v u:Value)
 (V:Z.getD q undef=v) (U:Z.getD s undef=u) (T:Z.getD p undef=.pointer (some ⟨g,0,none⟩)) (S:aY w g t cs)
 (R:P.underlying ty=some d) (Q:(match d with|.struct _|.array _ _=>true|_=>false)=true) (O:(P.info? ty).map (·.size)=some cs.size):
 (results fn Z).run P w=.ok (.tuple #[v,u,.agg cs]) w:=by
 have Y:Z[p]?.getD undef=.pointer (some ⟨g,0,none⟩):=by simpa using T
 have X:Z[q]?.getD undef=v:=by simpa using V
 have W:Z[s]?.getD undef=u:=by simpa using U
 simp [results,h,Y,X,W,asAddr,run_loadVar_row w g t ty cs (0,0) d S R Q O]
theorem VB(w:World):Calls prog 168 #[] w fun e w'=>e=.returned (.agg #[.int .i64 0,.int .i64 (-1)])/\Below w.heap.size w w':=by
 go_enter func168,ntmps168
 go_wp2
 go_returns
 exact⟨rfl,by go_grown⟩
theorem OH:(prog.info? 159).map (fun i=>(i.zero,i.size,i.bytes))=some (some (.agg #[(0:Int),(0:Int),(0:Int),(0:Int),(0:Int),(0:Int)]),6,48):=J
theorem IJ:∃Z,prog.info? 159=some Z/\Z.zero=some (.agg #[(0:Int),(0:Int),(0:Int),(0:Int),(0:Int),(0:Int)])/\Z.size=6/\Z.bytes=48:=by
 have h:=OH;cases hq:prog.info? 159 with
 |none=>simp [hq]at h
 |some i=>simp [hq]at h;exact⟨i,rfl,h.1,h.2.1,h.2.2⟩
theorem qD(x y:Int):(#[x,y]:Array Value).all (·.oneCell')=true:=J
theorem DD{z':Nat->Int}{kind:Int}{C:Array Value}(h:∀i,i<17->z' i=z i)(Z:cK kind z)(x:fG P kind z C w):fG P kind z' C w:=by
 unfold fG cK at*;split
 .rename_i e;rw[iP e]at x;exact x.congrD fun i U=>h i I
 rename_i e;rw[iN e]at x Z;split
 .rename_i e6;rw[iP e6]at x;rw[h 0 I];exact x
 rename_i e6;rw[iN e6]at x Z;have V:z 0<=6:=by
  split at Z
  .exact Z.1.1
  exact Z.2.2.1
 obtain⟨A,c,Y,X,W⟩:=x;rw[h 0 I];refine⟨A,c,Y,?_,W⟩;unfold zL at*;rw[h 0 I,zH h I];exact X
def vT(P:Nat->Prop)(z:Nat->Int)(R:Array Value)(w:World):Prop:=uD R (R.extract 0 19) (nV z) (nW z) (nL z) (jA z) (z 27) (z 28)/\fG P (z 0) (oz z) (R.extract 0 19) w
theorem OY(y:Nat->Int)(t:Nat)(Z Y:Int)(Q:eE z)(O:∀i,i<32->0<=z i)(X:t<4)(U:cK (z 0) y)(W:nA Z Y)
 (T:uD R (R.extract 0 19) (tT (nV z) t Z) (tT (nW z) t Y) (tT (nL z) t (z 28+1)) (tT (jA z) t (1-jA z t)) (z 27) (z 28+1)) (S:fG P (z 0) y (R.extract 0 19) w):vT P (fT z y t Z Y) R w:=by
 refine⟨?_,?_⟩
 .rw[wR y t Z Y X,sU y t Z Y X];exact T.congr (FF y t Z Y X W) (CY y t Z Y X W) (PV y t Z Y X) (VH y t Z Y X)
 rw[LD];exact DD (fun i V=>EL y t Z Y i V) U S
theorem PH(P:Nat->Prop)(R:Array Value)(z:Nat->Int)(t:Nat)(a k v:Int)(w:World)(Y:eE z)(W:∀i,i<32->0<=z i/\z i<18446744073709551616)(h:vT P z R w)(F:R.all (·.oneCell')=true)(E:∀b,w.heap.size<=b->P b)(T:t<4)(S:gQ a k v):
 Calls prog 167 #[.agg R,t,.agg #[a,k,v]] w fun e w'=>Below w w w'/\∃Z,Z.size=37/\Z.all (·.oneCell')=true/\e=.returned (.agg Z)/\vT P (dZ z t a k v) Z w':=by
 obtain⟨V,D,C⟩:=sY Y;obtain⟨O,B,N⟩:=zC Y W S;have Q:=BT P R (oz z) (z 0) a k v (mO z a k) _ _ _ _ _ _ t w h.1 F h.2 E (fun i U=>W (1+i) I) (by rw[<-V];exact Y.1.1) S (by rw[<-V];exact QD Y a k) T ⟨(W 28 aJ).1,Y.1.2.2.1⟩ (by unfold jA;split<;>simp)
 refine Q.mono fun e w' ⟨M,Z,L,X,K,H,G⟩=>⟨M,Z,L,X,K,?_⟩
 unfold dZ dY dC dV;unfold dY dC dV at*;rw[V]at*;exact OY _ t _ _ Y (fun i U=>(W i U).1) T O N H G
def ZM(f:Nat->Nat->Int)(z:Nat->Int)(n:Nat)(w:World)(e:Ending)(w':World):Prop:=
 Below w w w'/\((∃k,k<n/\(∀j,j<k->gR (bz f z j) (f j)=0)/\gR (bz f z k) (f k)≠0/\e=.returned (.tuple #[.slice none 0 0,.slice none 0 0,.agg #[(gR (bz f z k) (f k)),k]]))\/
  ((∀j,j<n->gR (bz f z j) (f j)=0)/\∃g D A c,e=.returned (.tuple #[.slice (some ⟨g,0,none⟩) 32 32,.slice A (bd f z n).length c,.agg #[.int .i64 0,.int .i64 (-1)]])/\aY w' g 23 D/\cH D 32 (dW (bz f z n))/\w.heap.size<=g/\cU w' w.heap.size 159 6 A (bd f z n).length c (bd f z n)))
def YJ(gr:Nat)(A:Option Addr)(b:Nat):Prop:=b≠gr/\¬iI A b
def ZZ(B:Nat)(e:TypeId)(m n:Nat)(rows:List (List Value))(A0:Option Addr)(top:Nat)(v:Value)(w':World):Prop:=∃A c,v=.slice A n c/\cU w' B e m A n c rows/\∀b,iI A b->iI A0 b\/top<=b
theorem uD.ver{R:Array Value}{a v h g:Nat->Int}{ver cnt:Int}(x:uD R (R.extract 0 19) a v h g ver cnt)(n:Int):uD (R.setIfInBounds 35 [n]) ((R.setIfInBounds 35 [n]).extract 0 19) a v h g n cnt:=by
 have e:∀i,i≠35->(R.setIfInBounds 35 [n])[i]? =R[i]? :=fun i Y=>by rw[Array.getElem?_setIfInBounds,iN (fun h=>Y h.symm)]
 refine⟨by simp [x.size],rfl,fun t Z=>?_,fun t Z=>?_,fun t Z=>?_,fun t Z=>?_,?_,?_⟩
 .rw[e _ I];exact x.ac_ t Z
 .rw[e _ I];exact x.av_ t Z
 .rw[e _ I];exact x.wh_ t Z
 .rw[e _ I];exact x.tg_ t Z
 .rw[Array.getElem?_setIfInBounds,iP rfl,iP (by rw[x.size];decide)]
 rw[e _ I];exact x.cnt_
theorem WB{Z:Nat}{A:Option Addr}{b:Nat}(Y:b≠Z)(X:¬iI A b):YJ Z A b:=⟨Y,X⟩
structure TL (w:World) (gr:Nat) (f:Nat->Nat->Int) (z:Nat->Int) (k:Nat) (A:Option Addr) (c:Nat) (R:Array Value) (wr:World):Prop where
 hgr:w<gr
 fault:aY wr w 270 (2:Int)
 rcd:aY wr gr 136 R
 size:R.size=37
 one:R.all (·.oneCell')=true
 rc:vT (YJ gr A) (bz f z k) R wr
 own:cU wr (gr+1) 159 6 A (bd f z k).length c (bd f z k)
 below:Below w w wr
 right:rT (bz f z k)
 bds:∀i,i<32->0<=bz f z k i/\bz f z k i<18446744073709551616
 good:∀j,j<k->gR (bz f z j) (f j)=0
def Fp(w:World)(gr:Nat)(f:Nat->Nat->Int)(z:Nat->Int)(k:Nat)(d:Value)(wr:World):Prop:=∃R A c,d=.slice A (bd f z k).length c/\TL w gr f z k A c R wr
theorem LK(f:Nat->Nat->Int)(z:Nat->Int):∀k,(bd f z k).length<=k
 |0=>Nat.le_refl _
 |k+1=>by
  have:=LK f z k;unfold bd;split
  .simp;omega
  .omega
theorem vT.keeps{S:Nat->Prop}{w':World}(h:vT P z R w)(Z:aD S w w')(Y:∀b,P b->¬S b):vT P z R w':=⟨h.1,h.2.keeps Z Y⟩
theorem vT.below{w':World}(h:vT P z R w)(Z:Below w w w'):vT P z R w':=h.keeps (aD.of_same (S:=bN) Z) (fun _ _ h=>h)
theorem MS(A0:Option Addr)(c0:Nat)(z:Nat->Int)(A:Option Addr)(n c:Nat)(f:Nat->Nat->Int)(w:World)(h:qY w A0 32 c0 z)(hr:eE z)(hs:PQ LG w A n c f)(hn:n<=1000):
 Calls prog 149 #[.slice A0 32 c0,.slice A n c] w (ZM f z n w):=by
 have wk:=aH (fun W hW=>zB A0 c0 z true W hW ⟨fun _=>hr,fun _=>rfl⟩);have wj:=aH h;have HZ:=aH hr;have yi:=aH hs;have wi:=aH h.bd;obtain⟨i0,ww,wv,wu,wt⟩:=IJ;have wh:=aH ww;have wg:=aH wv;have wf:=aH wu;have we:=aH wt;clear h hr hs ww wv wu wt
 go_enter func149,ntmps149
 generalize hQ:bodyPost prog Tryz.f149 (ZM f z n w)=Q;have HQ:=aH hQ;clear hQ;go_wp2_with fail
 with_reducible refine(wk.out _ (wj.out.below (by go_grown))).mono ?_
 rintro e w1 ⟨xy,R,yu,zf,rfl,hT⟩;have HI:Hid ((prog.info? 136).map (·.size)=some R.size):=by show _=_;rw[mU,yu]
 have zm:=aH yu;have yh:=aH zf;have yg:=(aY.new w 270 (2:Int)).below xy (aY.new _ _ _).lt;have yf:Below w.heap.size w w1:=Below.trans (by go_grown) (xy.mono (by simp));have wd:=yg.lt;have xx:Hid (TL w w1.heap.size f z 0 none 0 R ((w1.alloc (.cells (37:Int) 136)).setRow w1.heap.size R)):=aH (by
  have xw:=hT rfl;have wc:vT (fun b=>b<w1.heap.size) z R w1:=⟨xw.1,xw.2.inside⟩;have hK:aD (cI w1.heap.size) w1 ((w1.alloc (.cells (37:Int) 136)).setRow w1.heap.size R):=(aD.of_same (S:=cI w1.heap.size) ((Below.refl _ _).alloc (Nat.le_refl _) _)).trans (jD _ _ _);have yp:=wc.keeps hK (fun b H he=>by have ye:b=w1.heap.size:=he;omega);exact⟨wd,(yg.alloc _).far_row I R,aY.setRow (aY.new _ _ _) R,yu,zf,⟨yp.1,yp.2.mono fun b H=>⟨I,fun⟨a,E,_⟩=>by cases E⟩⟩,cU.nil _ _ _ _,aL (yf.alloc yf.size _) I R,(iD.1 HZ).1,wi.out,fun j hj=>absurd hj I⟩)
 clear xy yu zf hT yg yf
 go_wp2_with (with_reducible refine fK 136 w1.heap.size R 136 (37:Int) J J (aY.new _ _ _) HI.out (by rw[zm.out];kernel_rfl) yh.out ?_)
 generalize vf:w1.heap.size=X at*;clear vf
 go_loopw [9,22] (fun d i wr=>∃k:Nat,k<=n/\i=.int .i64 k/\Hid (Fp w X f z k d wr)) (fun _ i _=>n-(intOf i).toNat)
 case atStart=>exact⟨0,I,rfl,aH ⟨R,none,0,rfl,xx.out⟩⟩
 case round=>
  clear xx HI zm yh;obtain⟨k,hk,rfl,ws⟩:=hrel;obtain⟨R,A1,c1,rfl,P⟩:=ws.out;have Z:=aH P;have HI:Hid ((prog.info? 136).map (·.size)=some R.size):=by show _=_;rw[mU,P.size]
  have zm:=aH P.size;have yh:=aH P.one;have hW:=P.below;have wb:=P.hgr;have uA:=P.rcd.lt;have uz:=LK f z k;clear ws P;by_cases l:k<n
  .have q1:(k:Int)<n:=I;obtain⟨b,D,rfl,zx,T⟩:=yi.at_ I;have vc:=yi.cap;have vb:=yi.cap63;have d0:wr.cell? (b,D+k*5)=(f k 0):=(hW.cell (p:=⟨b,D+k*5,none⟩) zx).trans (T k 0 l aJ);have d1:wr.cell? (b,D+k*5+1)=(f k 1):=(hW.cell (p:=⟨b,D+k*5+1,none⟩) zx).trans (T k 1 l aJ);have d2:wr.cell? (b,D+k*5+2)=(f k 2):=(hW.cell (p:=⟨b,D+k*5+2,none⟩) zx).trans (T k 2 l aJ);have d3:wr.cell? (b,D+k*5+3)=(f k 3):=(hW.cell (p:=⟨b,D+k*5+3,none⟩) zx).trans (T k 3 l aJ);have d4:wr.cell? (b,D+k*5+4)=(f k 4):=(hW.cell (p:=⟨b,D+k*5+4,none⟩) zx).trans (T k 4 l aJ);clear T;have O:=aH (Z.rcd.alloc (.cells #[(f k 0),(f k 1),(f k 2),(f k 3),(f k 4)] 278));have K:=aH (Z.fault.alloc (.cells #[(f k 0),(f k 1),(f k 2),(f k 3),(f k 4)] 278));have zv:=aH (aY.new wr 278 #[(f k 0),(f k 1),(f k 2),(f k 3),(f k 4)]);have xv:=aH (Z.own.below (w':=wr.alloc (.cells #[(f k 0),(f k 1),(f k 2),(f k 3),(f k 4)] 278)) (by go_grown));have xu:=aH (Z.rc.below (w':=wr.alloc (.cells #[(f k 0),(f k 1),(f k 2),(f k 3),(f k 4)] 278)) (by go_grown));have x:=aH (hW.alloc hW.size (.cells #[(f k 0),(f k 1),(f k 2),(f k 3),(f k 4)] 278));by_cases L:f k 0<0\/4<=f k 0
   .
    have HE:Hid (gR (bz f z k) (f k)=2):=aH (by unfold gR;rw[iP L]);have xt:bV (f k 0) 0 3=false:=by unfold bV;rw[decide_eq_false_iff_not];omega
    clear L;generalize f k 0=x0 at*;generalize f k 1=x1 at*;generalize f k 2=x2 at*;generalize f k 3=x3 at*;generalize f k 4=x4 at*;have zu:=aH xt;clear xt;go_wp2_with fail
    with_reducible refine(bQ _ _ _ _).mono ?_
    rintro e w' ⟨rfl,rfl⟩;rw[zu.out]
    go_wp2_with (with_reducible refine fK 270 w #[(2:Int),k] 270 (2:Int) J J K.out J J (qD _ _) ?_)
    (try simp only[Exit.inBlock,Exit.then])
    rw[<-HQ.out]
    with_reducible refine bodyPost_ret (kY results149 _ _ w 270 #[(2:Int),k] _ (.slice none 0 0) (.slice none 0 0) J J J (aY.setRow K.out _) underlying270 J J) J ?_
    refine⟨aL x (Nat.le_refl _) _,.inl ⟨k,l,Z.good,?_,?_⟩⟩
    .rw[HE.out];decide
    rw[HE.out]
   obtain⟨U,o⟩:∃U:Nat,f k 0=U:=⟨(f k 0).toNat,I⟩;have v:U<4:=I;have xs:(U:Int)<4:=I;have xr:(0:Int)<=U:=I;have zu:Hid (bV (f k 0) 0 3=true):=aH (by unfold bV;rw[decide_eq_true_eq];omega);by_cases C:f k 1≠0/\f k 1≠1
   .have HE:Hid (gR (bz f z k) (f k)=1):=aH (by unfold gR;rw[iN L,iP C]);have zq:Hid (bV (f k 1) 0 1=false):=aH (by unfold bV;rw[decide_eq_false_iff_not];omega);clear L C o v xs xr;generalize f k 0=x0 at*;generalize f k 1=x1 at*;generalize f k 2=x2 at*;generalize f k 3=x3 at*;generalize f k 4=x4 at*;go_wp2_with fail
    with_reducible refine(bQ _ _ _ _).mono ?_
    rintro e w' ⟨rfl,rfl⟩;rw[zu.out];go_wp2_with fail
    with_reducible refine(bQ _ _ _ _).mono ?_
    rintro e w' ⟨rfl,rfl⟩;rw[zq.out]
    go_wp2_with (with_reducible refine fK 270 w #[(1:Int),k] 270 (2:Int) J J K.out J J (qD _ _) ?_)
    (try simp only[Exit.inBlock,Exit.then])
    rw[<-HQ.out]
    with_reducible refine bodyPost_ret (kY results149 _ _ w 270 #[(1:Int),k] _ (.slice none 0 0) (.slice none 0 0) J J J (aY.setRow K.out _) underlying270 J J) J ?_
    refine⟨aL x (Nat.le_refl _) _,.inl ⟨k,l,Z.good,?_,?_⟩⟩
    .rw[HE.out];decide
    rw[HE.out]
   have zq:Hid (bV (f k 1) 0 1=true):=aH (by unfold bV;rw[decide_eq_true_eq];omega);have cT:=(O.cell (31+U)).trans (Z.rc.1.tg_ U v);have uy:=O.lt;have zl:Hid (vF (bz f z k) (f k)=decide (jA (bz f z k) U≠f k 1)):=aH (by unfold vF;rw[o];simp);have zp:=zl.out;by_cases B:jA (bz f z k) U=f k 1
   .
    have N:vF (bz f z k) (f k)=false:=by rw[zp];simp [B]
    have HN:Hid (TL w X f z (k+1) A1 c1 R wr):=aH ⟨Z.hgr,Z.fault,Z.rcd,Z.size,Z.one,by unfold bz sD;rw[N];exact Z.rc,by unfold bd;rw[N];exact Z.own,Z.below,by unfold bz sD;rw[N];exact Z.right,by unfold bz sD;rw[N];exact Z.bds,fun j hj=>by
     rcases Nat.lt_or_ge j k with h|h
     .exact Z.good j h
     obtain rfl:j=k:=I;unfold gR;rw[iN L,iN C,iP (by rw[o,Int.toNat_natCast];exact B)]⟩
    have HL:Hid ((bd f z (k+1)).length=(bd f z k).length):=aH (by rw[bd,iN (by rw[N];exact Bool.false_ne_true)]);have eT:(jA (bz f z k) U==f k 1)=true:=by simpa using B
    clear N L C B zp zl;generalize f k 0=x0 at*;subst o;generalize jA (bz f z k) U=tg at*;generalize f k 1=x1 at*;generalize f k 2=x2 at*;generalize f k 3=x3 at*;generalize f k 4=x4 at*;generalize(bd f z k).length=dn at*;go_wp2_with fail
    with_reducible refine(bQ _ _ _ _).mono ?_
    rintro e w' ⟨rfl,rfl⟩;rw[zu.out];go_wp2_with fail
    with_reducible refine(bQ _ _ _ _).mono ?_
    rintro e w' ⟨rfl,rfl⟩;rw[zq.out];go_wp2;refine aA 8 ?_
    iterate 8
     first
     |(refine Kf ?_;constructor
       .intro w9 hw9 hc9 hf9;go_simp
        first
        |exact aE)
     |refine aU ?_
    refine bZ ?_;intro w9 hw9 hc9 hf9;simp only[List.drop_succ_cons,List.drop_zero,List.drop];have yd:Hid (TL w X f z (k+1) A1 c1 R w9):=aH (by
     have H:Below wr wr w9:=Below.trans (by go_grown) (hw9.same.mono (by simp));exact⟨HN.hgr,HN.fault.below H HN.fault.lt,HN.rcd.below H HN.rcd.lt,HN.size,HN.one,HN.rc.below H,HN.own.below H,HN.below.trans (H.mono HN.below.size),HN.right,HN.bds,HN.good⟩)
    clear hc9 hf9 hw9;go_wp2;go_roundw
    case rel=>exact⟨k+1,I,aG,aH ⟨R,A1,c1,by rw[HL.out],yd.out⟩⟩
    case measure=>simp [intOf];omega
   have N:vF (bz f z k) (f k)=true:=by rw[zp];simp [B]
   have eT:(jA (bz f z k) U==f k 1)=false:=by simpa using B
   have zt:=(O.cell 36).trans Z.rc.1.cnt_;have y:¬jA (bz f z k) (f k 0).toNat=f k 1:=by rw[o,Int.toNat_natCast];exact B
   cases hor:cB (f k 2) (f k 3) (f k 4)
   .have HE:Hid (gR (bz f z k) (f k)=1):=aH (by unfold gR;rw[iN L,iN C,iN y,iP (.inl hor)]);have zk:=aH hor;clear N L C B y zp zl hor zt;generalize f k 0=x0 at*;subst o;generalize jA (bz f z k) U=tg at*;generalize f k 1=x1 at*;generalize f k 2=x2 at*;generalize f k 3=x3 at*;generalize f k 4=x4 at*;go_wp2_with fail
    with_reducible refine(bQ _ _ _ _).mono ?_
    rintro e w' ⟨rfl,rfl⟩;rw[zu.out];go_wp2_with fail
    with_reducible refine(bQ _ _ _ _).mono ?_
    rintro e w' ⟨rfl,rfl⟩;rw[zq.out];go_wp2;refine aA 8 ?_
    iterate 8
     first
     |(refine Kf ?_;constructor
       .intro w9 hw9 hc9 hf9;go_simp
        first
        |exact aE)
     |refine aU ?_
    refine bZ ?_;intro w9 hw9 hc9 hf9;simp only[List.drop_succ_cons,List.drop_zero,List.drop];have t:=aH (K.below hw9.same K.lt);have s:=aH (O.below hw9.same O.lt);have Y:=zv.below hw9.same zv.lt;have r:=aH (x.trans (hw9.same.mono x.size));have k0:=Y.cell 0;have k2:=Y.cell 2;have k3:=Y.cell 3;have k4:=Y.cell 4;simp only[List.getElem?_toArray,List.getElem?_cons_zero,List.getElem?_cons_succ]at k0 k2 k3 k4;have xq:=Y.lt;clear hc9 hf9 hw9 Y cT;go_wp2_with fail
    with_reducible refine(eK x2 x3 x4 _).mono ?_
    rintro e w2 ⟨rfl,V⟩;rw[zk.out];have M:=aH (t.below V t.lt);have q:=aH (r.trans (V.mono r.size));clear V
    go_wp2_with (with_reducible refine fK 270 w #[(1:Int),k] 270 (2:Int) J J M.out J J (qD _ _) ?_)
    (try simp only[Exit.inBlock,Exit.then])
    rw[<-HQ.out]
    with_reducible refine bodyPost_ret (kY results149 _ _ w 270 #[(1:Int),k] _ (.slice none 0 0) (.slice none 0 0) J J J (aY.setRow M.out _) underlying270 J J) J ?_
    refine⟨aL q (Nat.le_refl _) _,.inl ⟨k,l,Z.good,?_,?_⟩⟩
    .rw[HE.out];decide
    rw[HE.out]
   by_cases zn:1099511627776<bz f z k 28
   .have HE:Hid (gR (bz f z k) (f k)=1):=aH (by unfold gR;rw[iN L,iN C,iN y,iP (.inr zn)]);have zk:=aH hor;clear N L C B y zp zl hor;generalize f k 0=x0 at*;subst o;generalize jA (bz f z k) U=tg at*;generalize yz:bz f z k 28=vd at zt zn;clear yz;generalize f k 1=x1 at*;generalize f k 2=x2 at*;generalize f k 3=x3 at*;generalize f k 4=x4 at*;go_wp2_with fail
    with_reducible refine(bQ _ _ _ _).mono ?_
    rintro e w' ⟨rfl,rfl⟩;rw[zu.out];go_wp2_with fail
    with_reducible refine(bQ _ _ _ _).mono ?_
    rintro e w' ⟨rfl,rfl⟩;rw[zq.out];go_wp2;refine aA 8 ?_
    iterate 8
     first
     |(refine Kf ?_;constructor
       .intro w9 hw9 hc9 hf9;go_simp
        first
        |exact aE)
     |refine aU ?_
    refine bZ ?_;intro w9 hw9 hc9 hf9;simp only[List.drop_succ_cons,List.drop_zero,List.drop];have t:=aH (K.below hw9.same K.lt);have s:=aH (O.below hw9.same O.lt);have Y:=zv.below hw9.same zv.lt;have r:=aH (x.trans (hw9.same.mono x.size));have zz:=(hw9.same.cell (p:=⟨X,36,none⟩) O.lt).trans zt;clear zt;have k0:=Y.cell 0;have k2:=Y.cell 2;have k3:=Y.cell 3;have k4:=Y.cell 4;simp only[List.getElem?_toArray,List.getElem?_cons_zero,List.getElem?_cons_succ]at k0 k2 k3 k4;have xq:=Y.lt;clear hc9 hf9 hw9 Y cT;go_wp2_with fail
    with_reducible refine(eK x2 x3 x4 _).mono ?_
    rintro e w2 ⟨rfl,V⟩;rw[zk.out];have M:=aH (t.below V t.lt);have q:=aH (r.trans (V.mono r.size));have zj:=(V.cell (p:=⟨X,36,none⟩) s.lt).trans zz;have xp:=Nat.lt_of_lt_of_le s.lt V.size;clear V zz
    go_wp2_with (with_reducible refine fK 270 w #[(1:Int),k] 270 (2:Int) J J M.out J J (qD _ _) ?_)
    (try simp only[Exit.inBlock,Exit.then])
    rw[<-HQ.out]
    with_reducible refine bodyPost_ret (kY results149 _ _ w 270 #[(1:Int),k] _ (.slice none 0 0) (.slice none 0 0) J J J (aY.setRow M.out _) underlying270 J J) J ?_
    refine⟨aL q (Nat.le_refl _) _,.inl ⟨k,l,Z.good,?_,?_⟩⟩
    .rw[HE.out];decide
    rw[HE.out]
   have ho:=eN.1 hor;have yy:=iD.2 ⟨Z.right,I⟩;have wa:decide (1099511627776<bz f z k 28)=false:=by simpa using zn
   have vQ:=aH (fun W hP hT=>PH (YJ X A1) R (bz f z k) U (f k 2) (f k 3) (f k 4) W yy Z.bds hT Z.one hP v ho);have xo:Hid (bz f z (k+1)=dZ (bz f z k) U (f k 2) (f k 3) (f k 4)):=aH (by rw[bz,sD,iP N,o,Int.toNat_natCast]);have xn:Hid (bd f z (k+1)=bd f z k++[uP (bz f z k) (f k)]):=aH (by rw[bd,iP N]);have yc:Hid (uP (bz f z k) (f k)=[.int .i64 (f k 0),.int .i64 (f k 2),.int .i64 (f k 3),.int .i64 (f k 4),.int .i64 (dC (bz f z k) (f k 2) (f k 3) (f k 4)),.int .i64 (dV (bz f z k) (f k 2) (f k 3) (f k 4))]):=aH rfl;obtain⟨_,_,ze⟩:=zC yy Z.bds ho;have vz:Hid (nV (dZ (bz f z k) U (f k 2) (f k 3) (f k 4)) U=dC (bz f z k) (f k 2) (f k 3) (f k 4)):=aH (by unfold dZ;rw[FF _ _ _ _ v ze _ v];simp [tT]);have vy:Hid (nW (dZ (bz f z k) U (f k 2) (f k 3) (f k 4)) U=dV (bz f z k) (f k 2) (f k 3) (f k 4)):=aH (by unfold dZ;rw[CY _ _ _ _ v ze _ v];simp [tT]);have yb:Hid (rT (bz f z (k+1))/\(∀i,i<32->0<=bz f z (k+1) i/\bz f z (k+1) i<18446744073709551616)/\∀j,j<k+1->gR (bz f z j) (f j)=0):=aH (by
    have he:gR (bz f z k) (f k)=0:=by
     unfold gR;rw[iN L,iN C,iN y,iN (fun h=>h.elim (fun h=>by rw[hor]at h;cases h) zn)]
    refine⟨by rw[bz];exact wV Z.right Z.bds he,fun i hi=>?_,fun j hj=>?_⟩
    .rw[xo.out];exact ZT yy Z.bds ho i hi
    rcases Nat.lt_or_ge j k with h|h
    .exact Z.good j h
    obtain rfl:j=k:=I;exact he)
   have zk:=aH hor;have ux:=aH zn;clear N L C B y zp zl hor ho yy ze;generalize dC (bz f z k) (f k 2) (f k 3) (f k 4)=co at*;generalize dV (bz f z k) (f k 2) (f k 3) (f k 4)=va at*;generalize dZ (bz f z k) U (f k 2) (f k 3) (f k 4)=z' at*;generalize f k 0=x0 at*;subst o;generalize jA (bz f z k) U=tg at*;generalize yz:bz f z k 28=vd at zt wa;clear yz zn;generalize f k 1=x1 at*;generalize f k 2=x2 at*;generalize f k 3=x3 at*;generalize f k 4=x4 at*;have xm:Hid ((bd f z (k+1)).length=(bd f z k).length+1):=aH (by rw[xn.out];simp);generalize yq:(bd f z k).length=dn at*;clear yq;go_wp2_with fail
   with_reducible refine(bQ _ _ _ _).mono ?_
   rintro e w' ⟨rfl,rfl⟩;rw[zu.out];go_wp2_with fail
   with_reducible refine(bQ _ _ _ _).mono ?_
   rintro e w' ⟨rfl,rfl⟩;rw[zq.out];go_wp2;refine aA 8 ?_
   iterate 8
    first
    |(refine Kf ?_;constructor
      .intro w9 hw9 hc9 hf9;go_simp
       first
       |exact aE)
    |refine aU ?_
   refine bZ ?_;intro w9 hw9 hc9 hf9;simp only[List.drop_succ_cons,List.drop_zero,List.drop];have t:=aH (K.below hw9.same K.lt);have s:=aH (O.below hw9.same O.lt);have Y:=zv.below hw9.same zv.lt;have r:=aH (x.trans (hw9.same.mono x.size));have zz:=(hw9.same.cell (p:=⟨X,36,none⟩) O.lt).trans zt;clear zt;have xl:=aH (xu.below hw9.same);have xk:=aH (xv.below hw9.same);have ya:=aH Y;have k0:=Y.cell 0;have k2:=Y.cell 2;have k3:=Y.cell 3;have k4:=Y.cell 4;simp only[List.getElem?_toArray,List.getElem?_cons_zero,List.getElem?_cons_succ]at k0 k2 k3 k4;have xq:=Y.lt;clear hc9 hf9 hw9 Y cT;go_wp2_with fail
   with_reducible refine(eK x2 x3 x4 _).mono ?_
   rintro e w2 ⟨rfl,V⟩;rw[zk.out];have M:=aH (t.below V t.lt);have zi:=aH (s.below V s.lt);have zy:=aH (ya.below V ya.lt);have vx:=aH (xl.below V);have zh:=aH (xk.below V);have q:=aH (r.trans (V.mono r.size));have zj:=(V.cell (p:=⟨X,36,none⟩) s.lt).trans zz;have xp:=Nat.lt_of_lt_of_le s.lt V.size;have uJ:=zy.lt;have k0:=zy.cell 0;have k2:=zy.cell 2;have k3:=zy.cell 3;have k4:=zy.cell 4;simp only[List.getElem?_toArray,List.getElem?_cons_zero,List.getElem?_cons_succ]at k0 k2 k3 k4;clear V zz ya t s r xl xk zv K O x xu xv
   go_wp2_with (with_reducible refine lL 136 X 136 R J zi.out underlying136 J HI.out ?_)
   have vw:∀b,w2.heap.size<=b->YJ X A1 b:=fun b H=>WB I (fun G=>by
    obtain⟨a,E,hq⟩:=G;have:=(zh.lt a E).2;omega)
   with_reducible refine(vQ.out _ vw vx.out).mono ?_
   rintro e w3 ⟨F,R',zd,zc,rfl,wq⟩;have vv:Hid ((prog.info? 136).map (·.size)=some R'.size):=by show _=_;rw[mU,zd]
   have yo:=aH zd;have yn:=aH zc;have vu:w≠X:=I;have vt:wr≠X:=I;have xj:=aH (zi.below F zi.lt);have xi:=aH ((M.below F M.lt).far_row vu R');have zo:=(zy.below F zy.lt).far_row vt R';have yx:=aH (wq.keeps (jD w3 X R') (fun b H he=>H.1 he));have xh:Hid (cU (w3.setRow X R') (X+1) 159 6 A1 dn c1 (bd f z k)):=aH ((zh.below F).kept (jD w3 X R') (fun a E he=>by have:=(zh.lt a E).1;have ye:a.block=X:=he;omega));have zg:=aH (aY.setRow xj R');have xg:=aH (aL (q.trans (F.mono q.size)) (show w<=X by omega) R');clear F zd zc wq k0 k2 k3 k4 zj;have k0:=zo.cell 0;have k2:=zo.cell 2;have k3:=zo.cell 3;have k4:=zo.cell 4;simp only[List.getElem?_toArray,List.getElem?_cons_zero,List.getElem?_cons_succ]at k0 k2 k3 k4;have xf:19+U*2=19+2*U:=I;have xe:19+U*2+1=20+2*U:=I;have a1:(w3.setRow X R').cell? (X,19+U*2)=co:=by rw[zg.cell,xf,yx.out.1.ac_ U v,vz.out]
   have a2:(w3.setRow X R').cell? (X,19+U*2+1)=va:=by rw[zg.cell,xe,yx.out.1.av_ U v,vy.out]
   clear xf xe;have zs:=zo.lt;have ym:=zg.lt;clear zo;have yw:Hid (¬iI A1 wr):=aH (fun G=>by obtain⟨a,E,hq⟩:=G;have:=(Z.own.lt a E).2;omega);have xB:Hid (¬iI A1 X):=aH (fun G=>by obtain⟨a,E,hq⟩:=G;have:=(Z.own.lt a E).1;omega);have vs:Hid (¬iI A1 w):=aH (fun G=>by obtain⟨a,E,hq⟩:=G;have:=(Z.own.lt a E).1;omega)
   go_wp2_with (with_reducible refine fK 136 X R' 136 R J J xj.out vv.out (by rw[zm.out,yo.out]) yn.out ?_)
   generalize ve:w3.setRow X R'=w4 at*;clear ve;generalize uk:wr.heap.size=ga at*;refine bK 13 (iI A1) [12] J J ?_
   iterate 11
    refine aR ?_;constructor
    .intro w9 hw9 _;have uw:=(hw9.cell (p:=⟨ga,0,none⟩) zs yw).trans k0;have uv:=(hw9.cell (p:=⟨ga,2,none⟩) zs yw).trans k2;have uu:=(hw9.cell (p:=⟨ga,3,none⟩) zs yw).trans k3;have ut:=(hw9.cell (p:=⟨ga,4,none⟩) zs yw).trans k4;have us:=(hw9.cell (p:=⟨X,19+U*2,none⟩) ym xB).trans a1;have ur:=(hw9.cell (p:=⟨X,19+U*2+1,none⟩) ym xB).trans a2;go_simp
     first
     |exact aE
   refine bC CK (DM 159 (uP (bz f z k) (f k))) ⟨_,0,rfl⟩ ?_ ?_
   .intro w9 hw9 m;rw[yc.out];go_simp;exact⟨⟨⟨_,rfl⟩,⟨_,rfl,aY.new _ _ _⟩⟩,aD.of_same ((Below.refl _ _).alloc (Nat.le_refl _) _)⟩
   refine bD (DN (dn+1)) (ZZ (X+1) 159 6 (dn+1) (bd f z (k+1)) A1 w4) ⟨_,none,0,rfl⟩ ?_ ?_
   .rintro _ ⟨g9,rfl⟩;refine⟨aF,fun w9 hw9 m=>?_⟩;have yv:=m;have zr:=m.2;clear m;obtain⟨w0,wp,yt,g',hv,yk⟩:=zr.1 J;cases hv;have uq:=hw9.size;have xz:=yk.below (cA yt J) yk.lt;have xd:=Aq yv.1 J;refine iM (.tmp 64) (.tmp 75) rfl underlying41 wh wg wf we rfl aJ aJ (A:=A1) (n:=dn) (c:=c1) (rows:=bd f z k) rfl (xh.kept xd (fun _ _ h=>h)) (g:=g9) (c':=1) rfl (ys:=uP (bz f z k) (f k)) (by rw[yc.out];rfl) ?_ ?_ I I ?_
    .intro j hj;rw[xz.cell j];simp
    .intro u hu;rw[yc.out]at hu;simp only[List.mem_cons,List.not_mem_nil,or_false]at hu;rcases hu with rfl|rfl|rfl|rfl|rfl|rfl<;>rfl
    intro g' ul w' ho vi yr;refine⟨⟨⟨_,_,rfl⟩,⟨_,_,rfl,by rw[xn.out];exact ho,?_⟩⟩,vi.mono fun b H=>⟨aJ,H⟩⟩;rintro b ⟨a,E,rfl⟩;cases E;rcases yr with⟨a,E,hq⟩|hq
    .exact .inl ⟨a,E,hq⟩
    exact .inr (by show w4<=g';omega)
   refine aZ ?_;rintro _ ⟨A9,c9,rfl⟩ _ ⟨g9,rfl⟩ w9 hw9 zr;refine aQ ?_;obtain⟨w0,wp,yt,A8,c8,vh,yj,yr⟩:=zr.2.1 rfl;cases vh;have yl:=yx.keeps hw9 (fun b H he=>H.2 he);have yd:Hid (TL w X f z (k+1) A9 c9 R' w9):=aH (by
    refine⟨wb,(hw9.block _ xi.lt vs).trans xi,(hw9.block _ zg.lt xB).trans zg,yo.out,yn.out,?_,by rw[xm.out];exact yj.below (cA yt J),?_,yb.out.1,yb.out.2.1,yb.out.2.2⟩
    .rw[xo.out];have vr:=yx.out.2.insideP;exact⟨yl.1,(fG.keeps vr hw9 (fun b H he=>H.1.2 he)).mono fun b H=>⟨H.1.1,fun G=>by
      rcases yr b G with h|h
      .exact H.1.2 h
      have:=H.2;omega⟩⟩
    exact xg.trans (hw9.below xg.size (fun b H G=>by obtain⟨a,E,hq⟩:=G;have:=(xh.lt a E).1;omega)))
   clear zr yj wp yt yl yr hw9;go_wp2;go_roundw
   case rel=>exact⟨k+1,I,aG,aH ⟨R',A9,c9,by rw[xm.out],yd.out⟩⟩
   case measure=>simp [intOf];omega
  obtain rfl:k=n:=I;have q1:¬(k:Int)<k:=I;have hL:=Z.right;obtain⟨wo,k1,k6⟩:=zG hL;have up:=Z.bds 27 I;have xc:=Z.bds 28 I;have uo:=hL.2.2.2.1;have HU:Hid (∀i,i<32->iW (bz f z k 0) (oz (bz f z k)) (nV (bz f z k)) (nW (bz f z k)) (nL (bz f z k)) (jA (bz f z k)) (bz f z k 27+1) (bz f z k 28) i=dW (bz f z k) i):=aH (fun i hi=>II hL (fun i hi=>(Z.bds i hi).1) i hi);have un:=(Z.rcd.cell 35).trans Z.rc.1.ver_;have um:=Z.rcd.frozen 35;obtain⟨R2,zb⟩:=aO (R.setIfInBounds 35 [bz f z k 27+1]);have xb:R2.size=37:=by rw[zb];simp [zm.out]
  have vq:Hid ((prog.info? 136).map (·.size)=some R2.size):=by show _=_;rw[mU,xb]
  have zi:Hid (aY (wr.setCell (X,35) [bz f z k 27+1]) X 136 R2):=aH (by rw[zb];exact Z.rcd.set_ 35 _);have zy:Hid (aD (cI X) wr (wr.setCell (X,35) [bz f z k 27+1])):=aH (bP _ _ _ _);have vp:Hid (jE (bz f z k 0) (oz (bz f z k)) (R2.extract 0 19) (wr.setCell (X,35) [bz f z k 27+1])):=aH (by
   rw[zb,iO I];exact(Z.rc.2.keeps (bP _ _ _ _) (fun b H he=>H.1 he)).weak)
  have vo:Hid (uD R2 (R2.extract 0 19) (nV (bz f z k)) (nW (bz f z k)) (nL (bz f z k)) (jA (bz f z k)) (bz f z k 27+1) (bz f z k 28)):=aH (by
   have hx:=uD.ver Z.rc.1 (bz f z k 27+1);rw[<-zb]at hx;exact hx)
  have vn:=aH (fun W hT=>uC R2 _ _ _ _ _ _ _ (bz f z k 0) (oz (bz f z k)) W vo I (fun i hi=>(Z.bds (1+i) I).1) (by rw[<-wo];exact hL.1) hT (fun u hu=>Z.bds (22+u) I) I xc);have M:=aH (aY.far Z.fault (p:=⟨X,35,none⟩) (show w≠X by omega) [bz f z k 27+1]);have zh:=aH ((Z.own).kept (bP wr X 35 [bz f z k 27+1]) (fun a E he=>by have:=(Z.own.lt a E).1;have ye:a.block=X:=he;omega));have q:Hid (Below w w (wr.setCell (X,35) [bz f z k 27+1])):=aH (hW.setCell (p:=⟨X,35,none⟩) (show w<=X by omega) _);have u1:(bz f z k 27+1)%18446744073709551616=bz f z k 27+1:=I;have u2:IntKind.u64.wrap (bz f z k 27+1)=bz f z k 27+1:=IntWalk.u64_in _ I;clear hL wo k1 k6 zb xb xc;generalize iW (bz f z k 0) (oz (bz f z k)) (nV (bz f z k)) (nW (bz f z k)) (nL (bz f z k)) (jA (bz f z k)) (bz f z k 27+1) (bz f z k 28)=zw at*;generalize wl:bz f z k 27=uj at*;clear wl;generalize yq:(bd f z k).length=dn at*
  go_wp2_with (with_reducible refine lL 136 X 136 R2 J zi.out underlying136 J vq.out ?_)
  with_reducible refine(vn.out _ vp.out).mono ?_
  rintro e w3 ⟨g3,D3,rfl,wn,wm,vg,F⟩;have xa:=aH (M.below F M.lt);have vm:=aH (zh.below F);have wU:=aH (q.trans (F.mono q.size));have wI:Hid (w.heap.size+1<=g3):=aH (by have:=M.lt;omega);have wz:=aH wn;have vl:=aH wm;clear F wn wm vg;go_wp2_with fail
  with_reducible refine(VB _).mono ?_
  rintro e w5 ⟨rfl,za⟩;have wy:=aH (xa.below za xa.lt);have wx:=aH (vm.below za);have vk:=aH (wU.trans (za.mono wU.size));have vj:=aH (wz.below za wz.lt);clear za
  go_wp2_with (with_reducible refine fK 270 w.heap.size #[.int .i64 0,.int .i64 (-1)] 270 (2:Int) J J wy.out J J J ?_)
  (try simp only[Exit.inBlock,Exit.then])
  rw[<-HQ.out]
  with_reducible refine bodyPost_ret (kY results149 _ _ w.heap.size 270 #[.int .i64 0,.int .i64 (-1)] _ (.slice (some ⟨g3,0,none⟩) 32 32) (.slice A1 dn c1) J J J (aY.setRow wy.out _) underlying270 J J) J ?_
  refine⟨aL vk (Nat.le_refl _) _,.inr ⟨Z.good,g3,D3,A1,c1,by rw[yq],vj.far_row (by have:=wI.out;omega) _,vl.congr (fun i hi=>(HU.out i hi).symm),by have:=wI.out;omega,?_⟩⟩;rw[yq];exact(wx.kept (jD _ _ _) (fun a E he=>by have:=(wx.lt a E).1;have ye:a.block=w:=he;omega)).mono I
