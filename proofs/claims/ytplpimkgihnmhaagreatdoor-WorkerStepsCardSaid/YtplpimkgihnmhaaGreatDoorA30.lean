/-
  Part of a proof: BatR. For all values.
-/
import Derived.Test.YtplpimkgihnmhaaGreatDoorA19
import Derived.Test.YtplpimkgihnmhaaGreatDoorA21
import Derived.Test.YtplpimkgihnmhaaGreatDoorA29
set_option maxRecDepth 100000
set_option maxHeartbeats 4000000
set_option linter.all false
namespace Go.Proofs.YtplpimkgihnmhaaGreatDoor
open Go.Proofs.Tryz Go.RowKit
section
attribute [local go_sem↓] Go.wp_at_zero Go.wp_at_succ
theorem kY{P:Program}{fn:Func}{p q s:Tmp}{ty:TypeId}(h:fn.results= #[.tmp q,.tmp s,.cell p ty])(tmps:Array Value)(w:World)(g:Nat)(t:TypeId)(cs:Array Value)(d:TypeDesc)(v u:Value)
 (hq:tmps.getD q undef=v) (hs:tmps.getD s undef=u) (hp:tmps.getD p undef=.pointer (some ⟨g,0,none⟩)) (hg:aY w g t cs)
 (hu:P.underlying ty=some d) (hd:(match d with|.struct _|.array _ _=>true|_=>false)=true) (hi:(P.info? ty).map (·.size)=some cs.size):
 (results fn tmps).run P w=.ok (.tuple #[v,u,.agg cs]) w:=by
 have hp':tmps[p]?.getD undef=.pointer (some ⟨g,0,none⟩):=by simpa using hp
 have hq':tmps[q]?.getD undef=v:=by simpa using hq
 have hs':tmps[s]?.getD undef=u:=by simpa using hs
 simp [results,h,hp',hq',hs',asAddr,run_loadVar_row w g t ty cs (0,0) d hg hu hd hi]
theorem VB(w:World):Calls prog 168 #[] w fun e w'=>e=.returned (.agg #[.int .i64 0,.int .i64 (-1)])/\Below w.heap.size w w':=by
 go_enter func168,ntmps168
 go_wp2
 go_returns
 exact⟨rfl,by go_grown⟩
theorem OH:(prog.info? 159).map (fun i=>(i.zero,i.size,i.bytes))=some (some (.agg #[(0:Int),(0:Int),(0:Int),(0:Int),(0:Int),(0:Int)]),6,48):=J
theorem IJ:∃i0,prog.info? 159=some i0/\i0.zero=some (.agg #[(0:Int),(0:Int),(0:Int),(0:Int),(0:Int),(0:Int)])/\i0.size=6/\i0.bytes=48:=by
 have h:=OH
 cases hq:prog.info? 159 with
 |none=>simp [hq]at h
 |some i=>simp [hq]at h;exact⟨i,rfl,h.1,h.2.1,h.2.2⟩
theorem qD(x y:Int):(#[x,y]:Array Value).all (·.oneCell')=true:=J
theorem DD{z z':Nat->Int}{P:Nat->Prop}{kind:Int}{C:Array Value}{w:World}(h:∀i,i<17->z' i=z i)(hz:cK kind z)(x:fG P kind z C w):fG P kind z' C w:=by
 unfold fG cK at*
 split
 .rename_i e
  rw[iP e]at x
  exact x.congrD fun i hi=>h i I
 rename_i e
 rw[iN e]at x hz
 split
 .rename_i e6
  rw[iP e6]at x
  rw[h 0 I]
  exact x
 rename_i e6
 rw[iN e6]at x hz
 have hl:z 0<=6:=by
  split at hz
  .exact hz.1.1
  exact hz.2.2.1
 obtain⟨A,c,h1,h2,h3⟩:=x
 rw[h 0 I]
 refine⟨A,c,h1,?_,h3⟩
 unfold zL at*
 rw[h 0 I,zH h I]
 exact h2
def vT(P:Nat->Prop)(z:Nat->Int)(R:Array Value)(w:World):Prop:=uD R (R.extract 0 19) (nV z) (nW z) (nL z) (jA z) (z 27) (z 28)/\fG P (z 0) (oz z) (R.extract 0 19) w
theorem OY{z:Nat->Int}{P:Nat->Prop}(y:Nat->Int)(t:Nat)(co va:Int)(hr:eE z)(hb:∀i,i<32->0<=z i)(ht:t<4)(hy:cK (z 0) y)(ha:nA co va){R:Array Value}{w:World}
 (hc:uD R (R.extract 0 19) (tT (nV z) t co) (tT (nW z) t va) (tT (nL z) t (z 28+1)) (tT (jA z) t (1-jA z t)) (z 27) (z 28+1)) (hT:fG P (z 0) y (R.extract 0 19) w):vT P (fT z y t co va) R w:=by
 refine⟨?_,?_⟩
 .rw[wR y t co va ht,sU y t co va ht]
  exact hc.congr (FF y t co va ht ha) (CY y t co va ht ha) (PV y t co va ht) (VH y t co va ht)
 rw[LD]
 exact DD (fun i hi=>EL y t co va i hi) hy hT
theorem PH(P:Nat->Prop)(R:Array Value)(z:Nat->Int)(t:Nat)(a k v:Int)(w:World)(hr:eE z)(hb:∀i,i<32->0<=z i/\z i<18446744073709551616)(h:vT P z R w)(h1:R.all (·.oneCell')=true)(hP:∀b,w.heap.size<=b->P b)(ht:t<4)(ho:gQ a k v):
 Calls prog 167 #[.agg R,t,.agg #[a,k,v]] w fun e w'=>Below w w w'/\∃R',R'.size=37/\R'.all (·.oneCell')=true/\e=.returned (.agg R')/\vT P (dZ z t a k v) R' w':=by
 obtain⟨hk,k1,k6⟩:=sY hr
 obtain⟨hy,hw,ha⟩:=zC hr hb ho
 have hd:=BT P R (oz z) (z 0) a k v (mO z a k) _ _ _ _ _ _ t w h.1 h1 h.2 hP (fun i hi=>hb (1+i) I) (by rw[<-hk];exact hr.1.1) ho (by rw[<-hk];exact QD hr a k) ht ⟨(hb 28 aJ).1,hr.1.2.2.1⟩ (by unfold jA;split<;>simp)
 refine hd.mono fun e w' ⟨hB,R',hs,hone,he,hc,hT⟩=>⟨hB,R',hs,hone,he,?_⟩
 unfold dZ dY dC dV
 unfold dY dC dV at*
 rw[hk]at*
 exact OY _ t _ _ hr (fun i hi=>(hb i hi).1) ht hy ha hc hT
def ZM(f:Nat->Nat->Int)(z:Nat->Int)(n:Nat)(w:World)(e:Ending)(w':World):Prop:=
 Below w w w'/\((∃k,k<n/\(∀j,j<k->gR (bz f z j) (f j)=0)/\gR (bz f z k) (f k)≠0/\e=.returned (.tuple #[.slice none 0 0,.slice none 0 0,.agg #[(gR (bz f z k) (f k)),k]]))\/
  ((∀j,j<n->gR (bz f z j) (f j)=0)/\∃g D A c,e=.returned (.tuple #[.slice (some ⟨g,0,none⟩) 32 32,.slice A (bd f z n).length c,.agg #[.int .i64 0,.int .i64 (-1)]])/\aY w' g 23 D/\cH D 32 (dW (bz f z n))/\w.heap.size<=g/\cU w' w.heap.size 159 6 A (bd f z n).length c (bd f z n)))
def YJ(gr:Nat)(A:Option Addr)(b:Nat):Prop:=b≠gr/\¬iI A b
def ZZ(B:Nat)(e:TypeId)(m n:Nat)(rows:List (List Value))(A0:Option Addr)(top:Nat)(v:Value)(w':World):Prop:=∃A c,v=.slice A n c/\cU w' B e m A n c rows/\∀b,iI A b->iI A0 b\/top<=b
theorem uD.ver{R:Array Value}{a v h g:Nat->Int}{ver cnt:Int}(x:uD R (R.extract 0 19) a v h g ver cnt)(n:Int):uD (R.setIfInBounds 35 [n]) ((R.setIfInBounds 35 [n]).extract 0 19) a v h g n cnt:=by
 have e:∀i,i≠35->(R.setIfInBounds 35 [n])[i]? =R[i]? :=fun i hi=>by rw[Array.getElem?_setIfInBounds,iN (fun h=>hi h.symm)]
 refine⟨by simp [x.size],rfl,fun t ht=>?_,fun t ht=>?_,fun t ht=>?_,fun t ht=>?_,?_,?_⟩
 .rw[e _ I];exact x.ac_ t ht
 .rw[e _ I];exact x.av_ t ht
 .rw[e _ I];exact x.wh_ t ht
 .rw[e _ I];exact x.tg_ t ht
 .rw[Array.getElem?_setIfInBounds,iP rfl,iP (by rw[x.size];decide)]
 rw[e _ I];exact x.cnt_
theorem WB{gr:Nat}{A:Option Addr}{b:Nat}(h1:b≠gr)(h2:¬iI A b):YJ gr A b:=⟨h1,h2⟩
structure TL (w:World) (gr:Nat) (f:Nat->Nat->Int) (z:Nat->Int) (k:Nat) (A:Option Addr) (c:Nat) (R:Array Value) (wr:World):Prop where
 hgr:w<gr
 fault:aY wr w 270 (2:Int)
 rcd:aY wr gr 136 R
 size:R.size=37
 one:R.all (·.oneCell')=true
 rc:vT (YJ gr A) (bz f z k) R wr
 own:cU wr (gr+1) 159 6 A (bd f z k).length c (bd f z k)
 below:Below w w wr
 right:rT (bz f z k)
 bds:∀i,i<32->0<=bz f z k i/\bz f z k i<18446744073709551616
 good:∀j,j<k->gR (bz f z j) (f j)=0
def Fp(w:World)(gr:Nat)(f:Nat->Nat->Int)(z:Nat->Int)(k:Nat)(d:Value)(wr:World):Prop:=∃R A c,d=.slice A (bd f z k).length c/\TL w gr f z k A c R wr
theorem LK(f:Nat->Nat->Int)(z:Nat->Int):∀k,(bd f z k).length<=k
 |0=>Nat.le_refl _
 |k+1=>by
  have:=LK f z k
  unfold bd
  split
  .simp;omega
  .omega
theorem vT.keeps{P S:Nat->Prop}{z:Nat->Int}{R:Array Value}{w w':World}(h:vT P z R w)(hk:aD S w w')(hS:∀b,P b->¬S b):vT P z R w':=⟨h.1,h.2.keeps hk hS⟩
theorem vT.below{P:Nat->Prop}{z:Nat->Int}{R:Array Value}{w w':World}(h:vT P z R w)(hb:Below w w w'):vT P z R w':=h.keeps (aD.of_same (S:=bN) hb) (fun _ _ h=>h)
theorem MS(A0:Option Addr)(c0:Nat)(z:Nat->Int)(A:Option Addr)(n c:Nat)(f:Nat->Nat->Int)(w:World)(h:qY w A0 32 c0 z)(hr:eE z)(hs:PQ LG w A n c f)(hn:n<=1000):
 Calls prog 149 #[.slice A0 32 c0,.slice A n c] w (ZM f z n w):=by
 have Px:=aH (fun W hW=>zB A0 c0 z true W hW ⟨fun _=>hr,fun _=>rfl⟩)
 have Qo:=aH h
 have HZ:=aH hr
 have Ng:=aH hs
 have HZB:=aH h.bd
 obtain⟨i0,Is,Ib,Io,Hh⟩:=IJ
 have HDI:=aH Is
 have HDZ:=aH Ib
 have Lo:=aH Io
 have HDY:=aH Hh
 clear h hr hs Is Ib Io Hh
 go_enter func149,ntmps149
 generalize hQ:bodyPost prog Tryz.f149 (ZM f z n w)=Q
 have HQ:=aH hQ
 clear hQ
 go_wp2_with fail
 with_reducible refine(Px.out _ (Qo.out.below (by go_grown))).mono ?_
 rintro e w1 ⟨Gs,R,hsz,hone,rfl,hT⟩
 have HI:Hid ((prog.info? 136).map (·.size)=some R.size):=by show _=_;rw[mU,hsz]
 have Wk:=aH hsz
 have Kn:=Lib.hid hone
 have Zt:=(aY.new w 270 #[.int .i64 0,.int .i64 0]).below Gs (aY.new _ _ _).lt
 have Ka:Below w.heap.size w w1:=Below.trans (by go_grown) (Gs.mono (by simp))
 have Uw:=Zt.lt
 have Pu:Hid (TL w w1.heap.size f z 0 none 0 R ((w1.alloc (.cells #[.int .i64 0,.slice none 0 0,.int .i64 0,.int .i64 0,.int .i64 0,.int .i64 0,.int .i64 0,.int .i64 0,.int .i64 0,.int .i64 0,.int .i64 0,.int .i64 0,.int .i64 0,.int .i64 0,.int .i64 0,.int .i64 0,.int .i64 0,.int .i64 0,.int .i64 0,.int .i64 0,.int .i64 0,.int .i64 0,.int .i64 0,.int .i64 0,.int .i64 0,.int .i64 0,.int .i64 0,.int .u64 0,.int .u64 0,.int .u64 0,.int .u64 0,.int .i64 0,.int .i64 0,.int .i64 0,.int .i64 0,.int .u64 0,.int .u64 0] 136)).setRow w1.heap.size R)):=Lib.hid (by
  have hT':=hT rfl
  have hRP:vT (fun b=>b<w1.heap.size) z R w1:=⟨hT'.1,hT'.2.inside⟩
  have hK:aD (cI w1.heap.size) w1 ((w1.alloc (.cells #[.int .i64 0,.slice none 0 0,.int .i64 0,.int .i64 0,.int .i64 0,.int .i64 0,.int .i64 0,.int .i64 0,.int .i64 0,.int .i64 0,.int .i64 0,.int .i64 0,.int .i64 0,.int .i64 0,.int .i64 0,.int .i64 0,.int .i64 0,.int .i64 0,.int .i64 0,.int .i64 0,.int .i64 0,.int .i64 0,.int .i64 0,.int .i64 0,.int .i64 0,.int .i64 0,.int .i64 0,.int .u64 0,.int .u64 0,.int .u64 0,.int .u64 0,.int .i64 0,.int .i64 0,.int .i64 0,.int .i64 0,.int .u64 0,.int .u64 0] 136)).setRow w1.heap.size R):=(aD.of_same (S:=cI w1.heap.size) ((Below.refl _ _).alloc (Nat.le_refl _) _)).trans (jD _ _ _)
  have hRP2:=hRP.keeps hK (fun b hb he=>by have he':b=w1.heap.size:=he;omega)
  exact⟨Uw,(Zt.alloc _).far_row (by omega) R,aY.setRow (aY.new _ _ _) R,hsz,hone,⟨hRP2.1,hRP2.2.mono fun b hb=>⟨by omega,fun⟨a,ha,_⟩=>by cases ha⟩⟩,cU.nil _ _ _ _,aL (Ka.alloc Ka.size _) (by omega) R,(iD.1 HZ).1,HZB.out,fun j hj=>absurd hj (by omega)⟩)
 clear Gs hsz hone hT Zt Ka
 go_wp2_with (with_reducible refine fK 136 w1.heap.size R 136 #[.int .i64 0,.slice none 0 0,.int .i64 0,.int .i64 0,.int .i64 0,.int .i64 0,.int .i64 0,.int .i64 0,.int .i64 0,.int .i64 0,.int .i64 0,.int .i64 0,.int .i64 0,.int .i64 0,.int .i64 0,.int .i64 0,.int .i64 0,.int .i64 0,.int .i64 0,.int .i64 0,.int .i64 0,.int .i64 0,.int .i64 0,.int .i64 0,.int .i64 0,.int .i64 0,.int .i64 0,.int .u64 0,.int .u64 0,.int .u64 0,.int .u64 0,.int .i64 0,.int .i64 0,.int .i64 0,.int .i64 0,.int .u64 0,.int .u64 0] (by kernel_rfl) (by kernel_rfl) (aY.new _ _ _) HI.out (by rw[Wk.out];kernel_rfl) Kn.out ?_)
 generalize hgr:w1.heap.size=gr at*
 clear hgr
 go_loopw [9,22] (fun d i wr=>∃k:Nat,k<=n/\i=.int .i64 k/\Hid (Fp w gr f z k d wr)) (fun _ i _=>n-(intOf i).toNat)
 case atStart=>exact⟨0,I,rfl,aH ⟨R,none,0,rfl,Pu.out⟩⟩
 case round=>
  clear Pu HI Wk Kn
  obtain⟨k,hk,rfl,hst⟩:=hrel
  obtain⟨R,A1,c1,rfl,Kh⟩:=hst.out
  have HS:=aH Kh
  have HI:Hid ((prog.info? 136).map (·.size)=some R.size):=by show _=_;rw[mU,Kh.size]
  have Wk:=aH Kh.size
  have Kn:=aH Kh.one
  have hW:=Kh.below
  have Sf:=Kh.hgr
  have hlg:=Kh.rcd.lt
  have hdl:=LK f z k
  clear hst Kh
  by_cases hkn:k<n
  .have q1:(k:Int)<n:=I
   obtain⟨b,off,rfl,hblt,hcell⟩:=Ng.at_ I
   have hcap:=Ng.cap
   have hc63:=Ng.cap63
   have d0:wr.cell? (b,off+k*5)=(f k 0):=(hW.cell (p:=⟨b,off+k*5,none⟩) hblt).trans (hcell k 0 hkn aJ)
   have d1:wr.cell? (b,off+k*5+1)=(f k 1):=(hW.cell (p:=⟨b,off+k*5+1,none⟩) hblt).trans (hcell k 1 hkn aJ)
   have d2:wr.cell? (b,off+k*5+2)=(f k 2):=(hW.cell (p:=⟨b,off+k*5+2,none⟩) hblt).trans (hcell k 2 hkn aJ)
   have d3:wr.cell? (b,off+k*5+3)=(f k 3):=(hW.cell (p:=⟨b,off+k*5+3,none⟩) hblt).trans (hcell k 3 hkn aJ)
   have d4:wr.cell? (b,off+k*5+4)=(f k 4):=(hW.cell (p:=⟨b,off+k*5+4,none⟩) hblt).trans (hcell k 4 hkn aJ)
   clear hcell
   have Hd:=aH (HS.rcd.alloc (.cells #[(f k 0),(f k 1),(f k 2),(f k 3),(f k 4)] 278))
   have Tj:=aH (HS.fault.alloc (.cells #[(f k 0),(f k 1),(f k 2),(f k 3),(f k 4)] 278))
   have Kz:=aH (aY.new wr 278 #[(f k 0),(f k 1),(f k 2),(f k 3),(f k 4)])
   have HO0:=aH (HS.own.below (w':=wr.alloc (.cells #[(f k 0),(f k 1),(f k 2),(f k 3),(f k 4)] 278)) (by go_grown))
   have HP0:=aH (HS.rc.below (w':=wr.alloc (.cells #[(f k 0),(f k 1),(f k 2),(f k 3),(f k 4)] 278)) (by go_grown))
   have Nr:=aH (hW.alloc hW.size (.cells #[(f k 0),(f k 1),(f k 2),(f k 3),(f k 4)] 278))
   by_cases Im:f k 0<0\/4<=f k 0
   .
    have HE:Hid (gR (bz f z k) (f k)=2):=aH (by unfold gR;rw[iP Im])
    have hwi:bV (f k 0) 0 3=false:=by unfold bV;rw[decide_eq_false_iff_not];omega
    clear Im
    generalize f k 0=x0 at*
    generalize f k 1=x1 at*
    generalize f k 2=x2 at*
    generalize f k 3=x3 at*
    generalize f k 4=x4 at*
    have Mv:=aH hwi
    clear hwi
    go_wp2_with fail
    with_reducible refine(bQ _ _ _ _).mono ?_
    rintro e w' ⟨rfl,rfl⟩
    rw[Mv.out]
    go_wp2_with (with_reducible refine fK 270 w #[(2:Int),k] 270 (2:Int) J J Tj.out J J (qD _ _) ?_)
    (try simp only[Exit.inBlock,Exit.then])
    rw[<-HQ.out]
    with_reducible refine bodyPost_ret (kY results149 _ _ w 270 #[(2:Int),k] _ (.slice none 0 0) (.slice none 0 0) J J J (aY.setRow Tj.out _) underlying270 J J) J ?_
    refine⟨aL Nr (Nat.le_refl _) _,.inl ⟨k,hkn,HS.good,?_,?_⟩⟩
    .rw[HE.out];decide
    rw[HE.out]
   obtain⟨tn,htn⟩:∃tn:Nat,f k 0=tn:=⟨(f k 0).toNat,I⟩
   have Js:tn<4:=I
   have ht4i:(tn:Int)<4:=I
   have ht4j:(0:Int)<=tn:=I
   have Mv:Hid (bV (f k 0) 0 3=true):=aH (by unfold bV;rw[decide_eq_true_eq];omega)
   by_cases Iy:f k 1≠0/\f k 1≠1
   .have HE:Hid (gR (bz f z k) (f k)=1):=aH (by unfold gR;rw[iN Im,iP Iy])
    have Zu:Hid (bV (f k 1) 0 1=false):=aH (by unfold bV;rw[decide_eq_false_iff_not];omega)
    clear Im Iy htn Js ht4i ht4j
    generalize f k 0=x0 at*
    generalize f k 1=x1 at*
    generalize f k 2=x2 at*
    generalize f k 3=x3 at*
    generalize f k 4=x4 at*
    go_wp2_with fail
    with_reducible refine(bQ _ _ _ _).mono ?_
    rintro e w' ⟨rfl,rfl⟩
    rw[Mv.out]
    go_wp2_with fail
    with_reducible refine(bQ _ _ _ _).mono ?_
    rintro e w' ⟨rfl,rfl⟩
    rw[Zu.out]
    go_wp2_with (with_reducible refine fK 270 w #[(1:Int),k] 270 (2:Int) J J Tj.out J J (qD _ _) ?_)
    (try simp only[Exit.inBlock,Exit.then])
    rw[<-HQ.out]
    with_reducible refine bodyPost_ret (kY results149 _ _ w 270 #[(1:Int),k] _ (.slice none 0 0) (.slice none 0 0) J J J (aY.setRow Tj.out _) underlying270 J J) J ?_
    refine⟨aL Nr (Nat.le_refl _) _,.inl ⟨k,hkn,HS.good,?_,?_⟩⟩
    .rw[HE.out];decide
    rw[HE.out]
   have Zu:Hid (bV (f k 1) 0 1=true):=aH (by unfold bV;rw[decide_eq_true_eq];omega)
   have cT:=(Hd.cell (31+tn)).trans (HS.rc.1.tg_ tn Js)
   have hgl:=Hd.lt
   have HAO:Hid (vF (bz f z k) (f k)=decide (jA (bz f z k) tn≠f k 1)):=aH (by unfold vF;rw[htn];simp)
   have hao:=HAO.out
   by_cases htg:jA (bz f z k) tn=f k 1
   .
    have hop:vF (bz f z k) (f k)=false:=by rw[hao];simp [htg]
    have HN:Hid (TL w gr f z (k+1) A1 c1 R wr):=aH ⟨HS.hgr,HS.fault,HS.rcd,HS.size,HS.one,by unfold bz sD;rw[hop];exact HS.rc,by unfold bd;rw[hop];exact HS.own,HS.below,by unfold bz sD;rw[hop];exact HS.right,by unfold bz sD;rw[hop];exact HS.bds,fun j hj=>by
     rcases Nat.lt_or_ge j k with h|h
     .exact HS.good j h
     obtain rfl:j=k:=I
     unfold gR
     rw[iN Im,iN Iy,iP (by rw[htn,Int.toNat_natCast];exact htg)]⟩
    have HL:Hid ((bd f z (k+1)).length=(bd f z k).length):=aH (by rw[bd,iN (by rw[hop];exact Bool.false_ne_true)])
    have eT:(jA (bz f z k) tn==f k 1)=true:=by simpa using htg
    clear hop Im Iy htg hao HAO
    generalize f k 0=x0 at*
    subst htn
    generalize jA (bz f z k) tn=tg at*
    generalize f k 1=x1 at*
    generalize f k 2=x2 at*
    generalize f k 3=x3 at*
    generalize f k 4=x4 at*
    generalize(bd f z k).length=dn at*
    go_wp2_with fail
    with_reducible refine(bQ _ _ _ _).mono ?_
    rintro e w' ⟨rfl,rfl⟩
    rw[Mv.out]
    go_wp2_with fail
    with_reducible refine(bQ _ _ _ _).mono ?_
    rintro e w' ⟨rfl,rfl⟩
    rw[Zu.out]
    go_wp2
    refine aA 8 ?_
    iterate 8
     first
     |(refine aR1 ?_;constructor
       .intro w9 Gq Gy Gz
        go_simp
        first
        |exact aE)
     |refine aU ?_
    refine bZ ?_
    intro w9 Gq Gy Gz
    simp only[List.drop_succ_cons,List.drop_zero,List.drop]
    have Py:Hid (TL w gr f z (k+1) A1 c1 R w9):=aH (by
     have hb:Below wr wr w9:=Below.trans (by go_grown) (Gq.same.mono (by simp))
     exact⟨HN.hgr,HN.fault.below hb HN.fault.lt,HN.rcd.below hb HN.rcd.lt,HN.size,HN.one,HN.rc.below hb,HN.own.below hb,HN.below.trans (hb.mono HN.below.size),HN.right,HN.bds,HN.good⟩)
    clear Gy Gz Gq
    go_wp2
    go_roundw
    case rel=>exact⟨k+1,I,aG,aH ⟨R,A1,c1,by rw[HL.out],Py.out⟩⟩
    case measure=>simp [intOf];omega
   have hop:vF (bz f z k) (f k)=true:=by rw[hao];simp [htg]
   have eT:(jA (bz f z k) tn==f k 1)=false:=by simpa using htg
   have Wf:=(Hd.cell 36).trans HS.rc.1.cnt_
   have htg':¬jA (bz f z k) (f k 0).toNat=f k 1:=by rw[htn,Int.toNat_natCast];exact htg
   cases hor:cB (f k 2) (f k 3) (f k 4)
   .have HE:Hid (gR (bz f z k) (f k)=1):=aH (by unfold gR;rw[iN Im,iN Iy,iN htg',iP (.inl hor)])
    have HOR:=aH hor
    clear hop Im Iy htg htg' hao HAO hor Wf
    generalize f k 0=x0 at*
    subst htn
    generalize jA (bz f z k) tn=tg at*
    generalize f k 1=x1 at*
    generalize f k 2=x2 at*
    generalize f k 3=x3 at*
    generalize f k 4=x4 at*
    go_wp2_with fail
    with_reducible refine(bQ _ _ _ _).mono ?_
    rintro e w' ⟨rfl,rfl⟩
    rw[Mv.out]
    go_wp2_with fail
    with_reducible refine(bQ _ _ _ _).mono ?_
    rintro e w' ⟨rfl,rfl⟩
    rw[Zu.out]
    go_wp2
    refine aA 8 ?_
    iterate 8
     first
     |(refine aR1 ?_;constructor
       .intro w9 Gq Gy Gz
        go_simp
        first
        |exact aE)
     |refine aU ?_
    refine bZ ?_
    intro w9 Gq Gy Gz
    simp only[List.drop_succ_cons,List.drop_zero,List.drop]
    have Of:=aH (Tj.below Gq.same Tj.lt)
    have Hc:=aH (Hd.below Gq.same Hd.lt)
    have Hj:=Kz.below Gq.same Kz.lt
    have Hq:=aH (Nr.trans (Gq.same.mono Nr.size))
    have k0:=Hj.cell 0
    have k2:=Hj.cell 2
    have k3:=Hj.cell 3
    have k4:=Hj.cell 4
    simp only[List.getElem?_toArray,List.getElem?_cons_zero,List.getElem?_cons_succ]at k0 k2 k3 k4
    have hlk:=Hj.lt
    clear Gy Gz Gq Hj cT
    go_wp2_with fail
    with_reducible refine(eK x2 x3 x4 _).mono ?_
    rintro e w2 ⟨rfl,Gt⟩
    rw[HOR.out]
    have Sg:=aH (Of.below Gt Of.lt)
    have Ht:=aH (Hq.trans (Gt.mono Hq.size))
    clear Gt
    go_wp2_with (with_reducible refine fK 270 w #[(1:Int),k] 270 (2:Int) J J Sg.out J J (qD _ _) ?_)
    (try simp only[Exit.inBlock,Exit.then])
    rw[<-HQ.out]
    with_reducible refine bodyPost_ret (kY results149 _ _ w 270 #[(1:Int),k] _ (.slice none 0 0) (.slice none 0 0) J J J (aY.setRow Sg.out _) underlying270 J J) J ?_
    refine⟨aL Ht (Nat.le_refl _) _,.inl ⟨k,hkn,HS.good,?_,?_⟩⟩
    .rw[HE.out];decide
    rw[HE.out]
   by_cases hcn:1099511627776<bz f z k 28
   .have HE:Hid (gR (bz f z k) (f k)=1):=aH (by unfold gR;rw[iN Im,iN Iy,iN htg',iP (.inr hcn)])
    have HOR:=aH hor
    clear hop Im Iy htg htg' hao HAO hor
    generalize f k 0=x0 at*
    subst htn
    generalize jA (bz f z k) tn=tg at*
    generalize Rj:bz f z k 28=z28 at Wf hcn
    clear Rj
    generalize f k 1=x1 at*
    generalize f k 2=x2 at*
    generalize f k 3=x3 at*
    generalize f k 4=x4 at*
    go_wp2_with fail
    with_reducible refine(bQ _ _ _ _).mono ?_
    rintro e w' ⟨rfl,rfl⟩
    rw[Mv.out]
    go_wp2_with fail
    with_reducible refine(bQ _ _ _ _).mono ?_
    rintro e w' ⟨rfl,rfl⟩
    rw[Zu.out]
    go_wp2
    refine aA 8 ?_
    iterate 8
     first
     |(refine aR1 ?_;constructor
       .intro w9 Gq Gy Gz
        go_simp
        first
        |exact aE)
     |refine aU ?_
    refine bZ ?_
    intro w9 Gq Gy Gz
    simp only[List.drop_succ_cons,List.drop_zero,List.drop]
    have Of:=aH (Tj.below Gq.same Tj.lt)
    have Hc:=aH (Hd.below Gq.same Hd.lt)
    have Hj:=Kz.below Gq.same Kz.lt
    have Hq:=aH (Nr.trans (Gq.same.mono Nr.size))
    have Tk:=(Gq.same.cell (p:=⟨gr,36,none⟩) Hd.lt).trans Wf
    clear Wf
    have k0:=Hj.cell 0
    have k2:=Hj.cell 2
    have k3:=Hj.cell 3
    have k4:=Hj.cell 4
    simp only[List.getElem?_toArray,List.getElem?_cons_zero,List.getElem?_cons_succ]at k0 k2 k3 k4
    have hlk:=Hj.lt
    clear Gy Gz Gq Hj cT
    go_wp2_with fail
    with_reducible refine(eK x2 x3 x4 _).mono ?_
    rintro e w2 ⟨rfl,Gt⟩
    rw[HOR.out]
    have Sg:=aH (Of.below Gt Of.lt)
    have Ht:=aH (Hq.trans (Gt.mono Hq.size))
    have Wl:=(Gt.cell (p:=⟨gr,36,none⟩) Hc.lt).trans Tk
    have Nm:=Nat.lt_of_lt_of_le Hc.lt Gt.size
    clear Gt Tk
    go_wp2_with (with_reducible refine fK 270 w #[(1:Int),k] 270 (2:Int) J J Sg.out J J (qD _ _) ?_)
    (try simp only[Exit.inBlock,Exit.then])
    rw[<-HQ.out]
    with_reducible refine bodyPost_ret (kY results149 _ _ w 270 #[(1:Int),k] _ (.slice none 0 0) (.slice none 0 0) J J J (aY.setRow Sg.out _) underlying270 J J) J ?_
    refine⟨aL Ht (Nat.le_refl _) _,.inl ⟨k,hkn,HS.good,?_,?_⟩⟩
    .rw[HE.out];decide
    rw[HE.out]
   have ho:=eN.1 hor
   have hro:=iD.2 ⟨HS.right,I⟩
   have hcd:decide (1099511627776<bz f z k 28)=false:=by simpa using hcn
   have HDN:=aH (fun W hP hT=>PH (YJ gr A1) R (bz f z k) tn (f k 2) (f k 3) (f k 4) W hro HS.bds hT HS.one hP Js ho)
   have HZ1:Hid (bz f z (k+1)=dZ (bz f z k) tn (f k 2) (f k 3) (f k 4)):=aH (by rw[bz,sD,iP hop,htn,Int.toNat_natCast])
   have Sw:Hid (bd f z (k+1)=bd f z k++[uP (bz f z k) (f k)]):=aH (by rw[bd,iP hop])
   have Nb:Hid (uP (bz f z k) (f k)=[.int .i64 (f k 0),.int .i64 (f k 2),.int .i64 (f k 3),.int .i64 (f k 4),.int .i64 (dC (bz f z k) (f k 2) (f k 3) (f k 4)),.int .i64 (dV (bz f z k) (f k 2) (f k 3) (f k 4))]):=aH rfl
   obtain⟨_,_,hans⟩:=zC hro HS.bds ho
   have HAC:Hid (nV (dZ (bz f z k) tn (f k 2) (f k 3) (f k 4)) tn=dC (bz f z k) (f k 2) (f k 3) (f k 4)):=aH (by unfold dZ;rw[FF _ _ _ _ Js hans _ Js];simp [tT])
   have Zq:Hid (nW (dZ (bz f z k) tn (f k 2) (f k 3) (f k 4)) tn=dV (bz f z k) (f k 2) (f k 3) (f k 4)):=aH (by unfold dZ;rw[CY _ _ _ _ Js hans _ Js];simp [tT])
   have No:Hid (rT (bz f z (k+1))/\(∀i,i<32->0<=bz f z (k+1) i/\bz f z (k+1) i<18446744073709551616)/\∀j,j<k+1->gR (bz f z j) (f j)=0):=aH (by
    have he:gR (bz f z k) (f k)=0:=by
     unfold gR
     rw[iN Im,iN Iy,iN htg',iN (fun h=>h.elim (fun h=>by rw[hor]at h;cases h) hcn)]
    refine⟨by rw[bz];exact wV HS.right HS.bds he,fun i hi=>?_,fun j hj=>?_⟩
    .rw[HZ1.out];exact ZT hro HS.bds ho i hi
    rcases Nat.lt_or_ge j k with h|h
    .exact HS.good j h
    obtain rfl:j=k:=I
    exact he)
   have HOR:=aH hor
   have HCN:=aH hcn
   clear hop Im Iy htg htg' hao HAO hor ho hro hans
   generalize dC (bz f z k) (f k 2) (f k 3) (f k 4)=co at*
   generalize dV (bz f z k) (f k 2) (f k 3) (f k 4)=va at*
   generalize dZ (bz f z k) tn (f k 2) (f k 3) (f k 4)=z' at*
   generalize f k 0=x0 at*
   subst htn
   generalize jA (bz f z k) tn=tg at*
   generalize Rj:bz f z k 28=z28 at Wf hcd
   clear Rj hcn
   generalize f k 1=x1 at*
   generalize f k 2=x2 at*
   generalize f k 3=x3 at*
   generalize f k 4=x4 at*
   have HLn:Hid ((bd f z (k+1)).length=(bd f z k).length+1):=aH (by rw[Sw.out];simp)
   generalize hdn:(bd f z k).length=dn at*
   clear hdn
   go_wp2_with fail
   with_reducible refine(bQ _ _ _ _).mono ?_
   rintro e w' ⟨rfl,rfl⟩
   rw[Mv.out]
   go_wp2_with fail
   with_reducible refine(bQ _ _ _ _).mono ?_
   rintro e w' ⟨rfl,rfl⟩
   rw[Zu.out]
   go_wp2
   refine aA 8 ?_
   iterate 8
    first
    |(refine aR1 ?_;constructor
      .intro w9 Gq Gy Gz
       go_simp
       first
       |exact aE)
    |refine aU ?_
   refine bZ ?_
   intro w9 Gq Gy Gz
   simp only[List.drop_succ_cons,List.drop_zero,List.drop]
   have Of:=aH (Tj.below Gq.same Tj.lt)
   have Hc:=aH (Hd.below Gq.same Hd.lt)
   have Hj:=Kz.below Gq.same Kz.lt
   have Hq:=aH (Nr.trans (Gq.same.mono Nr.size))
   have Tk:=(Gq.same.cell (p:=⟨gr,36,none⟩) Hd.lt).trans Wf
   clear Wf
   have Yi:=aH (HP0.below Gq.same)
   have Ph:=aH (HO0.below Gq.same)
   have HKB:=aH Hj
   have k0:=Hj.cell 0
   have k2:=Hj.cell 2
   have k3:=Hj.cell 3
   have k4:=Hj.cell 4
   simp only[List.getElem?_toArray,List.getElem?_cons_zero,List.getElem?_cons_succ]at k0 k2 k3 k4
   have hlk:=Hj.lt
   clear Gy Gz Gq Hj cT
   go_wp2_with fail
   with_reducible refine(eK x2 x3 x4 _).mono ?_
   rintro e w2 ⟨rfl,Gt⟩
   rw[HOR.out]
   have Sg:=aH (Of.below Gt Of.lt)
   have Hf:=Lib.hid (Hc.below Gt Hc.lt)
   have Hy:=Lib.hid (HKB.below Gt HKB.lt)
   have Ve:=Lib.hid (Yi.below Gt)
   have Nn:=Lib.hid (Ph.below Gt)
   have Ht:=Lib.hid (Hq.trans (Gt.mono Hq.size))
   have Wl:=(Gt.cell (p:=⟨gr,36,none⟩) Hc.lt).trans Tk
   have Nm:=Nat.lt_of_lt_of_le Hc.lt Gt.size
   have hlk2:=Hy.lt
   have k0:=Hy.cell 0
   have k2:=Hy.cell 2
   have k3:=Hy.cell 3
   have k4:=Hy.cell 4
   simp only[List.getElem?_toArray,List.getElem?_cons_zero,List.getElem?_cons_succ]at k0 k2 k3 k4
   clear Gt Tk HKB Of Hc Hq Yi Ph Kz Tj Hd Nr HP0 HO0
   go_wp2_with (with_reducible refine lL 136 gr 136 R (by kernel_rfl) Hf.out underlying136 (by kernel_rfl) HI.out ?_)
   have hPP:∀b,w2.heap.size<=b->YJ gr A1 b:=fun b hb=>WB (by omega) (fun hsl=>by
    obtain⟨a,ha,hq⟩:=hsl
    have:=(Nn.lt a ha).2
    omega)
   with_reducible refine(HDN.out _ hPP Ve.out).mono ?_
   rintro e w3 ⟨He,R',hsz',hone',rfl,hrp⟩
   have HI':Hid ((prog.info? 136).map (·.size)=some R'.size):=by show _=_;rw[mU,hsz']
   have HRs':=aH hsz'
   have HR1':=aH hone'
   have hne:w≠gr:=I
   have hna:wr≠gr:=I
   have Hi:=aH (Hf.below He Hf.lt)
   have HF4:=aH ((Sg.below He Sg.lt).far_row hne R')
   have Pi:=(Hy.below He Hy.lt).far_row hna R'
   have HP4:=aH (hrp.keeps (jD w3 gr R') (fun b hb he=>hb.1 he))
   have Ug:Hid (cU (w3.setRow gr R') (gr+1) 159 6 A1 dn c1 (bd f z k)):=aH ((Nn.below He).kept (jD w3 gr R') (fun a ha he=>by have:=(Nn.lt a ha).1;have he':a.block=gr:=he;omega))
   have Kj:=aH (aY.setRow Hi R')
   have Se:=aH (aL (Ht.trans (He.mono Ht.size)) (show w<=gr by omega) R')
   clear He hsz' hone' hrp k0 k2 k3 k4 Wl
   have k0:=Pi.cell 0
   have k2:=Pi.cell 2
   have k3:=Pi.cell 3
   have k4:=Pi.cell 4
   simp only[List.getElem?_toArray,List.getElem?_cons_zero,List.getElem?_cons_succ]at k0 k2 k3 k4
   have ea1:19+tn*2=19+2*tn:=I
   have ea2:19+tn*2+1=20+2*tn:=I
   have a1:(w3.setRow gr R').cell? (gr,19+tn*2)=co:=by rw[Kj.cell,ea1,HP4.out.1.ac_ tn Js,HAC.out]
   have a2:(w3.setRow gr R').cell? (gr,19+tn*2+1)=va:=by rw[Kj.cell,ea2,HP4.out.1.av_ tn Js,Zq.out]
   clear ea1 ea2
   have Vf:=Pi.lt
   have hlg4:=Kj.lt
   clear Pi
   have Yj:Hid (¬iI A1 wr):=aH (fun hsl=>by obtain⟨a,ha,hq⟩:=hsl;have:=(HS.own.lt a ha).2;omega)
   have HNG:Hid (¬iI A1 gr):=aH (fun hsl=>by obtain⟨a,ha,hq⟩:=hsl;have:=(HS.own.lt a ha).1;omega)
   have HNF:Hid (¬iI A1 w):=aH (fun hsl=>by obtain⟨a,ha,hq⟩:=hsl;have:=(HS.own.lt a ha).1;omega)
   go_wp2_with (with_reducible refine fK 136 gr R' 136 R J J Hi.out HI'.out (by rw[Wk.out,HRs'.out]) HR1'.out ?_)
   generalize hw4:w3.setRow gr R'=w4 at*
   clear hw4
   generalize hga:wr.heap.size=ga at*
   refine bK 13 (iI A1) [12] J J ?_
   iterate 11
    refine aR ?_;constructor
    .intro w9 Gq _
     have k09:=(Gq.cell (p:=⟨ga,0,none⟩) Vf Yj).trans k0
     have k29:=(Gq.cell (p:=⟨ga,2,none⟩) Vf Yj).trans k2
     have k39:=(Gq.cell (p:=⟨ga,3,none⟩) Vf Yj).trans k3
     have k49:=(Gq.cell (p:=⟨ga,4,none⟩) Vf Yj).trans k4
     have a19:=(Gq.cell (p:=⟨gr,19+tn*2,none⟩) hlg4 HNG).trans a1
     have a29:=(Gq.cell (p:=⟨gr,19+tn*2+1,none⟩) hlg4 HNG).trans a2
     go_simp
     first
     |exact aE
   refine bC CK (DM 159 (uP (bz f z k) (f k))) ⟨_,0,rfl⟩ ?_ ?_
   .intro w9 Gq Gr
    rw[Nb.out]
    go_simp
    exact⟨⟨⟨_,rfl⟩,⟨_,rfl,aY.new _ _ _⟩⟩,aD.of_same ((Below.refl _ _).alloc (Nat.le_refl _) _)⟩
   refine bD (DN (dn+1)) (ZZ (gr+1) 159 6 (dn+1) (bd f z (k+1)) A1 w4) ⟨_,none,0,rfl⟩ ?_ ?_
   .rintro _ ⟨g9,rfl⟩
    refine⟨aF,fun w9 Gq Gr=>?_⟩
    have Hz:=Gr
    have hmet:=Gr.2
    clear Gr
    obtain⟨w0,Sj,My,g',hv,hblk⟩:=hmet.1 J
    cases hv
    have Sc:=Gq.size
    have Kr:=hblk.below (cA My J) hblk.lt
    have hw9':=Aq Hz.1 J
    refine iM (.tmp 64) (.tmp 75) rfl underlying41 HDI HDZ Lo HDY rfl aJ aJ (A:=A1) (n:=dn) (c:=c1) (rows:=bd f z k) rfl (Ug.kept hw9' (fun _ _ h=>h)) (g:=g9) (c':=1) rfl (ys:=uP (bz f z k) (f k)) (by rw[Nb.out];rfl) ?_ ?_ I I ?_
    .intro j hj
     rw[Kr.cell j]
     simp
    .intro u hu
     rw[Nb.out]at hu
     simp only[List.mem_cons,List.not_mem_nil,or_false]at hu
     rcases hu with rfl|rfl|rfl|rfl|rfl|rfl<;>rfl
    intro g' cap w' ho hk' hat
    refine⟨⟨⟨_,_,rfl⟩,⟨_,_,rfl,by rw[Sw.out];exact ho,?_⟩⟩,hk'.mono fun b hb=>⟨aJ,hb⟩⟩
    rintro b ⟨a,ha,rfl⟩
    cases ha
    rcases hat with⟨a,ha,hq⟩|hq
    .exact .inl ⟨a,ha,hq⟩
    exact .inr (by show w4<=g';omega)
   refine aZ ?_
   rintro _ ⟨A9,c9,rfl⟩ _ ⟨g9,rfl⟩ w9 Gq hmet
   refine aQ ?_
   obtain⟨w0,Sj,My,A8,c8,Rr,hown,hat⟩:=hmet.2.1 rfl
   cases Rr
   have hRP9:=HP4.keeps Gq (fun b hb he=>hb.2 he)
   have Py:Hid (TL w gr f z (k+1) A9 c9 R' w9):=aH (by
    refine⟨Sf,(Gq.block _ HF4.lt HNF).trans HF4,(Gq.block _ Kj.lt HNG).trans Kj,HRs'.out,HR1'.out,?_,by rw[HLn.out];exact hown.below (cA My J),?_,No.out.1,No.out.2.1,No.out.2.2⟩
    .rw[HZ1.out]
     have hin:=HP4.out.2.insideP
     exact⟨hRP9.1,(fG.keeps hin Gq (fun b hb he=>hb.1.2 he)).mono fun b hb=>⟨hb.1.1,fun hsl=>by
      rcases hat b hsl with h|h
      .exact hb.1.2 h
      have:=hb.2;omega⟩⟩
    exact Se.trans (Gq.below Se.size (fun b hb hsl=>by obtain⟨a,ha,hq⟩:=hsl;have:=(Ug.lt a ha).1;omega)))
   clear hmet hown Sj My hRP9 hat Gq
   go_wp2
   go_roundw
   case rel=>exact⟨k+1,I,aG,aH ⟨R',A9,c9,by rw[HLn.out],Py.out⟩⟩
   case measure=>simp [intOf];omega
  obtain rfl:k=n:=I
  have q1:¬(k:Int)<k:=I
  have hL:=HS.right
  obtain⟨hkr,k1,k6⟩:=zG hL
  have Vu:=HS.bds 27 I
  have Sa:=HS.bds 28 I
  have Qx:=hL.2.2.2.1
  have HU:Hid (∀i,i<32->iW (bz f z k 0) (oz (bz f z k)) (nV (bz f z k)) (nW (bz f z k)) (nL (bz f z k)) (jA (bz f z k)) (bz f z k 27+1) (bz f z k 28) i=dW (bz f z k) i):=aH (fun i hi=>II hL (fun i hi=>(HS.bds i hi).1) i hi)
  have c35:=(HS.rcd.cell 35).trans HS.rc.1.ver_
  have f35:=HS.rcd.frozen 35
  obtain⟨R2,Il⟩:=aO (R.setIfInBounds 35 [bz f z k 27+1])
  have Mp:R2.size=37:=by rw[Il];simp [Wk.out]
  have La:Hid ((prog.info? 136).map (·.size)=some R2.size):=by show _=_;rw[mU,Mp]
  have Hf:Hid (aY (wr.setCell (gr,35) [bz f z k 27+1]) gr 136 R2):=aH (by rw[Il];exact HS.rcd.set_ 35 _)
  have Hy:Hid (aD (cI gr) wr (wr.setCell (gr,35) [bz f z k 27+1])):=aH (bP _ _ _ _)
  have Qr:Hid (jE (bz f z k 0) (oz (bz f z k)) (R2.extract 0 19) (wr.setCell (gr,35) [bz f z k 27+1])):=aH (by
   rw[Il,iO I]
   exact(HS.rc.2.keeps (bP _ _ _ _) (fun b hb he=>hb.1 he)).weak)
  have HC2:Hid (uD R2 (R2.extract 0 19) (nV (bz f z k)) (nW (bz f z k)) (nL (bz f z k)) (jA (bz f z k)) (bz f z k 27+1) (bz f z k 28)):=aH (by
   have hx:=uD.ver HS.rc.1 (bz f z k 27+1)
   rw[<-Il]at hx
   exact hx)
  have HWD:=aH (fun W hT=>uC R2 _ _ _ _ _ _ _ (bz f z k 0) (oz (bz f z k)) W HC2 I (fun i hi=>(HS.bds (1+i) I).1) (by rw[<-hkr];exact hL.1) hT (fun u hu=>HS.bds (22+u) I) I Sa)
  have Sg:=aH (aY.far HS.fault (p:=⟨gr,35,none⟩) (show w≠gr by omega) [bz f z k 27+1])
  have Nn:=aH ((HS.own).kept (bP wr gr 35 [bz f z k 27+1]) (fun a ha he=>by have:=(HS.own.lt a ha).1;have he':a.block=gr:=he;omega))
  have Ht:Hid (Below w w (wr.setCell (gr,35) [bz f z k 27+1])):=aH (hW.setCell (p:=⟨gr,35,none⟩) (show w<=gr by omega) _)
  have u1:(bz f z k 27+1)%18446744073709551616=bz f z k 27+1:=I
  have u2:IntKind.u64.wrap (bz f z k 27+1)=bz f z k 27+1:=IntWalk.u64_in _ I
  clear hL hkr k1 k6 Il Mp Sa
  generalize iW (bz f z k 0) (oz (bz f z k)) (nV (bz f z k)) (nW (bz f z k)) (nL (bz f z k)) (jA (bz f z k)) (bz f z k 27+1) (bz f z k 28)=zw at*
  generalize hv27:bz f z k 27=v27 at*
  clear hv27
  generalize hdn:(bd f z k).length=dn at*
  go_wp2_with (with_reducible refine lL 136 gr 136 R2 J Hf.out underlying136 J La.out ?_)
  with_reducible refine(HWD.out _ Qr.out).mono ?_
  rintro e w3 ⟨g3,D3,rfl,hD3,hU3,hg3,He⟩
  have HF3:=aH (Sg.below He Sg.lt)
  have Qs:=aH (Nn.below He)
  have Mh:=aH (Ht.trans (He.mono Ht.size))
  have HG3:Hid (w.heap.size+1<=g3):=Lib.hid (by have:=Sg.lt;omega)
  have HD3:=Lib.hid hD3
  have HU3:=Lib.hid hU3
  clear He hD3 hU3 hg3
  go_wp2_with fail
  with_reducible refine(VB _).mono ?_
  rintro e w5 ⟨rfl,Pz⟩
  have HF5:=Lib.hid (HF3.below Pz HF3.lt)
  have Rh:=Lib.hid (Qs.below Pz)
  have Ud:=Lib.hid (Mh.trans (Pz.mono Mh.size))
  have HD5:=Lib.hid (HD3.below Pz HD3.lt)
  clear Pz
  go_wp2_with (with_reducible refine fK 270 w.heap.size #[.int .i64 0,.int .i64 (-1)] 270 #[.int .i64 0,.int .i64 0] (by kernel_rfl) (by kernel_rfl) HF5.out (by kernel_rfl) (by kernel_rfl) (by kernel_rfl) ?_)
  (try simp only[Exit.inBlock,Exit.then])
  rw[<-HQ.out]
  with_reducible refine bodyPost_ret (kY results149 _ _ w.heap.size 270 #[.int .i64 0,.int .i64 (-1)] _ (.slice (some ⟨g3,0,none⟩) 32 32) (.slice A1 dn c1) (by kernel_rfl) (by kernel_rfl) (by kernel_rfl) (aY.setRow HF5.out _) underlying270 (by kernel_rfl) (by kernel_rfl)) (by kernel_rfl) ?_
  refine⟨aL Ud (Nat.le_refl _) _,.inr ⟨HS.good,g3,D3,A1,c1,by rw[hdn],HD5.far_row (by have:=HG3.out;omega) _,HU3.congr (fun i hi=>(HU.out i hi).symm),by have:=HG3.out;omega,?_⟩⟩
  rw[hdn]
  exact(Rh.kept (jD _ _ _) (fun a ha he=>by have:=(Rh.lt a ha).1;have he':a.block=w:=he;omega)).mono I
end
end Go.Proofs.YtplpimkgihnmhaaGreatDoor
