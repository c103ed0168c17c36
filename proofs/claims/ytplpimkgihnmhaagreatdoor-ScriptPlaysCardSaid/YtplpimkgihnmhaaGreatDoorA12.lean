/-
  Parts of a proof. For all values.
-/
import Derived.Test.YtplpimkgihnmhaaGreatDoorA06
set_option maxRecDepth 100000
set_option maxHeartbeats 4000000
set_option linter.all false
namespace Go.Proofs.YtplpimkgihnmhaaGreatDoor
open Go.Proofs.Tryz Go.RowKit
section
attribute [local go_sem↓] Go.wp_at_zero Go.wp_at_succ
theorem cH.splice{E D:Array Value}{n m o:Nat}{z y:Nat->Int}(X:cH E n z)(W:cH D m y)(h:o+m<=n):
 cH (E.toList.take o++(D.toList++E.toList.drop (o+m))).toArray n (fun i=>if o<=i/\i<o+m then y (i-o)else z i):=by
 have S:=X.size;have V:=W.size;have U:(E.toList.take o).length=o:=by simp;omega
 refine⟨by simp;omega,fun i Z=>?_,fun i Z=>?_⟩
 .rw[List.getElem?_toArray,List.getElem?_append];by_cases Y:i<o
  .rw[iP I,List.getElem?_take,iP Y,iN I,Array.getElem?_toList];exact X.get i Z
  rw[iN I,List.getElem?_append,U];by_cases T:i<o+m
  .rw[iP (by simp;omega),iP ⟨I,T⟩,Array.getElem?_toList];exact W.get (i-o) I
  rw[iN (by simp;omega),iN I,List.getElem?_drop,Array.length_toList,V,Array.getElem?_toList,show o+m+(i-o-m)=i by omega];exact X.get i Z
 show 0<=(if o<=i/\i<o+m then y (i-o)else z i)/\(if o<=i/\i<o+m then y (i-o)else z i)<_;by_cases Y:o<=i/\i<o+m
 .rw[iP Y];exact W.bd (i-o) I
 rw[iN Y];exact X.bd i Z
structure uD (R C:Array Value) (ac av wh tg:Nat->Int) (ver cnt:Int):Prop where
 size:R.size=37
 thing:C=R.extract 0 19
 ac_:∀t,t<4->R[19+2*t]? =some (.int .i64 (ac t))
 av_:∀t,t<4->R[20+2*t]? =some (.int .i64 (av t))
 wh_:∀t,t<4->R[27+t]? =some (.int .u64 (wh t))
 tg_:∀t,t<4->R[31+t]? =some (.int .i64 (tg t))
 ver_:R[35]? =some (.int .u64 ver)
 cnt_:R[36]? =some (.int .u64 cnt)
def uM(tg:Nat->Int):Nat->Nat
 |0=>0
 |k+1=>if tg k=1 then iH (uM tg k) k else uM tg k
theorem IZ(Z:Nat->Int):∀k,k<=4->uM Z k<2^k
 |0,_=>by simp [uM]
 |k+1,h=>by
  have:=IZ Z k I;unfold uM;split
  .unfold iH;split
   .exact Nat.xor_lt_two_pow (Nat.lt_of_lt_of_le this (Nat.pow_le_pow_right aJ I)) (by rw[Int.toNat_natCast];exact Nat.pow_lt_pow_right aJ I)
   exact Nat.lt_of_lt_of_le this (Nat.pow_le_pow_right aJ I)
  .exact Nat.lt_of_lt_of_le this (Nat.pow_le_pow_right aJ I)
theorem AI(Z:Nat->Int)(k:Nat)(h:k<=4):uM Z k<18446744073709551616:=by
 have:=IZ Z k h;have Y:2^k<=2^4:=Nat.pow_le_pow_right aJ h;omega
def DY(kind:Int)(zo ac av wh tg:Nat->Int)(k:Nat)(i:Nat):Int:=
 if i=0 then kind else if i<18 then zo (i-1)else if i<22 then(if i-18<k then iV (ac (i-18)) (av (i-18))else 0)
 else if i<26 then(if i-22<k then wh (i-22)else 0)else if i=26 then(uM tg k:Int)else 0
theorem VD(kind:Int)(Z Y X W V:Nat->Int)(i:Nat):DY kind Z Y X W V 0 i=if 1<=i/\i<1+17 then Z (i-1)else if i=0 then kind else 0:=by
 unfold DY
 repeat' split
 all_goals first|rfl|(exfalso;omega)
theorem EU(kind:Int)(N R Q P O:Nat->Int)(k i:Nat)(M:k<4):DY kind N R Q P O (k+1) i=if i=26 then(uM O (k+1):Int)else if i=22+k then P k else if i=18+k then iV (R k) (Q k)else DY kind N R Q P O k i:=by
 unfold DY;by_cases Z:i=26
 .subst Z;rfl
 rw[iN Z,iN Z];by_cases Y:i=22+k
 .subst Y;rw[iP rfl,iN I,iN I,iN I,iP I,iP I,show 22+k-22=k by omega]
 rw[iN Y];by_cases X:i=18+k
 .subst X;rw[iP rfl,iN I,iN I,iP I,iP I,show 18+k-18=k by omega]
 rw[iN X];by_cases V:i=0
 .rw[iP V,iP V]
 rw[iN V,iN V];by_cases U:i<18
 .rw[iP U,iP U]
 rw[iN U,iN U];by_cases T:i<22
 .rw[iP T,iP T];by_cases W:i-18<k
  .rw[iP W,iP (show i-18<k+1 by omega)]
  rw[iN W,iN (show¬i-18<k+1 by omega)]
 rw[iN T,iN T];by_cases S:i<26
 .rw[iP S,iP S];by_cases W:i-22<k
  .rw[iP W,iP (show i-22<k+1 by omega)]
  rw[iN W,iN (show¬i-22<k+1 by omega)]
 rw[iN S,iN S,iN Z]
def iW(kind:Int)(zo ac av wh tg:Nat->Int)(ver cnt:Int)(i:Nat):Int:=if i=27 then ver else if i=28 then cnt else DY kind zo ac av wh tg 4 i
def tI(z:Nat->Int)(w:World)(e:Ending)(w':World):Prop:=
 ∃g D,e=.returned (.slice (some ⟨g,0,none⟩) 32 32)/\aY w' g 23 D/\cH D 32 z/\w<=g/\Below w w w'
theorem Bz(w:World):(Instr.makeSlice 91 (32:Int) (32:Int)).run prog w=.ok (.slice (some ⟨w.heap.size,0,none⟩) 32 32) (w.alloc (.cells (Array.replicate 32 (.int .u64 0)) 23)):=J
theorem vM(a v:Int):0<=iV a v/\iV a v<18446744073709551616:=by
 unfold iV;split
 .rename_i h;unfold fU at h;simp at h;omega
 omega
theorem uC(R C:Array Value)(Q P N Y:Nat->Int)(ver cnt kind:Int)(M:Nat->Int)(w:World)(h:uD R C Q P N Y ver cnt)(hk:0<=kind/\kind<=9)(hz:∀i,i<17->0<=M i)(yy:cK kind M)(hC:jE kind M C w)
 (hw:∀t,t<4->0<=N t/\N t<18446744073709551616) (yx:0<=ver/\ver<18446744073709551616) (yw:0<=cnt/\cnt<18446744073709551616):
 Calls prog 59 #[.agg R] w (tI (iW kind M Q P N Y ver cnt) w):=by
 have yv:=Bz;have zt:aY (w.alloc (.cells R 136)) w 136 R:=aY.new _ _ _;have yk:kind%18446744073709551616=kind:=I;have r0:R[0]? =some (.int .i64 kind):=by
  have e:=hC.kind_;rw[h.thing,Array.getElem?_extract,iP (by have:=h.size;omega)]at e;simpa using e
 have zs:=hC.size;have zr:Hid ((prog.info? 131).map (·.size)=some C.toList.length):=by show _=_;rw[jT,Array.length_toList,zs]
 have HU:Hid (cH ((Array.replicate 32 (.int .u64 0)).setIfInBounds 0 [kind]) 32 (fun i=>if i=0 then kind else 0)):=aH ((cH.zero 32).set_ (k:=0) I);have H:=aH h;have HK:=aH hk;have HC:=aH hC;have yu:=aH zt;have HZ:=aH hz;have zq:=aH yy;have zp:=aH hw;clear h hC zt hz yy hw zs
 go_enter func59,ntmps59
 go_wp2_with fail;have x:Below w w ((w.alloc (.cells R 136)).alloc (.cells ((Array.replicate 32 (.int .u64 0)).setIfInBounds 0 [kind]) 23)):=by go_grown
 have r:Hid (aY ((w.alloc (.cells R 136)).alloc (.cells ((Array.replicate 32 (.int .u64 0)).setIfInBounds 0 [kind]) 23)) (w,1) 23 ((Array.replicate 32 (.int .u64 0)).setIfInBounds 0 [kind])):=aH (aY.newAt _ _ _ (by simp));have S:Hid (aY ((w.alloc (.cells R 136)).alloc (.cells ((Array.replicate 32 (.int .u64 0)).setIfInBounds 0 [kind]) 23)) w 136 R):=aH (yu.alloc _);have zn:=aH (HC.below x);generalize(w.alloc (.cells R 136)).alloc (.cells ((Array.replicate 32 (.int .u64 0)).setIfInBounds 0 [kind]) 23)=W1 at*;generalize(Array.replicate 32 (Value.int .u64 0)).setIfInBounds 0 (Value.int .u64 kind)=z at*;clear HC yv;have yt:=r.lt;refine aA 5 ?_
 iterate 3
  refine aR ?_;constructor
  .intro w9 hw9 _;go_simp;exact aE
 refine bA (.agg C) cX ?_ ?_
 .intro w9 hw9 _;exact pG 131 _ rfl w 0 rfl C.toList _ (by
   rw[H.thing];exact World.rangeAt_of_block (t:=136) (fr:=(0,0)) (S.below hw9.same S.lt) 0 19) underlying131 rfl zr ⟨⟨by simp,trivial⟩,aD.refl _ _⟩
 refine bC LO (XB M) ⟨_,0,rfl⟩ ?_ ?_
 .intro w9 hw9 _;go_simp;go_at_call 85;refine(MJ C M kind _ HZ zq (zn.below hw9.same)).mono ?_;rintro e yj ⟨g,D,rfl,W,y,hg,ym⟩;exact⟨_,rfl,⟨⟨g,rfl⟩,⟨g,D,rfl,W,y⟩⟩,aD.of_same ym⟩
 refine aZ ?_;rintro _ ⟨g9,rfl⟩ w9 hw9 a;obtain⟨w0,k0,k1,g',D,hv,A,y⟩:=(a.1 rfl).out;cases hv;have zm:=A.below k1 A.lt;have zz:=aH (r.below hw9.same r.lt);have d:=aH (S.below hw9.same S.lt);have zl:=aH (x.trans (hw9.same.mono x.size));have zk:=aH zm;have HD:=aH y;clear a A k0 k1 zm y r S x yt hw9;simp only[List.drop_succ_cons,List.drop_zero];refine wpList_copy_own rfl (.tmp 13) (.tmp 16) 91 91 rfl 23 underlying91 (by kernel_rfl) (w.heap.size+1) 1 31 31 ⟨g9,0,none⟩ 17 17 rfl rfl z 23 zz D.toList (by rw[Array.length_toList,HD.size];rfl) ?hsrc ?hfit ?hone ?_
 case hsrc=>
  intro j v hj;rw[Addr.add_lit,Nat.zero_add,zk.cell j];simpa using hj
 case hfit=>rw[Array.length_toList,HD.size,HU.size];decide
 case hone=>
  intro v hv;have:=HD.one;rw[Array.all_eq_true]at this;obtain⟨i,hi,rfl⟩:=List.getElem_of_mem hv;have h9:=this i (by simpa using hi);simpa using h9
 rw[Array.length_toList,HD.size];have zj:=aH ((HU.splice HD (o:=1) I).congr (z':=DY kind M Q P N Y 0) (fun i hi=>VD _ _ _ _ _ _ i));have c:=aH (zz.setRow (z.toList.take 1++(D.toList++z.toList.drop (1+17))).toArray);have K:Hid (aY (w9.setRow (w,1) (z.toList.take 1++(D.toList++z.toList.drop (1+17))).toArray) w 136 R):=aH ((setRow_other _ _ _ _ I).trans d);have b:=aH (aL zl (show w.heap.size<=w+1 by omega) (z.toList.take 1++(D.toList++z.toList.drop (1+17))).toArray);generalize w9.setRow (w,1) (z.toList.take 1++(D.toList++z.toList.drop (1+17))).toArray=W2 at*;generalize(z.toList.take 1++(D.toList++z.toList.drop (1+17))).toArray=E1 at*;clear HU zz d zl zk HD;clear r0 zq zn zr;go_wp2
 go_loopw [18] (fun i wr=>∃k:Nat,k<=4/\i=.int .i64 k/\Hid (∃E,aY wr (w,1) 23 E/\cH E 32 (DY kind M Q P N Y k))/\Hid (aY wr w 136 R)/\Hid (Below w w wr)) (fun i _=>4-(intOf i).toNat)
 case atStart=>exact⟨0,I,rfl,aH ⟨E1,c.out,zj.out⟩,K,b⟩
 case round=>
  obtain⟨k,hk,rfl,hE,HR,HW⟩:=hrel;obtain⟨E,zb,za⟩:=hE.out;have U:=aH zb;have X:=aH za;clear hE zb za c zj K b;by_cases V:k<4
  .have q1:(k:Int)<4:=I;have a0:wr.cell? (w.heap.size,19+k*2)=(Q k):=by rw[Nat.mul_comm k 2];exact(HR.cell _).trans (H.ac_ k V)
   have a1:wr.cell? (w.heap.size,19+k*2+1)=(P k):=by rw[Nat.mul_comm k 2,show 19+2*k+1=20+2*k by omega];exact(HR.cell _).trans (H.av_ k V)
   by_cases L:Y k=1
   .have yo:(Y k==1)=true:=by simpa using L
    have zy:=aH L;clear L;go_wp2_with fail;refine(rF (Q k) (P k) _).mono ?_;rintro e w1 ⟨rfl,W⟩;have Z:=U.below W U.lt;have T:=HR.below W HR.lt;have q:=aH (HW.trans (W.mono HW.size));have x0:=(Z.cell (18+k)).trans (X.get (18+k) I);have x1:=(Z.cell (22+k)).trans (X.get (22+k) I);have x2:=(Z.cell 26).trans (X.get 26 I);rw[show DY kind M Q P N Y k 26=((uM Y k:Nat):Int)from rfl]at x2;have zi:Hid (DY kind M Q P N Y k 26=((uM Y k:Nat):Int)):=aH rfl;have f0:=Z.frozen (18+k);have f1:=Z.frozen (22+k);have f2:=Z.frozen 26;have y0:=(T.cell (27+k)).trans (H.wh_ k V);have y1:=(T.cell (31+k)).trans (H.tg_ k V);have zh:(18:Int)+k=((18+k:Nat):Int):=I;have zg:(22:Int)+k=((22+k:Nat):Int):=I;have ys:((18+k:Nat):Int)<32:=I;have yr:((22+k:Nat):Int)<32:=I;have n1:¬18+k=26:=I;have n2:¬22+k=26:=I;have n3:¬18+k=22+k:=I;have n4:¬22+k=18+k:=I;have n5:¬26=18+k:=I;have n6:¬26=22+k:=I;have G:=aH Z;have n:=aH T;have zx:=aH (zp.out k V);have zw:=aH (vM (Q k) (P k));have zv:=aH (EU kind M Q P N Y k);have zf:=aH (AI Y (k+1) I);have ze:=aH (AI Y k I);have zu:Hid (uM Y (k+1)=if Y k=1 then iH (uM Y k) k else uM Y k):=aH rfl;clear a0 a1 W Z T;generalize iV (Q k) (P k)=l at*;generalize N k=f at*;generalize uM Y (k+1)=tn at*;generalize uM Y k=tk at*;generalize Y k=yl at*;generalize hs:18+k=s at*;generalize y:22+k=u at*;have HS:=aH hs;have HU:=aH y;clear hs y;go_wp2_with fail;refine(ES tk k _ ze).mono ?_;rintro e w2 ⟨rfl,m⟩;rw[show iH tk (k:Int)=tn from by rw[zu.out,iP zy.out]];have F:=(G.set_ s [l]).set_ u [f];have O:=F.below m F.lt;have yq:=aH (((n.far (p:=⟨w+1,s,none⟩) (by simp) [l]).far (p:=⟨w+1,u,none⟩) (by simp) [f]).below m (by have:=n.lt;simpa using this));have yp:=aH (((q.setCell (p:=⟨w+1,s,none⟩) (by show w.heap.size<=w+1;omega) [l]).setCell (p:=⟨w+1,u,none⟩) (by show w.heap.size<=w+1;omega) [f]).trans (m.mono (by have:=q.size;simpa using this)));have B:=(X.set_ (k:=s) (v:=l) zw).set_ (k:=u) (v:=f) zx;have x3:=(O.cell 26).trans (B.get 26 I);have f3:=O.frozen 26;have zd:=aH O;have zc:=aH B;clear m F O B x0 x1 x2 f0 f1 f2 y0 y1 zh zg n1 n2 n3 n4 n5 n6;go_wp2;go_roundw
    case rel=>exact⟨k+1,I,aG,aH ⟨_,zd.set_ 26 _,(zc.set_ (k:=26) (v:=(tn:Int)) (by have:=zf.out;omega)).congr (fun i hi=>zv.out i V)⟩,aH (yq.far (p:=⟨w+1,26,none⟩) (by simp) _),aH (yp.setCell (p:=⟨w+1,26,none⟩) (by show w.heap.size<=w+1;omega) _)⟩
    case measure=>simp [intOf];omega
   have yo:(Y k==1)=false:=by simpa using L
   have zy:=aH L;clear L;go_wp2_with fail;refine(rF (Q k) (P k) _).mono ?_;rintro e w1 ⟨rfl,W⟩;have Z:=U.below W U.lt;have T:=HR.below W HR.lt;have q:=aH (HW.trans (W.mono HW.size));have x0:=(Z.cell (18+k)).trans (X.get (18+k) I);have x1:=(Z.cell (22+k)).trans (X.get (22+k) I);have x2:=(Z.cell 26).trans (X.get 26 I);rw[show DY kind M Q P N Y k 26=((uM Y k:Nat):Int)from rfl]at x2;have zi:Hid (DY kind M Q P N Y k 26=((uM Y k:Nat):Int)):=aH rfl;have f0:=Z.frozen (18+k);have f1:=Z.frozen (22+k);have f2:=Z.frozen 26;have y0:=(T.cell (27+k)).trans (H.wh_ k V);have y1:=(T.cell (31+k)).trans (H.tg_ k V);have zh:(18:Int)+k=((18+k:Nat):Int):=I;have zg:(22:Int)+k=((22+k:Nat):Int):=I;have ys:((18+k:Nat):Int)<32:=I;have yr:((22+k:Nat):Int)<32:=I;have n1:¬18+k=26:=I;have n2:¬22+k=26:=I;have n3:¬18+k=22+k:=I;have n4:¬22+k=18+k:=I;have n5:¬26=18+k:=I;have n6:¬26=22+k:=I;have G:=aH Z;have n:=aH T;have zx:=aH (zp.out k V);have zw:=aH (vM (Q k) (P k));have zv:=aH (EU kind M Q P N Y k);have zf:=aH (AI Y (k+1) I);have ze:=aH (AI Y k I);have zu:Hid (uM Y (k+1)=if Y k=1 then iH (uM Y k) k else uM Y k):=aH rfl;clear a0 a1 W Z T;generalize iV (Q k) (P k)=l at*;generalize N k=f at*;generalize uM Y (k+1)=tn at*;generalize uM Y k=tk at*;generalize Y k=yl at*;generalize hs:18+k=s at*;generalize y:22+k=u at*;have HS:=aH hs;have HU:=aH y;clear hs y;have yn:Hid (tn=tk):=aH (by rw[zu.out,iN zy.out]);go_wp2;go_roundw
   case rel=>exact⟨k+1,I,aG,aH ⟨_,(G.set_ s [l]).set_ u [f],((X.set_ (k:=s) (v:=l) zw).set_ (k:=u) (v:=f) zx).congr (fun i hi=>by
    have e1:=HS.out;have e2:=HU.out;rw[zv.out i V];by_cases yz:i=26
    .subst yz;rw[iP rfl,iN I,iN I,zi.out,yn.out]
    .rw[iN yz])⟩,aH ((n.far (p:=⟨w+1,s,none⟩) (by simp) [l]).far (p:=⟨w+1,u,none⟩) (by simp) [f]),
    aH ((q.setCell (p:=⟨w+1,s,none⟩) (by show w.heap.size<=w+1;omega) [l]).setCell (p:=⟨w+1,u,none⟩) (by show w.heap.size<=w+1;omega) [f])⟩
   case measure=>simp [intOf];omega
  obtain rfl:k=4:=I;have v0:=(HR.cell 35).trans H.ver_;have v1:=(HR.cell 36).trans H.cnt_;have x0:=(U.cell 27).trans (X.get 27 I);have x1:=(U.cell 28).trans (X.get 28 I);have f0:=U.frozen 27;have f1:=U.frozen 28;go_wp2
  go_region
  apply_assumption
  go_wp2;go_ret;exact⟨w+1,_,rfl,(U.set_ 27 _).set_ 28 _,((X.set_ (k:=27) (v:=ver) yx).set_ (k:=28) (v:=cnt) yw).congr (fun i hi=>by
   unfold iW;by_cases h1:i=27
   .subst h1;rfl
   rw[iN h1];by_cases h2:i=28
   .rw[iP h2,iP h2]
   rw[iN h2,iN h2,iN h1]),I,((HW.setCell (p:=⟨w+1,27,none⟩) (by show w.heap.size<=w+1;omega) _).setCell (p:=⟨w+1,28,none⟩) (by show w.heap.size<=w+1;omega) _).drew⟩
