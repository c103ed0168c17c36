/-
  Part of a proof: MTh RecR MHeap QueueD StackD. For all values.
-/
import Derived.BigRegion
import Derived.Test.YtplpimkgihnmhaaGreatDoorA05
set_option maxRecDepth 100000
set_option maxHeartbeats 4000000
set_option linter.all false
namespace Go.Proofs.YtplpimkgihnmhaaGreatDoor
open Go.Proofs.Tryz Go.RowKit
variable{w w':World}{xs:List Int}{z d:Nat->Int}{A:Option Addr}{C:Array Value}{kind N v:Int}{i B G g:Nat}
section
attribute [local go_sem↓] Go.wp_at_zero Go.wp_at_succ
theorem tQ(A B:Option Addr)(n c m d:Nat)(z y:Nat->Int)(w:World)(h:qY w A n c z)(k:qY w B m d y):
 Calls prog 170 #[.slice A n c,.slice B m d] w fun e w'=>∃b,e=.returned (.bool b)/\(b=true↔n=m/\∀i,i<n->z i=y i)/\Below w.heap.size w w':=by
 have O:=h.cap63;have N:=k.cap63;have M:=h.cap;have L:=k.cap;have K:=Lib.hid h;have H:=Lib.hid k;clear h k
 go_enter func170,ntmps170
 go_wp2
 go_loopw [8] (fun i wr=>∃k:Nat,k<=n/\k<=m/\i=.int .i64 k/\Below w.heap.size w wr/\Hid (∀j,j<k->z j=y j)) (fun i _=>n-(intOf i).toNat)
 case atStart=>exact⟨0,by omega,by omega,rfl,Below.refl _ _,fun j P=>absurd P (by omega)⟩
 case round=>
  obtain⟨k,x,D,rfl,V,X⟩:=hrel;by_cases S:k<n
  .have b1:(k:Int)<n:=by omega
   obtain⟨b,R,rfl,U,Y⟩:=K.at_ (by omega);have G:=(V.cell (p:=⟨b,R+k,none⟩) U).trans (Y k S);clear Y;by_cases Q:k<m
   .have b2:(k:Int)<m:=by omega
    have F:decide ((m:Int)<=k)=false:=by simp;omega
    obtain⟨C,T,rfl,W,Z⟩:=H.at_ (by omega);have E:=(V.cell (p:=⟨C,T+k,none⟩) W).trans (Z k Q);clear Z;go_wp2
    go_quiet (fail)
    go_wp2
    .go_ret;refine⟨_,rfl,?_,cZ V _⟩;constructor
     .intro h;cases h
     intro h;have:=h.2 k S
     simp_all<;>omega
    go_roundw
    case rel=>exact⟨k+1,by omega,by omega,by go_num,cZ V _,Lib.hid fun j P=>by
     rcases Nat.lt_or_ge j k with h|h
     .exact X j h
     obtain rfl:j=k:=by omega
     simp_all<;>omega⟩
    case measure=>simp [intOf];omega
   have F:decide ((m:Int)<=k)=true:=by simp;omega
   go_wp2
   go_quiet (fail)
   go_wp2;go_ret;refine⟨_,rfl,?_,cZ V _⟩;constructor
   .intro h;cases h
   intro h;exact absurd h.1 (by omega)
  obtain rfl:k=n:=by omega
  go_wp2;go_ret;refine⟨_,rfl,?_,V⟩;constructor
  .intro h;have h:=of_decide_eq_true h;exact⟨I,X.out⟩
  rintro⟨h,_⟩;exact decide_eq_true I
def tz(kind:Int):Array Value:= #[kind,.slice none 0 0,(0:Int),(0:Int),(0:Int),(0:Int),(0:Int),(0:Int),(0:Int),(0:Int),(0:Int),(0:Int),(0:Int),(0:Int),(0:Int),(0:Int),(0:Int),(0:Int),(0:Int)]
theorem sC(kind:Int)(w:World):(Instr.build 131 #[(0,kind)]).run prog w=.ok (.agg (tz kind)) w:=J
theorem BC(kind:Int):lD (tz kind) kind none 0 0 (fun _=>0) 0:=⟨rfl,rfl,rfl,fun i Z=>by
 match i,Z with
 |0,_|1,_|2,_|3,_|4,_|5,_|6,_|7,_|8,_|9,_|10,_|11,_|12,_|13,_|14,_|15,_=>rfl
 |i+16,h=>omega,rfl⟩
theorem jT:(prog.info? 131).map (·.size)=some 19:=J
theorem kM{n c:Nat}(h:lD C kind A n c d N):C.all (·.oneCell')=true:=by
 rw[Array.all_eq_true];intro i Z;have V:=h.size;have key:∀v,C[i]? =some v->v.oneCell'=true->C[i].oneCell'=true:=fun v e Y=>by
  rw[Array.getElem?_eq_getElem Z]at e;rw[Option.some.inj e];exact Y
 by_cases X:i=0
 .subst X;exact key _ h.kind_ rfl
 by_cases W:i=1
 .subst W;exact key _ h.list rfl
 by_cases U:i<18
 .have:=h.slot (i-2) I;rw[show 2+(i-2)=i by omega]at this;exact key _ this rfl
 obtain rfl:i=18:=I;exact key _ h.num rfl
theorem lD.setN{n c:Nat}(h:lD C kind A n c d N)(Z:Int):lD (C.setIfInBounds 18 Z) kind A n c d Z:=by
 have Y:=h.size;refine⟨by simp [Y],?_,?_,fun i X=>?_,?_⟩
 .rw[Array.getElem?_setIfInBounds,iN I];exact h.kind_
 .rw[Array.getElem?_setIfInBounds,iN I];exact h.list
 .rw[Array.getElem?_setIfInBounds,iN I];exact h.slot i X
 rw[Array.getElem?_setIfInBounds,iP rfl,iP I]
theorem lD.setL{n c:Nat}(h:lD C kind A n c d N)(Z:Option Addr)(Y c':Nat):lD (C.setIfInBounds 1 (.slice Z Y c')) kind Z Y c' d N:=by
 have X:=h.size;refine⟨by simp [X],?_,?_,fun i W=>?_,?_⟩
 .rw[Array.getElem?_setIfInBounds,iN I];exact h.kind_
 .rw[Array.getElem?_setIfInBounds,iP rfl,iP I]
 .rw[Array.getElem?_setIfInBounds,iN I];exact h.slot i W
 rw[Array.getElem?_setIfInBounds,iN I];exact h.num
theorem lD.setD{n c:Nat}(h:lD C kind A n c d N)(j:Nat)(X:j<16)(x:Int):lD (C.setIfInBounds (2+j) x) kind A n c (fun i=>if i=j then x else d i) N:=by
 have Z:=h.size;refine⟨by simp [Z],?_,?_,fun i Y=>?_,?_⟩
 .rw[Array.getElem?_setIfInBounds,iN I];exact h.kind_
 .rw[Array.getElem?_setIfInBounds,iN I];exact h.list
 .rw[Array.getElem?_setIfInBounds];by_cases e:i=j
  .subst e;rw[iP rfl,iP I,iP rfl]
  rw[iN I,iN e];exact h.slot i Y
 rw[Array.getElem?_setIfInBounds,iN I];exact h.num
theorem qY.blk_lt{n c:Nat}(h:qY w A n c z)(V:0<n):∀a,A=some a->a.block<w:=fun a X=>by
 obtain⟨b,W,Y,Z,_⟩:=h.at_ V;rw[X]at Y;cases Y;exact Z
theorem qY.set_far{n c:Nat}(h:qY w A n c z){p:Addr}(U:∀a,A=some a->a.block≠p.block)(u:Value):qY (w.setCell p u) A n c z:=
 ⟨h.cap,h.cap63,h.bd,fun X=>by
  obtain⟨b,Z,rfl,Y,W⟩:=h.at_ X;refine⟨b,Z,rfl,by simpa using Y,fun i V=>?_⟩;rw[World.cell?_setCell_far _ _ _ _ (show p.block≠b from fun e=>U _ rfl e.symm)];exact W i V⟩
theorem zD(h:∀i,i<17->z i<=4294967295):(∀i,i<17->(if i=0 then z 0 else 0)=z i)↔qO z:=
 ⟨fun Z=>⟨h 0 I,fun i Y=>(Z i Y).symm⟩,fun Z i Y=>(Z.2 i Y).symm⟩
theorem zR(W:∀i,i<17->0<=z i)(h:kQ z):∀i,i<17->z i<=4294967295:=fun i Y=>by
 obtain⟨Z,X,_⟩:=h;rcases Nat.lt_or_ge i 16 with h16|h16
 .have:=Z (i/2) I;unfold tW at this;rcases Nat.mod_two_eq_zero_or_one i with e|e
  .rw[show 2*(i/2)=i by omega]at this;omega
  rw[show 2*(i/2)+1=i by omega]at this;omega
 obtain rfl:i=16:=I;omega
theorem uE(h:∀i,i<17->z i<=4294967295)(W:∀i,i<17->0<=z i)(X:cS z=true):(∀i,i<17->eF 8 z i=z i)↔kQ z:=by
 constructor
 .intro h1;refine⟨fun i Y=>?_,?_,X⟩
  .have:=nB X Y;unfold tW;omega
  have:=h1 16 I;unfold eF at this;rw[iN I]at this;exact this.symm
 rintro⟨_,Z,_⟩ i Y;unfold eF;by_cases e:i<2*8
 .rw[iP e]
 obtain rfl:i=16:=I;rw[iN e,Z]
theorem lD.congr{n c:Nat}{Y:Nat->Int}(h:lD C kind A n c d N)(e:∀i,i<16->Y i=d i):lD C kind A n c Y N:=
 ⟨h.size,h.kind_,h.list,fun i Z=>by rw[e i Z];exact h.slot i Z,h.num⟩
theorem CV(Y:∀i,i<17->0<=z i)(h:gW z):∀i,i<17->z i<=4294967295:=fun i Z=>by
 rcases Nat.eq_zero_or_pos i with e|e
 .subst e;have:=h.1;omega
 have:=(h.2 (i-1) I).1;rw[Nat.sub_add_cancel e]at this;exact this
theorem xV{n:Nat}(h:∀i,i<17->z i<=4294967295)(Q:∀i,i<17->0<=z i)(T:(z 0).toNat=n)(P:n<=6):(∀i,i<17->iT n (zL z) i=z i)↔gW z:=by
 have W:z 0=n:=by have:=Q 0 I;omega
 have e:∀i,i≠0->i<=n->iT n (zL z) i=z i:=fun i Z V=>by
  unfold iT zL;rw[iN Z,iP V,T,pA _ _ _ I,Nat.sub_add_cancel I]
 have S:∀i,i≠0->¬i<=n->iT n (zL z) i=0:=fun i Z V=>by unfold iT;rw[iN Z,iN V]
 constructor
 .intro Z;refine⟨I,fun i R=>⟨h _ I,fun U=>?_⟩⟩;rw[T]at U;rw[<-Z (i+1) I,S _ I I]
 intro Z i R;by_cases Y:i=0
 .subst Y;rw[W];rfl
 by_cases X:i<=n
 .exact e i Y X
 rw[S i Y X];have:=(Z.2 (i-1) I).2 (by rw[T];omega);rw[Nat.sub_add_cancel I]at this;exact this.symm
theorem jX.lt'{n c:Nat}(h:jX w B A n c xs)(V:0<n):∀a,A=some a->B<=a.block/\a.block<w:=fun a Y=>by
 obtain⟨g,Z,X,W,_⟩:=h.at_ V;rw[Y]at Z;cases Z;exact⟨X,W⟩
theorem fI.setRow{n c:Nat}(h:fI w A n c xs)(U:0<n->∀a,A=some a->a.block≠g)(cs:Array Value):fI (w.setRow g cs) A n c xs:=
 ⟨h.len,h.cap,h.cap63,h.bd,fun X=>by
  obtain⟨b,Z,rfl,Y,W⟩:=h.at_ X;refine⟨b,Z,rfl,by simpa [World.setRow]using Y,fun i V=>?_⟩;rw[<-W i V];exact World.cell?_of_block (setRow_other w g b cs (by have T:b≠g:=U X _ rfl;omega))⟩
def Fc(x:Value):Prop:=∃g,x=.slice (some ⟨g,0,none⟩) 1 1
def Gl(t:TypeId)(v:Int)(x:Value)(w:World):Prop:=∃g,x=.slice (some ⟨g,0,none⟩) 1 1/\aY w g t #[v]
theorem AA{S:Nat->Prop}{n c:Nat}(h:jX w B A n c xs)(Z:aD S w w')(W:∀b,¬S b):jX w' B A n c xs:=
 World.ownsRow.kept (row:=none) h ⟨Z.os,Z.tape,Z.output,Z.size,fun k Y _=>Z.block k Y (W k)⟩ (by
  by_cases X:(Value.slice A n c).ownBlock=none
  .exact .inl X
  exact .inr X)
def Ew(n:Nat)(x:Value):Prop:=∃A c,x=.slice A n c
def El(B n:Nat)(xs:List Int)(x:Value)(w:World):Prop:=∃A c,x=.slice A n c/\jX w B A n c xs
def LO(x:Value):Prop:=∃g,x=.slice (some ⟨g,0,none⟩) 17 17
def XB(z:Nat->Int)(x:Value)(w:World):Prop:=∃g D,x=.slice (some ⟨g,0,none⟩) 17 17/\aY w g 23 D/\cH D 17 z
def pR(b:Bool)(T:Array Value->World->Prop)(w:World)(e:Ending)(w':World):Prop:=
 Below w w w'/\∃C,C.size=19/\C.all (·.oneCell')=true/\e=.returned (.tuple #[.agg C,b])/\(b=true->T C w')
theorem GZ(A:Option Addr)(c:Nat)(z:Nat->Int)(kind:Int)(w:World)(h:qY w A 17 c z)(O:kind<1\/6<kind):
 Calls prog 169 #[kind,.slice A 17 c] w (pR false (fun _ _=>True) w):=by
 have R:bV kind 1 6=false:=by simp [bV];omega
 have Q:=aH R;have W:=sC;have P:=aH (BC kind);have Y:Hid ((prog.info? 131).map (·.size)=some (tz kind).size):=jT;have V:=aH (kM P);clear h R
 go_enter func169,ntmps169
 go_wp2_with (refine wpList_store_row rfl 131 _ _ rfl (w,1) (tz kind) rfl rfl 131 (tz 0) ((aY.newAt _ _ _ (by simp))) Y rfl V ?_)
 refine(bQ _ _ _ _).mono ?_;rintro e S ⟨rfl,X⟩;rw[Q.out];have Z:aY S w 131 (tz 0):=by
  rw[<-X];exact(setRow_other _ _ _ _ I).trans ((aY.new _ _ _).alloc _)
 have U:aY S (w,1) 131 (tz kind):=by rw[<-X];exact aY.setRow (aY.newAt _ _ _ (by simp)) _
 have T:Below w.heap.size w S:=by rw[<-X];exact aL (by go_grown) (by omega) _
 clear X Q W
 go_wp2_with (first
  |(refine wpList_load_row rfl 131 _ rfl (w.heap.size+1) rfl 131 (tz kind) (0,0) _ U underlying131 rfl Y ?_)
  |(refine wpList_store_row rfl 131 _ _ rfl w.heap.size (tz kind) rfl rfl 131 (tz 0) Z Y rfl V ?_))
 refine bodyPost_ret (bR results169 _ _ w.heap.size 131 (tz kind) _ _ rfl rfl (aY.setRow Z (tz kind)) underlying131 rfl Y) rfl ⟨aL T (Nat.le_refl _) _,(tz kind),P.size,V.out,rfl,fun h=>Bool.noConfusion h⟩
theorem DI(A:Option Addr)(c:Nat)(z:Nat->Int)(b:Bool)(w:World)(h:qY w A 17 c z)(hb:b=true↔qO z):
 Calls prog 169 #[(6:Int),.slice A 17 c] w (pR b (fun C _=>lD C 6 none 0 0 (fun _=>0) (z 0)) w):=by
 have d1:bV 6 1 6=true:=by simp [bV]
 have HW:=aH d1;have d:=sC;have r:=aH (BC 6);have q:Hid ((prog.info? 131).map (·.size)=some (tz 6).size):=jT;have HO:=aH (kM r);have H:=aH h;have HB:=aH hb;clear h d1 hb
 go_enter func169,ntmps169
 go_wp2_with (refine wpList_store_row rfl 131 _ _ rfl (w,1) (tz 6) rfl rfl 131 (tz 0) ((aY.newAt _ _ _ (by simp))) q rfl HO ?_)
 refine(bQ _ _ _ _).mono ?_;rintro e u ⟨rfl,f⟩;rw[HW.out];have R:aY u w 131 (tz 0):=by
  rw[<-f];exact(setRow_other _ _ _ _ I).trans ((aY.new _ _ _).alloc _)
 have Y:aY u (w,1) 131 (tz 6):=by rw[<-f];exact aY.setRow (aY.newAt _ _ _ (by simp)) _
 have Q:Below w w u:=by rw[<-f];exact aL (by go_grown) I _
 clear f HW d;have zu:=Y.lt;have X:=aH (H.below Q);have HG:=aH (H.blk_lt I);go_wp2
 go_loop [19] (fun i=>∃k:Nat,k<=17/\i=.int .i64 k/\Hid (∀j,j<k->z j<=4294967295)) (fun i=>17-(intOf i).toNat)
 case atStart=>exact⟨0,I,rfl,aH fun j hj=>absurd hj I⟩
 case round=>
  obtain⟨k,hk,rfl,U⟩:=hrel;by_cases S:k<17
  .have q1:(k:Int)<17:=I;obtain⟨g,t,rfl,s,Z⟩:=X.at_ I;have m:=Z k S;have bd:=X.bd k S;clear Z;generalize L:z k=v at m bd;have G:=aH L;clear L;by_cases hM:v<=4294967295
   .have d2:decide (4294967295<v)=false:=by simp;omega
    go_wp2
    go_round
    case rel=>exact⟨k+1,I,aG,aH fun j hj=>by
     rcases Nat.lt_or_ge j k with h|h
     .exact U j h
     obtain rfl:j=k:=I;rw[G.out];exact hM⟩
    case measure=>simp [intOf];omega
   have d2:decide (4294967295<v)=true:=by simp;omega
   obtain rfl:b=false:=by
    rw[Bool.eq_false_iff];intro ht;have h9:=HB.out.1 ht;have zt:=G.out;have F:4294967295<z k:=by omega
    exact absurd F (by unfold qO at h9;have a1:=h9.1;have a2:=h9.2 k S;split at a2<;>omega)
   go_wp2_with (first
    |(refine wpList_load_row rfl 131 _ rfl (w.heap.size+1) rfl 131 (tz 6) (0,0) _ Y underlying131 rfl q ?_)
    |(refine wpList_store_row rfl 131 _ _ rfl w.heap.size (tz 6) rfl rfl 131 (tz 0) R q rfl HO ?_))
   refine bodyPost_ret (bR results169 _ _ w.heap.size 131 (tz 6) _ _ rfl rfl (aY.setRow R (tz 6)) underlying131 rfl q) rfl ⟨aL Q (Nat.le_refl _) _,(tz 6),r.size,HO.out,rfl,fun h=>Bool.noConfusion h⟩
  obtain rfl:k=17:=I;have W:=aH U;clear U;obtain⟨g,t,rfl,s,Z⟩:=X.at_ I;have m:=Z 0 I;have bd:=X.bd 0 I;have hM:=W.out 0 I;have V:=(r.setN (z 0));simp only[Nat.add_zero]at m;clear Z;generalize L:z 0=v at m bd hM V;have G:=aH L;clear L;have hq:=Y.cell 18;rw[r.num]at hq;have hf:=Y.frozen 18;have l:=aH V;clear V;have N:Hid ((prog.info? 131).map (·.size)=some ((tz 6).setIfInBounds 18 (.int .i64 v)).size):=jT;have E:=Lib.hid (kM l);have B:=Lib.hid (Y.set_ 18 (.int .i64 v));have P:=Lib.hid (R.far (p:=⟨w.heap.size+1,18,none⟩) (by simp) (.int .i64 v));have y:=Lib.hid (Q.setCell (p:=⟨w.heap.size+1,18,none⟩) (by show w.heap.size<=w.heap.size+1;omega) (.int .i64 v));have zz:Hid (qY (u.setCell ⟨w.heap.size+1,18,none⟩ (.int .i64 v)) (some ⟨g,t,none⟩) 17 c z):=Lib.hid (X.set_far (fun a ha=>by have:=HG.out a ha;show a.block≠w.heap.size+1;omega) _);clear R Y Q;go_wp2_with fail;generalize u.setCell ⟨w.heap.size+1,18,none⟩ (.int .i64 v)=W2 at*;refine bK 5 bN [] (by kernel_rfl) (by kernel_rfl) ?_
  iterate 2
   refine aR ?_;constructor
   .intro w9 hw9 _;exact bT 131 _ rfl (w.heap.size+1) rfl 131 ((tz 6).setIfInBounds 18 (.int .i64 v)) _ (B.below hw9.same B.lt) underlying131 rfl N aE
  refine bC LO (XB (fun i=>if i=0 then v else 0)) ⟨_,0,rfl⟩ ?_ ?_
  .intro w9 hw9 _;go_simp;go_at_call 85;refine(uY _ none 0 0 (fun _=>0) v _ l (by omega)).mono ?_;rintro e zx ⟨g,D,rfl,zw,hu,hg,M⟩;exact⟨_,rfl,⟨⟨g,rfl⟩,⟨g,D,rfl,zw,hu⟩⟩,aD.of_same M⟩
  refine aC (fun K hK=>?_);refine .inl ?_;apply Exists.intro;refine⟨cX,?_,hK _ _ _ _ ?_⟩
  .simp only[bJ,bM];rintro _ ⟨g,rfl⟩;refine⟨rfl,fun w9 hw9 _=>?_⟩;go_simp;exact aE
  clear hK K;refine aN ?_;refine bB (.bool b) cX ?_ ?_
  .rintro _ ⟨g,rfl⟩;refine⟨rfl,fun w9 hw9 T=>?_⟩;obtain⟨w0,k0,k1,g',D,L,O,hu⟩:=(T.2.1 (by kernel_rfl)).out;cases L;go_simp;go_at_call 170;refine(tQ _ _ 17 17 17 _ (fun i=>if i=0 then v else 0) z _ (by simpa using qY.of_blk (n:=17) (c:=17) (o:=0) (O.below k1 O.lt) hu (by omega) (by omega) (by omega)) (zz.below hw9.same)).mono ?_;rintro e zx ⟨b',rfl,zv,M⟩;obtain rfl:b'=b:=by
    rw[Bool.eq_iff_iff,zv,HB.out];rw[<-G.out];exact⟨fun h=>(zD W).1 h.2,fun h=>⟨rfl,(zD W).2 h⟩⟩
   exact⟨_,rfl,⟨rfl,trivial⟩,aD.of_same M⟩
  refine aZ ?_;rintro _ ⟨g9,rfl⟩ w9 hw9 T;clear T;have x:=aH (P.below hw9.same P.lt);have zy:=aH ((y.out).trans (hw9.same.mono (y.out).size));simp only[List.drop_succ_cons,List.drop_zero]
  go_wp2_with (refine wpList_store_row rfl 131 _ _ rfl w ((tz 6).setIfInBounds 18 v) rfl rfl 131 (tz 0) x N rfl E ?_)
  refine bodyPost_ret (bR results169 _ _ w 131 ((tz 6).setIfInBounds 18 v) _ _ rfl rfl (aY.setRow x ((tz 6).setIfInBounds 18 v)) underlying131 rfl N) rfl ⟨aL zy (Nat.le_refl _) _,((tz 6).setIfInBounds 18 v),l.size,E.out,rfl,fun _=>by rw[G.out];exact l⟩
theorem ED(A:Option Addr)(c:Nat)(z:Nat->Int)(b:Bool)(w:World)(h:qY w A 17 c z)(hb:b=true↔kQ z):
 Calls prog 169 #[(5:Int),.slice A 17 c] w (pR b (fun C _=>lD C 5 none 0 0 z 0) w):=by
 have d1:bV 5 1 6=true:=by simp [bV]
 have HW:=aH d1;have zu:=sC;have HT:=aH (BC 5);have HI:Hid ((prog.info? 131).map (·.size)=some (tz 5).size):=jT;have HO:=aH (kM HT);have H:=aH h;have HB:=aH hb;clear h d1 hb
 go_enter func169,ntmps169
 go_wp2_with (refine wpList_store_row rfl 131 _ _ rfl (w,1) (tz 5) rfl rfl 131 (tz 0) ((aY.newAt _ _ _ (by simp))) HI rfl HO ?_)
 refine(bQ _ _ _ _).mono ?_;rintro e W1 ⟨rfl,hW⟩;rw[HW.out];have M:aY W1 w 131 (tz 0):=by
  rw[<-hW];exact(setRow_other _ _ _ _ I).trans ((aY.new _ _ _).alloc _)
 have L:aY W1 (w,1) 131 (tz 5):=by rw[<-hW];exact aY.setRow (aY.newAt _ _ _ (by simp)) _
 have G:Below w w W1:=by rw[<-hW];exact aL (by go_grown) I _
 clear hW HW zu;have zi:=L.lt;have F:=aH (H.below G);have HG:=aH (H.blk_lt I);go_wp2
 go_loop [19] (fun i=>∃k:Nat,k<=17/\i=.int .i64 k/\Hid (∀j,j<k->z j<=4294967295)) (fun i=>17-(intOf i).toNat)
 case atStart=>exact⟨0,I,rfl,aH fun j hj=>absurd hj I⟩
 case round=>
  obtain⟨k,hk,rfl,S⟩:=hrel;by_cases O:k<17
  .have q1:(k:Int)<17:=I;obtain⟨g,zn,rfl,zx,Z⟩:=F.at_ I;have c0:=Z k O;have bd:=F.bd k O;clear Z;generalize hv:z k=v at c0 bd;have HV:=aH hv;clear hv;by_cases hM:v<=4294967295
   .have d2:decide (4294967295<v)=false:=by simp;omega
    go_wp2
    go_round
    case rel=>exact⟨k+1,I,aG,aH fun j hj=>by
     rcases Nat.lt_or_ge j k with h|h
     .exact S j h
     obtain rfl:j=k:=I;rw[HV.out];exact hM⟩
    case measure=>simp [intOf];omega
   have d2:decide (4294967295<v)=true:=by simp;omega
   obtain rfl:b=false:=by
    rw[Bool.eq_false_iff];intro ht;have h9:=HB.out.1 ht;have zh:=HV.out;have zz:4294967295<z k:=by omega
    exact absurd zz (by have a1:=zR (fun i hi=>(H.bd i hi).1) h9 k O;omega)
   go_wp2_with (first
    |(refine wpList_load_row rfl 131 _ rfl (w.heap.size+1) rfl 131 (tz 5) (0,0) _ L underlying131 rfl HI ?_)
    |(refine wpList_store_row rfl 131 _ _ rfl w.heap.size (tz 5) rfl rfl 131 (tz 0) M HI rfl HO ?_))
   refine bodyPost_ret (bR results169 _ _ w.heap.size 131 (tz 5) _ _ rfl rfl (aY.setRow M (tz 5)) underlying131 rfl HI) rfl ⟨aL G (Nat.le_refl _) _,(tz 5),HT.size,HO.out,rfl,fun h=>Bool.noConfusion h⟩
  obtain rfl:k=17:=I;have Y:=aH S;clear S;have s:=aH M;have q:Hid (lD (tz 5) 5 none 0 0 (eF 0 z) 0):=aH (HT.congr fun i hi=>by unfold eF;rw[iN I]);have m:=aH L;have l:=aH G;clear M L G;go_wp2
  go_loopw [63] (fun i wr=>∃k:Nat,k<=8/\i=.int .i64 k/\Hid (∃C,aY wr (w,1) 131 C/\lD C 5 none 0 0 (eF k z) 0)/\Hid (aY wr w 131 (tz 0))/\Hid (Below w w wr)) (fun i _=>8-(intOf i).toNat)
  case atStart=>exact⟨0,I,rfl,aH ⟨_,m.out,q.out⟩,s,l⟩
  case round=>
   obtain⟨k,hk,rfl,hC,R,V⟩:=hrel;obtain⟨C,zw,zv⟩:=hC.out;clear hC;have X:=aH zw;have E:=Lib.hid zv;clear zw zv;have U:=Lib.hid (H.below V);by_cases ze:k<8
   .have q1:(k:Int)<8:=by omega
    obtain⟨g,zn,rfl,zx,Z⟩:=U.at_ (by omega);have c0:=Z (2*k) (by omega);have c1:=Z (2*k+1) (by omega);have zt:=U.bd (2*k) (by omega);have zs:=U.bd (2*k+1) (by omega);have m0:=Y.out (2*k) (by omega);have m1:=Y.out (2*k+1) (by omega);have zg:=U.cap63;have zf:=U.cap;have s0:wr.cell? ⟨w.heap.size+1,2+k*2,none⟩=some (.int .i64 (eF k z (2*k))):=by rw[Nat.mul_comm k 2];exact(X.cell _).trans (E.slot (2*k) (by omega))
    have s1:wr.cell? ⟨w.heap.size+1,2+k*2+1,none⟩=some (.int .i64 (eF k z (2*k+1))):=by rw[Nat.mul_comm k 2,Nat.add_assoc];exact(X.cell _).trans (E.slot (2*k+1) (by omega))
    have f0:=X.frozen (2+k*2);have f1:=X.frozen (2+k*2+1);have zj:=X.lt;have HK:Hid (∀i,eF (k+1) z i=if i=2*k+1 then z (2*k+1)else if i=2*k then z (2*k)else eF k z i):=aH fun i=>by
     rw[uF,Nat.mul_comm k 2]
    clear Z;generalize hx:z (2*k)=x at c0 zt m0 HK;generalize hy:z (2*k+1)=y at c1 zs m1 HK;have HX:=aH hx;have HY:=aH hy;clear hx hy s m q l F;go_wp2
    go_region
    apply_assumption
    go_wp2;go_roundw
    case rel=>exact⟨k+1,I,aG,aH ⟨_,(X.set_ (2+k*2) _).set_ (2+k*2+1) _,by
     have h5:=((E.setD (2*k) I x).setD (2*k+1) I y).congr (fun i hi=>HK.out i);rw[show 2+k*2=2+2*k by omega,show 2+2*k+1=2+(2*k+1) by omega];exact h5⟩,
     aH ((R.far (p:=⟨w+1,2+k*2,none⟩) (by simp) _).far (p:=⟨w+1,2+k*2+1,none⟩) (by simp) _),
     aH ((V.setCell (p:=⟨w+1,2+k*2,none⟩) (by show w.heap.size<=w+1;omega) _).setCell (p:=⟨w+1,2+k*2+1,none⟩) (by show w.heap.size<=w+1;omega) _).drew⟩
    case measure=>simp [intOf];omega
   obtain rfl:k=8:=I;have N:Hid (lD C 5 none 0 0 z 0):=aH (E.congr fun i hi=>by unfold eF;rw[iP I]);have T:Hid ((prog.info? 131).map (·.size)=some C.size):=by show _=_;rw[jT,N.size]
   have B:=aH (kM N);obtain⟨D,hD⟩:=aO (C.extract 2 18);have hI:eB D 16 z:=by
    have hs:=N.size;refine⟨by rw[hD];simp;omega,fun i hi=>?_,fun i hi=>by have:=Y.out i I;have:=H.bd i I;omega⟩;rw[hD,Array.getElem?_extract,iP I];exact N.slot i hi
   have HD:=aH hD;have zr:=aH hI;have zq:=aH hI.size;clear hD hI s m q l F;obtain⟨r,hr⟩:=aP (cS z);have HR:=Lib.hid hr;clear hr
   go_wp2_with (refine wpList_load_mid rfl 129 _ rfl (w.heap.size+1) 2 rfl D.toList _ ?hc underlying129 rfl ?hi ?_)
   case hc=>
    rw[HD.out];exact World.rangeAt_of_block (t:=131) (fr:=(0,0)) X 2 16
   case hi=>rw[BU,Array.length_toList,zq.out]
   refine(AX D z _ zr).mono ?_;rintro e W2 ⟨rfl,Q⟩;rw[HR.out];have f:=Lib.hid (X.below Q X.lt);have W:=Lib.hid (R.below Q R.lt);have d:=Lib.hid (V.trans (Q.mono V.size));have zp:=Lib.hid (U.below Q);clear Q;cases r
   .obtain rfl:b=false:=by
     rw[Bool.eq_false_iff];intro ht;have h9:=(HB.out.1 ht).2.2;rw[HR.out]at h9;cases h9
    go_wp2_with (first
     |(refine wpList_load_row rfl 131 _ rfl (w.heap.size+1) rfl 131 C (0,0) _ f underlying131 rfl T ?_)
     |(refine wpList_store_row rfl 131 _ _ rfl w.heap.size C rfl rfl 131 (tz 0) W T (by rw[N.size];rfl) B ?_))
    refine bodyPost_ret (bR results169 _ _ w.heap.size 131 C _ _ rfl rfl (aY.setRow W C) underlying131 rfl T) rfl ⟨aL d (Nat.le_refl _) _,C,N.size,B.out,rfl,fun h=>Bool.noConfusion h⟩
   go_wp2_with fail;refine aA 5 ?_
   iterate 2
    refine aR ?_;constructor
    .intro w9 hw9 _;exact bT 131 _ rfl (w,1) rfl 131 C _ (f.below hw9.same f.lt) underlying131 rfl T aE
   refine bC LO (XB (eF 8 z)) ⟨_,0,rfl⟩ ?_ ?_
   .intro w9 hw9 _;go_simp;go_at_call 85;refine(vC _ none 0 0 z 0 _ N (fun i hi=>by have:=Y.out i I;have:=H.bd i I;omega)).mono ?_;rintro e zm ⟨g,D,rfl,zl,hu,hg,a⟩;exact⟨_,rfl,⟨⟨g,rfl⟩,⟨g,D,rfl,zl,hu⟩⟩,aD.of_same a⟩
   refine aC (fun K hK=>?_);refine .inl ?_;apply Exists.intro;refine⟨cX,?_,hK _ _ _ _ ?_⟩
   .simp only[bJ,bM];rintro _ ⟨g,rfl⟩;refine⟨rfl,fun w9 hw9 _=>?_⟩;go_simp;exact aE
   clear hK K;refine aN ?_;refine bB (.bool b) cX ?_ ?_
   .rintro _ ⟨g,rfl⟩;refine⟨rfl,fun w9 hw9 P=>?_⟩;obtain⟨w0,k0,k1,g',D,hv,u,hu⟩:=(P.2.1 J).out;cases hv;go_simp;go_at_call 170;refine(tQ _ _ 17 17 17 _ (eF 8 z) z _ (by simpa using qY.of_blk (n:=17) (c:=17) (o:=0) (u.below k1 u.lt) hu I I I) (zp.below hw9.same)).mono ?_;rintro e zm ⟨b',rfl,zk,a⟩;obtain rfl:b'=b:=by
     rw[Bool.eq_iff_iff,zk,HB.out];exact⟨fun h=>(uE Y (fun i hi=>(H.bd i hi).1) HR).1 h.2,fun h=>⟨rfl,(uE Y (fun i hi=>(H.bd i hi).1) HR).2 h⟩⟩
    exact⟨_,rfl,⟨rfl,trivial⟩,aD.of_same a⟩
   refine aZ ?_;rintro _ ⟨g9,rfl⟩ w9 hw9 P;clear P;have zy:=aH (W.below hw9.same W.lt);have zo:=aH ((d.out).trans (hw9.same.mono (d.out).size));simp only[List.drop_succ_cons,List.drop_zero]
   go_wp2_with (refine wpList_store_row rfl 131 _ _ rfl w C rfl rfl 131 (tz 0) zy T (by rw[N.size];rfl) B ?_)
   refine bodyPost_ret (bR results169 _ _ w 131 C _ _ rfl rfl (aY.setRow zy C) underlying131 rfl T) rfl ⟨aL zo (Nat.le_refl _) _,C,N.size,B.out,rfl,fun _=>N.out⟩
theorem VA(A:Option Addr)(c:Nat)(z:Nat->Int)(kind:Int)(zh:kind=1\/kind=2\/kind=3\/kind=4)(b:Bool)(w:World)(h:qY w A 17 c z)(hb:b=true↔gW z/\(kind=4->iJ (zL z)=true)):
 Calls prog 169 #[kind,.slice A 17 c] w (pR b (fun C w'=>∃A c,lD C kind A (z 0).toNat c (fun _=>0) 0/\kC w' w A (z 0).toNat c (zL z)) w):=by
 obtain⟨e,zm⟩:∃e,(kind==4)=e:=⟨_,rfl⟩;have zs:=aH zm;clear zm;have e5:(kind==5)=false:=by simp;omega
 have e6:(kind==6)=false:=by simp;omega
 have zr:=aH zh;have d1:bV kind 1 6=true:=by simp [bV];omega
 have HW:=aH d1;have zg:=sC;have HT:=aH (BC kind);have HI:Hid ((prog.info? 131).map (·.size)=some (tz kind).size):=jT;have HO:=aH (kM HT);have H:=aH h;have HB:=aH hb;clear h d1 hb zh
 go_enter func169,ntmps169
 go_wp2_with (refine wpList_store_row rfl 131 _ _ rfl (w,1) (tz kind) rfl rfl 131 (tz 0) ((aY.newAt _ _ _ (by simp))) HI rfl HO ?_)
 refine(bQ _ _ _ _).mono ?_;rintro e W1 ⟨rfl,hW⟩;rw[HW.out];have B:aY W1 w 131 (tz 0):=by
  rw[<-hW];exact(setRow_other _ _ _ _ I).trans ((aY.new _ _ _).alloc _)
 have y:aY W1 (w,1) 131 (tz kind):=by rw[<-hW];exact aY.setRow (aY.newAt _ _ _ (by simp)) _
 have x:Below w w W1:=by rw[<-hW];exact aL (by go_grown) I _
 clear hW HW zg;have yz:=y.lt;have M:=aH (H.below x);have HG:=aH (H.blk_lt I);go_wp2
 go_loop [19] (fun i=>∃k:Nat,k<=17/\i=.int .i64 k/\Hid (∀j,j<k->z j<=4294967295)) (fun i=>17-(intOf i).toNat)
 case atStart=>exact⟨0,I,rfl,aH fun j hj=>absurd hj I⟩
 case round=>
  obtain⟨k,hk,rfl,F⟩:=hrel;by_cases E:k<17
  .have q1:(k:Int)<17:=I;obtain⟨g,yt,rfl,zl,X⟩:=M.at_ I;have c0:=X k E;have bd:=M.bd k E;clear X;generalize hv:z k=v at c0 bd;have HV:=aH hv;clear hv;by_cases hM:v<=4294967295
   .have d2:decide (4294967295<v)=false:=by simp;omega
    go_wp2
    go_round
    case rel=>exact⟨k+1,I,aG,aH fun j hj=>by
     rcases Nat.lt_or_ge j k with h|h
     .exact F j h
     obtain rfl:j=k:=I;rw[HV.out];exact hM⟩
    case measure=>simp [intOf];omega
   have d2:decide (4294967295<v)=true:=by simp;omega
   obtain rfl:b=false:=by
    rw[Bool.eq_false_iff];intro ht;have h9:=HB.out.1 ht;have yy:=HV.out;have zq:4294967295<z k:=by omega
    exact absurd zq (by have a1:=CV (fun i hi=>(H.bd i hi).1) h9.1 k E;omega)
   go_wp2_with (first
    |(refine wpList_load_row rfl 131 _ rfl (w.heap.size+1) rfl 131 (tz kind) (0,0) _ y underlying131 rfl HI ?_)
    |(refine wpList_store_row rfl 131 _ _ rfl w.heap.size (tz kind) rfl rfl 131 (tz 0) B HI rfl HO ?_))
   refine bodyPost_ret (bR results169 _ _ w.heap.size 131 (tz kind) _ _ rfl rfl (aY.setRow B (tz kind)) underlying131 rfl HI) rfl ⟨aL x (Nat.le_refl _) _,(tz kind),HT.size,HO.out,rfl,fun h=>Bool.noConfusion h⟩
  obtain rfl:k=17:=I;have Q:=aH F;clear F;have L:=aH B;have u:=aH y;have t:=aH x;clear B y x;obtain⟨n0,zk⟩:=Int.eq_ofNat_of_zero_le (H.bd 0 I).1;have HN:=aH zk;clear zk;obtain⟨gA,oA,rfl,zl,X⟩:=M.at_ I;have c0:W1.cell? (gA,oA)=[n0]:=by rw[<-HN.out];exact X 0 I
  clear X;have yx:gA<w:=HG.out _ rfl;by_cases h6:n0<=6
  .have d6:decide (6<(n0:Int))=false:=by simp;omega
   go_wp2;clear c0
   go_loopw [37] (fun i wr=>∃k:Nat,k<=n0/\i=.int .i64 k/\Hid (∃C A' c',aY wr (w,1) 131 C/\lD C kind A' k c' (fun _=>0) 0/\jX wr (w,2) A' k c' (zW z k))/\Hid (aY wr w 131 (tz 0))/\Hid (Below w w wr)) (fun i _=>n0-(intOf i).toNat)
   case atStart=>exact⟨0,I,rfl,aH ⟨_,none,0,u.out,HT.out,jX.nil _ _⟩,L,t⟩
   case round=>
    obtain⟨k,hk,rfl,hC,T,W⟩:=hrel;obtain⟨C,A',c',zj,zi,S⟩:=hC.out;clear hC;have V:=aH zj;have Y:=aH zi;have s:=aH S;clear zj zi S;have P:=aH (H.below W);by_cases yr:k<n0
    .have q1:(k:Int)<n0:=I;have zy:gA<wr:=by have:=W.size;omega
     have c1:wr.cell? (gA,oA+(k+1))=[z (k+1)]:=by
      obtain⟨g2,o2,he,_,hc⟩:=P.at_ I;cases he;exact hc (k+1) I
     have l1:=(V.cell 1).trans Y.list;have f1:=V.frozen 1;have bd:=P.bd (k+1) I;have m1:=Q.out (k+1) I;have zz:=V.lt;have za:w.heap.size+2<=wr:=I;have yw:=P.cap63;have yv:=P.cap;have e0:(0:Int)<=(k:Int)+1:=I;have e1:(k:Int)+1<17:=I;have ew:IntKind.i64.wrap ((k:Int)+1)=((k+1:Nat):Int):=by rw[IntWalk.i64_in _ I];omega
     generalize hv:z (k+1)=v at c1 bd m1;have HV:=aH hv;have ev:IntKind.i64.wrap v=v:=IntWalk.i64_in _ I;clear hv L u t M;go_wp2;refine bK 11 (fun b=>w+2<=b) [9] J J ?_
     iterate 8
      refine aR ?_;constructor
      .intro w9 hw9 _;have l9:=(hw9.cell (p:=⟨w+1,1,none⟩) zz (by show¬(w.heap.size+2<=w+1);omega)).trans l1;have c9:=(hw9.cell (p:=⟨gA,oA+(k+1),none⟩) zy (by show¬(w+2<=gA);omega)).trans c1;go_simp;exact aE
     refine bC Fc (Gl 3 v) ⟨_,0,rfl⟩ ?_ ?_
     .intro w9 hw9 _;go_simp;exact⟨⟨⟨_,rfl⟩,_,rfl,by simpa only[ev]using aY.new w9 3 #[(IntKind.i64.wrap v)]⟩,aD.of_same ((Below.refl _ _).alloc (Nat.le_refl _) _)⟩
     refine bD (Ew (k+1)) (El (w,2) (k+1) (zW z (k+1))) ⟨_,none,0,rfl⟩ ?_ ?_
     .rintro _ ⟨g,rfl⟩;refine⟨rfl,fun w9 hw9 Z=>?_⟩;obtain⟨w0,k0,k1,g',hv,R⟩:=Z.2.1 J;cases hv;have yu:=hw9.size;refine xW (.tmp 41) (.tmp 48) rfl (A:=A') (n:=k) (c:=c') rfl (AA s Z.1 (fun b h=>dN h J)) rfl ((k1.cell (p:=⟨g,0,none⟩) R.lt (fun h=>dN h J)).trans (R.cell 0)) I I ?_;intro g' ys w' ho hb;refine⟨⟨⟨_,_,rfl⟩,_,_,rfl,?_⟩,(aD.of_below hb).mono fun b h=>⟨rfl,h⟩⟩;rw[EW,HV.out];exact ho
     refine aC (fun K hK=>?_);refine .inl ?_;apply Exists.intro;refine⟨cX,?_,hK _ _ _ _ ?_⟩
     .simp only[bJ,bM];rintro _ ⟨A2,c2,rfl⟩ _ ⟨g2,rfl⟩;refine⟨rfl,fun w9 hw9 _=>?_⟩;go_simp;exact aE
     clear hK K;refine aN ?_;refine aZ ?_;rintro _ ⟨A2,c2,rfl⟩ _ ⟨g2,rfl⟩ w9 hw9 Z;obtain⟨w0,k0,k1,A8,c8,ze,S⟩:=Z.2.1 rfl;cases ze;have zf:=aH (AA S k1 (fun b h=>dN h J));have q:aY w9 (w,1) 131 C:=(hw9.block _ zz (by show¬(w.heap.size+2<=w+1);omega)).trans V;have zp:Hid (aY w9 w 131 (tz 0)):=aH ((hw9.block _ T.lt (by show¬(w.heap.size+2<=w);omega)).trans T);have zx:=aH (W.trans (hw9.below W.size (fun b hb h=>by omega)));have l9:=(q.cell 1).trans Y.list;have f9:=q.frozen 1;have m:=aH q;clear Z S k0 k1 q l1 f1 c1 ew ev;go_wp2;go_roundw
     case rel=>exact⟨k+1,I,aG,aH ⟨_,A2,c2,m.set_ 1 _,Y.setL A2 (k+1) c2,zf.far (p:=⟨w+1,1,none⟩) (by show w.heap.size+1<w+2;omega) _⟩,
      aH (zp.far (p:=⟨w+1,1,none⟩) (by simp) _),aH (zx.setCell (p:=⟨w+1,1,none⟩) (by show w.heap.size<=w+1;omega) _)⟩
     case measure=>simp [intOf];omega
    obtain rfl:k=n0:=I;have zw:Hid (zW z k=zL z):=aH (by unfold zL;rw[HN.out];rfl);have zv:Hid ((z 0).toNat=k):=aH (by rw[HN.out];rfl);have zu:Hid (fI wr A' k c' (zL z)):=aH (by
     have h5:=s.out;rw[zw.out]at h5;exact fI.of_own h5 (fun i=>by
      rw[<-zw.out];by_cases hi:i<k
      .rw[pA z _ i hi];have a1:=Q.out (i+1) I;have a2:=H.bd (i+1) I;omega
      rw[List.getElem?_eq_none (by rw[qT];omega)];decide))
    have O:Hid ((prog.info? 131).map (·.size)=some C.size):=by show _=_;rw[jT,Y.size]
    have l:=aH (kM Y);have l1:=(V.cell 1).trans Y.list;clear L u t M;cases e
    case' false=>
     have e4:=zs.out;have f:=V;have U:=T;have d:=W;have zo:=P;have G:=zu;have zn:Hid (kind=4->iJ (zL z)=true):=aH (fun h=>by simp [h]at e4);clear l1
    case' true=>
     have e4:=zs.out;obtain⟨r,hr⟩:=aP (iJ (zL z));have HR:=aH hr;clear hr;go_wp2_with fail;refine(uK A' k c' (zL z) _ zu I).mono ?_;rintro e W2 ⟨rfl,N⟩;rw[HR.out];have f:=aH (V.below N V.lt);have U:=Lib.hid (T.below N T.lt);have d:=Lib.hid (W.trans (N.mono W.size));have zo:=Lib.hid (P.below N);have G:=Lib.hid (zu.below N);clear N l1;cases r
     case' false=>
      obtain rfl:b=false:=by
       rw[Bool.eq_false_iff];intro ht;have h9:=(HB.out.1 ht).2 (by simpa using e4);rw[HR.out]at h9;cases h9
      go_wp2_with (first
       |(refine wpList_load_row rfl 131 _ rfl (w.heap.size+1) rfl 131 C (0,0) _ f underlying131 rfl O ?_)
       |(refine wpList_store_row rfl 131 _ _ rfl w.heap.size C rfl rfl 131 (tz 0) U O (by rw[Y.size];rfl) l ?_))
      refine bodyPost_ret (bR results169 _ _ w.heap.size 131 C _ _ rfl rfl (aY.setRow U C) underlying131 rfl O) rfl ⟨aL d (Nat.le_refl _) _,C,Y.size,l.out,rfl,fun h=>Bool.noConfusion h⟩
     case' true=>have zn:Hid (kind=4->iJ (zL z)=true):=Lib.hid (fun _=>HR.out)
    all_goals
     go_wp2_with fail;refine bK 5 bN [] (by kernel_rfl) (by kernel_rfl) ?_
     iterate 2
      refine aR ?_;constructor
      .intro w9 hw9 _;exact bT 131 _ rfl (w.heap.size+1) rfl 131 C _ (f.below hw9.same f.lt) underlying131 rfl O aE
     refine bC LO (XB (iT k (zL z))) ⟨_,0,rfl⟩ ?_ ?_
     .intro w9 hw9 _;go_simp;go_at_call 85;refine(wN _ kind A' k c' (zL z) (fun _=>0) 0 _ Y (G.below hw9.same) (by omega) (fun i hi=>by rw[<-zw.out,pA z _ i hi];exact(H.bd (i+1) (by omega)).1) (by have:=zr.out;omega) (by have:=zr.out;omega)).mono ?_;rintro e zd ⟨g,D,rfl,zc,hu,hg,zt⟩;exact⟨_,rfl,⟨⟨g,rfl⟩,⟨g,D,rfl,zc,hu⟩⟩,aD.of_same zt⟩
     refine aC (fun K hK=>?_);refine .inl ?_;apply Exists.intro;refine⟨cX,?_,hK _ _ _ _ ?_⟩
     .simp only[bJ,bM];rintro _ ⟨g,rfl⟩;refine⟨rfl,fun w9 hw9 _=>?_⟩;go_simp;exact aE
     clear hK K;refine aN ?_;refine bB (.bool b) cX ?_ ?_
     .rintro _ ⟨g,rfl⟩;refine⟨rfl,fun w9 hw9 Z=>?_⟩;obtain⟨w0,k0,k1,g',D,hv,R,hu⟩:=(Z.2.1 (by kernel_rfl)).out;cases hv;go_simp;go_at_call 170;refine(tQ _ _ 17 17 17 _ (iT k (zL z)) z _ (by simpa using qY.of_blk (n:=17) (c:=17) (o:=0) (R.below k1 R.lt) hu (by omega) (by omega) (by omega)) (zo.below hw9.same)).mono ?_;rintro e zd ⟨b',rfl,zb,zt⟩;obtain rfl:b'=b:=by
       rw[Bool.eq_iff_iff,zb,HB.out];exact⟨fun h=>⟨(xV Q (fun i hi=>(H.bd i hi).1) zv (by omega)).1 h.2,zn.out⟩,fun h=>⟨rfl,(xV Q (fun i hi=>(H.bd i hi).1) zv (by omega)).2 h.1⟩⟩
      exact⟨_,rfl,⟨rfl,trivial⟩,aD.of_same zt⟩
     refine aZ ?_;rintro _ ⟨g9,rfl⟩ w9 hw9 Z;clear Z;have m:=Lib.hid (U.below hw9.same U.lt);have zx:=Lib.hid ((d.out).trans (hw9.same.mono (d.out).size));simp only[List.drop_succ_cons,List.drop_zero]
     go_wp2_with (refine wpList_store_row rfl 131 _ _ rfl w.heap.size C rfl rfl 131 (tz 0) m O (by rw[Y.size];rfl) l ?_)
     refine bodyPost_ret (bR results169 _ _ w.heap.size 131 C _ _ rfl rfl (aY.setRow m C) underlying131 rfl O) rfl ⟨aL zx (Nat.le_refl _) _,C,Y.size,l.out,rfl,fun _=>by
      rw[zv.out];exact⟨A',c',Y.out,(G.below hw9.same).setRow (fun hn a ha=>by have:=s.lt' hn a ha;omega) _,fun hn a ha=>by have:=s.lt' hn a ha;omega⟩⟩
  have d6:decide (6<(n0:Int))=true:=by simp;omega
  obtain rfl:b=false:=by
   rw[Bool.eq_false_iff];intro ht;have h9:=((HB.out.1 ht).1).1;rw[HN.out]at h9;omega
  go_wp2_with (first
   |(refine wpList_load_row rfl 131 _ rfl (w.heap.size+1) rfl 131 (tz kind) (0,0) _ u underlying131 rfl HI ?_)
   |(refine wpList_store_row rfl 131 _ _ rfl w.heap.size (tz kind) rfl rfl 131 (tz 0) L HI rfl HO ?_))
  refine bodyPost_ret (bR results169 _ _ w.heap.size 131 (tz kind) _ _ rfl rfl (aY.setRow L (tz kind)) underlying131 rfl HI) rfl ⟨aL t (Nat.le_refl _) _,(tz kind),HT.size,HO.out,rfl,fun h=>Bool.noConfusion h⟩
end
section
def jE(kind:Int)(z:Nat->Int)(C:Array Value)(w:World):Prop:=
 if kind=5 then lD C 5 none 0 0 z 0 else if kind=6 then lD C 6 none 0 0 (fun _=>0) (z 0)else∃A c,lD C kind A (z 0).toNat c (fun _=>0) 0/\fI w A (z 0).toNat c (zL z)
theorem jE.below(h:jE kind z C w)(X:Below w w w'):jE kind z C w':=by
 unfold jE at h⊢;split
 .rename_i e;rwa [iP e]at h
 rename_i e;rw[iN e]at h;split
 .rename_i e6;rwa [iP e6]at h
 rename_i e6;rw[iN e6]at h;obtain⟨A,c,Z,Y⟩:=h;exact⟨A,c,Z,Y.below X⟩
theorem jE.size(h:jE kind z C w):C.size=19:=by
 unfold jE at h;split at h
 .exact lD.size h
 split at h
 .exact lD.size h
 obtain⟨A,c,Z,Y⟩:=h;exact Z.size
theorem jE.kind_(h:jE kind z C w):C[0]? =some (.int .i64 kind):=by
 unfold jE at h;split at h
 .rename_i e;rw[e];exact lD.kind_ h
 split at h
 .rename_i e;rw[e];exact lD.kind_ h
 obtain⟨A,c,Z,Y⟩:=h;exact Z.kind_
def iS(G:Nat)(kind:Int)(z:Nat->Int)(C:Array Value)(w:World):Prop:=
 if kind=5 then lD C 5 none 0 0 z 0 else if kind=6 then lD C 6 none 0 0 (fun _=>0) (z 0)else∃A c,lD C kind A (z 0).toNat c (fun _=>0) 0/\kC w G A (z 0).toNat c (zL z)
theorem iS.weak(h:iS G kind z C w):jE kind z C w:=by
 unfold iS at h;unfold jE;split
 .rename_i e;rwa [iP e]at h
 rename_i e;rw[iN e]at h;split
 .rename_i e6;rwa [iP e6]at h
 rename_i e6;rw[iN e6]at h;obtain⟨A,c,Z,Y⟩:=h;exact⟨A,c,Z,Y.sli⟩
theorem iS.keeps{S:Nat->Prop}(h:iS G kind z C w)(X:aD S w w')(W:∀b,G<=b->¬S b):iS G kind z C w':=by
 unfold iS at h⊢;split
 .rename_i e;rwa [iP e]at h
 rename_i e;rw[iN e]at h;split
 .rename_i e6;rwa [iP e6]at h
 rename_i e6;rw[iN e6]at h;obtain⟨A,c,Z,Y⟩:=h;exact⟨A,c,Z,Y.of_keeps X W⟩
theorem iS.mono{Z:Nat}(h:iS G kind z C w)(W:Z<=G):iS Z kind z C w:=by
 unfold iS at h⊢;split
 .rename_i e;rwa [iP e]at h
 rename_i e;rw[iN e]at h;split
 .rename_i e6;rwa [iP e6]at h
 rename_i e6;rw[iN e6]at h;obtain⟨A,c,Y,X⟩:=h;exact⟨A,c,Y,X.mono W⟩
theorem NS(A:Option Addr)(c:Nat)(z:Nat->Int)(kind:Int)(b:Bool)(w:World)(h:qY w A 17 c z)(Z:b=true↔cK kind z):
 Calls prog 169 #[kind,.slice A 17 c] w (pR b (iS w kind z) w):=by
 unfold cK at Z;by_cases Q:kind=5
 .subst Q;rw[iP rfl]at Z;exact(ED A c z b w h Z).mono fun e R ⟨X,C,W,V,U,T⟩=>⟨X,C,W,V,U,fun Y=>by unfold iS;rw[iP rfl];exact T Y⟩
 rw[iN Q]at Z;by_cases P:kind=6
 .subst P;rw[iP rfl]at Z;exact(DI A c z b w h Z).mono fun e R ⟨X,C,W,V,U,T⟩=>⟨X,C,W,V,U,fun Y=>by unfold iS;rw[iN aJ,iP rfl];exact T Y⟩
 rw[iN P]at Z;by_cases O:1<=kind/\kind<=4
 .have hb':b=true↔gW z/\(kind=4->iJ (zL z)=true):=by
   by_cases S:kind=4
   .rw[iP S]at Z;exact Z.trans ⟨fun h=>⟨h.1,fun _=>h.2⟩,fun h=>⟨h.1,h.2 S⟩⟩
   rw[iN S]at Z;exact Z.trans ⟨fun h=>⟨h.2.2,fun q=>absurd q S⟩,fun h=>⟨I,I,h.1⟩⟩
  exact(VA A c z kind I b w h hb').mono fun e R ⟨X,C,W,V,U,T⟩=>⟨X,C,W,V,U,fun Y=>by unfold iS;rw[iN Q,iN P];exact T Y⟩
 obtain rfl:b=false:=by
  rw[Bool.eq_false_iff];intro Y;have:=Z.1 Y;rw[iN I]at this;exact O ⟨this.1,I⟩
 exact(GZ A c z kind w h I).mono fun e R ⟨X,C,W,V,U,T⟩=>⟨X,C,W,V,U,fun Y=>Bool.noConfusion Y⟩
theorem jR(C:Array Value)(z:Nat->Int)(kind:Int)(r:Bool)(w:World)(h:cH C 17 z)(Z:r=true↔cK kind z):
 Calls prog 140 #[kind,.agg C] w fun e w'=>e=.returned r/\Below w w w':=by
 unfold cK at Z;have Y:∀{P:Prop} {e:Ending} {w':World},(r=true↔P)->(∃b,e=.returned (.bool b)/\(b=true↔P)/\Below w.heap.size w w')->e=.returned (.bool r)/\Below w.heap.size w w':=by
  rintro P e w' S ⟨b,rfl,R,Q⟩;obtain rfl:b=r:=by rw[Bool.eq_iff_iff,R,S]
  exact⟨rfl,Q⟩
 by_cases V:kind=5
 .subst V;rw[iP rfl]at Z;exact(EF C z w h).mono fun e w' X=>Y Z X
 rw[iN V]at Z;by_cases U:kind=6
 .subst U;rw[iP rfl]at Z;exact DW C z r w h Z
 rw[iN U]at Z;by_cases T:kind=4
 .subst T;rw[iP rfl]at Z;exact(GH C z w h).mono fun e w' X=>Y Z X
 rw[iN T]at Z;by_cases W:1<=kind/\kind<=3
 .have hr':=Z.trans ⟨fun h=>h.2.2,fun h=>⟨W.1,W.2,h⟩⟩;exact(GV C z kind w h I).mono fun e w' X=>Y hr' X
 obtain rfl:r=false:=by
  rw[Bool.eq_false_iff];intro O;have:=Z.1 O;exact W ⟨this.1,this.2.1⟩
 exact GJ C kind w I
theorem MJ(C:Array Value)(z:Nat->Int)(kind:Int)(w:World)(Y:∀i,i<17->0<=z i)(Z:cK kind z)(h:jE kind z C w):
 Calls prog 85 #[.agg C] w (oK z w):=by
 have X:∀{y:Nat->Int} {e:Ending} {W:World},(∀i,i<17->y i=z i)->oK y w e W->oK z w e W:=by
  rintro y e W M ⟨g,D,L,K,H,G,F⟩;exact⟨g,D,L,K,H.congr (fun i V=>(M i V).symm),G,F⟩
 unfold cK jE at*;by_cases R:kind=5
 .subst R;rw[iP rfl]at Z h;have T:=zR Y Z;exact(vC C none 0 0 z 0 w h (fun i V=>by have:=T i I;have:=Y i I;omega)).mono fun e W U=>X ((uE T Y Z.2.2).2 Z) U
 rw[iN R]at Z h;by_cases Q:kind=6
 .subst Q;rw[iP rfl]at Z h;have x:=Z.1;have O:=Y 0 I;exact(uY C none 0 0 (fun _=>0) (z 0) w h I).mono fun e W U=>X (fun i V=>(Z.2 i V).symm) U
 rw[iN Q]at Z h;obtain⟨A,c,E,B⟩:=h;have S:gW z:=by
  by_cases P:kind=4
  .rw[iP P]at Z;exact Z.1
  rw[iN P]at Z;exact Z.2.2
 have T:=CV Y S;have O:=S.1;have N:=Y 0 I;exact(wN C kind A (z 0).toNat c (zL z) (fun _=>0) 0 w E B I (fun i V=>by unfold zL;rw[pA _ _ _ V];exact Y (i+1) I) R Q).mono fun e W U=>X ((xV T Y rfl I).2 S) U
end
section
attribute [local go_sem↓] Go.wp_at_zero Go.wp_at_succ
theorem SW:(prog.info? 25).map (·.size)=some 32:=J
theorem Du(x:Int)(Z:0<=x)(Y:x<18446744073709551616):
 ∃(f:Bool) (cc vv:Int),yI x=f/\∀w:World,Calls prog 99 #[[x]] w fun e w'=>e=.returned (.tuple #[.agg #[cc,vv],gS (jN f 3)])/\Below w w w':=by
 obtain⟨n,rfl⟩:=Int.eq_ofNat_of_zero_le Z;refine⟨_,_,_,?_,fun w=>sN n (n/4294967296) (n%4294967296) w I rfl rfl⟩;unfold yI;rw[show(n:Int)/4294967296=((n/4294967296:Nat):Int) by omega,show(n:Int)%4294967296=((n%4294967296:Nat):Int) by omega]
theorem nC(C:Array Value)(z:Nat->Int)(r:Bool)(w:World)(h:cH C 32 z)(k:r=false)(p:Bool)(u:p=true↔cK (dH z) (oz z))(Q:p=false\/p=true/\16<=z 26\/p=true/\z 26<16/\1099511627776<z 28\/p=true/\z 26<16/\z 28<=1099511627776/\1099511627776<z 27):
 Calls prog 128 #[.agg C] w fun e w'=>e=.returned r/\Below w w w':=by
 obtain⟨D,B⟩:∃D,D=C.extract 1 18:=⟨_,rfl⟩;have T:cH D 17 (oz z):=by rw[B];exact h.cut 1 17 aJ
 have P:Hid ((prog.info? 25).map (·.size)=some C.size):=by show _=_;rw[SW,h.size]
 have U:∀W:World,Calls prog 141 #[.agg C] W fun e w'=>e=.returned (dH z)/\Below W W w':=fun W=>sH C z W h
 have A:∀W:World,Calls prog 142 #[.agg C] W fun e w'=>e=.returned (.agg D)/\Below W W w':=fun W=>oT C D z W h B
 have y:∀W:World,Calls prog 140 #[(dH z),.agg D] W fun e w'=>e=.returned p/\Below W W w':=fun W=>jR D (oz z) (dH z) p W T u
 have t:=aH U;have s:=aH A;have q:=aH y;have O:=h.bd 28 I;have N:=h.bd 27 I;have M:=h.bd 26 I;have j:=aH h;have Z:aY (w.alloc (.cells C 25)) w 25 C:=aY.new _ _ _;have L:=(Z.cell 28).trans (h.get 28 I);have H:=(Z.cell 27).trans (h.get 27 I);have G:=(Z.cell 26).trans (h.get 26 I);subst k;generalize Y:z 28=n at L O Q;generalize X:z 27=v at H N Q;generalize V:z 26=g at G M Q;have i:=aH Y;have f:=aH X;have d:=aH V;have S:=aH Z;have R:Below w w (w.alloc (.cells C 25)):=by go_grown
 have o:w<(w.alloc (.cells C 25)).heap.size:=by simp
 clear h Z B U A y Y X V T u;rcases Q with rfl|⟨rfl,x⟩|⟨rfl,x,l⟩|⟨rfl,x,l,c⟩
 all_goals
  try have F:¬g/16=0:=I
  try have F:g/16=0:=I
  try have E:decide (1099511627776<n)=true:=by simp;omega
  try have E:decide (1099511627776<n)=false:=by simp;omega
  try have m:decide (1099511627776<v)=true:=by simp;omega
  go_enter func128,ntmps128
  go_wp2_with fail;generalize w.alloc (.cells C 25)=b at*;refine bK 21 bN [] J J ?_
  iterate 21
   refine aC (fun K U=>?_)
   first
   |(refine .inl ?_
     apply Exists.intro;refine⟨cX,?_,U _ _ _ _ ?_⟩
     .simp only[bJ,bM];refine⟨?_,fun w9 hw9 _=>?_⟩
      .first|rfl|(go_simp;done)
      obtain⟨hc9,hf9⟩:=hw9.all
      first
      |(exact bT 25 _ rfl w rfl 25 C _ (S.out.below hw9.same S.out.lt) underlying25 rfl P.out ⟨⟨rfl,trivial⟩,aD.refl _ _⟩)
      |(go_simp
        first
        |exact⟨⟨rfl,trivial⟩,aD.refl _ _⟩
        |(go_at_call 141;exact bS (t.out _))|(go_at_call 142;exact bS (s.out _))|(go_at_call 140;exact bS (q.out _)))
     clear U K
     try simp only[Act.put,List.setIfInBounds_toArray,List.set_cons_zero,List.set_cons_succ])
   |(refine .inr (.inl ⟨?_,U _ _ _ _ ?_⟩)
     .simp only[bM]
      first|rfl|(go_simp;done)
     clear U K
     try simp only[Act.put,List.setIfInBounds_toArray,List.set_cons_zero,List.set_cons_succ])
  refine cP ?_;simp only[bM];intro w9 hw9 _;obtain⟨hc9,hf9⟩:=hw9.all;simp only[List.drop_succ_cons,List.drop_zero,List.drop_nil];go_wp2;go_ret;exact⟨rfl,R.trans (hw9.same.mono R.size)⟩
theorem AH(C:Array Value)(z:Nat->Int)(r:Bool)(w:World)(h:cH C 32 z)(hr:r=true↔eE z)(hd:FM z):
 Calls prog 128 #[.agg C] w fun e w'=>e=.returned r/\Below w w w':=by
 obtain⟨D,hD⟩:=aO (C.extract 1 18);have zm:cH D 17 (oz z):=by rw[hD];exact h.cut 1 17 aJ
 have yz:Hid ((prog.info? 25).map (·.size)=some C.size):=by show _=_;rw[SW,h.size]
 have hK:∀W:World,Calls prog 141 #[.agg C] W fun e w'=>e=.returned (dH z)/\Below W W w':=fun W=>sH C z W h
 have hO:∀W:World,Calls prog 142 #[.agg C] W fun e w'=>e=.returned (.agg D)/\Below W W w':=fun W=>oT C D z W h hD
 have hT:∀W:World,Calls prog 140 #[(dH z),.agg D] W fun e w'=>e=.returned true/\Below W W w':=fun W=>jR D (oz z) (dH z) true W zm ⟨fun _=>hd.1,fun _=>rfl⟩
 have HK:=aH hK;have HO:=aH hO;have HT:=aH hT;have yy:=h.bd 28 I;have yx:=h.bd 27 I;have yw:=h.bd 26 I;have HC:=aH h;have q:aY (w.alloc (.cells C 25)) w 25 C:=aY.new _ _ _;have zl:=(q.cell 28).trans (h.get 28 I);have zk:=(q.cell 27).trans (h.get 27 I);have zj:=(q.cell 26).trans (h.get 26 I);have yv:=hd.2.2.1;have yu:=hd.2.2.2;have yt:=hd.2.1;have c:=aH hr;have ys:=aH hd;clear hr hd;generalize zy:z 28=n at zl yy yv;generalize zx:z 27=v at zk yx yu;generalize zw:z 26=g at zj yw yt;have HN:=aH zy;have HV:=aH zx;have HG:=aH zw;have L:=aH q;have zv:Below w w (w.alloc (.cells C 25)):=by go_grown
 have b:w<(w.alloc (.cells C 25)).heap.size:=by simp
 clear h q hD hK hO hT zy zx zw zm;have yr:g/16=0:=I;have yq:decide (1099511627776<n)=false:=by simp;omega
 have yp:decide (1099511627776<v)=false:=by simp;omega
 go_enter func128,ntmps128
 go_wp2_with fail;generalize w.alloc (.cells C 25)=W0 at*;refine aA 21 ?_
 iterate 21
  first
  |(refine aR1 ?_;constructor
    .intro w9 hw9 hc9 hf9
     first
     |(exact bT 25 _ rfl w rfl 25 C _ (L.below hw9.same L.lt) underlying25 rfl yz aE)
     |(go_simp
       first
       |exact aE
       |(go_at_call 141;exact bS (HK.out _))|(go_at_call 142;exact bS (HO.out _))|(go_at_call 140;exact bS (HT.out _))))
  |refine aU ?_
 refine bZ ?_;intro w9 hw9 hc9 hf9;simp only[List.drop_succ_cons,List.drop_zero,List.drop_nil];clear zj zk zl yr yp yq;have K:=aH (zv.trans (hw9.same.mono zv.size));have zu:=L.below hw9.same L.lt;clear hc9 hf9 hw9 L zv b;have L:=aH zu;have b:=zu.lt;clear zu;go_wp2
 go_loopw [35] (fun i wr=>∃k:Nat,k<=4/\i=.int .i64 k/\Below w9 w9 wr/\Hid (∀t,t<k->pV z t)) (fun i _=>4-(intOf i).toNat)
 case atStart=>exact⟨0,I,rfl,Below.refl _ _,aH fun t Q=>absurd Q I⟩
 case round=>
  obtain⟨k,hk,rfl,hb,H⟩:=hrel;have ye:w.heap.size<wr:=by have:=hb.size;omega
  have zt:=aH (L.below hb b);by_cases yf:k<4
  .have q1:(k:Int)<4:=I;have zi:=HC.bd (18+k) I;have yc:=HC.bd (22+k) I;have cx:wr.cell? (w.heap.size,18+k)=[z (18+k)]:=(zt.cell _).trans (HC.get _ I);have cy:wr.cell? (w.heap.size,22+k)=[z (22+k)]:=(zt.cell _).trans (HC.get _ I);obtain⟨f,cc,vv,zd,l⟩:=Du (z (18+k)) zi.1 zi.2;have zh:BL z k↔((f=true\/z (18+k)=0)/\z (22+k)<=n/\(z (18+k)=0↔z (22+k)=0)):=by
    unfold BL;rw[zd,HN.out]
   generalize zb:z (18+k)=x at*;generalize za:z (22+k)=y at*;have yb:=aH zb;have a:=aH za;have P:=aH zh;have yo:=aH l;have R:=yf;clear zb za zh l zd;have yn:IntKind.i64.wrap (18+(k:Int))=((18+k:Nat):Int):=by rw[IntWalk.i64_in _ I];omega
   have ym:IntKind.i64.wrap (22+(k:Int))=((22+k:Nat):Int):=by rw[IntWalk.i64_in _ I];omega
   have yl:((18+k:Nat):Int)<32:=I;have yk:((22+k:Nat):Int)<32:=I;generalize hs:18+k=s at*;generalize M:22+k=u at*;go_wp2
   go_quiet (fail)
   clear cx cy yn ym yl yk;have yd:=aH hs;have G:=aH M;clear hs M;go_wp2_with fail;refine(yo.out _).mono ?_;rintro e w1 ⟨rfl,zc⟩;have zs:=aH (hb.trans (((cZ (Below.refl _ wr) _).trans zc).mono hb.size));have yj:=zs.size;have zg:=aH K;have O:Hid (Below w w (w1.alloc (.cells #[cc,vv] 44))):=aH ((K.trans (zs.mono K.size)).alloc (by have:=K.size;omega) _);have zr:Hid (Below w9 w9 (w1.alloc (.cells #[cc,vv] 44))):=aH (zs.alloc yj _);clear hb zc;cases f
   .rw[show gS (jN false 3)=.iface 53 (3:Int) by simp [jN,gS]];by_cases X:x=0
    .have dx:(x==0)=true:=by simpa using X
     have zq:(x !=0)=false:=by simpa using X
     have U:=aH X;clear X;by_cases Z:y=0
     .have dy:(y==0)=true:=by simpa using Z
      have p:(y !=0)=false:=by simpa using Z
      have Y:=aH Z;have dc:decide (n<y)=false:=by simp;omega
      clear Z;go_wp2;clear O
      go_loopw [70] (fun j wq=>∃m:Nat,m<=k/\j=.int .i64 m/\Below w9 w9 wq/\Hid (∀u,u<m->y≠0->z (22+u)≠y)) (fun j _=>k-(intOf j).toNat)
      case atStart=>exact⟨0,I,rfl,zr.out,aH fun u M=>absurd M I⟩
      case round=>
       rename World=>wq
       obtain⟨m,hm,rfl,N,T⟩:=hrel;by_cases zn:m<k
       .have q2:(m:Int)<k:=I;go_wp2;go_roundw
        case rel=>exact⟨m+1,I,aG,N,aH fun u M h=>absurd Y h⟩
        case measure=>simp [intOf];omega
       obtain rfl:m=k:=I;go_wp2;go_roundw
       case rel=>exact⟨m+1,I,aG,N,aH fun t Q=>by
        rcases Nat.lt_or_ge t m with h1|h1
        .exact H t h1
        obtain rfl:t=m:=I;refine⟨P.out.2 (by have:=U.out;have:=Y.out;simp;first|omega|(have:=V.out;omega)),fun u M=>?_⟩;rw[G.out,a.out];exact T u M⟩
       case measure=>simp [intOf];omega
     have dy:(y==0)=false:=by simpa using Z
     have p:(y !=0)=true:=by simpa using Z
     have Y:=aH Z;clear Z;by_cases F:y<=n
     .have dc:decide (n<y)=false:=by simp;omega
      have V:=aH F;clear F;go_wp2;obtain rfl:r=false:=by
       rw[Bool.eq_false_iff];intro Q;obtain⟨S,E,B⟩:=P.out.1 ((c.out.1 Q).2.1 k R).1
       try simp at S
       have a1:=U.out
       first|omega|(have a2:=Y.out;first|omega|(have a3:=V.out;omega))
      go_ret;exact⟨rfl,O.out⟩
     have dc:decide (n<y)=true:=by simp;omega
     have V:=aH F;clear F;go_wp2;obtain rfl:r=false:=by
      rw[Bool.eq_false_iff];intro Q;obtain⟨S,E,B⟩:=P.out.1 ((c.out.1 Q).2.1 k R).1
      try simp at S
      have a1:=U.out
      first|omega|(have a2:=Y.out;first|omega|(have a3:=V.out;omega))
     go_ret;exact⟨rfl,O.out⟩
    have dx:(x==0)=false:=by simpa using X
    have zq:(x !=0)=true:=by simpa using X
    have U:=aH X;clear X;go_wp2;obtain rfl:r=false:=by
     rw[Bool.eq_false_iff];intro Q;obtain⟨S,E,B⟩:=P.out.1 ((c.out.1 Q).2.1 k R).1
     try simp at S
     have a1:=U.out
     first|omega|(have a2:=Y.out;first|omega|(have a3:=V.out;omega))
    go_ret;exact⟨rfl,O.out⟩
   rw[show gS (jN true 3)=.nilIface by simp [jN,gS]];by_cases X:x=0
   .have dx:(x==0)=true:=by simpa using X
    have zq:(x !=0)=false:=by simpa using X
    have U:=aH X;clear X;by_cases Z:y=0
    .have dy:(y==0)=true:=by simpa using Z
     have p:(y !=0)=false:=by simpa using Z
     have Y:=aH Z;have dc:decide (n<y)=false:=by simp;omega
     clear Z;go_wp2;clear O
     go_loopw [70] (fun j wq=>∃m:Nat,m<=k/\j=.int .i64 m/\Below w9 w9 wq/\Hid (∀u,u<m->y≠0->z (22+u)≠y)) (fun j _=>k-(intOf j).toNat)
     case atStart=>exact⟨0,I,rfl,zr.out,aH fun u M=>absurd M I⟩
     case round=>
      rename World=>wq
      obtain⟨m,hm,rfl,N,T⟩:=hrel;by_cases zn:m<k
      .have q2:(m:Int)<k:=I;go_wp2;go_roundw
       case rel=>exact⟨m+1,I,aG,N,aH fun u M h=>absurd Y h⟩
       case measure=>simp [intOf];omega
      obtain rfl:m=k:=I;go_wp2;go_roundw
      case rel=>exact⟨m+1,I,aG,N,aH fun t Q=>by
       rcases Nat.lt_or_ge t m with h1|h1
       .exact H t h1
       obtain rfl:t=m:=I;refine⟨P.out.2 (by have:=U.out;have:=Y.out;simp;first|omega|(have:=V.out;omega)),fun u M=>?_⟩;rw[G.out,a.out];exact T u M⟩
      case measure=>simp [intOf];omega
    have dy:(y==0)=false:=by simpa using Z
    have p:(y !=0)=true:=by simpa using Z
    have Y:=aH Z;clear Z;by_cases F:y<=n
    .have dc:decide (n<y)=false:=by simp;omega
     have V:=aH F;clear F;go_wp2;obtain rfl:r=false:=by
      rw[Bool.eq_false_iff];intro Q;obtain⟨S,E,B⟩:=P.out.1 ((c.out.1 Q).2.1 k R).1
      try simp at S
      have a1:=U.out
      first|omega|(have a2:=Y.out;first|omega|(have a3:=V.out;omega))
     go_ret;exact⟨rfl,O.out⟩
    have dc:decide (n<y)=true:=by simp;omega
    have V:=aH F;clear F;go_wp2;obtain rfl:r=false:=by
     rw[Bool.eq_false_iff];intro Q;obtain⟨S,E,B⟩:=P.out.1 ((c.out.1 Q).2.1 k R).1
     try simp at S
     have a1:=U.out
     first|omega|(have a2:=Y.out;first|omega|(have a3:=V.out;omega))
    go_ret;exact⟨rfl,O.out⟩
   have dx:(x==0)=false:=by simpa using X
   have zq:(x !=0)=true:=by simpa using X
   have U:=aH X;clear X;by_cases Z:y=0
   .have dy:(y==0)=true:=by simpa using Z
    have p:(y !=0)=false:=by simpa using Z
    have Y:=aH Z;have dc:decide (n<y)=false:=by simp;omega
    clear Z;go_wp2;obtain rfl:r=false:=by
     rw[Bool.eq_false_iff];intro Q;obtain⟨S,E,B⟩:=P.out.1 ((c.out.1 Q).2.1 k R).1
     try simp at S
     have a1:=U.out
     first|omega|(have a2:=Y.out;first|omega|(have a3:=V.out;omega))
    go_ret;exact⟨rfl,O.out⟩
   have dy:(y==0)=false:=by simpa using Z
   have p:(y !=0)=true:=by simpa using Z
   have Y:=aH Z;clear Z;by_cases F:y<=n
   .have dc:decide (n<y)=false:=by simp;omega
    have V:=aH F;clear F;go_wp2;clear O
    go_loopw [70] (fun j wq=>∃m:Nat,m<=k/\j=.int .i64 m/\Below w9 w9 wq/\Hid (∀u,u<m->y≠0->z (22+u)≠y)) (fun j _=>k-(intOf j).toNat)
    case atStart=>exact⟨0,I,rfl,zr.out,aH fun u M=>absurd M I⟩
    case round=>
     rename World=>wq
     obtain⟨m,hm,rfl,N,T⟩:=hrel;by_cases zn:m<k
     .have q2:(m:Int)<k:=I;have cz:wq.cell? (w.heap.size,22+m)=[z (22+m)]:=((L.below N b).cell _).trans (HC.get _ I);have f4:(m:Int)<4:=I;have em:IntKind.i64.wrap (22+(m:Int))=((22+m:Nat):Int):=by rw[IntWalk.i64_in _ I];omega
      generalize d:z (22+m)=v9 at cz;have o:=aH d;clear d;by_cases A:v9=y
      .have d9:(v9==y)=true:=by simpa using A
       have zp:=aH A;clear A;go_wp2;obtain rfl:r=false:=by
        rw[Bool.eq_false_iff];intro Q;have h9:=((c.out.1 Q).2.1 k R).2 m zn;rw[G.out,a.out,o.out]at h9;exact h9 Y zp
       go_ret;exact⟨rfl,zg.trans (N.mono zg.size)⟩
      have d9:(v9==y)=false:=by simpa using A
      have zp:=aH A;clear A;go_wp2;go_roundw
      case rel=>exact⟨m+1,I,aG,N,aH fun u M h=>by
       rcases Nat.lt_or_ge u m with h1|h1
       .exact T u h1 h
       obtain rfl:u=m:=I;rw[o.out];exact zp⟩
      case measure=>simp [intOf];omega
     obtain rfl:m=k:=I;go_wp2;go_roundw
     case rel=>exact⟨m+1,I,aG,N,aH fun t Q=>by
      rcases Nat.lt_or_ge t m with h1|h1
      .exact H t h1
      obtain rfl:t=m:=I;refine⟨P.out.2 (by have:=U.out;have:=Y.out;simp;first|omega|(have:=V.out;omega)),fun u M=>?_⟩;rw[G.out,a.out];exact T u M⟩
     case measure=>simp [intOf];omega
   have dc:decide (n<y)=true:=by simp;omega
   have V:=aH F;clear F;go_wp2;obtain rfl:r=false:=by
    rw[Bool.eq_false_iff];intro Q;obtain⟨S,E,B⟩:=P.out.1 ((c.out.1 Q).2.1 k R).1
    try simp at S
    have a1:=U.out
    first|omega|(have a2:=Y.out;first|omega|(have a3:=V.out;omega))
   go_ret;exact⟨rfl,O.out⟩
  obtain rfl:k=4:=I;have zf:=aH H;have ze:=aH hb;clear H hb;go_wp2
  go_loop [87] (fun i=>∃m:Nat,m<=3/\i=.int .i64 m/\Hid (∀u,u<m->z (29+u)=0)) (fun i=>3-(intOf i).toNat)
  case atStart=>exact⟨0,I,rfl,aH fun u M=>absurd M I⟩
  case round=>
   obtain⟨m,hm,rfl,zz⟩:=hrel;by_cases ya:m<3
   .have q3:(m:Int)<3:=I;have cz:wr.cell? (w.heap.size,29+m)=[z (29+m)]:=(zt.cell _).trans (HC.get _ I);generalize d:z (29+m)=v9 at cz;have o:=aH d;clear d;by_cases h0:v9=0
    .have d9:(v9 !=0)=false:=by simpa using h0
     have zo:=aH h0;clear h0;go_wp2
     go_round
     case rel=>exact⟨m+1,I,aG,aH fun u M=>by
      rcases Nat.lt_or_ge u m with h1|h1
      .exact zz u h1
      obtain rfl:u=m:=I;rw[o.out];exact zo⟩
     case measure=>simp [intOf];omega
    have d9:(v9 !=0)=true:=by simpa using h0
    have zo:=aH h0;clear h0;go_wp2;obtain rfl:r=false:=by
     rw[Bool.eq_false_iff];intro Q;obtain⟨_,_,yi,yh,yg⟩:=c.out.1 Q;have h9:=o.out;have h8:=zo.out;have:m=0\/m=1\/m=2:=I;rcases this with rfl|rfl|rfl
     .exact h8 (h9.symm.trans yi)
     .exact h8 (h9.symm.trans yh)
     exact h8 (h9.symm.trans yg)
    go_ret;exact⟨rfl,K.trans (ze.mono K.size)⟩
   obtain rfl:m=3:=I;go_wp2;obtain rfl:r=true:=c.out.2 ⟨ys.out,zf.out,zz.out 0 I,zz.out 1 I,zz.out 2 I⟩;go_ret;exact⟨rfl,K.trans (ze.mono K.size)⟩
theorem lP(C:Array Value)(z:Nat->Int)(r:Bool)(w:World)(h:cH C 32 z)(W:r=true↔eE z):
 Calls prog 128 #[.agg C] w fun e w'=>e=.returned r/\Below w w w':=by
 have X:¬FM z->r=false:=fun V=>by
  rw[Bool.eq_false_iff];intro U;exact V (W.1 U).1
 by_cases Y:cK (dH z) (oz z)
 .by_cases h2:z 26<16
  .by_cases h3:z 28<=1099511627776
   .by_cases h4:z 27<=1099511627776
    .exact AH C z r w h W ⟨Y,h2,h3,h4⟩
    exact nC C z r w h (X fun Z=>h4 Z.2.2.2) true (by simp [Y]) (by simp;omega)
   exact nC C z r w h (X fun Z=>h3 Z.2.2.1) true (by simp [Y]) (by simp;omega)
  exact nC C z r w h (X fun Z=>h2 Z.2.1) true (by simp [Y]) (by simp;omega)
 exact nC C z r w h (X fun Z=>Y Z.1) false (by simp [Y]) (.inl rfl)
end
section
def gI(xs:List Int)(i:Nat):Int:=xs[i]?.getD 0
theorem kH{j:Nat}(Z:i<xs.length):gI (xs.set i v) j=if j=i then v else gI xs j:=by
 unfold gI;rw[List.getElem?_set];by_cases h:i=j
 .subst h;simp [Z]
 rw[iN h,iN (fun e=>h e.symm)]
theorem vO{n:Nat}(h:i<n):gI (xs.take n) i=gI xs i:=by
 unfold gI;rw[List.getElem?_take,iP h]
theorem tV{ys:List Int}(h:i<xs.length):gI (xs++ys) i=gI xs i:=by
 unfold gI;rw[List.getElem?_append_left h]
def eO(xs:List Int)(i:Nat):Nat:=if 2*i+2<xs.length/\gI xs (2*i+2)<gI xs (2*i+1)then 2*i+2 else 2*i+1
theorem kV(xs:List Int)(i:Nat):(eO xs i=2*i+2/\2*i+2<xs.length/\gI xs (2*i+2)<gI xs (2*i+1))\/(eO xs i=2*i+1/\¬(2*i+2<xs.length/\gI xs (2*i+2)<gI xs (2*i+1))):=by
 unfold eO;by_cases h:2*i+2<xs.length/\gI xs (2*i+2)<gI xs (2*i+1)
 .rw[iP h];exact .inl ⟨rfl,h.1,h.2⟩
 rw[iN h];exact .inr ⟨rfl,h⟩
def jU(xs:List Int)(i:Nat)(v:Int):List Int:=
 if h:eO xs i<xs.length/\gI xs (eO xs i)<v then jU (xs.set i (gI xs (eO xs i))) (eO xs i) v else xs.set i v
termination_by xs.length-i
decreasing_by
 have:=kV xs i;rw[List.length_set];omega
theorem oG(h:eO xs i<xs.length/\gI xs (eO xs i)<v):jU xs i v=jU (xs.set i (gI xs (eO xs i))) (eO xs i) v:=by
 rw[jU,dif_pos h]
theorem kW(h:¬(eO xs i<xs.length/\gI xs (eO xs i)<v)):jU xs i v=xs.set i v:=by
 rw[jU,dif_neg h]
theorem vY(i:Nat)(v:Int):jU [] i v=[]:=by rw[kW (by simp)];rfl
def jS(xs:List Int)(i:Nat):List Int:=
 if h:0<i/\gI xs i<gI xs ((i-1)/2)then jS ((xs.set i (gI xs ((i-1)/2))).set ((i-1)/2) (gI xs i)) ((i-1)/2)else xs
termination_by i
decreasing_by omega
theorem oH(h:0<i/\gI xs i<gI xs ((i-1)/2)):jS xs i=jS ((xs.set i (gI xs ((i-1)/2))).set ((i-1)/2) (gI xs i)) ((i-1)/2):=by
 rw[jS,dif_pos h]
theorem lW(h:¬(0<i/\gI xs i<gI xs ((i-1)/2))):jS xs i=xs:=by
 rw[jS,dif_neg h]
end
section
attribute [local go_sem↓] Go.wp_at_zero Go.wp_at_succ
structure jC (w:World) (g n:Nat) (xs:List Int):Prop where
 len:xs.length=n
 bd:nJ xs
 blk:∃cs,aY w g 3 cs/\∀i,i<n->cs[i]? =some (.int .i64 (gI xs i))
section
variable{w w':World}{g n:Nat}{xs:List Int}
theorem jC.lt(h:jC w g n xs):g<w:=by obtain⟨Y,Z,_⟩:=h.blk;exact Z.lt
theorem jC.cell(h:jC w g n xs)(X:i<n):w.cell? (g,i)=(gI xs i):=by
 obtain⟨W,Z,Y⟩:=h.blk;rw[Z.cell];exact Y i X
theorem jC.frozen(h:jC w g n xs)(i:Nat):w.frozen? ⟨g,i,none⟩=false:=by obtain⟨Y,Z,_⟩:=h.blk;exact Z.frozen i
theorem nJ.gI{xs:List Int}(h:nJ xs)(i:Nat): -9223372036854775808<=gI xs i/\gI xs i<=9223372036854775807:=h i
theorem nJ.set(h:nJ xs)(Z: -9223372036854775808<=v/\v<=9223372036854775807):nJ (xs.set i v):=fun j=>by
 rw[List.getElem?_set];split
 .split
  .exact Z
  decide
 exact h j
theorem nJ.take(h:nJ xs)(k:Nat):nJ (xs.take k):=fun j=>by
 rw[List.getElem?_take];split
 .exact h j
 decide
theorem jC.set(h:jC w g n xs)(S: -9223372036854775808<=v/\v<=9223372036854775807)(R:i<n):jC (w.setCell (g,i) v) g n (xs.set i v):=by
 obtain⟨X,U,W⟩:=h.blk;have V:=h.len;refine⟨by rw[List.length_set];exact V,h.bd.set S,_,U.set_ i _,fun j T=>?_⟩;rw[Array.getElem?_setIfInBounds,kH I];have Y:i<X.size:=by
  have:=W i R;rcases Nat.lt_or_ge i X.size with h|h
  .exact h
  rw[Array.getElem?_eq_none h]at this;cases this
 by_cases Z:i=j
 .subst Z;rw[iP rfl,iP Y,iP rfl]
 rw[iN Z,iN (fun e=>Z e.symm)];exact W j T
theorem jC.alloc(h:jC w g n xs)(o:Obj):jC (w.alloc o) g n xs:=by
 obtain⟨Z,Y,X⟩:=h.blk;exact⟨h.len,h.bd,Z,Y.alloc o,X⟩
theorem jC.drew(h:jC w g n xs):jC w.drew g n xs:=⟨h.len,h.bd,h.blk⟩
theorem jC.drewN(h:jC w g n xs)(k:Nat):jC (w.drewN k) g n xs:=⟨h.len,h.bd,h.blk⟩
theorem jC.take(h:jC w g n xs){k:Nat}(V:k<=n):jC w g k (xs.take k):=by
 obtain⟨Z,Y,X⟩:=h.blk;exact⟨by rw[List.length_take,h.len];omega,h.bd.take k,Z,Y,fun i W=>by rw[vO W];exact X i I⟩
theorem jC.slo(h:jC w g n xs){c:Nat}(W:B<=g)(V:n<=c)(Z:c<=9223372036854775807):kC w B (some ⟨g,0,none⟩) n c xs:=
 ⟨⟨h.len,V,Z,h.bd,fun _=>⟨g,0,rfl,h.lt,fun i Y=>by rw[Nat.zero_add];exact h.cell Y⟩⟩,fun _ b X=>by cases X;exact W⟩
end
theorem jX.row{n c:Nat}(h:jX w B A n c xs)(bd:nJ xs)(N:0<n):∃g,A=some ⟨g,0,none⟩/\B<=g/\jC w g n xs:=by
 have X:=h.len;rcases h.2 with⟨Y,S⟩|⟨g,W,Z,Y,V,U,R,Q,P,T⟩
 .omega
 simp only[Value.slice.injEq,true_and]at Y;obtain⟨rfl,rfl⟩:=Y;refine⟨g,rfl,V,X,bd,Z,U,fun i O=>?_⟩;have e:(Z.toList.take (n*1))[i]? =(xs.map (Value.int .i64))[i]? :=by rw[T]
 rw[List.getElem?_take,iP I,List.getElem?_map,List.getElem?_eq_getElem (l:=xs) I]at e;simpa [gI,List.getElem?_eq_getElem (show i<xs.length by omega)]using e
theorem aD.set_(h:aD (fun b=>b=g) w w')(i:Nat)(u:Value):aD (fun b=>b=g) w (w'.setCell (g,i) u):=h.setCell (.inl rfl) u
theorem Bm(g n c:Nat)(xs:List Int)(w:World)(h:jC w g n xs)(j:0<n)(v:n<=100):
 Calls prog 189 #[.slice (some ⟨g,0,none⟩) n c] w fun e w'=>e=.returned (.slice (some ⟨g,0,none⟩) n c)/\jC w' g n (jS xs (n-1))/\aD (fun b=>b=g) w w':=by
 have H:=aH h;clear h
 go_enter func189,ntmps189
 go_wp2
 go_loopw [3] (fun i wr=>∃(k:Nat) (R:List Int),k<n/\i=.int .i64 k/\Hid (jC wr g n R)/\Hid (jS R k=jS xs (n-1))/\Hid (aD (fun b=>b=g) w wr)) (fun i _=>(intOf i).toNat)
 case atStart=>exact⟨n-1,xs,I,jW I,H,aH rfl,aH (aD.refl _ _)⟩
 case round=>
  obtain⟨k,R,G,rfl,X,F,V⟩:=hrel;have u:(k:Int)<n:=I;have U:=X.lt;by_cases E:0<k
  .have c1:=X.cell G;have T:=X.cell (i:=(k-1)/2) I;have t:((k:Int)-1)/2<n:=I;have s:0<=((k:Int)-1)/2:=I;have r:0<(k:Int):=I;have C:k≠(k-1)/2:=I;have S:=X.bd.gI k;have Q:=X.bd.gI ((k-1)/2);have B:Hid (gI R k<gI R ((k-1)/2)->jS R k=jS ((R.set k (gI R ((k-1)/2))).set ((k-1)/2) (gI R k)) ((k-1)/2)):=fun h=>oH ⟨E,h⟩
   have A:Hid (¬gI R k<gI R ((k-1)/2)->jS R k=R):=fun h=>lW (fun z=>h z.2)
   generalize P:gI R k=x at*;generalize O:gI R ((k-1)/2)=y at*;have P:=aH P;have O:=aH O;go_wp2
   go_quiet (fail)
   go_wp2
   .have hlt1:x<y:=by assumption
    have Z:=aH (X.drewN nq);have N:=aH (V.drewN nq);have D:g<(wr.drewN nq).heap.size:=U;clear c1 T U X V;generalize wr.drewN nq=W at*;have c1:=Z.cell G;have T:=Z.cell (i:=(k-1)/2) I;rw[P.out]at c1;rw[O.out]at T;have q:=Z.frozen k;have p:=Z.frozen ((k-1)/2);have M:=aH (B.out hlt1);have o:IntKind.i64.wrap ((k:Int)-1)=(k:Int)-1:=IntWalk.i64_in _ I;have m:IntKind.i64.wrap (((k:Int)-1).tdiv 2)=((k:Int)-1)/2:=by rw[Int.tdiv_eq_ediv_of_nonneg I];exact IntWalk.i64_in _ I
    have l:(((k:Int)-1)/2).toNat=(k-1)/2:=I
    go_region
    go_wp2;exact⟨⟨(k-1)/2,_,I,jW I,aH ((Z.set Q G).set S I).drew,aH (M.symm.trans F),aH ((N.set_ _ _).set_ _ _).drew⟩,by simp [intOf];omega⟩
   have L:y<=x:=by assumption
   have Y:=A.out L;go_ret;exact⟨rfl,by rw[<-F.out,Y];exact X.drewN _,V.drewN _⟩
  obtain rfl:k=0:=I;have Y:jS R 0=R:=lW (fun h=>absurd h.1 I);have K:=aH Y;clear Y;go_wp2
  go_quiet (fail)
  go_wp2;go_ret;exact⟨rfl,by rw[<-F.out,K.out];exact X.drewN _,V.drewN _⟩
theorem UH(A:Option Addr)(g n c:Nat)(xs:List Int)(v:Int)(w:World)(hA:0<n->A=some ⟨g,0,none⟩)(h:jC w g n (xs.set 0 v))(zv:n<=100):
 Calls prog 190 #[.slice A n c] w fun e w'=>e=.returned (.slice A n c)/\jC w' g n (jU xs 0 v)/\aD (fun b=>b=g) w w':=by
 have H:=aH h;have hl:xs.length=n:=by have:=h.len;simpa using this
 have HL:=aH hl;have HA:=aH hA;clear h hl hA
 go_enter func190,ntmps190
 go_wp2
 go_loopw [3] (fun i wr=>∃(k:Nat) (R:List Int),(k<n\/n=0/\k=0)/\i=.int .i64 k/\R.length=n/\Hid (jC wr g n (R.set k v))/\Hid (jU R k v=jU xs 0 v)/\Hid (aD (fun b=>b=g) w wr)) (fun i _=>n-(intOf i).toNat)
 case atStart=>exact⟨0,xs,I,rfl,HL.out,H,aH rfl,aH (aD.refl _ _)⟩
 case round=>
  obtain⟨k,R,hk,rfl,p,S,x,X⟩:=hrel;have V:=aH p;clear p;have zy:k<100:=I;have e1:IntKind.i64.wrap (2*(k:Int))=2*k:=IntWalk.i64_in _ I;have e2:IntKind.i64.wrap (2*(k:Int)+1)=2*k+1:=IntWalk.i64_in _ I;have e3:IntKind.i64.wrap (2*(k:Int)+1+1)=2*k+2:=by rw[show 2*(k:Int)+1+1=2*k+2 by omega];exact IntWalk.i64_in _ I
  have P:=S.lt;rcases Nat.lt_or_ge (2*k+1) n with p1|p1
  .obtain rfl:=HA.out I;have l:k<n:=I;have q0:(k:Int)<n:=I;have q1:2*(k:Int)+1<n:=I;have m:=S.cell l;have c1:=S.cell p1;have j:gI (R.set k v) k=v:=by rw[kH (by have:=V.out;omega),iP rfl]
   have f:gI (R.set k v) (2*k+1)=gI R (2*k+1):=by rw[kH (by have:=V.out;omega),iN I]
   have d:gI (R.set k v) (2*k+2)=gI R (2*k+2):=by rw[kH (by have:=V.out;omega),iN I]
   have Q:=kV R k;have M:eO R k<R.length/\gI R (eO R k)<v->jU R k v=jU (R.set k (gI R (eO R k))) (eO R k) v:=oG;have U:¬(eO R k<R.length/\gI R (eO R k)<v)->jU R k v=R.set k v:=kW;rw[V.out]at Q M U;rw[j]at m;rw[f]at c1;have y:=S.bd.gI (2*k+1);rw[f]at y;have D:=S.bd.gI k;rw[j]at D;clear j f;by_cases p2:2*k+2<n
   .have q2:2*(k:Int)+2<n:=I;have c2:=S.cell p2;rw[d]at c2;have t:=S.bd.gI (2*k+2);rw[d]at t;clear d;generalize F:gI R (2*k+1)=N at*;generalize o:gI R (2*k+2)=u at*;have a:=aH F;have zz:=aH o;have C:=aH M;have O:=aH U;clear M U F o;by_cases zw:u<N
    .have T:eO R k=2*k+2:=by rcases Q with h|h<;>omega
     have L:Hid (gI R (2*k+2)=u):=zz;have dm:decide ((n:Int)<=2*(k:Int)+2)=false:=by simp;omega
     have Z:=aH T;clear Q T;by_cases E:u<v
     .have hsS:=aH (C.out (by rw[Z.out,L.out];exact⟨I,E⟩));go_wp2
      go_quiet (fail)
      go_wp2
      rename Nat=>nq1
      go_quiet (fail)
      go_wp2;have Y:=aH ((S.drewN nq1).drewN nq);have K:=aH ((X.drewN nq1).drewN nq);have B:g<((wr.drewN nq1).drewN nq).heap.size:=P;have s:((wr.drewN nq1).drewN nq).cell? (g,k)=v:=m;have cm:((wr.drewN nq1).drewN nq).cell? (g,2*k+2)=u:=c2;have f1:=Y.frozen k;have f2:=Y.frozen (2*k+2);have r:k≠2*k+2:=I;clear P S X;generalize(wr.drewN nq1).drewN nq=W at*
      go_region
      go_wp2;refine⟨⟨2*k+2,R.set k u,.inl I,jW I,by rw[List.length_set];exact V,aH ?_,aH ?_,aH ((K.set_ _ _).set_ _ _).drew⟩,by simp [intOf];omega⟩
      .have h3:=(Y.set t (show k<n by omega)).set D (i:=2*k+2) I;rw[List.set_set]at h3;exact h3.drew
      have z:=hsS.out;rw[Z.out,L.out]at z;exact z.symm.trans x
     .have q:v<=u:=I;have G:=aH (O.out (by rw[Z.out,L.out];omega));go_wp2
      go_quiet (fail)
      go_wp2
      rename Nat=>nq1
      go_quiet (fail)
      go_wp2;go_ret;exact⟨rfl,by rw[<-x.out,G.out];exact(S.drewN nq1).drewN _,(X.drewN nq1).drewN _⟩
    have T:eO R k=2*k+1:=by rcases Q with h|h<;>omega
    have L:Hid (gI R (2*k+1)=N):=a;have dm:decide ((n:Int)<=2*(k:Int)+1)=false:=by simp;omega
    have Z:=aH T;have zx:N<=u:=I;clear Q T;by_cases E:N<v
    .have hsS:=aH (C.out (by rw[Z.out,L.out];exact⟨I,E⟩));go_wp2
     go_quiet (fail)
     go_wp2
     rename Nat=>nq1
     go_quiet (fail)
     go_wp2;have Y:=aH ((S.drewN nq1).drewN nq);have K:=aH ((X.drewN nq1).drewN nq);have B:g<((wr.drewN nq1).drewN nq).heap.size:=P;have s:((wr.drewN nq1).drewN nq).cell? (g,k)=v:=m;have cm:((wr.drewN nq1).drewN nq).cell? (g,2*k+1)=N:=c1;have f1:=Y.frozen k;have f2:=Y.frozen (2*k+1);have r:k≠2*k+1:=I;clear P S X;generalize(wr.drewN nq1).drewN nq=W at*
     go_region
     go_wp2;refine⟨⟨2*k+1,R.set k N,.inl I,jW I,by rw[List.length_set];exact V,aH ?_,aH ?_,aH ((K.set_ _ _).set_ _ _).drew⟩,by simp [intOf];omega⟩
     .have h3:=(Y.set y (show k<n by omega)).set D (i:=2*k+1) I;rw[List.set_set]at h3;exact h3.drew
     have z:=hsS.out;rw[Z.out,L.out]at z;exact z.symm.trans x
    have q:v<=N:=I;have G:=aH (O.out (by rw[Z.out,L.out];omega));go_wp2
    go_quiet (fail)
    go_wp2
    rename Nat=>nq1
    go_quiet (fail)
    go_wp2;go_ret;exact⟨rfl,by rw[<-x.out,G.out];exact(S.drewN nq1).drewN _,(X.drewN nq1).drewN _⟩
   have d2:decide (2*(k:Int)+2<n)=false:=by simp;omega
   have T:eO R k=2*k+1:=by rcases Q with h|h<;>omega
   generalize F:gI R (2*k+1)=N at*;have L:=aH F;have dm:decide ((n:Int)<=2*(k:Int)+1)=false:=by simp;omega
   have C:=aH M;have O:=aH U;have Z:=aH T;clear M U F Q T;by_cases E:N<v
   .have hsS:=aH (C.out (by rw[Z.out,L.out];exact⟨I,E⟩));go_wp2
    go_quiet (fail)
    go_wp2
    rename Nat=>nq1
    go_quiet (fail)
    go_wp2;have Y:=aH ((S.drewN nq1).drewN nq);have K:=aH ((X.drewN nq1).drewN nq);have B:g<((wr.drewN nq1).drewN nq).heap.size:=P;have s:((wr.drewN nq1).drewN nq).cell? (g,k)=v:=m;have cm:((wr.drewN nq1).drewN nq).cell? (g,2*k+1)=N:=c1;have f1:=Y.frozen k;have f2:=Y.frozen (2*k+1);have r:k≠2*k+1:=I;clear P S X;generalize(wr.drewN nq1).drewN nq=W at*
    go_region
    go_wp2;refine⟨⟨2*k+1,R.set k N,.inl I,jW I,by rw[List.length_set];exact V,aH ?_,aH ?_,aH ((K.set_ _ _).set_ _ _).drew⟩,by simp [intOf];omega⟩
    .have h3:=(Y.set y (show k<n by omega)).set D (i:=2*k+1) I;rw[List.set_set]at h3;exact h3.drew
    have z:=hsS.out;rw[Z.out,L.out]at z;exact z.symm.trans x
   have q:v<=N:=I;have G:=aH (O.out (by rw[Z.out,L.out];omega));go_wp2
   go_quiet (fail)
   go_wp2
   rename Nat=>nq1
   go_quiet (fail)
   go_wp2;go_ret;exact⟨rfl,by rw[<-x.out,G.out];exact(S.drewN nq1).drewN _,(X.drewN nq1).drewN _⟩
  have U:jU R k v=R.set k v:=kW (by rcases kV R k with h|h<;>(rw[V.out]at h;rw[V.out];omega))
  have O:=aH U;clear U;have d1:decide (2*(k:Int)+2<n)=false:=by simp;omega
  have d2:decide ((n:Int)<=2*(k:Int)+1)=true:=by simp;omega
  go_wp2
  go_quiet (fail)
  go_wp2
  rename Nat=>nq1
  go_quiet (fail)
  go_wp2;go_ret;exact⟨rfl,by rw[<-x.out,O.out];exact(S.drewN nq1).drewN _,(X.drewN nq1).drewN _⟩
def gD(xs:List Int)(a v:Int):List Int:=if a=1 then(if xs.length<6 then jS (xs++[v]) xs.length else xs)else if a=2 then jU (xs.take (xs.length-1)) 0 (gI xs (xs.length-1))else xs
def gM(xs:List Int)(a:Int):Int:=if a=1 then(if xs.length<6 then 1 else 3)else if a=2\/a=5 then(if xs.length=0 then 2 else 1)else if a=6 then 1 else 5
def gK(xs:List Int)(a:Int):Int:=if a=2\/a=5 then gI xs 0 else if a=6 then xs.length else 0
theorem mN(w:World)(p q:Addr)(u:Value):(w.setCell p u).frozen? q=w.frozen? q:=by simp
theorem iE{Z Y:World}(X:Below w w Z)(V:aD (fun b=>b=g) Z Y)(U:w<=g):Below w w Y:=
 X.trans (V.below X.size (fun b W e=>by omega))
theorem SV(A:Option Addr)(n c:Nat)(xs:List Int)(k v:Int)(w:World)(h:fI w A n c xs)(hn:n<6)(l: -9223372036854775808<=v/\v<=9223372036854775807):
 Calls prog 164 #[.slice A n c,.agg #[(1:Int),k,v]] w (fQ (jS (xs++[v]) n) 1 0 w):=by
 have H:=aH h;clear h;have Q:=aH l;clear l;have d0:decide (6<=(n:Int))=false:=by simp;omega
 go_enter func164,ntmps164
 go_wp2_with (first
  |(go_at_call 186;refine(fR A n c xs w _ H I ?_).mono ?_;(go_grown);rintro e C ⟨A1,c1,rfl,X,P,hB⟩;obtain⟨o,m⟩:=cJ P;have j:=P.size;simp only[World.size_alloc]at j;replace X:=X.mono (B':=w+2) (by simp);have q1:w.heap.size+1<C:=I;have q0:w.heap.size<C:=I;have T:=aH X;clear X;have x:=o (w,1) 0 (by simp);have u:=o (w,1) 1 (by simp);have t:=m (w,1) 0 (by simp);have s:=m (w,1) 1 (by simp);simp [go_sem]at x u t s;have m1:¬w.heap.size+1=C:=I)
  |(at_builtin;refine dM rfl (.tmp 19) (.tmp 22) rfl (B:=w+2) rfl (T.alloc _) rfl ((aY.new _ _ _).cell 0) I (by simp;omega) ?_;intro O c2 K Y R;obtain⟨N,M⟩:=cJ R;have G:=R.size;simp only[World.size_alloc]at G;have F:Below w w K:=Below.trans (by go_grown) (R.mono (by simp));have i:=(N (w,1) 0 (by simp)).trans ((bX I).trans x);have g:=(N (w,1) 1 (by simp)).trans ((bX I).trans u);have f:=(M (w,1) 0 (by simp)).trans ((eP I).trans t);have d:=(M (w,1) 1 (by simp)).trans ((eP I).trans s);have V:=aH (Y.sli (nJ.app H.bd Q));obtain⟨g3,z,y,U⟩:=Y.row (nJ.app H.bd Q) I;cases z;have S:=aH U;clear U Y;have L:w.heap.size+1<K:=I;have q4:w.heap.size<K:=I;have m2:¬w.heap.size+1=K:=I)
  |(go_at_call 189;refine(Bm O (n+1) c2 _ _ S I I).mono ?_;rintro e w3 ⟨rfl,W,Z⟩;have E:=aH W;clear W;have r:=Z.size;have D:=iE F Z I;have b:=(Z.cell (p:=⟨w+1,0,none⟩) L (by show¬w+1=O;omega)).trans i;have a:=(Z.cell (p:=⟨w+1,1,none⟩) L (by show¬w+1=O;omega)).trans g;have z0:=(Z.frozen (p:=⟨w+1,0,none⟩) L (by show¬w+1=O;omega)).trans f;have z1:=(Z.frozen (p:=⟨w+1,1,none⟩) L (by show¬w+1=O;omega)).trans d;have q5:w.heap.size+1<w3:=I;have q:=aH Z;clear Z))
 all_goals(refine bodyPost_ret (by first|(simp [results,results164,go_sem,b,a];try rfl;done)) rfl ?_)
 refine dB (E.slo y V.cap V.cap63) D ?_ ?_ ?_ ?_ ?_ rfl rfl
 all_goals first|(show w.heap.size+1<w+2;omega)|(show w.heap.size<=w+1;omega)|skip
 simp
theorem MM(A:Option Addr)(n c:Nat)(xs:List Int)(k v:Int)(w:World)(h:fI w A n c xs)(hn:n<=60)(T:0<n):
 Calls prog 164 #[.slice A n c,.agg #[(2:Int),k,v]] w (fQ (jU (xs.take (n-1)) 0 (gI xs (n-1))) 1 (gI xs 0) w):=by
 have K:=aH h.len;have H:=aH h;clear h;have f:((n:Int)==0)=false:=by simp;omega
 have d:(0:Int)<=(n:Int)-1:=I;have b:(n:Int)-1<n:=I;have u:(n:Int)-1<=n:=I;have G:(1:Int)<=n:=I;have a:((n:Int)-1).toNat=n-1:=I
 go_enter func164,ntmps164
 go_wp2_with (first
  |(go_at_call 186;refine(fR A n c xs w _ H I ?_).mono ?_;(go_grown);rintro e N ⟨A1,c1,rfl,Z,R,l⟩;obtain⟨M,x⟩:=cJ R;have t:=R.size;simp only[World.size_alloc]at t;replace Z:=Z.mono (B':=w+2) (by simp);have Q:w.heap.size+1<N:=I;have q0:w.heap.size<N:=I;obtain⟨g,rfl,L,Y⟩:=Z.row H.bd T;have V:=aH Y;have x0:=Y.cell (i:=0) T;have x1:=Y.cell (i:=n-1) I;have fz:=Y.frozen 0;have F:=(Z.sli H.bd).cap;have U:=(Z.sli H.bd).cap63;have b2:(n:Int)-1<=c1:=I;have s:=Y.lt;have mg:¬w=g:=I;have r:¬w+1=g:=I;clear Y Z;have E:=M (w,1) 0 (by simp);have D:=M (w,1) 1 (by simp);have q:=M w 0 (by simp;omega);have C:=x (w,1) 0 (by simp);have B:=x (w,1) 1 (by simp);simp [go_sem]at E D q C B;have m1:¬w.heap.size+1=N:=I)
  |(go_at_call 190;refine(UH _ g (n-1) c1 (xs.take (n-1)) (gI xs (n-1)) _ (fun _=>rfl) ?_ I).mono ?_;(have z:=(V.set (H.bd (n-1)) T (v:=gI xs (n-1))).take (k:=n-1) I;rw[List.take_set]at z;exact z);rintro e j ⟨rfl,W,X⟩;have P:=aH W;clear W;have S:=X.size;simp only[World.size_setCell]at S;have O:=iE (l.setCell (show w<=g by omega) _) X I;have o:=(X.cell (p:=⟨w+1,0,none⟩) (by simpa using Q) (by show¬w+1=g;omega)).trans ((World.cell?_setCell_far _ _ _ _ (by show g≠w+1;omega)).trans E);have m:=(X.cell (p:=⟨w+1,1,none⟩) (by simpa using Q) (by show¬w+1=g;omega)).trans ((World.cell?_setCell_far _ _ _ _ (by show g≠w+1;omega)).trans D);have z0:=(X.frozen (p:=⟨w+1,0,none⟩) (by simpa using Q) (by show¬w+1=g;omega)).trans ((mN _ _ _ _).trans C);have z1:=(X.frozen (p:=⟨w+1,1,none⟩) (by simpa using Q) (by show¬w+1=g;omega)).trans ((mN _ _ _ _).trans B);have q5:w.heap.size+1<j:=I;have y:=aH X;clear X))
 all_goals(refine bodyPost_ret (by first|(simp [results,results164,go_sem,o,m];try rfl;done)) rfl ?_)
 refine dB (P.slo L I U) O ?_ ?_ ?_ ?_ rfl rfl rfl
 all_goals first|(show w.heap.size+1<w+2;omega)|(show w.heap.size<=w+1;omega)|skip
theorem MN(A:Option Addr)(n c:Nat)(xs:List Int)(a k v:Int)(w:World)(h:fI w A n c xs)(p:n<=60)(G:a=1->6<=n)(F:a=2->n=0):
 Calls prog 164 #[.slice A n c,.agg #[a,k,v]] w (fQ xs (gM xs a) (gK xs a) w):=by
 have V:=aH h.len;have H:=aH h;clear h;rcases Nat.eq_zero_or_pos n with hn0|hn0
 .subst hn0;obtain rfl:xs=[]:=List.eq_nil_of_length_eq_zero V;have x:¬a=1:=fun e=>absurd (G e) I
  clear G F
  go_enter func164,ntmps164
  go_wp2_with (go_at_call 186;refine(fR A 0 c [] w _ H I ?_).mono ?_;(go_grown);rintro e U ⟨y,c1,rfl,Z,W,L⟩;obtain⟨T,Q⟩:=cJ W;have P:=W.size;simp only[World.size_alloc]at P;replace Z:=Z.mono (B':=w+2) (by simp);have C:w.heap.size+1<U:=I;have B:w.heap.size<U:=I;have Y:=aH Z;clear Z;have S:=T (w,1) 0 (by simp);have R:=T (w,1) 1 (by simp);have O:=T w 0 (by simp;omega);have N:=Q (w,1) 0 (by simp);have M:=Q (w,1) 1 (by simp);simp [go_sem]at S R O N M;have z:¬w.heap.size+1=U:=I)
  all_goals(refine bodyPost_ret (by first|(simp [results,results164,go_sem,S,R];try rfl;done)) rfl ?_)
  all_goals try simp only[beq_iff_eq,beq_eq_false_iff_ne,bne_iff_ne,bne_eq_false_iff_eq,ne_eq]at*
  all_goals(refine dB (Y.slo H.bd) L ?_ ?_ ?_ ?_ rfl ?_ ?_)
  all_goals first|(show w.heap.size+1<w+2;omega)|(show w.heap.size<=w+1;omega)|skip
  all_goals(simp only[gM,gK,gI];(repeat' split)<;>first|rfl|(exfalso;omega)|(simp_all;done)|(simp_all;omega))
 have r:((n:Int)==0)=false:=by simp;omega
 have u:¬a=2:=fun e=>absurd (F e) I
 by_cases K:a=1
 .have h6:=G K;subst K;have q:decide (6<=(n:Int))=true:=by simp;omega
  clear G F
  go_enter func164,ntmps164
  go_wp2_with (go_at_call 186;refine(fR A n c xs w _ H I ?_).mono ?_;(go_grown);rintro e U ⟨y,c1,rfl,Z,W,L⟩;obtain⟨T,Q⟩:=cJ W;have P:=W.size;simp only[World.size_alloc]at P;replace Z:=Z.mono (B':=w+2) (by simp);have C:w.heap.size+1<U:=I;have B:w.heap.size<U:=I;obtain⟨g,rfl,D,X⟩:=Z.row H.bd hn0;have t:=X.cell (i:=0) hn0;have E:=X.lt;have Y:=aH Z;clear X Z;have S:=T (w,1) 0 (by simp);have R:=T (w,1) 1 (by simp);have O:=T w 0 (by simp;omega);have N:=Q (w,1) 0 (by simp);have M:=Q (w,1) 1 (by simp);simp [go_sem]at S R O N M;have z:¬w.heap.size+1=U:=I)
  all_goals(refine bodyPost_ret (by first|(simp [results,results164,go_sem,S,R];try rfl;done)) rfl ?_)
  all_goals try simp only[beq_iff_eq,beq_eq_false_iff_ne,bne_iff_ne,bne_eq_false_iff_eq,ne_eq]at*
  all_goals(refine dB (Y.slo H.bd) L ?_ ?_ ?_ ?_ rfl ?_ ?_)
  all_goals first|(show w.heap.size+1<w+2;omega)|(show w.heap.size<=w+1;omega)|skip
  all_goals(have s:=V.out;simp only[gM,gK];(repeat' split)<;>first|rfl|(exfalso;omega)|(simp_all;done)|(simp_all;omega))
 clear G F
 go_enter func164,ntmps164
 go_wp2_with (go_at_call 186;refine(fR A n c xs w _ H I ?_).mono ?_;(go_grown);rintro e U ⟨y,c1,rfl,Z,W,L⟩;obtain⟨T,Q⟩:=cJ W;have P:=W.size;simp only[World.size_alloc]at P;replace Z:=Z.mono (B':=w+2) (by simp);have C:w.heap.size+1<U:=I;have B:w.heap.size<U:=I;obtain⟨g,rfl,D,X⟩:=Z.row H.bd hn0;have t:=X.cell (i:=0) hn0;have E:=X.lt;have Y:=aH Z;clear X Z;have S:=T (w,1) 0 (by simp);have R:=T (w,1) 1 (by simp);have O:=T w 0 (by simp;omega);have N:=Q (w,1) 0 (by simp);have M:=Q (w,1) 1 (by simp);simp [go_sem]at S R O N M;have z:¬w.heap.size+1=U:=I)
 all_goals(refine bodyPost_ret (by first|(simp [results,results164,go_sem,S,R];try rfl;done)) rfl ?_)
 all_goals try simp only[beq_iff_eq,beq_eq_false_iff_ne,bne_iff_ne,bne_eq_false_iff_eq,ne_eq]at*
 all_goals(refine dB (Y.slo H.bd) L ?_ ?_ ?_ ?_ rfl ?_ ?_)
 all_goals first|(show w.heap.size+1<w+2;omega)|(show w.heap.size<=w+1;omega)|skip
 all_goals(have s:=V.out;simp only[gM,gK];(repeat' split)<;>first|rfl|(exfalso;omega)|(simp_all;done)|(simp_all;omega))
theorem SS(A:Option Addr)(n c:Nat)(xs:List Int)(a k v:Int)(w:World)(h:fI w A n c xs)(V:n<=60)(S: -9223372036854775808<=v/\v<=9223372036854775807):
 Calls prog 164 #[.slice A n c,.agg #[a,k,v]] w (fQ (gD xs a v) (gM xs a) (gK xs a) w):=by
 have Y:=h.len;by_cases U:a=1/\n<6
 .obtain⟨rfl,h6⟩:=U;have Z:gD xs 1 v=jS (xs++[v]) n:=by simp [gD,Y,h6]
  have X:gM xs 1=1:=by simp [gM,Y,h6]
  have W:gK xs 1=0:=by simp [gK]
  rw[Z,X,W];exact SV A n c xs k v w h h6 S
 by_cases T:a=2/\0<n
 .obtain⟨rfl,h0⟩:=T;have Z:gD xs 2 v=jU (xs.take (n-1)) 0 (gI xs (n-1)):=by simp [gD,Y]
  have X:gM xs 2=1:=by simp [gM,Y];omega
  have W:gK xs 2=gI xs 0:=by simp [gK]
  rw[Z,X,W];exact MM A n c xs k v w h V h0
 have Z:gD xs a v=xs:=by
  unfold gD;split
  .rw[iN I]
  split
  .obtain rfl:xs=[]:=List.eq_nil_of_length_eq_zero I;exact vY _ _
  rfl
 rw[Z];exact MN A n c xs a k v w h V I I
def qB(xs:List Int)(a v:Int):List Int:=if a=1 then(if xs.length<6 then xs++[v]else xs)else if a=2 then xs.tail else xs
def pN(xs:List Int)(a:Int):Int:=if a=1 then(if xs.length<6 then 1 else 3)else if a=2\/a=5 then(if xs.length=0 then 2 else 1)else if a=6 then 1 else 5
def pO(xs:List Int)(a:Int):Int:=if a=2\/a=5 then xs[0]?.getD 0 else if a=6 then xs.length else 0
theorem NF(A:Option Addr)(n c:Nat)(xs:List Int)(a k v:Int)(w:World)(h:fI w A n c xs)(j:n<=60)(hv: -9223372036854775808<=v/\v<=9223372036854775807):
 Calls prog 161 #[.slice A n c,.agg #[a,k,v]] w (fQ (qB xs a v) (pN xs a) (pO xs a) w):=by
 have zx:=h.cap63;have zw:=h.cap;have x:=h.len;have q:=aH h.bd;have HV:=aH hv;clear hv;rcases Nat.eq_zero_or_pos n with hn0|hn0
 .subst hn0;obtain rfl:xs=[]:=List.eq_nil_of_length_eq_zero x;have H:=aH h;clear h
  go_enter func161,ntmps161
  go_wp2_with (go_at_call 186;refine(fR A _ c [] w _ H j ?_).mono ?_;(go_grown);rintro e u ⟨y,c1,rfl,Z,X,E⟩;obtain⟨U,S⟩:=cJ X;have D:=X.size;simp only[World.size_alloc,World.size_drew]at D;replace Z:=Z.mono (B':=w+2) (by simp);have Q:=U (w,1) 0 (by simp);have P:=U (w,1) 1 (by simp);have M:=U w 2 (by simp;omega);have L:=S (w,1) 0 (by simp);have K:=S (w,1) 1 (by simp);simp [go_sem]at Q P M L K)
  focus
   go_region_held3 (fun t=>t.cell? (w.heap.size,2)=v) (go_keep) (first
   |(go_at_call 186;refine(fR A _ c [] w _ H j ?_).mono ?_;(go_grown);rintro e u ⟨y,c1,rfl,Z,X,E⟩;obtain⟨U,S⟩:=cJ X;have D:=X.size;simp only[World.size_alloc,World.size_drew]at D;replace Z:=Z.mono (B':=w+2) (by simp);have Q:=U (w,1) 0 (by simp);have P:=U (w,1) 1 (by simp);have M:=U w 2 (by simp;omega);have L:=S (w,1) 0 (by simp);have K:=S (w,1) 1 (by simp);simp [go_sem]at Q P M L K)
   |(refine lR rfl (.tmp 17) (.tmp 20) rfl (B:=w+2) (A:=y) (n:=0) (c:=c1) (xs:=[]) rfl ?_ (g:=u) (v:=v) (c':=1) rfl ?_ ?_ ?_ ?_;(exact Z.alloc _);(exact(aY.new _ _ _).cell 0);(omega);(first|omega|(simp;omega));intro g2 C s T W;obtain⟨Y,V⟩:=cJ W;have G:=W.size;(try simp only[World.size_alloc,World.size_drew]at G);have o:=(Y (w,1) 0 I).trans ((bX I).trans Q);have i:=(V (w,1) 0 I).trans ((eP I).trans L);have m:=(Y (w,1) 1 I).trans ((bX I).trans P);have f:=(V (w,1) 1 I).trans ((eP I).trans K);have d:=(Y w 2 I).trans ((bX I).trans M);have F:Below w w s:=Below.trans (by go_grown) (W.mono I);clear Y V U S)
   |(refine lR rfl (.tmp 17) (.tmp 20) rfl (B:=w+2) (A:=y) (n:=0) (c:=c1) (xs:=[]) rfl ?_ (g:=w+1+1) (v:=v) (c':=1) rfl ?_ ?_ ?_ ?_;(exact Z);(exact(U _ _ (by simp)).trans ((aY.newAt _ _ _ (by simp)).cell 0));(omega);(first|omega|(simp;omega));intro g2 C s T W;obtain⟨Y,V⟩:=cJ W;have G:=W.size;(try simp only[World.size_alloc,World.size_drew]at G);have o:=(Y (w,1) 0 I).trans Q;have i:=(V (w,1) 0 I).trans L;have m:=(Y (w,1) 1 I).trans P;have f:=(V (w,1) 1 I).trans K;have d:=(Y w 2 I).trans M;have F:Below w w s:=Below.trans (by go_grown) (W.mono I);clear Y V U S))
   all_goals go_wp2
  all_goals try(refine bodyPost_ret (by first|(simp [results,results161,go_sem,o,m];try rfl;done)|(simp [results,results161,go_sem,Q,P];try rfl;done)|(simp [results,results161,go_sem];try rfl;done)) rfl ?_)
  all_goals simp only[beq_iff_eq,beq_eq_false_iff_ne,ne_eq]at*
  all_goals first
   |(refine nZ T F ?_ ?_ ?_ ?_ ?_ ?_ ?_ ?_;(exact nJ.app q HV);(show w.heap.size+1<w+2;omega);(show w.heap.size+1<w+2;omega);(show w.heap.size<=w+1;omega);(show w.heap.size<=w+1;omega))
   |(refine nZ Z E q ?_ ?_ ?_ ?_ ?_ ?_ ?_;(show w.heap.size+1<w+2;omega);(show w.heap.size+1<w+2;omega);(show w.heap.size<=w+1;omega);(show w.heap.size<=w+1;omega))
   |(refine nZ Z E (nJ.tail q) ?_ ?_ ?_ ?_ ?_ ?_ ?_;(show w.heap.size+1<w+2;omega);(show w.heap.size+1<w+2;omega);(show w.heap.size<=w+1;omega);(show w.heap.size<=w+1;omega))
   |(refine ET ?_ ?_ ?_ ?_;(go_grown))
  all_goals(simp only[qB,pN,pO];(repeat' split)<;>first|rfl|(exfalso;omega)|(simp_all;done)|omega)
 obtain⟨b,N,rfl,R,z⟩:=h.at_ hn0;have H:=aH h;clear h;have O:=z 0 hn0;rw[Nat.add_zero]at O;obtain⟨x0,r⟩:=aP (xs[0]?.getD 0);rw[r]at O;have zz:=aH r;clear r;clear z;have hT:=aH (fI.tailIf H hn0)
 go_enter func161,ntmps161
 have zv:¬b=w+1:=I;have zu:¬w+1=b:=I;have d0:((n:Int)==0)=false:=by simp;omega
 have e1:(1:Int)<=n:=I;have e2:(n:Int)<=c:=I;have e3:((n:Int)-1).toNat=n-1:=I;have e4:((c:Int)-1).toNat=c-1:=I
 go_wp2_with (go_at_call 186;refine(fR _ _ c xs w _ H j ?_).mono ?_;(go_grown);rintro e u ⟨y,c1,rfl,Z,X,E⟩;obtain⟨U,S⟩:=cJ X;have D:=X.size;simp only[World.size_alloc,World.size_drew]at D;replace Z:=Z.mono (B':=w+2) (by simp);have Q:=U (w,1) 0 (by simp);have P:=U (w,1) 1 (by simp);have M:=U w 2 (by simp;omega);have rb:=(E.cell (p:=⟨b,N,none⟩) R).trans O;have L:=S (w,1) 0 (by simp);have K:=S (w,1) 1 (by simp);simp [go_sem]at Q P M L K)
 all_goals try((have l:(a==1)=true:=by assumption);clear l;go_region_held3 (fun t=>t.cell? (w.heap.size,2)=v) (go_keep) (first
  |(go_at_call 186;refine(fR _ _ c xs w _ H j ?_).mono ?_;(go_grown);rintro e u ⟨y,c1,rfl,Z,X,E⟩;obtain⟨U,S⟩:=cJ X;have D:=X.size;simp only[World.size_alloc,World.size_drew]at D;replace Z:=Z.mono (B':=w+2) (by simp);have Q:=U (w,1) 0 (by simp);have P:=U (w,1) 1 (by simp);have M:=U w 2 (by simp;omega);have rb:=(E.cell (p:=⟨b,N,none⟩) R).trans O;have L:=S (w,1) 0 (by simp);have K:=S (w,1) 1 (by simp);simp [go_sem]at Q P M L K)
  |(refine lR rfl (.tmp 17) (.tmp 20) rfl (B:=w+2) (A:=y) (n:=n) (c:=c1) (xs:=xs) rfl ?_ (g:=u) (v:=v) (c':=1) rfl ?_ ?_ ?_ ?_;(exact Z.alloc _);(exact(aY.new _ _ _).cell 0);(omega);(first|omega|(simp;omega));intro g2 C s T W;obtain⟨Y,V⟩:=cJ W;have G:=W.size;(try simp only[World.size_alloc,World.size_drew]at G);have o:=(Y (w,1) 0 I).trans ((bX I).trans Q);have i:=(V (w,1) 0 I).trans ((eP I).trans L);have m:=(Y (w,1) 1 I).trans ((bX I).trans P);have f:=(V (w,1) 1 I).trans ((eP I).trans K);have d:=(Y w 2 I).trans ((bX I).trans M);have F:Below w w s:=Below.trans (by go_grown) (W.mono I);clear Y V U S;have sb:=(F.cell (p:=⟨b,N,none⟩) R).trans O)
  |(refine lR rfl (.tmp 17) (.tmp 20) rfl (B:=w+2) (A:=y) (n:=n) (c:=c1) (xs:=xs) rfl ?_ (g:=w+1+1) (v:=v) (c':=1) rfl ?_ ?_ ?_ ?_;(exact Z);(exact(U _ _ (by simp)).trans ((aY.newAt _ _ _ (by simp)).cell 0));(omega);(first|omega|(simp;omega));intro g2 C s T W;obtain⟨Y,V⟩:=cJ W;have G:=W.size;(try simp only[World.size_alloc,World.size_drew]at G);have o:=(Y (w,1) 0 I).trans Q;have i:=(V (w,1) 0 I).trans L;have m:=(Y (w,1) 1 I).trans P;have f:=(V (w,1) 1 I).trans K;have d:=(Y w 2 I).trans M;have F:Below w w s:=Below.trans (by go_grown) (W.mono I);clear Y V U S;have sb:=(F.cell (p:=⟨b,N,none⟩) R).trans O)))
 all_goals try((have l:(a==5)=true:=by assumption);clear l;go_region_held3 (fun t=>t.cell? (b,N)=x0) (go_keep) (first
  |(go_at_call 186;refine(fR _ _ c xs w _ H j ?_).mono ?_;(go_grown);rintro e u ⟨y,c1,rfl,Z,X,E⟩;obtain⟨U,S⟩:=cJ X;have D:=X.size;simp only[World.size_alloc,World.size_drew]at D;replace Z:=Z.mono (B':=w+2) (by simp);have Q:=U (w,1) 0 (by simp);have P:=U (w,1) 1 (by simp);have M:=U w 2 (by simp;omega);have rb:=(E.cell (p:=⟨b,N,none⟩) R).trans O;have L:=S (w,1) 0 (by simp);have K:=S (w,1) 1 (by simp);simp [go_sem]at Q P M L K)))
 all_goals try((have l:(a==2)=true:=by assumption);clear l;by_cases zy:c=1<;>go_region_held3 (fun t=>t.cell? (b,N)=x0) (go_keep) (first
  |(go_at_call 186;refine(fR _ _ _ xs.tail w _ ?_ ?_ ?_).mono ?_;(first|exact hT.out|simpa [zy]using hT.out);(omega);(go_grown);rintro e u ⟨y,c1,rfl,Z,X,E⟩;obtain⟨U,S⟩:=cJ X;have D:=X.size;simp only[World.size_alloc,World.size_drew]at D;replace Z:=Z.mono (B':=w+2) (by simp);have Q:=U (w,1) 0 (by simp);have P:=U (w,1) 1 (by simp);have M:=U w 2 (by simp;omega);have rb:=(E.cell (p:=⟨b,N,none⟩) R).trans O;have L:=S (w,1) 0 (by simp);have K:=S (w,1) 1 (by simp);simp [go_sem]at Q P M L K)))
 all_goals try go_wp2
 all_goals try(refine bodyPost_ret (by first|(simp [results,results161,go_sem,o,m];try rfl;done)|(simp [results,results161,go_sem,Q,P];try rfl;done)|(simp [results,results161,go_sem];try rfl;done)) rfl ?_)
 all_goals simp only[beq_iff_eq,beq_eq_false_iff_ne,ne_eq]at*
 all_goals first
  |(refine nZ T F ?_ ?_ ?_ ?_ ?_ ?_ ?_ ?_;(exact nJ.app q HV);(show w.heap.size+1<w+2;omega);(show w.heap.size+1<w+2;omega);(show w.heap.size<=w+1;omega);(show w.heap.size<=w+1;omega))
  |(refine nZ Z E q ?_ ?_ ?_ ?_ ?_ ?_ ?_;(show w.heap.size+1<w+2;omega);(show w.heap.size+1<w+2;omega);(show w.heap.size<=w+1;omega);(show w.heap.size<=w+1;omega))
  |(refine nZ Z E (nJ.tail q) ?_ ?_ ?_ ?_ ?_ ?_ ?_;(show w.heap.size+1<w+2;omega);(show w.heap.size+1<w+2;omega);(show w.heap.size<=w+1;omega);(show w.heap.size<=w+1;omega))
  |(refine ET ?_ ?_ ?_ ?_;(go_grown))
 all_goals(have hx:=zz.out;subst x;simp only[qB,pN,pO];(repeat' split)<;>first|rfl|(exfalso;omega)|(simp_all;done)|(simp_all;omega))
theorem kC.takeCap{n c:Nat}(h:kC w G A n c xs)(k:Nat)(Z:k<=n):kC w G A k c (xs.take k):=
 ⟨⟨by rw[List.length_take,h.sli.len];omega,by have:=h.sli.cap;omega,h.sli.cap63,(h.take k Z).sli.bd,(h.take k Z).sli.at_⟩,(h.take k Z).up⟩
def nR(xs:List Int)(a v:Int):List Int:=if a=1 then(if xs.length<6 then xs++[v]else xs)else if a=2 then xs.take (xs.length-1)else xs
def nP(xs:List Int)(a:Int):Int:=if a=1 then(if xs.length<6 then 1 else 3)else if a=6 then 1 else if a=2\/a=5 then(if xs.length=0 then 2 else 1)else 5
def nT(xs:List Int)(a:Int):Int:=if a=6 then xs.length else if a=2\/a=5 then xs[xs.length-1]?.getD 0 else 0
theorem NO(A:Option Addr)(n c:Nat)(xs:List Int)(a k v:Int)(w:World)(h:fI w A n c xs)(i:n<=60)(r: -9223372036854775808<=v/\v<=9223372036854775807)(x:0<n):
 Calls prog 162 #[.slice A n c,.agg #[a,k,v]] w (fQ (nR xs a v) (nP xs a) (nT xs a) w):=by
 have T:=aH h.len;obtain⟨x0,P⟩:=aP (xs[n-1]?.getD 0);have S:=aH P;clear P;have H:=aH h;clear h;have K:=aH r;clear r
 go_enter func162,ntmps162
 have f:(0:Int)<=(n:Int)-1:=I;have d:(n:Int)-1<n:=I;have q:(n:Int)-1<=n:=I;have u:(1:Int)<=n:=I;have b:((n:Int)-1).toNat=n-1:=I;have e2:IntKind.i64.wrap ((n:Int)-1)=n-1:=IntWalk.i64_in _ I
 go_wp2_with (first
  |(go_at_call 186;refine(fR A n c xs w _ H i ?_).mono ?_;(go_grown);rintro e z ⟨A1,c1,rfl,Z,O,y⟩;obtain⟨s,hf⟩:=cJ O;have p:=O.size;simp only[World.size_alloc]at p;replace Z:=Z.mono (B':=w+2) (by simp);have q1:w.heap.size+1<z:=I;have q0:w.heap.size<z:=I;obtain⟨g,rfl,m,l,N⟩:=Z.at_ x;have t:=(Z.sli H.bd).cap;have G:=(Z.sli H.bd).cap63;have F:=N (n-1) I;rw[S.out]at F;clear N;have Y:=aH Z;clear Z;have R:=s (w,1) 0 (by simp);have Q:=s (w,1) 1 (by simp);simp [go_sem]at R Q;have m1:¬w.heap.size+1=z:=I;have b2:(n:Int)-1<=c1:=I)
  |(at_builtin;refine dM rfl (.tmp 27) (.tmp 30) rfl (B:=w+2) rfl (Y.alloc _) rfl ((aY.new _ _ _).cell 0) I (by simp;omega) ?_;intro g2 c2 L W U;obtain⟨M,j⟩:=cJ U;have E:=U.size;simp only[World.size_alloc]at E;have V:Below w w L:=Below.trans (by go_grown) (U.mono (by simp));have D:=(M (w,1) 0 (by simp)).trans ((bX I).trans R);have C:=(M (w,1) 1 (by simp)).trans ((bX I).trans Q);have X:=aH (W.slo (nJ.app H.bd K));clear W;have q3:w.heap.size+1<L:=I;have q4:w.heap.size<L:=I;have m2:¬w.heap.size+1=L:=I))
 iterate 2
  rotate_right 1
  focus
   (first
    |(have o:(a==5)=true:=by assumption
      clear o;refine aA 7 ?_
      iterate 7
       first
       |(refine aR1 ?_;constructor
         .intro w9 hw9 hc9 hf9;go_simp
          first
          |exact aE)
       |refine aU ?_
      refine bZ ?_;intro w9 hw9 hc9 hf9;have D:=(hc9 (w,1) 0 I).trans R;have C:=(hc9 (w,1) 1 I).trans Q;have V:Below w w w9:=y.trans (hw9.same.mono I);have X:=aH ((Y.slo H.bd).keeps hw9);go_wp2)
    |(skip
      refine aA 9 ?_
      iterate 9
       first
       |(refine aR1 ?_;constructor
         .intro w9 hw9 hc9 hf9;go_simp
          first
          |exact aE)
       |refine aU ?_
      refine bZ ?_;intro w9 hw9 hc9 hf9;have D:=(hc9 (w,1) 0 I).trans R;have C:=(hc9 (w,1) 1 I).trans Q;have V:Below w w w9:=y.trans (hw9.same.mono I);have X:=aH (((Y.slo H.bd).takeCap (n-1) I).keeps hw9);go_wp2))
 all_goals(refine bodyPost_ret (by first|(simp [results,results162,go_sem,D,C];try rfl;done)|(simp [results,results162,go_sem,R,Q];try rfl;done)) rfl ?_)
 all_goals try simp only[beq_iff_eq,beq_eq_false_iff_ne,bne_iff_ne,bne_eq_false_iff_eq,ne_eq]at*
 all_goals(first
  |(refine dB X V ?_ ?_ ?_ ?_ ?_ ?_ ?_)
  |(refine dB (Y.slo H.bd) y ?_ ?_ ?_ ?_ ?_ ?_ ?_))
 all_goals first|(show w.heap.size+1<w+2;omega)|(show w.heap.size<=w+1;omega)|skip
 all_goals(have hx:=S.out;have hl:=T.out;simp only[nR,nP,nT];(repeat' split)<;>first|rfl|(exfalso;omega)|(simp_all;done)|(simp_all;omega))
theorem OE(A:Option Addr)(c:Nat)(a k v:Int)(w:World)(h:fI w A 0 c [])(K: -9223372036854775808<=v/\v<=9223372036854775807):
 Calls prog 162 #[.slice A 0 c,.agg #[a,k,v]] w (fQ (nR [] a v) (nP [] a) (nT [] a) w):=by
 have H:=aH h;clear h;have R:=aH K;clear K
 go_enter func162,ntmps162
 go_wp2_with (first
  |(go_at_call 186;refine(fR A 0 c [] w _ H I ?_).mono ?_;(go_grown);rintro e M ⟨r,c1,rfl,Z,U,D⟩;obtain⟨L,q⟩:=cJ U;have G:=U.size;simp only[World.size_alloc]at G;replace Z:=Z.mono (B':=w+2) (by simp);have z:w.heap.size+1<M:=I;have y:w.heap.size<M:=I;have Y:=aH Z;clear Z;have Q:=L (w,1) 0 (by simp);have P:=L (w,1) 1 (by simp);simp [go_sem]at Q P;have x:¬w.heap.size+1=M:=I)
  |(at_builtin;refine dM rfl (.tmp 27) (.tmp 30) rfl (B:=w+2) rfl (Y.alloc _) rfl ((aY.new _ _ _).cell 0) I (by simp;omega) ?_;intro p o S X V;obtain⟨T,C⟩:=cJ V;have O:=V.size;simp only[World.size_alloc]at O;have N:Below w w S:=Below.trans (by go_grown) (V.mono (by simp));have F:=(T (w,1) 0 (by simp)).trans ((bX I).trans Q);have E:=(T (w,1) 1 (by simp)).trans ((bX I).trans P);have W:=aH (X.slo (nJ.app H.bd R));clear X;have u:w.heap.size+1<S:=I;have t:w.heap.size<S:=I;have s:¬w.heap.size+1=S:=I))
 all_goals(refine bodyPost_ret (by first|(simp [results,results162,go_sem,F,E];try rfl;done)|(simp [results,results162,go_sem,Q,P];try rfl;done)) rfl ?_)
 all_goals try simp only[beq_iff_eq,beq_eq_false_iff_ne,bne_iff_ne,bne_eq_false_iff_eq,ne_eq]at*
 all_goals(first
  |(refine dB W N ?_ ?_ ?_ ?_ ?_ ?_ ?_)
  |(refine dB (Y.slo H.bd) D ?_ ?_ ?_ ?_ ?_ ?_ ?_))
 all_goals first|(show w.heap.size+1<w+2;omega)|(show w.heap.size<=w+1;omega)|skip
 all_goals(simp only[nR,nP,nT];(repeat' split)<;>first|rfl|(exfalso;omega)|(simp_all;done)|(simp_all;omega))
theorem NM(A:Option Addr)(n c:Nat)(xs:List Int)(a k v:Int)(w:World)(h:fI w A n c xs)(Y:n<=60)(Z: -9223372036854775808<=v/\v<=9223372036854775807):
 Calls prog 162 #[.slice A n c,.agg #[a,k,v]] w (fQ (nR xs a v) (nP xs a) (nT xs a) w):=by
 rcases Nat.eq_zero_or_pos n with hn0|hn0
 .subst hn0;obtain rfl:xs=[]:=List.eq_nil_of_length_eq_zero h.len;exact OE A c a k v w h Z
 exact NO A n c xs a k v w h Y Z hn0
