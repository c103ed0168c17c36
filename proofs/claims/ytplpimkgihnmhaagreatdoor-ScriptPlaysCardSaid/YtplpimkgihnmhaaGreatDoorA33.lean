/-
  Parts of a proof. For all values.
-/
import Derived.Laws.IdiomStrings
import Derived.Test.YtplpimkgihnmhaaGreatDoorA04
set_option maxRecDepth 100000
set_option maxHeartbeats 16000000
set_option linter.all false
namespace Go.Proofs.YtplpimkgihnmhaaGreatDoor
open Go.Proofs.Tryz Go.RowKit
variable{w:World}{p g j gm:Nat}{v:Value}{t:TypeId}{M:Array Value}
section
attribute [local go_sem↓] Go.wp_at_zero Go.wp_at_succ
def cF(s:ByteArray)(p:Nat):Int:=if h:p<s.size then(s[p].toNat:Int)else 0
theorem lH(s:ByteArray)(p:Nat):0<=cF s p/\cF s p<=255:=by
 unfold cF;split
 .rename_i h;have:=s[p].toNat_lt;omega
 omega
theorem aBl(s:ByteArray)(Y W p:Nat)(x:Int)(w:World)(U:x=p)(Q:w.cell? (Y,0)=x)(P:w.frozen? ⟨Y,0,none⟩=false)(O:w.cell? (W,0)=some (.string s))(T:Y≠W)(S:s.size<=4000)(N:p<=100000):
 Calls prog 80 #[.pointer (some ⟨Y,0,none⟩),.pointer (some ⟨W,0,none⟩)] w fun e w'=>e=.returned (.int .i64 (cF s p))/\w'=w.setCell ⟨Y,0,none⟩ (.int .i64 (x+1)):=by
 subst U;by_cases Z:p<s.size
 .have hq:(p:Int)<s.size:=I;have V:(s[p].toNat:Int)<=255:=by have:=s[p].toNat_lt;omega
  have X:Hid (cF s p=(s[p].toNat:Int)):=by show _=_;unfold cF;rw[dif_pos Z]
  go_enter func80,ntmps80
  go_wp2;go_ret;exact⟨gU X.symm,rfl⟩
 have R:decide ((s.size:Int)<(p:Int)+1)=true:=by rw[decide_eq_true_eq];omega
 have X:Hid (cF s p=0):=by show _=_;unfold cF;rw[dif_neg Z]
 go_enter func80,ntmps80
 go_wp2;go_ret;exact⟨gU X.symm,rfl⟩
structure RdR (w:World) (gb:Nat) (s:ByteArray) (p:Nat):Prop where
 ex:∃A n c,aY w gb 168 #[.slice A n c]/\n=s.size-p/\n<=c/\c<=9223372036854775807/\
  (0<n->∃b off,A=some ⟨b,off,none⟩/\b<gb/\∀i:Nat,i<n->w.cell? (b,off+i)=some (.int .u8 (cF s (p+i))))
theorem RdR.lt{Z:Nat}{s:ByteArray}(h:RdR w Z s p):Z<w:=by obtain⟨A,n,c,Y,_⟩:=h.ex;exact Y.lt
theorem RdR.below{w':World}{Y:Nat}{s:ByteArray}(h:RdR w Y s p)(W:Below (Y+1) w w'):RdR w' Y s p:=by
 obtain⟨A,n,c,V,U,T,S,R⟩:=h.ex;refine⟨A,n,c,V.below W I,U,T,S,fun Q=>?_⟩;obtain⟨b,Z,P,X,O⟩:=R Q;exact⟨b,Z,P,X,fun i N=>(W.cell (p:=⟨b,Z+i,none⟩) (by show b<Y+1;omega)).trans (O i N)⟩
theorem NZ(s:ByteArray)(Y p:Nat)(w:World)(h:RdR w Y s p)(B:s.size<=4000):
 Calls prog 82 #[(Y,0)] w fun e w'=>e=.returned (cF s p)/\RdR w' Y s (p+1)/\aD (fun b=>b=Y) w w':=by
 obtain⟨A,n,c,X,S,C,R,Q⟩:=h.ex;have M:=X.cell 0;simp only[List.getElem?_toArray,List.getElem?_cons_zero]at M;have z:=X.frozen 0;have W:=aH X;have N:=aH S;have L:=X.lt;rcases Nat.eq_zero_or_pos n with h0|h0
 .have hv:cF s p=0:=by unfold cF;rw[dif_neg I]
  have K:=aH hv;have H:Hid (RdR w Y s (p+1)):=aH ⟨A,0,c,by rw[<-h0];exact X,I,I,R,fun U=>absurd U I⟩;clear hv Q S X h;subst h0
  go_enter func82,ntmps82
  go_wp2;go_ret;exact⟨gU K.symm,H.out,aD.refl _ _⟩
 obtain⟨b,Z,rfl,V,P⟩:=Q h0;have T:b≠Y:=I;have G:b<w:=I;have F:=P 0 h0;rw[Nat.add_zero,Nat.add_zero]at F;have E:=lH s p;have D:=aH P;have x:((n:Int)==0)=false:=by simp;omega
 have v:(0:Int)<n:=I;have u:(1:Int)<=n:=I;have t:(n:Int)<=c:=I;have r:((n:Int)-1).toNat=n-1:=I;have q:((c:Int)-1).toNat=c-1:=I;generalize m:cF s p=y at*;clear S X h Q P;by_cases O:c=1
 .subst O
  go_enter func82,ntmps82
  go_wp2;go_ret;refine⟨rfl,⟨some ⟨b,Z,none⟩,0,0,W.set_ 0 _,by have:=N.out;omega,Nat.le_refl _,I,fun U=>absurd U I⟩,aD.setCell (aD.refl (fun b=>b=Y) w) (p:=⟨Y,0,none⟩) (.inl rfl) _⟩
 go_enter func82,ntmps82
 go_wp2;go_ret;refine⟨rfl,⟨some ⟨b,Z+1,none⟩,n-1,c-1,W.set_ 0 _,by have:=N.out;omega,I,I,fun U=>⟨b,Z+1,rfl,V,fun i o=>?_⟩⟩,aD.setCell (aD.refl (fun b=>b=Y) w) (p:=⟨Y,0,none⟩) (.inl rfl) _⟩;rw[World.cell?_setCell_far _ _ _ _ (by show Y≠b;exact fun e=>T e.symm),show Z+1+i=Z+(i+1) by omega,D.out (i+1) I,show p+1+i=p+(i+1) by omega]
def mvL(s:ByteArray)(p:Nat):List Int:=
 if cF s p/4%8<2 then [1,cF s p%4,cF s (p+1)%6+1,cF s (p+2)%5,cF s (p+3)%10,0,0]
 else if cF s p/4%8<6 then [2,cF s p%4,0,0,0,cF s (p+1)%100+1,0]
 else if cF s p/4%8=6 then [3,cF s p%4,0,0,0,cF s (p+1)%9,0]
 else if cF s p<128 then [2,cF s p%4,0,0,0,1,0]
 else [4,cF s p%4,0,0,0,0,cF s (p+1)+256*cF s (p+2)]
def Fb(s:ByteArray)(p:Nat):Nat:=
 if cF s p/4%8<2 then 4 else if cF s p/4%8<6 then 2 else if cF s p/4%8=6 then 2 else if cF s p<128 then 1 else 3
theorem aBg(s:ByteArray)(p:Nat):1<=Fb s p/\Fb s p<=4:=by
 unfold Fb
 (repeat' split)<;>omega
def aT(s:ByteArray):Nat->Nat
 |0=>0
 |j+1=>aT s j+Fb s (aT s j)
theorem aAh(s:ByteArray):∀j,j<=aT s j
 |0=>Nat.le_refl _
 |j+1=>by have:=aAh s j;have:=aBg s (aT s j);show j+1<=aT s j+Fb s (aT s j);omega
theorem Ko(s:ByteArray):∀j,aT s j<=4*j
 |0=>Nat.le_refl _
 |j+1=>by have:=Ko s j;have:=aBg s (aT s j);show aT s j+Fb s (aT s j)<=4*(j+1);omega
def Mb(l:List Int):List Value:=[.int .i64 (l.getD 0 0),.int .i64 (l.getD 1 0),.int .i64 (l.getD 2 0),.int .i64 (l.getD 3 0),.int .i64 (l.getD 4 0),.int .i64 (l.getD 5 0),.int .u64 (l.getD 6 0)]
def IE(s:ByteArray)(j:Nat):List Value:=(List.range j).flatMap fun i=>Mb (mvL s (aT s i))
theorem aM(s:ByteArray)(j:Nat):IE s (j+1)=IE s j++Mb (mvL s (aT s j)):=by
 unfold IE;rw[List.range_succ,List.flatMap_append];simp
theorem FZ(s:ByteArray):∀j,(IE s j).length=j*7
 |0=>rfl
 |j+1=>by rw[aM,List.length_append,FZ s j];simp [Mb];omega
def Ps(s:ByteArray)(j:Nat):Prop:=(∀i,i<j->aT s i<s.size/\i<3000)/\¬(aT s j<s.size/\j<3000)
theorem Ps.unique{s:ByteArray}{i:Nat}(h:Ps s i)(k:Ps s j):i=j:=by
 rcases Nat.lt_trichotomy i j with h1|h1|h1
 .exact absurd (k.1 i h1) h.2
 .exact h1
 exact absurd (h.1 j h1) k.2
theorem JB{B:Nat}{e:TypeId}{n:Nat}{xs:List Value}(h:w.ownsRow B e 7 v n xs):∃A c,v=.slice A n c/\n<=c/\c<=maxLen/\(0<n->∃g,A=some ⟨g,0,none⟩/\B<=g/\g<w):=by
 rcases h.2 with⟨rfl,rfl⟩|⟨g,Z,Y,rfl,X,W,V,U,_⟩
 .exact⟨none,0,rfl,Nat.le_refl _,Nat.zero_le _,fun h=>absurd h I⟩
 exact⟨_,Z,rfl,V,U,fun _=>⟨g,rfl,X,(Array.getElem?_eq_some_iff.1 W).1⟩⟩
theorem aK{ops:Array Oper}{Y:List Oper}{o:Oper}{a:Act}{Q:Exit->Act->World->Prop}(T:o.guard=none)(s x:Operand)(t e:TypeId)(V:TypeInfo)(z:Value)
 (K:o.op=.call {callee:=.builtin .append,args:= #[s,x],argTypes:= #[t,t]}) (H:prog.underlying t=some (.slice e)) (G:prog.info? e=some V) (F:V.zero=some z) (S:V.size=7) (R:V.bytes=56) (P:z.cells.size=7)
 {B j:Nat} {v:Value} {xs:List Value} (E:a.eval s=v) (X:w.ownsRow B e 7 v j xs) {g c:Nat} {M:Array Value} (D:a.eval x=.slice (some ⟨g,0,none⟩) 1 c) (C:aY w g e M) (A:M.size=7) (y:M.toList.all (·.oneCell')=true) (p:j<=10000) (r:B<=w)
 (h:∀U c' w',w'.ownsRow B e 7 (.slice U (j+1) c') (j+1) (xs++M.toList)->Below B w w'->wpList prog ops Q Y (a.put o.dst (.slice U (j+1) c')) w'):wpList prog ops Q (o::Y) a w:=by
 refine wpList_append_own w T s x t K B e V z 7 56 H G F S R P aJ v j xs E X ⟨g,0,none⟩ 1 c M.toList D (by simp [A]) (fun k u O=>?_) (fun u N=>?_) (by unfold maxLen;omega) I r (fun q w' W Z _=>?_)
 .rw[Addr.add_lit,Nat.zero_add,C.cell];simpa using O
 .exact List.all_eq_true.1 y u N
 obtain⟨U,c',rfl,_,_,_⟩:=JB W;refine h U c' w' W ⟨Z.os,Z.tape,Z.output,Z.size,fun k O=>Z.block k I ?_⟩;intro L;have:=(World.ownsRow.lt X k L.symm).1;omega
end
section
attribute [local go_sem ↓] Go.wp_at_zero Go.wp_at_succ
theorem aCa:(prog.info? 165).map (fun i=>(i.zero,i.size,i.bytes))=some (some (.agg #[.int .i64 0,.int .i64 0,.int .i64 0,.int .i64 0,.int .i64 0,.int .i64 0,.int .u64 0]),7,56):=J
def aCS(s:ByteArray)(t:TypeId)(w:World)(e:Ending)(w':World):Prop:=
 ∃A j c,e=.returned (.slice A j c)/\Ps s j/\w'.ownsRow w.heap.size t 7 (.slice A j c) j (IE s j)/\Below w.heap.size w w'
def DU:Value->Nat|.slice _ n _=>n|_=>0
theorem aCY(x y:Int)(Z:0<=x)(X:x<=255)(Y:0<=y)(W:y<=255):bits .or .u64 x (y*256)=x+256*y:=by
 obtain⟨a,rfl⟩:=Int.eq_ofNat_of_zero_le Z;obtain⟨b,rfl⟩:=Int.eq_ofNat_of_zero_le Y;have e:((b:Int)*256)=((2^8*b:Nat):Int):=I;have h:a|||2^8*b=a+256*b:=by
  rw[Nat.or_comm,<-Nat.two_pow_add_eq_or_of_lt I];omega
 rw[e];rw[u64_or_nat _ _ I I,h];omega
structure At0 (s:ByteArray) (g p:Nat) (w:World):Prop where
 at_:aY w (g+1) 3 #[.int .i64 (p:Int)]
 str:aY w g 9 #[.string s]
theorem At0.far{s:ByteArray}(h:At0 s g p w){q:Addr}(Z:g+1<q.block)(u:Value):At0 s g p (w.setCell q u):=⟨h.at_.far I u,h.str.far I u⟩
theorem At0.alloc{s:ByteArray}(h:At0 s g p w)(o:Obj):At0 s g p (w.alloc o):=⟨h.at_.alloc o,h.str.alloc o⟩
theorem aCU(s:ByteArray)(g p:Nat)(w:World)(h:At0 s g p w)(Z:s.size<=4000)(V:p<=100000):
 Calls prog 80 #[.pointer (some ⟨g+1,0,none⟩),.pointer (some ⟨g,0,none⟩)] w fun e w'=>e=.returned (.int .i64 (cF s p))/\At0 s g (p+1) w'/\aD (fun b=>b=g+1) w w':=
 (aBl s (g+1) g p (p:Int) w rfl (h.at_.cell 0) (h.at_.frozen 0) (h.str.cell 0) I Z V).mono fun e w' ⟨X,W⟩=>⟨X,by
   subst W;have Y:=h.at_.set_ 0 (.int .i64 ((p:Int)+1));exact⟨⟨Y,h.str.far (by simp) _⟩,aD.setCell (aD.refl (fun b=>b=g+1) w) (p:=⟨g+1,0,none⟩) (.inl rfl) _⟩⟩
structure LS (W:World) (s:ByteArray) (g p gm:Nat) (M:Array Value) (t:TypeId) (v:Value) (j:Nat) (w:World):Prop where
 at0:At0 s g p w
 mv:aY w gm t M
 own:w.ownsRow (g+2) t 7 v j (IE s j)
 og:∀k,v.ownBlock=some k->k<gm
 lt:g+1<gm
 below:Below W.heap.size W w
theorem eW{w':World}{B b:Nat}{n:Nat}{xs:List Value}(h:w.ownsRow B t 7 v n xs)(Z:aD (fun x=>x=b) w w')(W:∀k,v.ownBlock=some k->k≠b):w'.ownsRow B t 7 v n xs:=by
 refine World.ownsRow.kept (row:=some b) h ⟨Z.os,Z.tape,Z.output,Z.size,fun k Y X=>Z.block k Y (fun e=>X (by rw[e]))⟩ ?_;cases ho:v.ownBlock with
 |none=>exact .inl rfl
 |some k=>exact .inr fun e=>W k ho (Option.some.inj e)
theorem LS.call{W:World}{s:ByteArray}(h:LS W s g p gm M t v j w)(R:W.heap.size<=g)(Y:s.size<=4000)(T:p<=100000):
 Calls prog 80 #[.pointer (some ⟨g+1,0,none⟩),.pointer (some ⟨g,0,none⟩)] w fun e w'=>e=.returned (.int .i64 (cF s p))/\LS W s g (p+1) gm M t v j w':=
 (aCU s g p w h.at0 Y T).mono fun e w' ⟨X,V,Z⟩=>⟨X,V,(Z.block gm h.mv.lt (by have:=h.lt;omega)).trans h.mv,eW h.own Z (fun k U e=>by have:=(World.ownsRow.lt h.own k U).1;omega),h.og,h.lt,h.below.trans (Z.below h.below.size (fun b S e=>by omega))⟩
theorem LS.set{W:World}{s:ByteArray}(h:LS W s g p gm M t v j w)(Y:W.heap.size<=g)(i:Nat)(u:Value):
 LS W s g p gm (M.setIfInBounds i u) t v j (w.setCell ⟨gm,i,none⟩ u):=
 ⟨h.at0.far h.lt u,h.mv.set_ i u,eW h.own (aD.setCell (aD.refl (fun b=>b=gm) w) (p:=⟨gm,i,none⟩) (.inl rfl) u) (fun k Z e=>by have:=h.og k Z;omega),h.og,h.lt,h.below.setCell (by have:=h.lt;show W.heap.size<=gm;omega) u⟩
theorem LS.start{W:World}{s:ByteArray}(Z:At0 s g p w)(Y:w.ownsRow (g+2) t 7 v j (IE s j))(X:Below W.heap.size W w)(M:Array Value):
 LS W s g p w.heap.size M t v j (w.alloc (.cells M t)):=
 ⟨Z.alloc _,aY.new _ _ _,World.ownsRow.alloc Y _,fun k V=>(World.ownsRow.lt Y k V).2,Z.at_.lt,X.alloc X.size _⟩
theorem aAd(s:ByteArray)(w:World)(hs:s.size<=4000):
 Calls prog 51 #[.string s] w (aCS s 165 w):=by
 obtain⟨i0,L,G,F,E⟩:=info_parts aCa
 go_enter func51,ntmps51
 go_wp2
 go_loopw [3] (fun l wr=>∃(j p:Nat),Hid (aT s j=p)/\Hid (∀i,i<j->aT s i<s.size/\i<3000)/\j<=3000/\Hid (∃A c,l=.slice A j c/\wr.ownsRow (w.heap.size+2) 165 7 (.slice A j c) j (IE s j))/\Hid (At0 s w.heap.size p wr)/\Below w.heap.size w wr) (fun l _=>3001-DU l)
 case atStart=>exact⟨0,0,aH rfl,aH (fun i L=>absurd L I),I,aH ⟨none,0,rfl,World.ownsRow_nil _ _ _ _⟩,aH ⟨aY.newAt _ _ _ (by simp),(aY.new _ _ _).alloc _⟩,by go_grown⟩
 case round=>
  obtain⟨j,p,P,T,hj,zo,D,hb⟩:=hrel;obtain⟨A,c,rfl,zz⟩:=zo.out;have HO:=aH zz;clear zz zo;have a0:=D.out.at_.cell 0;have s0:=D.out.str.cell 0;simp only[List.getElem?_toArray,List.getElem?_cons_zero]at a0 s0;have zl:=D.out.at_.lt;have zk:=Ko s j;rw[P.out]at zk;by_cases a:p<s.size/\j<3000
  .obtain⟨hps,hj3⟩:=a;have q1:(p:Int)<s.size:=I;have q2:(j:Int)<3000:=I;have zj:=lH s p;have zy:=lH s (p+1);have zx:=lH s (p+1+1);have zi:=lH s (p+1+1+1);have z:Hid (mvL s p=if cF s p/4%8<2 then [1,cF s p%4,cF s (p+1)%6+1,cF s (p+1+1)%5,cF s (p+1+1+1)%10,0,0]
    else if cF s p/4%8<6 then [2,cF s p%4,0,0,0,cF s (p+1)%100+1,0]
    else if cF s p/4%8=6 then [3,cF s p%4,0,0,0,cF s (p+1)%9,0]
    else if cF s p<128 then [2,cF s p%4,0,0,0,1,0]
    else [4,cF s p%4,0,0,0,0,cF s (p+1)+256*cF s (p+1+1)]):=rfl
   have HN:Hid (Fb s p=if cF s p/4%8<2 then 4 else if cF s p/4%8<6 then 2 else if cF s p/4%8=6 then 2 else if cF s p<128 then 1 else 3):=rfl;obtain⟨W,zv⟩:∃y,cF s p=y:=⟨_,rfl⟩;obtain⟨M,zu⟩:∃y,cF s (p+1)=y:=⟨_,rfl⟩;obtain⟨y2,zt⟩:∃y,cF s (p+1+1)=y:=⟨_,rfl⟩;obtain⟨y3,zs⟩:∃y,cF s (p+1+1+1)=y:=⟨_,rfl⟩;rw[zv]at zj z HN;rw[zu]at zy z;rw[zt]at zx z;rw[zs]at zi z;have zh:=aH zv;have x:=aH zu;have zq:=aH zt;have zg:=aH zs;clear zv zu zt zs;go_wp2_with fail;refine(aCU s w.heap.size p _ D.out hs I).mono ?_;rintro e C ⟨rfl,zn,zr⟩;rw[zh.out];have zp:=eW HO.out zr (fun k hk e=>by have:=(World.ownsRow.lt HO.out k hk).1;omega);have K:Below w.heap.size w C:=hb.trans (zr.below hb.size (fun b hb e=>by omega));have N:=aH zn;have H:=aH zp;clear zn zp zr HO hb a0 s0 D zl;have ze:=N.out.at_.lt;by_cases k1:W/4%8<2
   .have R:Hid (LS w s w.heap.size (p+1) C.heap.size #[.int .i64 1,.int .i64 (W%4),.int .i64 0,.int .i64 0,.int .i64 0,.int .i64 0,.int .u64 0] 165 (.slice A j c) j (C.alloc (.cells #[.int .i64 1,.int .i64 (W%4),.int .i64 0,.int .i64 0,.int .i64 0,.int .i64 0,.int .u64 0] 165))):=LS.start N.out H.out K _;go_wp2_with fail;refine(LS.call R.out (Nat.le_refl _) hs I).mono ?_;rintro e w2 ⟨rfl,U⟩;rw[x.out];have O:=aH U;clear U;go_wp2_with fail;refine(LS.call O.out (Nat.le_refl _) hs I).mono ?_;rintro e w3 ⟨rfl,B⟩;rw[zq.out];have zw:=aH B;clear B;go_wp2_with fail;refine(LS.call zw.out (Nat.le_refl _) hs I).mono ?_;rintro e w4 ⟨rfl,zm⟩;rw[zg.out];have zf:=aH zm;clear zm;have Z:=zf.out;have v:=Z.mv.cell 0;have u:=Z.mv.cell 1;have t:=Z.mv.cell 2;have r:=Z.mv.cell 3;have q:=Z.mv.cell 4;have o:=Z.mv.cell 5;have m6:=Z.mv.cell 6;simp only[List.getElem?_toArray,List.getElem?_cons_zero,List.getElem?_cons_succ]at v u t r q o m6;have f2:=Z.mv.frozen 2;have f3:=Z.mv.frozen 3;have f4:=Z.mv.frozen 4;have n:=Z.mv.lt;have S:=(((Z.set (Nat.le_refl _) 2 (.int .i64 (1+M%6))).set (Nat.le_refl _) 3 (.int .i64 (y2%5))).set (Nat.le_refl _) 4 (.int .i64 (y3%10)));have m:=S.below.size;have Y:=aH S;clear Z S
    go_wp2_with (at_builtin;refine aK rfl (.tmp 75) (.tmp 77) 109 165 i0 _ rfl underlying109 L G F E rfl rfl (World.ownsRow.alloc Y.out.own _) rfl (aY.newAt _ 165 #[.int .i64 1,.int .i64 (W%4),.int .i64 (1+M%6),.int .i64 (y2%5),.int .i64 (y3%10),.int .i64 0,.int .u64 0] (by simp)) rfl rfl I ?_ ?_;(have V:=Y.out.at0.at_.lt;simp at V⊢;omega);intro f d w' Q X)
    have g:=X;refine⟨⟨j+1,p+4,aH ?_,aH ?_,I,aH ⟨f,d,rfl,?_⟩,aH ?_,?_⟩,by simp [DU];omega⟩
    .show aT s j+Fb s (aT s j)=_;rw[P.out,HN.out];simp only[if_pos k1]
    .intro i L;rcases Nat.lt_or_ge i j with h|h
     .exact T.out i h
     .obtain rfl:i=j:=I;rw[P.out];exact⟨hps,hj3⟩
    .rw[aM,P.out,z.out];simp only[if_pos k1];simpa [Mb,Int.add_comm]using Q
    .have V:=(Y.out.at0.alloc (.cells #[.int .i64 1,.int .i64 (W%4),.int .i64 (1+M%6),.int .i64 (y2%5),.int .i64 (y3%10),.int .i64 0,.int .u64 0] 165));exact⟨V.at_.below X I,V.str.below X I⟩
    .exact(Y.out.below.alloc Y.out.below.size _).trans (X.mono I)
   .have k1':2<=W/4%8:=I;by_cases k2:W/4%8<6
    .skip
     have R:Hid (LS w s w.heap.size (p+1) C.heap.size #[.int .i64 2,.int .i64 (W%4),.int .i64 0,.int .i64 0,.int .i64 0,.int .i64 0,.int .u64 0] 165 (.slice A j c) j (C.alloc (.cells #[.int .i64 2,.int .i64 (W%4),.int .i64 0,.int .i64 0,.int .i64 0,.int .i64 0,.int .u64 0] 165))):=LS.start N.out H.out K _;go_wp2_with fail;refine(LS.call R.out (Nat.le_refl _) hs I).mono ?_;rintro e w2 ⟨rfl,U⟩;rw[x.out];have O:=aH U;clear U;have Z:=O.out;have v:=Z.mv.cell 0;have u:=Z.mv.cell 1;have t:=Z.mv.cell 2;have r:=Z.mv.cell 3;have q:=Z.mv.cell 4;have o:=Z.mv.cell 5;have m6:=Z.mv.cell 6;simp only[List.getElem?_toArray,List.getElem?_cons_zero,List.getElem?_cons_succ]at v u t r q o m6;have f5:=Z.mv.frozen 5;have n:=Z.mv.lt;have S:=(Z.set (Nat.le_refl _) 5 (.int .i64 (1+M%100)));have m:=S.below.size;have Y:=aH S;clear Z S
     go_wp2_with (at_builtin;refine aK rfl (.tmp 75) (.tmp 77) 109 165 i0 _ rfl underlying109 L G F E rfl rfl (World.ownsRow.alloc Y.out.own _) rfl (aY.newAt _ 165 #[.int .i64 2,.int .i64 (W%4),.int .i64 0,.int .i64 0,.int .i64 0,.int .i64 (1+M%100),.int .u64 0] (by simp)) rfl rfl I ?_ ?_;(have V:=Y.out.at0.at_.lt;simp at V⊢;omega);intro f d w' Q X)
     have g:=X;refine⟨⟨j+1,p+2,aH ?_,aH ?_,I,aH ⟨f,d,rfl,?_⟩,aH ?_,?_⟩,by simp [DU];omega⟩
     .show aT s j+Fb s (aT s j)=_;rw[P.out,HN.out];simp only[if_neg (show¬W/4%8<2 by omega),if_pos k2]
     .intro i L;rcases Nat.lt_or_ge i j with h|h
      .exact T.out i h
      .obtain rfl:i=j:=I;rw[P.out];exact⟨hps,hj3⟩
     .rw[aM,P.out,z.out];simp only[if_neg (show¬W/4%8<2 by omega),if_pos k2];simpa [Mb,Int.add_comm]using Q
     .have V:=(Y.out.at0.alloc (.cells #[.int .i64 2,.int .i64 (W%4),.int .i64 0,.int .i64 0,.int .i64 0,.int .i64 (1+M%100),.int .u64 0] 165));exact⟨V.at_.below X I,V.str.below X I⟩
     .exact(Y.out.below.alloc Y.out.below.size _).trans (X.mono I)
    .have k2':6<=W/4%8:=I;by_cases k3:W/4%8=6
     .have d6:(W/4%8==6)=true:=by simpa using k3
      have K3:=aH k3;clear k3;have R:Hid (LS w s w.heap.size (p+1) C.heap.size #[.int .i64 3,.int .i64 (W%4),.int .i64 0,.int .i64 0,.int .i64 0,.int .i64 0,.int .u64 0] 165 (.slice A j c) j (C.alloc (.cells #[.int .i64 3,.int .i64 (W%4),.int .i64 0,.int .i64 0,.int .i64 0,.int .i64 0,.int .u64 0] 165))):=LS.start N.out H.out K _;go_wp2_with fail;refine(LS.call R.out (Nat.le_refl _) hs I).mono ?_;rintro e w2 ⟨rfl,U⟩;rw[x.out];have O:=aH U;clear U;have Z:=O.out;have v:=Z.mv.cell 0;have u:=Z.mv.cell 1;have t:=Z.mv.cell 2;have r:=Z.mv.cell 3;have q:=Z.mv.cell 4;have o:=Z.mv.cell 5;have m6:=Z.mv.cell 6;simp only[List.getElem?_toArray,List.getElem?_cons_zero,List.getElem?_cons_succ]at v u t r q o m6;have f5:=Z.mv.frozen 5;have n:=Z.mv.lt;have S:=(Z.set (Nat.le_refl _) 5 (.int .i64 (M%9)));have m:=S.below.size;have Y:=aH S;clear Z S
      go_wp2_with (at_builtin;refine aK rfl (.tmp 75) (.tmp 77) 109 165 i0 _ rfl underlying109 L G F E rfl rfl (World.ownsRow.alloc Y.out.own _) rfl (aY.newAt _ 165 #[.int .i64 3,.int .i64 (W%4),.int .i64 0,.int .i64 0,.int .i64 0,.int .i64 (M%9),.int .u64 0] (by simp)) rfl rfl I ?_ ?_;(have V:=Y.out.at0.at_.lt;simp at V⊢;omega);intro f d w' Q X)
      have g:=X;refine⟨⟨j+1,p+2,aH ?_,aH ?_,I,aH ⟨f,d,rfl,?_⟩,aH ?_,?_⟩,by simp [DU];omega⟩
      .show aT s j+Fb s (aT s j)=_;rw[P.out,HN.out];simp only[if_neg (show¬W/4%8<2 by omega),if_neg (show¬W/4%8<6 by omega),if_pos K3.out]
      .intro i L;rcases Nat.lt_or_ge i j with h|h
       .exact T.out i h
       .obtain rfl:i=j:=I;rw[P.out];exact⟨hps,hj3⟩
      .rw[aM,P.out,z.out];simp only[if_neg (show¬W/4%8<2 by omega),if_neg (show¬W/4%8<6 by omega),if_pos K3.out];simpa [Mb,Int.add_comm]using Q
      .have V:=(Y.out.at0.alloc (.cells #[.int .i64 3,.int .i64 (W%4),.int .i64 0,.int .i64 0,.int .i64 0,.int .i64 (M%9),.int .u64 0] 165));exact⟨V.at_.below X I,V.str.below X I⟩
      .exact(Y.out.below.alloc Y.out.below.size _).trans (X.mono I)
     .have d6:(W/4%8==6)=false:=by simpa using k3
      have K3:=aH k3;clear k3;by_cases k4:W<128
      .skip
       have R:Hid (LS w s w.heap.size (p+1) C.heap.size #[.int .i64 2,.int .i64 (W%4),.int .i64 0,.int .i64 0,.int .i64 0,.int .i64 1,.int .u64 0] 165 (.slice A j c) j (C.alloc (.cells #[.int .i64 2,.int .i64 (W%4),.int .i64 0,.int .i64 0,.int .i64 0,.int .i64 1,.int .u64 0] 165))):=LS.start N.out H.out K _;have Z:=R.out;have v:=Z.mv.cell 0;have u:=Z.mv.cell 1;have t:=Z.mv.cell 2;have r:=Z.mv.cell 3;have q:=Z.mv.cell 4;have o:=Z.mv.cell 5;have m6:=Z.mv.cell 6;simp only[List.getElem?_toArray,List.getElem?_cons_zero,List.getElem?_cons_succ]at v u t r q o m6;have n:=Z.mv.lt;have S:=Z;have m:=S.below.size;have Y:=aH S;clear Z S
       go_wp2_with (at_builtin;refine aK rfl (.tmp 75) (.tmp 77) 109 165 i0 _ rfl underlying109 L G F E rfl rfl (World.ownsRow.alloc Y.out.own _) rfl (aY.newAt _ 165 #[.int .i64 2,.int .i64 (W%4),.int .i64 0,.int .i64 0,.int .i64 0,.int .i64 1,.int .u64 0] (by simp)) rfl rfl I ?_ ?_;(have V:=Y.out.at0.at_.lt;simp at V⊢;omega);intro f d w' Q X)
       have g:=X;refine⟨⟨j+1,p+1,aH ?_,aH ?_,I,aH ⟨f,d,rfl,?_⟩,aH ?_,?_⟩,by simp [DU];omega⟩
       .show aT s j+Fb s (aT s j)=_;rw[P.out,HN.out];simp only[if_neg (show¬W/4%8<2 by omega),if_neg (show¬W/4%8<6 by omega),if_neg K3.out,if_pos k4]
       .intro i L;rcases Nat.lt_or_ge i j with h|h
        .exact T.out i h
        .obtain rfl:i=j:=I;rw[P.out];exact⟨hps,hj3⟩
       .rw[aM,P.out,z.out];simp only[if_neg (show¬W/4%8<2 by omega),if_neg (show¬W/4%8<6 by omega),if_neg K3.out,if_pos k4];simpa [Mb,Int.add_comm]using Q
       .have V:=(Y.out.at0.alloc (.cells #[.int .i64 2,.int .i64 (W%4),.int .i64 0,.int .i64 0,.int .i64 0,.int .i64 1,.int .u64 0] 165));exact⟨V.at_.below X I,V.str.below X I⟩
       .exact(Y.out.below.alloc Y.out.below.size _).trans (X.mono I)
      .have k4':128<=W:=I;have R:Hid (LS w s w.heap.size (p+1) C.heap.size #[.int .i64 4,.int .i64 (W%4),.int .i64 0,.int .i64 0,.int .i64 0,.int .i64 0,.int .u64 0] 165 (.slice A j c) j (C.alloc (.cells #[.int .i64 4,.int .i64 (W%4),.int .i64 0,.int .i64 0,.int .i64 0,.int .i64 0,.int .u64 0] 165))):=LS.start N.out H.out K _;go_wp2_with fail;refine(LS.call R.out (Nat.le_refl _) hs I).mono ?_;rintro e w2 ⟨rfl,U⟩;rw[x.out];have O:=aH U;clear U;go_wp2_with fail;refine(LS.call O.out (Nat.le_refl _) hs I).mono ?_;rintro e w3 ⟨rfl,B⟩;rw[zq.out];have zw:=aH B;clear B;have zd:=aCY M y2 zy.1 zy.2 zx.1 zx.2;have Z:=zw.out;have v:=Z.mv.cell 0;have u:=Z.mv.cell 1;have t:=Z.mv.cell 2;have r:=Z.mv.cell 3;have q:=Z.mv.cell 4;have o:=Z.mv.cell 5;have m6:=Z.mv.cell 6;simp only[List.getElem?_toArray,List.getElem?_cons_zero,List.getElem?_cons_succ]at v u t r q o m6;have f6:=Z.mv.frozen 6;have n:=Z.mv.lt;have S:=(Z.set (Nat.le_refl _) 6 (.int .u64 (M+256*y2)));have m:=S.below.size;have Y:=aH S;clear Z S
       go_wp2_with (at_builtin;refine aK rfl (.tmp 75) (.tmp 77) 109 165 i0 _ rfl underlying109 L G F E rfl rfl (World.ownsRow.alloc Y.out.own _) rfl (aY.newAt _ 165 #[.int .i64 4,.int .i64 (W%4),.int .i64 0,.int .i64 0,.int .i64 0,.int .i64 0,.int .u64 (M+256*y2)] (by simp)) rfl rfl I ?_ ?_;(have V:=Y.out.at0.at_.lt;simp at V⊢;omega);intro f d w' Q X)
       have g:=X;refine⟨⟨j+1,p+3,aH ?_,aH ?_,I,aH ⟨f,d,rfl,?_⟩,aH ?_,?_⟩,by simp [DU];omega⟩
       .show aT s j+Fb s (aT s j)=_;rw[P.out,HN.out];simp only[if_neg (show¬W/4%8<2 by omega),if_neg (show¬W/4%8<6 by omega),if_neg K3.out,if_neg (show¬W<128 by omega)]
       .intro i L;rcases Nat.lt_or_ge i j with h|h
        .exact T.out i h
        .obtain rfl:i=j:=I;rw[P.out];exact⟨hps,hj3⟩
       .rw[aM,P.out,z.out];simp only[if_neg (show¬W/4%8<2 by omega),if_neg (show¬W/4%8<6 by omega),if_neg K3.out,if_neg (show¬W<128 by omega)];simpa [Mb,Int.add_comm]using Q
       .have V:=(Y.out.at0.alloc (.cells #[.int .i64 4,.int .i64 (W%4),.int .i64 0,.int .i64 0,.int .i64 0,.int .i64 0,.int .u64 (M+256*y2)] 165));exact⟨V.at_.below X I,V.str.below X I⟩
       .exact(Y.out.below.alloc Y.out.below.size _).trans (X.mono I)
  .have hall':Ps s j:=⟨T.out,by rw[P.out];exact a⟩;have HD:=aH hall';clear hall';rcases Nat.lt_or_ge p s.size with zc|hge
   .have q1:(p:Int)<s.size:=I;have d3:decide ((j:Int)<3000)=false:=by rw[decide_eq_false_iff_not];omega
    clear a;go_wp2;go_ret;exact⟨A,j,c,rfl,HD.out,HO.out.mono I,hb⟩
   .have d3:decide ((p:Int)<s.size)=false:=by rw[decide_eq_false_iff_not];omega
    clear a;go_wp2;go_ret;exact⟨A,j,c,rfl,HD.out,HO.out.mono I,hb⟩
theorem aCK:(prog.info? 150).map (fun i=>(i.zero,i.size,i.bytes))=some (some (.agg #[.int .i64 0,.int .i64 0,.int .i64 0,.int .i64 0,.int .i64 0,.int .i64 0,.int .u64 0]),7,56):=J
structure sP (W:World) (s:ByteArray) (g p gm:Nat) (M:Array Value) (t:TypeId) (v:Value) (j:Nat) (w:World):Prop where
 rd:RdR w g s p
 mv:aY w gm t M
 own:w.ownsRow (g+1) t 7 v j (IE s j)
 og:∀k,v.ownBlock=some k->k<gm
 lt:g<gm
 below:Below W.heap.size W w
theorem sP.call{W:World}{s:ByteArray}(h:sP W s g p gm M t v j w)(S:W.heap.size<=g)(Y:s.size<=4000):
 Calls prog 82 #[.pointer (some ⟨g,0,none⟩)] w fun e w'=>e=.returned (.int .i64 (cF s p))/\sP W s g (p+1) gm M t v j w':=
 (NZ s g p w h.rd Y).mono fun e w' ⟨X,V,Z⟩=>⟨X,V,(Z.block gm h.mv.lt (by have:=h.lt;omega)).trans h.mv,eW h.own Z (fun k U e=>by have:=(World.ownsRow.lt h.own k U).1;omega),h.og,h.lt,h.below.trans (Z.below h.below.size (fun b T e=>by omega))⟩
theorem sP.set{W:World}{s:ByteArray}(h:sP W s g p gm M t v j w)(Y:W.heap.size<=g)(i:Nat)(u:Value):
 sP W s g p gm (M.setIfInBounds i u) t v j (w.setCell ⟨gm,i,none⟩ u):=
 ⟨h.rd.below ((Below.refl _ _).setCell (by have:=h.lt;show g+1<=gm;omega) u),h.mv.set_ i u,eW h.own (aD.setCell (aD.refl (fun b=>b=gm) w) (p:=⟨gm,i,none⟩) (.inl rfl) u) (fun k Z e=>by have:=h.og k Z;omega),h.og,h.lt,h.below.setCell (by have:=h.lt;show W.heap.size<=gm;omega) u⟩
theorem sP.start{W:World}{s:ByteArray}(Z:RdR w g s p)(Y:w.ownsRow (g+1) t 7 v j (IE s j))(X:Below W.heap.size W w)(M:Array Value):
 sP W s g p w.heap.size M t v j (w.alloc (.cells M t)):=
 ⟨Z.below ((Below.refl _ _).alloc (by have:=Z.lt;omega) _),aY.new _ _ _,World.ownsRow.alloc Y _,fun k V=>(World.ownsRow.lt Y k V).2,Z.lt,X.alloc X.size _⟩
theorem aBF(s:ByteArray)(w:World)(C:Array Value)(fr:Nat×Nat)(Z:Nat)(t:TypeId)(W:∀i,i<s.size->C[i]? =some (.int .u8 (cF s i)))(V:s.size<=Z)(U:Z<=9223372036854775807):
 RdR ((w.drew.alloc (.cells C t fr)).alloc (.cells #[.slice (some ⟨w.heap.size,0,none⟩) s.size Z] 168)) (w.heap.size+1) s 0:=by
 refine⟨some ⟨w.heap.size,0,none⟩,s.size,Z,aY.newAt _ _ _ (by simp),rfl,V,U,fun _=>⟨w.heap.size,0,rfl,I,fun i X=>?_⟩⟩;rw[World.cell?_alloc_lt _ _ _ (by simp),Nat.zero_add];have Y:(w.drew.alloc (.cells C t fr)).heap[w.heap.size]? =some (.cells C t fr):=heap_alloc_new w.drew _;rw[cell_of_row _ _ i C t fr Y];exact W i X
def E8(x j:Int)(a b c d e f g h:Bool):Prop:=x=j/\(x==0)=a/\(x==1)=b/\(x==2)=c/\(x==3)=d/\(x==4)=e/\(x==5)=f/\(x==6)=g/\(x==7)=h
theorem aCy{x:Int}(h:0<=x)(Z:x<8):E8 x 0 true false false false false false false false\/E8 x 1 false true false false false false false false\/E8 x 2 false false true false false false false false\/E8 x 3 false false false true false false false false\/E8 x 4 false false false false true false false false\/E8 x 5 false false false false false true false false\/E8 x 6 false false false false false false true false\/E8 x 7 false false false false false false false true:=by
 rcases(show x=0\/x=1\/x=2\/x=3\/x=4\/x=5\/x=6\/x=7 by omega)with rfl|rfl|rfl|rfl|rfl|rfl|rfl|rfl<;>simp [E8]
theorem aAC(s:ByteArray)(w:World)(hs:s.size<=4000):
 Calls prog 53 #[.string s] w (aCS s 150 w):=by
 obtain⟨i0,L,n,m,g⟩:=info_parts aCK;have zd:=run_bytes_of_string (P:=prog) w 9 168 5 s underlying9 underlying168 underlying5;have zn:=grownCap_ge w s.size 0 5;have zm:=grownCap_le_maxLen w s.size 0 5 (by unfold maxLen;omega);generalize grownCap w s.size 0 5=zo at*;have zl:∀i,i<s.size->(bytesRow s zo)[i]? =some (.int .u8 (cF s i)):=fun i L=>by
  unfold bytesRow cF;rw[dif_pos L,Array.getElem?_append_left (by simpa using L)];simp [L];rfl
 generalize bytesRow s zo=CB at*;generalize(CB.size,CB.size+1)=fr at*;have zc:=aH zl;unfold maxLen at zm;clear zl
 go_enter func53,ntmps53
 go_wp2;have zk:=aBF s w CB fr zo 5 zc.out zn I;have zb:=aH zk;clear zk zd zn zm
 go_loopw [5] (fun l wr=>∃(j p:Nat),Hid (aT s j=p)/\Hid (∀i,i<j->aT s i<s.size/\i<3000)/\j<=3000/\Hid (∃A c,l=.slice A j c/\wr.ownsRow (w.heap.size+2) 150 7 (.slice A j c) j (IE s j))/\Hid (RdR wr (w.heap.size+1) s p)/\Below w.heap.size w wr) (fun l _=>3001-DU l)
 case atStart=>exact⟨0,0,Lib.hid rfl,Lib.hid (fun i L=>absurd L (by omega)),by omega,Lib.hid ⟨none,0,rfl,World.ownsRow_nil _ _ _ _⟩,zb,by go_grown⟩
 case round=>
  obtain⟨j,p,M,T,hj,zg,zy,hb⟩:=hrel;obtain⟨A,c,rfl,zw⟩:=zg.out;have HO:=aH zw;clear zw zg;obtain⟨A0,n0,yk,zf,ze,yj,yi,yp⟩:=zy.out.ex;clear yp;have a0:=zf.cell 0;simp only[List.getElem?_toArray,List.getElem?_cons_zero]at a0;have za:=Lib.hid ze;have N:p<s.size->0<n0:=fun h=>by omega
  have H:s.size<=p->n0=0:=fun h=>by omega
  clear ze;have yz:=Ko s j;rw[M.out]at yz;have yy:=zy.out.lt;clear zf;by_cases zx:p<s.size/\j<3000
  .obtain⟨hps,hj3⟩:=zx;have q1:0<n0:=N hps;have q2:(j:Int)<3000:=I;clear N H;have yx:=lH s p;have yw:=lH s (p+1);have yv:=lH s (p+1+1);have yu:=lH s (p+1+1+1);have d:Hid (mvL s p=if cF s p/4%8<2 then [1,cF s p%4,cF s (p+1)%6+1,cF s (p+1+1)%5,cF s (p+1+1+1)%10,0,0]
    else if cF s p/4%8<6 then [2,cF s p%4,0,0,0,cF s (p+1)%100+1,0]
    else if cF s p/4%8=6 then [3,cF s p%4,0,0,0,cF s (p+1)%9,0]
    else if cF s p<128 then [2,cF s p%4,0,0,0,1,0]
    else [4,cF s p%4,0,0,0,0,cF s (p+1)+256*cF s (p+1+1)]):=rfl
   have HN:Hid (Fb s p=if cF s p/4%8<2 then 4 else if cF s p/4%8<6 then 2 else if cF s p/4%8=6 then 2 else if cF s p<128 then 1 else 3):=rfl;obtain⟨X,zv⟩:∃y,cF s p=y:=⟨_,rfl⟩;obtain⟨u,zu⟩:∃y,cF s (p+1)=y:=⟨_,rfl⟩;obtain⟨y2,zt⟩:∃y,cF s (p+1+1)=y:=⟨_,rfl⟩;obtain⟨y3,zs⟩:∃y,cF s (p+1+1+1)=y:=⟨_,rfl⟩;rw[zv]at yx d HN;rw[zu]at yw d;rw[zt]at yv d;rw[zs]at yu d;have yt:=aH zv;have a:=aH zu;have zj:=aH zt;have ys:=aH zs;clear zv zu zt zs;go_wp2_with fail;refine(NZ s (w.heap.size+1) p _ zy.out hs).mono ?_;rintro e f ⟨rfl,zr,zq⟩;rw[yt.out];have zi:=eW HO.out zq (fun k Q e=>by have:=(World.ownsRow.lt HO.out k Q).1;omega);have t:Below w.heap.size w f:=hb.trans (zq.below hb.size (fun b hb e=>by omega));have r:=aH zr;have q:=aH zi;have ym:=zr.lt;clear zr zi zq HO hb a0 zy yy za;rcases aCy (x:=X/4%8) (by omega) (by omega)with⟨Q,d0,d1,d2,d3,d4,d5,d6,d7⟩|⟨Q,d0,d1,d2,d3,d4,d5,d6,d7⟩|⟨Q,d0,d1,d2,d3,d4,d5,d6,d7⟩|⟨Q,d0,d1,d2,d3,d4,d5,d6,d7⟩|⟨Q,d0,d1,d2,d3,d4,d5,d6,d7⟩|⟨Q,d0,d1,d2,d3,d4,d5,d6,d7⟩|⟨Q,d0,d1,d2,d3,d4,d5,d6,d7⟩|⟨Q,d0,d1,d2,d3,d4,d5,d6,d7⟩
   iterate 2
    .skip
     have G:=aH Q;clear Q;have V:Hid (sP w s (w.heap.size+1) (p+1) f.heap.size #[.int .i64 1,.int .i64 (X%4),.int .i64 0,.int .i64 0,.int .i64 0,.int .i64 0,.int .u64 0] 150 (.slice A j c) j (f.alloc (.cells #[.int .i64 1,.int .i64 (X%4),.int .i64 0,.int .i64 0,.int .i64 0,.int .i64 0,.int .u64 0] 150))):=sP.start r.out q.out t _;go_wp2_with fail;refine(sP.call V.out I hs).mono ?_;rintro e w2 ⟨rfl,K⟩;rw[a.out];have U:=aH K;have Z:=U.out;have F:=Z.mv.cell 0;have E:=Z.mv.cell 1;have D:=Z.mv.cell 2;have C:=Z.mv.cell 3;have B:=Z.mv.cell 4;have z:=Z.mv.cell 5;have m6:=Z.mv.cell 6;simp only[List.setIfInBounds_toArray,List.set_cons_zero,List.set_cons_succ,List.getElem?_toArray,List.getElem?_cons_zero,List.getElem?_cons_succ]at F E D C B z m6;have f2:=Z.mv.frozen 2;have v:=Z.mv.lt;clear Z;have yr:=aH (U.out.set I 2 (.int .i64 (u%6+1)));go_wp2_with fail;refine(sP.call yr.out I hs).mono ?_;rintro e w3 ⟨rfl,zp⟩;rw[zj.out];have o:=aH zp;have Z:=o.out;have F:=Z.mv.cell 0;have E:=Z.mv.cell 1;have D:=Z.mv.cell 2;have C:=Z.mv.cell 3;have B:=Z.mv.cell 4;have z:=Z.mv.cell 5;have m6:=Z.mv.cell 6;simp only[List.setIfInBounds_toArray,List.set_cons_zero,List.set_cons_succ,List.getElem?_toArray,List.getElem?_cons_zero,List.getElem?_cons_succ]at F E D C B z m6;have f3:=Z.mv.frozen 3;have v:=Z.mv.lt;clear Z;have yq:=aH (o.out.set I 3 (.int .i64 (y2%5)));go_wp2_with fail;refine(sP.call yq.out I hs).mono ?_;rintro e w4 ⟨rfl,yo⟩;rw[ys.out];have zh:=aH yo;have Z:=zh.out;have F:=Z.mv.cell 0;have E:=Z.mv.cell 1;have D:=Z.mv.cell 2;have C:=Z.mv.cell 3;have B:=Z.mv.cell 4;have z:=Z.mv.cell 5;have m6:=Z.mv.cell 6;simp only[List.setIfInBounds_toArray,List.set_cons_zero,List.set_cons_succ,List.getElem?_toArray,List.getElem?_cons_zero,List.getElem?_cons_succ]at F E D C B z m6;have f4:=Z.mv.frozen 4;have v:=Z.mv.lt;clear Z;have S:=zh.out;have zz:=S.below.size;have Y:=aH (S.set I 4 (.int .i64 (y3%10)));clear S
     go_wp2_with (at_builtin;refine aK rfl (.tmp 83) (.tmp 85) 76 150 i0 _ rfl underlying76 L n m g rfl rfl (World.ownsRow.alloc Y.out.own _) rfl (aY.newAt _ 150 #[.int .i64 1,.int .i64 (X%4),.int .i64 (u%6+1),.int .i64 (y2%5),.int .i64 (y3%10),.int .i64 0,.int .u64 0] (by simp)) rfl rfl I ?_ ?_;(have h9:=Y.out.rd.lt;simp at h9⊢;omega);intro A' c' w' O W)
     refine⟨⟨j+1,p+4,aH ?_,aH ?_,I,aH ⟨A',c',rfl,?_⟩,aH ?_,?_⟩,by simp [DU];omega⟩
     .show aT s j+Fb s (aT s j)=_;rw[M.out,HN.out];have R:=G.out;simp only[if_pos (show X/4%8<2 by omega)]
     .intro i L;rcases Nat.lt_or_ge i j with h|h
      .exact T.out i h
      .obtain rfl:i=j:=I;rw[M.out];exact⟨hps,hj3⟩
     .rw[aM,M.out,d.out];have R:=G.out;simp only[if_pos (show X/4%8<2 by omega)];simpa [Mb,Int.add_comm]using O
     .exact(Y.out.rd.below ((Below.refl _ _).alloc (by have:=Y.out.rd.lt;omega) (.cells #[.int .i64 1,.int .i64 (X%4),.int .i64 (u%6+1),.int .i64 (y2%5),.int .i64 (y3%10),.int .i64 0,.int .u64 0] 150))).below W
     .exact(Y.out.below.alloc Y.out.below.size _).trans (W.mono I)
   iterate 4
    .skip
     have G:=aH Q;clear Q;have V:Hid (sP w s (w.heap.size+1) (p+1) f.heap.size #[.int .i64 2,.int .i64 (X%4),.int .i64 0,.int .i64 0,.int .i64 0,.int .i64 0,.int .u64 0] 150 (.slice A j c) j (f.alloc (.cells #[.int .i64 2,.int .i64 (X%4),.int .i64 0,.int .i64 0,.int .i64 0,.int .i64 0,.int .u64 0] 150))):=sP.start r.out q.out t _;go_wp2_with fail;refine(sP.call V.out I hs).mono ?_;rintro e w2 ⟨rfl,K⟩;rw[a.out];have U:=aH K;have Z:=U.out;have F:=Z.mv.cell 0;have E:=Z.mv.cell 1;have D:=Z.mv.cell 2;have C:=Z.mv.cell 3;have B:=Z.mv.cell 4;have z:=Z.mv.cell 5;have m6:=Z.mv.cell 6;simp only[List.setIfInBounds_toArray,List.set_cons_zero,List.set_cons_succ,List.getElem?_toArray,List.getElem?_cons_zero,List.getElem?_cons_succ]at F E D C B z m6;have f5:=Z.mv.frozen 5;have v:=Z.mv.lt;clear Z;have S:=U.out;have zz:=S.below.size;have Y:=aH (S.set I 5 (.int .i64 (u%100+1)));clear S
     go_wp2_with (at_builtin;refine aK rfl (.tmp 83) (.tmp 85) 76 150 i0 _ rfl underlying76 L n m g rfl rfl (World.ownsRow.alloc Y.out.own _) rfl (aY.newAt _ 150 #[.int .i64 2,.int .i64 (X%4),.int .i64 0,.int .i64 0,.int .i64 0,.int .i64 (u%100+1),.int .u64 0] (by simp)) rfl rfl I ?_ ?_;(have h9:=Y.out.rd.lt;simp at h9⊢;omega);intro A' c' w' O W)
     refine⟨⟨j+1,p+2,aH ?_,aH ?_,I,aH ⟨A',c',rfl,?_⟩,aH ?_,?_⟩,by simp [DU];omega⟩
     .show aT s j+Fb s (aT s j)=_;rw[M.out,HN.out];have R:=G.out;simp only[if_neg (show¬X/4%8<2 by omega),if_pos (show X/4%8<6 by omega)]
     .intro i L;rcases Nat.lt_or_ge i j with h|h
      .exact T.out i h
      .obtain rfl:i=j:=I;rw[M.out];exact⟨hps,hj3⟩
     .rw[aM,M.out,d.out];have R:=G.out;simp only[if_neg (show¬X/4%8<2 by omega),if_pos (show X/4%8<6 by omega)];simpa [Mb,Int.add_comm]using O
     .exact(Y.out.rd.below ((Below.refl _ _).alloc (by have:=Y.out.rd.lt;omega) (.cells #[.int .i64 2,.int .i64 (X%4),.int .i64 0,.int .i64 0,.int .i64 0,.int .i64 (u%100+1),.int .u64 0] 150))).below W
     .exact(Y.out.below.alloc Y.out.below.size _).trans (W.mono I)
   .skip
    have G:=aH Q;clear Q;have V:Hid (sP w s (w.heap.size+1) (p+1) f.heap.size #[.int .i64 3,.int .i64 (X%4),.int .i64 0,.int .i64 0,.int .i64 0,.int .i64 0,.int .u64 0] 150 (.slice A j c) j (f.alloc (.cells #[.int .i64 3,.int .i64 (X%4),.int .i64 0,.int .i64 0,.int .i64 0,.int .i64 0,.int .u64 0] 150))):=sP.start r.out q.out t _;go_wp2_with fail;refine(sP.call V.out I hs).mono ?_;rintro e w2 ⟨rfl,K⟩;rw[a.out];have U:=aH K;have Z:=U.out;have F:=Z.mv.cell 0;have E:=Z.mv.cell 1;have D:=Z.mv.cell 2;have C:=Z.mv.cell 3;have B:=Z.mv.cell 4;have z:=Z.mv.cell 5;have m6:=Z.mv.cell 6;simp only[List.setIfInBounds_toArray,List.set_cons_zero,List.set_cons_succ,List.getElem?_toArray,List.getElem?_cons_zero,List.getElem?_cons_succ]at F E D C B z m6;have f5:=Z.mv.frozen 5;have v:=Z.mv.lt;clear Z;have S:=U.out;have zz:=S.below.size;have Y:=aH (S.set I 5 (.int .i64 (u%9)));clear S
    go_wp2_with (at_builtin;refine aK rfl (.tmp 83) (.tmp 85) 76 150 i0 _ rfl underlying76 L n m g rfl rfl (World.ownsRow.alloc Y.out.own _) rfl (aY.newAt _ 150 #[.int .i64 3,.int .i64 (X%4),.int .i64 0,.int .i64 0,.int .i64 0,.int .i64 (u%9),.int .u64 0] (by simp)) rfl rfl I ?_ ?_;(have h9:=Y.out.rd.lt;simp at h9⊢;omega);intro A' c' w' O W)
    refine⟨⟨j+1,p+2,aH ?_,aH ?_,I,aH ⟨A',c',rfl,?_⟩,aH ?_,?_⟩,by simp [DU];omega⟩
    .show aT s j+Fb s (aT s j)=_;rw[M.out,HN.out];have R:=G.out;simp only[if_neg (show¬X/4%8<2 by omega),if_neg (show¬X/4%8<6 by omega),if_pos (show X/4%8=6 by omega)]
    .intro i L;rcases Nat.lt_or_ge i j with h|h
     .exact T.out i h
     .obtain rfl:i=j:=I;rw[M.out];exact⟨hps,hj3⟩
    .rw[aM,M.out,d.out];have R:=G.out;simp only[if_neg (show¬X/4%8<2 by omega),if_neg (show¬X/4%8<6 by omega),if_pos (show X/4%8=6 by omega)];simpa [Mb,Int.add_comm]using O
    .exact(Y.out.rd.below ((Below.refl _ _).alloc (by have:=Y.out.rd.lt;omega) (.cells #[.int .i64 3,.int .i64 (X%4),.int .i64 0,.int .i64 0,.int .i64 0,.int .i64 (u%9),.int .u64 0] 150))).below W
    .exact(Y.out.below.alloc Y.out.below.size _).trans (W.mono I)
   .by_cases k4:X<128
    .skip
     have G:=aH Q;clear Q;have V:Hid (sP w s (w.heap.size+1) (p+1) f.heap.size #[.int .i64 2,.int .i64 (X%4),.int .i64 0,.int .i64 0,.int .i64 0,.int .i64 1,.int .u64 0] 150 (.slice A j c) j (f.alloc (.cells #[.int .i64 2,.int .i64 (X%4),.int .i64 0,.int .i64 0,.int .i64 0,.int .i64 1,.int .u64 0] 150))):=sP.start r.out q.out t _;have Z:=V.out;have F:=Z.mv.cell 0;have E:=Z.mv.cell 1;have D:=Z.mv.cell 2;have C:=Z.mv.cell 3;have B:=Z.mv.cell 4;have z:=Z.mv.cell 5;have m6:=Z.mv.cell 6;simp only[List.setIfInBounds_toArray,List.set_cons_zero,List.set_cons_succ,List.getElem?_toArray,List.getElem?_cons_zero,List.getElem?_cons_succ]at F E D C B z m6;have v:=Z.mv.lt;clear Z;have S:=V.out;have zz:=S.below.size;have Y:=aH S;clear S
     go_wp2_with (at_builtin;refine aK rfl (.tmp 83) (.tmp 85) 76 150 i0 _ rfl underlying76 L n m g rfl rfl (World.ownsRow.alloc Y.out.own _) rfl (aY.newAt _ 150 #[.int .i64 2,.int .i64 (X%4),.int .i64 0,.int .i64 0,.int .i64 0,.int .i64 1,.int .u64 0] (by simp)) rfl rfl I ?_ ?_;(have h9:=Y.out.rd.lt;simp at h9⊢;omega);intro A' c' w' O W)
     refine⟨⟨j+1,p+1,aH ?_,aH ?_,I,aH ⟨A',c',rfl,?_⟩,aH ?_,?_⟩,by simp [DU];omega⟩
     .show aT s j+Fb s (aT s j)=_;rw[M.out,HN.out];have R:=G.out;simp only[if_neg (show¬X/4%8<2 by omega),if_neg (show¬X/4%8<6 by omega),if_neg (show¬X/4%8=6 by omega),if_pos k4]
     .intro i L;rcases Nat.lt_or_ge i j with h|h
      .exact T.out i h
      .obtain rfl:i=j:=I;rw[M.out];exact⟨hps,hj3⟩
     .rw[aM,M.out,d.out];have R:=G.out;simp only[if_neg (show¬X/4%8<2 by omega),if_neg (show¬X/4%8<6 by omega),if_neg (show¬X/4%8=6 by omega),if_pos k4];simpa [Mb,Int.add_comm]using O
     .exact(Y.out.rd.below ((Below.refl _ _).alloc (by have:=Y.out.rd.lt;omega) (.cells #[.int .i64 2,.int .i64 (X%4),.int .i64 0,.int .i64 0,.int .i64 0,.int .i64 1,.int .u64 0] 150))).below W
     .exact(Y.out.below.alloc Y.out.below.size _).trans (W.mono I)
    .have k4':128<=X:=I;have G:=aH Q;clear Q;have V:Hid (sP w s (w.heap.size+1) (p+1) f.heap.size #[.int .i64 4,.int .i64 (X%4),.int .i64 0,.int .i64 0,.int .i64 0,.int .i64 0,.int .u64 0] 150 (.slice A j c) j (f.alloc (.cells #[.int .i64 4,.int .i64 (X%4),.int .i64 0,.int .i64 0,.int .i64 0,.int .i64 0,.int .u64 0] 150))):=sP.start r.out q.out t _;go_wp2_with fail;refine(sP.call V.out I hs).mono ?_;rintro e w2 ⟨rfl,K⟩;rw[a.out];have U:=aH K;go_wp2_with fail;refine(sP.call U.out I hs).mono ?_;rintro e w3 ⟨rfl,zp⟩;rw[zj.out];have o:=aH zp;have Z:=o.out;have F:=Z.mv.cell 0;have E:=Z.mv.cell 1;have D:=Z.mv.cell 2;have C:=Z.mv.cell 3;have B:=Z.mv.cell 4;have z:=Z.mv.cell 5;have m6:=Z.mv.cell 6;simp only[List.setIfInBounds_toArray,List.set_cons_zero,List.set_cons_succ,List.getElem?_toArray,List.getElem?_cons_zero,List.getElem?_cons_succ]at F E D C B z m6;have f6:=Z.mv.frozen 6;have v:=Z.mv.lt;clear Z;have S:=o.out;have zz:=S.below.size;have Y:=aH (S.set I 6 (.int .u64 (u+256*y2)));clear S
     go_wp2_with (at_builtin;refine aK rfl (.tmp 83) (.tmp 85) 76 150 i0 _ rfl underlying76 L n m g rfl rfl (World.ownsRow.alloc Y.out.own _) rfl (aY.newAt _ 150 #[.int .i64 4,.int .i64 (X%4),.int .i64 0,.int .i64 0,.int .i64 0,.int .i64 0,.int .u64 (u+256*y2)] (by simp)) rfl rfl I ?_ ?_;(have h9:=Y.out.rd.lt;simp at h9⊢;omega);intro A' c' w' O W)
     refine⟨⟨j+1,p+3,aH ?_,aH ?_,I,aH ⟨A',c',rfl,?_⟩,aH ?_,?_⟩,by simp [DU];omega⟩
     .show aT s j+Fb s (aT s j)=_;rw[M.out,HN.out];have R:=G.out;simp only[if_neg (show¬X/4%8<2 by omega),if_neg (show¬X/4%8<6 by omega),if_neg (show¬X/4%8=6 by omega),if_neg (show¬X<128 by omega)]
     .intro i L;rcases Nat.lt_or_ge i j with h|h
      .exact T.out i h
      .obtain rfl:i=j:=I;rw[M.out];exact⟨hps,hj3⟩
     .rw[aM,M.out,d.out];have R:=G.out;simp only[if_neg (show¬X/4%8<2 by omega),if_neg (show¬X/4%8<6 by omega),if_neg (show¬X/4%8=6 by omega),if_neg (show¬X<128 by omega)];simpa [Mb,Int.add_comm]using O
     .exact(Y.out.rd.below ((Below.refl _ _).alloc (by have:=Y.out.rd.lt;omega) (.cells #[.int .i64 4,.int .i64 (X%4),.int .i64 0,.int .i64 0,.int .i64 0,.int .i64 0,.int .u64 (u+256*y2)] 150))).below W
     .exact(Y.out.below.alloc Y.out.below.size _).trans (W.mono I)
  .have hall':Ps s j:=⟨T.out,by rw[M.out];exact zx⟩;have HD:=aH hall';clear hall';rcases Nat.lt_or_ge p s.size with yn|hge
   .have q0:=N yn;have q5:(3000:Int)<=j:=I;have d3:decide ((j:Int)<3000)=false:=by rw[decide_eq_false_iff_not];omega
    clear zx N H;go_wp2;go_ret;exact⟨A,j,c,rfl,HD.out,HO.out.mono I,hb⟩
   .have q0:=H hge;have d3:decide (0<n0)=false:=by rw[decide_eq_false_iff_not];omega
    have yl:=aH q0;clear q0;clear zx N H;go_wp2;go_ret;exact⟨A,j,c,rfl,HD.out,HO.out.mono I,hb⟩
