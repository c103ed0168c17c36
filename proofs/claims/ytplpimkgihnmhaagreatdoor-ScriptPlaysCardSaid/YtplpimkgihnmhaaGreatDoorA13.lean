/-
  Parts of a proof. For all values.
-/
import Derived.Maps.Views
import Derived.Test.YtplpimkgihnmhaaGreatDoorA11
import Derived.Test.YtplpimkgihnmhaaGreatDoorA12
set_option maxRecDepth 100000
set_option maxHeartbeats 4000000
set_option linter.all false
namespace Go.Proofs.YtplpimkgihnmhaaGreatDoor
open Go.Proofs.Tryz Go.RowKit
variable{z a v h g:Nat->Int}{w w':World}{C R:Array Value}{kind x:Int}{k gm:Nat}{S P:Nat->Prop}
section
open Go.Maps
attribute [local go_sem↓] Go.wp_at_zero Go.wp_at_succ
def rz:Array Value:= #[.int .i64 0,.slice none 0 0,.int .i64 0,.int .i64 0,.int .i64 0,.int .i64 0,.int .i64 0,.int .i64 0,.int .i64 0,.int .i64 0,.int .i64 0,.int .i64 0,.int .i64 0,.int .i64 0,.int .i64 0,.int .i64 0,.int .i64 0,.int .i64 0,.int .i64 0,
 .int .i64 0,.int .i64 0,.int .i64 0,.int .i64 0,.int .i64 0,.int .i64 0,.int .i64 0,.int .i64 0,.int .u64 0,.int .u64 0,.int .u64 0,.int .u64 0,.int .i64 0,.int .i64 0,.int .i64 0,.int .i64 0,.int .u64 0,.int .u64 0]
theorem mU:(prog.info? 136).map (·.size)=some 37:=J
theorem JE:rz.all (·.oneCell')=true:=J
theorem rS(h:cK kind z):1<=kind/\kind<=6:=by
 unfold cK at h;split at h
 .omega
 split at h
 .omega
 split at h
 .omega
 omega
def TJ(b:Bool)(T:Array Value->World->Prop)(w:World)(e:Ending)(w':World):Prop:=
 Below w w w'/\∃R,R.size=37/\R.all (·.oneCell')=true/\e=.returned (.tuple #[.agg R,b])/\(b=true->T R w')
def Ds(b:Bool)(x:Value):Prop:=∃C,x=.tuple #[.agg C,b]/\C.size=19/\C.all (·.oneCell')=true
def ZW(b:Bool)(T:Array Value->World->Prop)(x:Value)(w:World):Prop:=∃C,x=.tuple #[.agg C,b]/\(b=true->T C w)
def Fo(x:Value):Prop:=∃C,x=.agg C/\C.size=19/\C.all (·.oneCell')=true
def Ec(b:Bool)(T:Array Value->World->Prop)(x:Value)(w:World):Prop:=∃C,x=.agg C/\(b=true->T C w)
structure XZ (R' R C:Array Value):Prop where
 size:R'.size=37
 csz:C.size=19
 thing:C=R'.extract 0 19
 rest:∀i,19<=i->R'[i]? =R[i]?
 one:R'.all (·.oneCell')=true
theorem XK(V:R.size=37)(U:C.size=19)(T:R.all (·.oneCell')=true)(Y:C.all (·.oneCell')=true):XZ (fF R 0 C.toList) R C:=
 ⟨by rw[fA,V],U,by
  apply Array.ext_getElem?;intro i;by_cases Z:i<19
  .rw[Array.getElem?_extract,iP (by rw[fA];omega)];rw[aAG (by rw[Array.length_toList];omega) (by rw[Array.length_toList];omega),Array.getElem?_toList]
  .rw[Array.getElem?_eq_none I,Array.getElem?_eq_none (by simp;omega)],
  fun i Z=>iB (.inr (by rw[Array.length_toList];omega)),uN T (fun v W=>by
   rw[Array.all_eq_true]at Y;obtain⟨i,Z,rfl⟩:=List.getElem_of_mem W;have X:=Y i (by simpa using Z);simpa using X)⟩
theorem qN{A:Option Addr}{n c:Nat}(h:qY w A n c z)(X:aD S w w')(T:∀a,A=some a->¬S a.block):qY w' A n c z:=
 ⟨h.cap,h.cap63,h.bd,fun W=>by
  obtain⟨b,Z,rfl,Y,V⟩:=h.at_ W;exact⟨b,Z,rfl,Nat.lt_of_lt_of_le Y X.size,fun i U=>(X.cell (p:=⟨b,Z+i,none⟩) Y (T ⟨b,Z,none⟩ rfl)).trans (V i U)⟩⟩
theorem aD.setCell'(h:aD S w w'){p:Addr}(Z:S p.block\/w<=p.block)(u:Value):aD S w (w'.setCell p u):=h.setCell Z u
theorem dG{c:Bool}(h:aD (fun b=>c=false/\S b) w w')(Y:c=true):Below w w w':=(h.mono (S':=bN) fun b Z=>dN Z Y).same
theorem pP{b o n c:Nat}(h:qY w (some ⟨b,o,none⟩) n c z)(i:Nat)(X:i<n):w.cell? (b,o+i)=[z i]:=by
 obtain⟨W,V,Z,_,Y⟩:=h.at_ I;cases Z;exact Y i X
def rZ(x:Int):Int:=if yI x=true then x/4294967296 else 0
def tU(x:Int):Int:=if yI x=true then x%4294967296 else 0
def nV(z:Nat->Int)(t:Nat):Int:=if yI (z (18+t))=true then z (18+t)/4294967296 else 0
def nW(z:Nat->Int)(t:Nat):Int:=if yI (z (18+t))=true then z (18+t)%4294967296 else 0
def nL(z:Nat->Int)(t:Nat):Int:=z (22+t)
def jA(z:Nat->Int)(t:Nat):Int:=if gO (z 26).toNat t=true then 1 else 0
def lQ(f:Nat->Int)(k t:Nat):Int:=if t<k then f t else 0
theorem fC(f:Nat->Int)(k t:Nat):lQ f (k+1) t=if t=k then f k else lQ f k t:=by
 unfold lQ;by_cases e:t=k
 .subst e;rw[iP I,iP rfl]
 rw[iN e];by_cases h:t<k
 .rw[iP h,iP I]
 rw[iN h,iN I]
theorem zU(f:Nat->Int)(k t:Nat)(h:f k=0):lQ f (k+1) t=lQ f k t:=by
 rw[fC];by_cases e:t=k
 .subst e;rw[iP rfl,h];unfold lQ;rw[iN (Nat.lt_irrefl _)]
 rw[iN e]
theorem uB(Z Y X W:Bool)(g:Nat->Int)(V:g 0=if Z then 1 else 0)(U:g 1=if Y then 1 else 0)(T:g 2=if X then 1 else 0)(S:g 3=if W then 1 else 0):
 uM g 4=(if Z then 1 else 0)+(if Y then 2 else 0)+(if X then 4 else 0)+(if W then 8 else 0):=by
 simp only[uM,V,U,T,S];cases Z<;>cases Y<;>cases X<;>cases W<;>decide
theorem AW(z:Nat->Int):uM (jA z) 4=(z 26).toNat%16:=by
 rw[uB _ _ _ _ (jA z) rfl rfl rfl rfl];generalize(z 26).toNat=x;have Z:∀j:Nat,j<64->(gO x (j:Int)=true↔x/2^j%2=1):=fun j Q=>by
  unfold gO;rw[decide_eq_true_iff,Int.toNat_natCast];exact⟨fun h=>h.2.2,fun h=>⟨I,I,h⟩⟩
 have Y:=Z 0 aJ;have X:=Z 1 aJ;have W:=Z 2 aJ;have V:=Z 3 aJ;rw[show(2:Nat)^0=1 from rfl]at Y;rw[show(2:Nat)^1=2 from rfl]at X;rw[show(2:Nat)^2=4 from rfl]at W;rw[show(2:Nat)^3=8 from rfl]at V;generalize gO x ((0:Nat):Int)=U at*;generalize gO x ((1:Nat):Int)=T at*;generalize gO x ((2:Nat):Int)=S at*;generalize gO x ((3:Nat):Int)=R at*;cases U<;>cases T<;>cases S<;>cases R<;>simp at Y X W V⊢<;>omega
theorem KX(Z:0<=x)(h:yI x=true\/x=0):iV (rZ x) (tU x)=x:=by
 rcases h with h|h
 .unfold iV rZ tU;rw[iP h,iP h,iP (show fU (x/4294967296) (x%4294967296)=true from h)];omega
 subst h;rfl
theorem GS{X U T:Int}(V:z 0=X)(L:z 27=U)(K:z 28=T)(H:∀i,i<32->0<=z i)(A:X<=6)(B:cK X (oz z))(O:U<=1099511627776)(N:T<=1099511627776)(Y:∀t,t<4->pV z t):
 (∀i,i<32->iW X (oz z) (nV z) (nW z) (nL z) (jA z) U T i=z i)↔eE z:=by
 have G:dH z=X:=by unfold dH;rw[V,iP I]
 have F:=H 26 I;have W:iW X (oz z) (nV z) (nW z) (nL z) (jA z) U T 26=(((z 26).toNat%16:Nat):Int):=by
  rw[<-AW];rfl
 constructor
 .intro h;have a:=h 26 I;rw[W]at a;exact⟨⟨by rw[G];exact B,I,by rw[K];exact N,by rw[L];exact O⟩,Y,(h 29 I).symm,(h 30 I).symm,(h 31 I).symm⟩
 rintro⟨⟨_,E,_,_⟩,_,S,R,Q⟩ i D;by_cases Z:i=0
 .subst Z;exact V.symm
 by_cases P:i<18
 .unfold iW DY;rw[iN I,iN I,iN Z,iP P];unfold oz;rw[show 1+(i-1)=i by omega]
 by_cases M:i<22
 .unfold iW DY;rw[iN I,iN I,iN Z,iN P,iP M,iP I];have:=KX (H i D) (by have:=(Y (i-18) I).1.1;rwa [show 18+(i-18)=i by omega]at this);rw[show nV z (i-18)=rZ (z (18+(i-18)))from rfl,show nW z (i-18)=tU (z (18+(i-18)))from rfl,show 18+(i-18)=i by omega];exact this
 by_cases C:i<26
 .unfold iW DY;rw[iN I,iN I,iN Z,iN P,iN M,iP C,iP I];unfold nL;rw[show 22+(i-22)=i by omega]
 have:i=26\/i=27\/i=28\/i=29\/i=30\/i=31:=I;rcases this with rfl|rfl|rfl|rfl|rfl|rfl
 .rw[W];omega
 .exact L.symm
 .exact K.symm
 .exact S.symm
 .exact R.symm
 exact Q.symm
theorem uD.congr{a' Y X W:Nat->Int}{ver cnt:Int}(x:uD R C a v h g ver cnt)(V:∀t,t<4->a' t=a t)(U:∀t,t<4->Y t=v t)(T:∀t,t<4->X t=h t)(S:∀t,t<4->W t=g t):uD R C a' Y X W ver cnt:=
 ⟨x.size,x.thing,fun t Z=>by rw[V t Z];exact x.ac_ t Z,fun t Z=>by rw[U t Z];exact x.av_ t Z,fun t Z=>by rw[T t Z];exact x.wh_ t Z,fun t Z=>by rw[S t Z];exact x.tg_ t Z,x.ver_,x.cnt_⟩
theorem iO{i:Nat}{v:Value}(Z:19<=i):(R.setIfInBounds i v).extract 0 19=R.extract 0 19:=by
 apply Array.ext_getElem?;intro j;rw[Array.getElem?_extract,Array.getElem?_extract];simp only[Array.size_setIfInBounds];by_cases h:j<min 19 R.size-0
 .rw[iP h,iP h,Array.getElem?_setIfInBounds,iN I]
 rw[iN h,iN h]
theorem qW{i:Nat}{v:Value}(h:R.all (·.oneCell')=true)(X:v.oneCell'=true):(R.setIfInBounds i v).all (·.oneCell')=true:=by
 rw[Array.all_eq_true]at h⊢;intro j Y;have Z:j<R.size:=by simpa using Y
 rw[Array.getElem_setIfInBounds];split
 .exact X
 exact h j Z
theorem uD.step{ver cnt:Int}(x:uD R C a v h g ver cnt)(k:Nat)(Q:k<4)(U T Y:Int):
 uD (((R.setIfInBounds (19+k*2) U).setIfInBounds (19+k*2+1) T).setIfInBounds (27+k) [Y]) C
  (fun t=>if t=k then U else a t) (fun t=>if t=k then T else v t) (fun t=>if t=k then Y else h t) g ver cnt:=by
 have S:=x.size;have Z:∀i,(((R.setIfInBounds (19+k*2) U).setIfInBounds (19+k*2+1) T).setIfInBounds (27+k) [Y])[i]? =if i=27+k then some (.int .u64 Y)else if i=19+k*2+1 then some (.int .i64 T)else if i=19+k*2 then some (.int .i64 U)else R[i]? :=fun i=>by
  rw[Array.getElem?_setIfInBounds,Array.getElem?_setIfInBounds,Array.getElem?_setIfInBounds];simp only[Array.size_setIfInBounds,S];by_cases Y:i=27+k
  .rw[iP Y.symm,iP I,iP Y]
  rw[iN (fun e=>Y e.symm),iN Y];by_cases W:i=19+k*2+1
  .rw[iP W.symm,iP I,iP W]
  rw[iN (fun e=>W e.symm),iN W];by_cases V:i=19+k*2
  .rw[iP V.symm,iP I,iP V]
  rw[iN (fun e=>V e.symm),iN V]
 refine⟨by simp [S],by rw[iO I,iO I,iO I];exact x.thing,fun t X=>?_,fun t X=>?_,fun t X=>?_,fun t X=>?_,?_,?_⟩
 .rw[Z,iN I,iN I];by_cases e:t=k
  .subst e;rw[iP I,iP rfl]
  rw[iN I,iN e];exact x.ac_ t X
 .rw[Z,iN I];by_cases e:t=k
  .subst e;rw[iP I,iP rfl]
  rw[iN I,iN I,iN e];exact x.av_ t X
 .rw[Z];by_cases e:t=k
  .subst e;rw[iP rfl,iP rfl]
  rw[iN I,iN I,iN I,iN e];exact x.wh_ t X
 .rw[Z,iN I,iN I,iN I];exact x.tg_ t X
 .rw[Z,iN I,iN I,iN I];exact x.ver_
 rw[Z,iN I,iN I,iN I];exact x.cnt_
theorem uD.turn{ver cnt:Int}(x:uD R C a v h g ver cnt)(k:Nat)(U:k<4)(W:Int):
 uD (R.setIfInBounds (31+k) W) C a v h (fun t=>if t=k then W else g t) ver cnt:=by
 have V:=x.size;have Z:∀i,(R.setIfInBounds (31+k) W)[i]? =if i=31+k then some (.int .i64 W)else R[i]? :=fun i=>by
  rw[Array.getElem?_setIfInBounds];by_cases X:i=31+k
  .rw[iP X.symm,iP I,iP X]
  rw[iN (fun e=>X e.symm),iN X]
 refine⟨by simp [V],by rw[iO I];exact x.thing,fun t Y=>?_,fun t Y=>?_,fun t Y=>?_,fun t Y=>?_,?_,?_⟩
 .rw[Z,iN I];exact x.ac_ t Y
 .rw[Z,iN I];exact x.av_ t Y
 .rw[Z,iN I];exact x.wh_ t Y
 .rw[Z];by_cases e:t=k
  .subst e;rw[iP rfl,iP rfl]
  rw[iN I,iN e];exact x.tg_ t Y
 .rw[Z,iN I];exact x.ver_
 rw[Z,iN I];exact x.cnt_
theorem ON(h:XZ R rz C)(v n:Int):uD ((R.setIfInBounds 35 [v]).setIfInBounds 36 [n]) C (fun _=>0) (fun _=>0) (fun _=>0) (fun _=>0) v n:=by
 have V:=h.size;have Z:∀i,19<=i->((R.setIfInBounds 35 (.int .u64 v)).setIfInBounds 36 (.int .u64 n))[i]? =if i=36 then some (.int .u64 n)else if i=35 then some (.int .u64 v)else rz[i]? :=fun i U=>by
  rw[Array.getElem?_setIfInBounds,Array.getElem?_setIfInBounds];simp only[Array.size_setIfInBounds,V];by_cases X:i=36
  .rw[iP X.symm,iP I,iP X]
  rw[iN (fun e=>X e.symm),iN X];by_cases W:i=35
  .rw[iP W.symm,iP I,iP W]
  rw[iN (fun e=>W e.symm),iN W];exact h.rest i U
 have Y:∀{P:Nat->Prop},P 0->P 1->P 2->P 3->∀t,t<4->P t:=fun a b c d t T=>by
  match t,T with
  |0,_=>exact a
  |1,_=>exact b
  |2,_=>exact c
  |3,_=>exact d
  |t+4,h=>omega
 refine⟨by simp [V],by rw[iO I,iO I];exact h.thing,?_,?_,?_,?_,?_,?_⟩
 .exact Y (by rw[Z _ I];rfl) (by rw[Z _ I];rfl) (by rw[Z _ I];rfl) (by rw[Z _ I];rfl)
 .exact Y (by rw[Z _ I];rfl) (by rw[Z _ I];rfl) (by rw[Z _ I];rfl) (by rw[Z _ I];rfl)
 .exact Y (by rw[Z _ I];rfl) (by rw[Z _ I];rfl) (by rw[Z _ I];rfl) (by rw[Z _ I];rfl)
 .exact Y (by rw[Z _ I];rfl) (by rw[Z _ I];rfl) (by rw[Z _ I];rfl) (by rw[Z _ I];rfl)
 .rw[Z _ I];rfl
 rw[Z _ I];rfl
def qZ(z:Nat->Int)(k:Nat)(n:Int):Bool:=(List.range k).any fun t=>decide (z (22+t)=n)
theorem nY{n:Int}:qZ z k n=true↔∃t,t<k/\z (22+t)=n:=by
 unfold qZ;rw[List.any_eq_true];constructor
 .rintro⟨t,Z,Y⟩;exact⟨t,by simpa using Z,by simpa using Y⟩
 rintro⟨t,Z,Y⟩;exact⟨t,by simpa using Z,by simpa using Y⟩
theorem YV:Keyed prog 23:=int_keyed underlying23
theorem Ef(w:World):(zeroValue 4).run prog w=.ok false w:=J
def jV(z:Nat->Int)(k gm:Nat)(w:World):Prop:=
 ∃D:DataW Unit,w.ownsMap prog 23 (plainElem prog 4) gm k D/\∀n:Int,0<=n->n<18446744073709551616->D.atKey (.int .u64 n) (.lit (.bool false))=.lit (.bool (qZ z k n))
theorem KA{n:Int}(Z:0<=n)(Y:n<18446744073709551616):(Lit.int .u64 n).wf=true:=by
 show(decide (0<=n)&&decide (n<=18446744073709551615))=true;rw[Bool.and_eq_true];exact⟨decide_eq_true Z,decide_eq_true I⟩
theorem jV.look(h:jV z k gm w)(n:Int)(Y:0<=n)(X:n<18446744073709551616):
 (Instr.lookup 300 (.map (some gm)) [n] false).run prog w=.ok (qZ z k n) w:=by
 obtain⟨D,W,V⟩:=h;obtain⟨v,T,U,Z⟩:=W.lookup YV underlying300 (Ef w) (plainElem_bool underlying4 false) (keyOf_int_mk underlying23 (KA Y X));rw[V n Y X]at Z;unfold plainElem at Z;rw[underlying4]at Z;cases v<;>simp at Z
 rw[U,Z.1]
def ZN(g:Nat)(t:TypeId)(b:Bool)(T:Array Value->World->Prop)(w:World):Prop:=∃R C,aY w g t R/\XZ R rz C/\(b=true->T C w)
theorem jV.below(h:jV z k gm w)(Z:Below w w w'):jV z k gm w':=by
 obtain⟨D,Y,X⟩:=h;exact⟨D,Y.kept (row:=none) ⟨Z.os,Z.tape,Z.output,Z.size,fun i W _=>Z.block i W⟩ (by simp),X⟩
theorem jV.far(h:jV z k gm w){p:Addr}(X:gm≠p.block)(u:Value):jV z k gm (w.setCell p u):=by
 obtain⟨D,Z,Y⟩:=h;exact⟨D,Z.setCell X u,Y⟩
theorem jV.start(z:Nat->Int)(w:World):jV z 0 w (w.alloc (.map #[] 0)):=
 ⟨.map [],World.ownsMap_made w _ _ _,fun n _ _=>by simp [DataW.atKey,qZ]⟩
theorem NE(n:Int):WideAt.IsKeyLit (.int .u64 n):=by
 first|exact trivial|(unfold WideAt.IsKeyLit;trivial)|(simp [WideAt.IsKeyLit])
theorem jV.put{D:DataW Unit}{y:Int}(X:z (22+k)=y)(h:w'.ownsMap prog 23 (plainElem prog 4) gm (k+1) (D.put (.int .u64 y) (.lit (.bool true))))(U:IsMap D)
 (T:∀n:Int,0<=n->n<18446744073709551616->D.atKey (.int .u64 n) (.lit (.bool false))=.lit (.bool (qZ z k n))):jV z (k+1) gm w':=
 ⟨_,h,fun n W Y=>by
   by_cases e:n=y
   .subst e;rw[atKey_put_same U (NE _)];rw[show qZ z (k+1) n=true from nY.2 ⟨k,I,X⟩]
   rw[atKey_put_other (by intro V;cases V;exact e rfl),T n W Y];have:qZ z (k+1) n=qZ z k n:=by
    rw[Bool.eq_iff_iff,nY,nY];constructor
    .rintro⟨t,Y,Z⟩;refine⟨t,?_,Z⟩;rcases Nat.lt_or_ge t k with h3|h3
     .exact h3
     obtain rfl:t=k:=I;exact absurd (Z.symm.trans X) e
    rintro⟨t,Y,Z⟩;exact⟨t,I,Z⟩
   rw[this]⟩
theorem QQ(x:Int)(X:0<=x)(W:x<18446744073709551616)(w:World):
 Calls prog 113 #[[x]] w fun e w'=>e=.returned (.tuple #[.agg #[(rZ x),(tU x)],(jN (yI x) 3)])/\Below w w w':=by
 obtain⟨n,rfl⟩:=Int.eq_ofNat_of_zero_le X;have Z:(n:Int)/4294967296=((n/4294967296:Nat):Int):=I;have Y:(n:Int)%4294967296=((n%4294967296:Nat):Int):=I;have:=vH n (n/4294967296) (n%4294967296) w I rfl rfl;unfold rZ tU yI;rw[Z,Y];exact this
theorem WV(h:yI x=true):1<=rZ x/\x≠0:=by
 unfold rZ;rw[iP h];unfold yI fU at h;rw[decide_eq_true_iff]at h;refine⟨h.1,fun e=>?_⟩;subst e;omega
theorem aCf(h:yI x=false):rZ x=0/\tU x=0:=by
 unfold rZ tU;rw[h];exact⟨rfl,rfl⟩
def Dc(z:Nat->Int)(R:Array Value)(w:World):Prop:=uD R (R.extract 0 19) (nV z) (nW z) (nL z) (jA z) (z 27) (z 28)/\jE (z 0) (oz z) (R.extract 0 19) w
def TC(x:Value):Prop:=∃g,x=.slice (some ⟨g,0,none⟩) 32 32
def Ey(z:Nat->Int)(x:Value)(w:World):Prop:=∃g D,x=.slice (some ⟨g,0,none⟩) 32 32/\aY w g 23 D/\cH D 32 z
structure zE (w W2:World) (C0:Array Value) (a v h g:Nat->Int) (vv nn:Int) (z:Nat->Int) (k:Nat) (wr:World):Prop where
 keep:aD (fun b=>b=w+1) W2 wr
 ex:∃R,aY wr (w,1) 136 R/\uD R C0 a v h g vv nn/\R.all (·.oneCell')=true
 seen:jV z k W2 wr
section
variable{w W2 wr w':World}{C0:Array Value}{a v h g:Nat->Int}{vv nn:Int}{z:Nat->Int}{k:Nat}
theorem zE.below(x:zE w W2 C0 a v h g vv nn z k wr)(Z:Below wr wr w'):zE w W2 C0 a v h g vv nn z k w':=by
 obtain⟨R,Y,X,W⟩:=x.ex;exact⟨x.keep.trans (aD.of_same Z),⟨R,Y.below Z Y.lt,X,W⟩,x.seen.below Z⟩
theorem zE.alloc(x:zE w W2 C0 a v h g vv nn z k wr)(o:Obj):zE w W2 C0 a v h g vv nn z k (wr.alloc o):=x.below ((Below.refl _ _).alloc (Nat.le_refl _) o)
theorem zE.put(x:zE w W2 C0 a v h g vv nn z k wr)(T:w.heap.size+1<W2)(j:Nat)(S:j<4)(Z Y X:Int):
 zE w W2 C0 (fun t=>if t=j then Z else a t) (fun t=>if t=j then Y else v t) (fun t=>if t=j then X else h t) g vv nn z k
  (((wr.setCell ⟨w.heap.size+1,19+j*2,none⟩ (.int .i64 Z)).setCell ⟨w.heap.size+1,19+j*2+1,none⟩ (.int .i64 Y)).setCell ⟨w.heap.size+1,27+j,none⟩ (.int .u64 X)):=by
 obtain⟨R,W,V,U⟩:=x.ex;exact⟨((x.keep.setCell' (.inl rfl) _).setCell' (.inl rfl) _).setCell' (.inl rfl) _,⟨_,((W.set_ _ _).set_ _ _).set_ _ _,V.step j S Z Y X,qW (qW (qW U rfl) rfl) rfl⟩,
  ((x.seen.far (by show W2.heap.size≠w+1;omega) _).far (by show W2.heap.size≠w+1;omega) _).far (by show W2.heap.size≠w+1;omega) _⟩
theorem zE.turn(x:zE w W2 C0 a v h g vv nn z k wr)(V:w.heap.size+1<W2)(j:Nat)(U:j<4)(Z:Int):
 zE w W2 C0 a v h (fun t=>if t=j then Z else g t) vv nn z k (wr.setCell ⟨w.heap.size+1,31+j,none⟩ (.int .i64 Z)):=by
 obtain⟨R,Y,X,W⟩:=x.ex;exact⟨x.keep.setCell' (.inl rfl) _,⟨_,Y.set_ _ _,X.turn j U Z,qW W rfl⟩,x.seen.far (by show W2.heap.size≠w+1;omega) _⟩
theorem zE.see(x:zE w W2 C0 a v h g vv nn z k wr)(T:w.heap.size+1<W2)(Z:wr.grownBy w' (some W2))(S:jV z (k+1) W2 w'):zE w W2 C0 a v h g vv nn z (k+1) w':=by
 obtain⟨R,Y,W,V⟩:=x.ex;exact⟨⟨Z.os.trans x.keep.os,Z.tape.trans x.keep.tape,Z.output.trans x.keep.output,Nat.le_trans x.keep.size Z.size,fun i X U=>(Z.block i (Nat.lt_of_lt_of_le X x.keep.size) (by simp;omega)).trans (x.keep.block i X U)⟩,
  ⟨R,(Z.block _ Y.lt (by simp;omega)).trans Y,W,V⟩,S⟩
theorem zE.congr{a' Z Y X:Nat->Int}(x:zE w W2 C0 a v h g vv nn z k wr)(T:∀t,t<4->a' t=a t)(S:∀t,t<4->Z t=v t)(Q:∀t,t<4->Y t=h t)(P:∀t,t<4->X t=g t):zE w W2 C0 a' Z Y X vv nn z k wr:=by
 obtain⟨R,W,V,U⟩:=x.ex;exact⟨x.keep,⟨R,W,V.congr T S Q P,U⟩,x.seen⟩
end
end
section
attribute [local go_sem↓] Go.wp_at_zero Go.wp_at_succ
theorem Dx(j:Int)(hj:j=1\/j=2\/j=3\/j=4)(C:Array Value)(A:Option Addr)(n c:Nat)(xs:List Int)(a k v:Int)(w:World)(h:lD C j A n c (fun _=>0) 0)(hs:fI w A n c xs)(W:n<=60)(hv: -9223372036854775808<=v/\v<=9223372036854775807):
 Calls prog 191 #[.agg C,.agg #[a,k,v]] w
  (rB (fun D w'=>∃A' n' c',lD D j A' n' c' (fun _=>0) 0/\fI w' A' n' c' (lY j xs a v)/\(0<n'->∀b,A'=some b->(A=some b/\0<n)\/w<=b.block)) (lC j xs a) (lV j xs a) w):=by
 have q:Tg j:=rfl;rcases hj with rfl|rfl|rfl|rfl
 all_goals
  have c0:=h.kind_;have c1:=h.list;have H:=aH h;have E:=aH hs;have m:=aH hv;have S:=aH (mX.mk_ w C a k v);clear h hs hv
  go_enter func191,ntmps191
  go_wp2_with fail
  first
  |refine(Dr A n c xs a k v _ (E.below S.below) W m).mono ?_
  |refine(Cy A n c xs a k v _ (E.below S.below) W m).mono ?_
  |refine(Ea A n c xs a k v _ (E.below S.below) W m).mono ?_
  |refine(Cr A n c xs a k v _ (E.below S.below) W m).mono ?_
  rintro e w1 ⟨U,T,O,rfl,s,r,G⟩;have B:=aH s;have R:Hid (0<T->∀b,U=some b->b.block<w\/w+5<=b.block):=aH fun F b X=>by
   rcases G F with⟨h1,h2⟩|h1
   .left;subst h1;obtain⟨b',zx,he,zy,_⟩:=E.at_ I;rw[X]at he;cases he;exact zy
   right;have:=h1 b X;simp at this;omega
  have z:Hid (0<T->∀b,U=some b->(A=some b/\0<n)\/w<=b.block):=aH fun F b X=>by
   rcases G F with⟨h1,h2⟩|h1
   .left;exact⟨by rw[<-h1];exact X,I⟩
   right;have:=h1 b X;simp at this;omega
  clear G;have Y:=aH (S.on r);have t1:=(Y.thing.cell 1).trans c1;have f1:=Y.thing.frozen 1;have a0:=Y.tmp.cell 0;have a1:=Y.tmp.cell 1;have f2:=Y.tmp.frozen 0;have f3:=Y.tmp.frozen 1;simp only[List.getElem?_toArray,List.getElem?_cons_zero,List.getElem?_cons_succ]at a0 a1;have y:=aH ((Y.cell 1 (.slice U T O)).answer (lC q xs a) (lV q xs a));have N:=aH (H.setL U T O);have K:Hid ((prog.info? 131).map (·.size)=some (C.setIfInBounds 1 (.slice U T O)).size):=by show _=_;rw[jT,N.size]
  have x:=aH N.size;have L:=aH (kM N);clear r s c0 c1;generalize p:lC q xs a=Q at*;generalize o:lV q xs a=P at*;have l:=aH p;have i:=aH o;clear p o;go_wp2_with fail;have Z:Hid (mX w (((w1.setCell ⟨w.heap.size,1,none⟩ (.slice U T O)).setCell ⟨w.heap.size+1+1+1+1,0,none⟩ (.int .i64 Q)).setCell ⟨w.heap.size+1+1+1+1,1,none⟩ (.int .i64 P)) (C.setIfInBounds 1 (.slice U T O)) a k v Q P):=y;have g:Hid (fI (((w1.setCell ⟨w.heap.size,1,none⟩ (.slice U T O)).setCell ⟨w.heap.size+1+1+1+1,0,none⟩ (.int .i64 Q)).setCell ⟨w.heap.size+1+1+1+1,1,none⟩ (.int .i64 P)) U T O (lY q xs a v)):=aH (((B.farc (fun W b X=>by have:=R.out W b X;show b.block≠w.heap.size;omega) _).farc (fun W b X=>by have:=R.out W b X;show b.block≠w.heap.size+1+1+1+1;omega) _).farc (fun W b X=>by have:=R.out W b X;show b.block≠w.heap.size+1+1+1+1;omega) _);clear y Y B t1 f1 a0 a1 f2 f3;generalize((w1.setCell ⟨w.heap.size,1,none⟩ (.slice U T O)).setCell ⟨w.heap.size+1+1+1+1,0,none⟩ (.int .i64 Q)).setCell ⟨w.heap.size+1+1+1+1,1,none⟩ (.int .i64 P)=W3 at*;generalize C.setIfInBounds 1 (.slice U T O)=M at*;refine dQ 3 (fun b=>b=w.heap.size+2) [2] J J ?_;intro zw HA;refine bA (.agg M) cX ?_ ?_
  .intro w9 hw9 _;exact bT 131 _ rfl w.heap.size rfl 131 M _ ((hw9.block _ Z.thing.lt (by show¬w.heap.size=w.heap.size+2;omega)).trans Z.thing) underlying131 rfl K aE
  refine bA (.agg #[.int .i64 Q,.int .i64 P]) cX ?_ ?_
  .intro w9 hw9 _;exact bT 44 _ rfl (w.heap.size+4) rfl 44 #[.int .i64 Q,.int .i64 P] _ ((hw9.block _ Z.tmp.lt (by show¬w.heap.size+4=w.heap.size+2;omega)).trans Z.tmp) underlying44 rfl eU aE
  refine bA undef (fun _ w'=>aY w' (w+2) 131 M) ?_ ?_
  .intro w9 hw9 V;have u:aY w9 (w,2) 131 (tz 0):=(V.1.block _ Z.res.lt (fun h=>dN h (by rw[HA.out];kernel_rfl))).trans Z.res;exact dS 131 _ _ rfl (w,2) M rfl rfl 131 (tz 0) u K (by rw[x.out];rfl) L ⟨⟨rfl,u.setRow M⟩,fD (.inl ⟨aJ,rfl⟩) _⟩
  refine aZ ?_;intro w9 hw9 V;have f:Hid (aY w9 (w,2) 131 M):=aH (by
   have h1:=V.1 rfl;obtain⟨w0,k0,k1,hF⟩:=h1;exact(k1.block _ hF.lt (fun h=>dN h (by rw[HA.out];kernel_rfl))).trans hF)
  have t:Hid (aY w9 (w.heap.size+3) 44 (2:Int)):=aH ((hw9.block _ Z.ans.lt (by show¬w.heap.size+3=w.heap.size+2;omega)).trans Z.ans);have d:=aH (Z.below.trans (hw9.below Z.below.size (fun b X e=>by omega)));have zz:=aH hw9;clear V hw9;simp only[List.drop_succ_cons,List.drop_zero]
  go_wp2_with (refine wpList_store_row rfl 44 _ _ rfl (w.heap.size+3) #[.int .i64 Q,.int .i64 P] rfl rfl 44 (2:Int) t eU rfl (jH _ _) ?_)
  have hR:aY (w9.setRow (w.heap.size+3) #[.int .i64 Q,.int .i64 P]) (w.heap.size+2) 131 M:=(setRow_other _ _ _ _ I).trans f;have hA:aY (w9.setRow (w.heap.size+3) #[.int .i64 Q,.int .i64 P]) (w.heap.size+3) 44 #[.int .i64 Q,.int .i64 P]:=aY.setRow t _;refine bodyPost_ret (bY results191 _ _ (w.heap.size+2) (w.heap.size+3) 131 44 M #[.int .i64 Q,.int .i64 P] _ _ rfl rfl hR hA underlying131 rfl K underlying44 rfl eU) rfl ⟨aL d I _,M,x.out,L.out,by rw[l.out,i.out],?_⟩;exact⟨U,T,O,N.out,(uG g zz (fun W b X e=>by have:=R.out W b X;omega)).setRow (fun W b X=>by have:=R.out W b X;omega) _,z.out⟩
def fG(P:Nat->Prop)(kind:Int)(z:Nat->Int)(C:Array Value)(w:World):Prop:=
 if kind=5 then lD C 5 none 0 0 z 0 else if kind=6 then lD C 6 none 0 0 (fun _=>0) (z 0)else∃A c,lD C kind A (z 0).toNat c (fun _=>0) 0/\fI w A (z 0).toNat c (zL z)/\(0<(z 0).toNat->∀b,A=some b->P b.block)
theorem fG.weak(h:fG P kind z C w):jE kind z C w:=by
 unfold fG at h;unfold jE;split
 .rename_i e;rwa [iP e]at h
 rename_i e;rw[iN e]at h;split
 .rename_i e6;rwa [iP e6]at h
 rename_i e6;rw[iN e6]at h;obtain⟨A,c,Z,Y,_⟩:=h;exact⟨A,c,Z,Y⟩
theorem jE.inside(h:jE kind z C w):fG (fun b=>b<w) kind z C w:=by
 unfold jE at h;unfold fG;split
 .rename_i e;rwa [iP e]at h
 rename_i e;rw[iN e]at h;split
 .rename_i e6;rwa [iP e6]at h
 rename_i e6;rw[iN e6]at h;obtain⟨A,c,W,Y⟩:=h;exact⟨A,c,W,Y,fun V b U=>by
  obtain⟨S,T,X,Z,_⟩:=Y.at_ V;rw[U]at X;cases X;exact Z⟩
theorem fG.mono{P':Nat->Prop}(h:fG P kind z C w)(U:∀b,P b->P' b):fG P' kind z C w:=by
 unfold fG at h⊢;split
 .rename_i e;rwa [iP e]at h
 rename_i e;rw[iN e]at h;split
 .rename_i e6;rwa [iP e6]at h
 rename_i e6;rw[iN e6]at h;obtain⟨A,c,Z,Y,X⟩:=h;exact⟨A,c,Z,Y,fun W b V=>U _ (X W b V)⟩
theorem fG.keeps(h:fG P kind z C w)(U:aD S w w')(T:∀b,P b->¬S b):fG P kind z C w':=by
 unfold fG at h⊢;split
 .rename_i e;rwa [iP e]at h
 rename_i e;rw[iN e]at h;split
 .rename_i e6;rwa [iP e6]at h
 rename_i e6;rw[iN e6]at h;obtain⟨A,c,Y,X,Z⟩:=h;exact⟨A,c,Y,uG X U (fun W b V=>T _ (Z W b V)),Z⟩
theorem AN(P:Nat->Prop)(C:Array Value)(z:Nat->Int)(kind a k v:Int)(m:Nat)(w:World)(g:∀b,w.heap.size<=b->P b)(K:VU z)(X:cK kind z)(H:gQ a k v)(t:kind=5->tG z a k m)(h:fG P kind z C w):
 Calls prog 191 #[.agg C,.agg #[a,k,v]] w (rB (fG P kind (BW kind z a k v m)) (IB kind z a k v) (JO kind z a k v) w):=by
 by_cases O:kind=5
 .refine(yB C z kind a k v m w K X H t h.weak (.inl O)).mono fun e Y ⟨S,D,V,W,U,Z⟩=>⟨S,D,V,W,U,?_⟩
  unfold jE at Z;unfold fG;rw[iP O]at Z⊢;exact Z
 by_cases L:kind=6
 .refine(yB C z kind a k v m w K X H t h.weak (.inr L)).mono fun e Y ⟨S,D,V,W,U,Z⟩=>⟨S,D,V,W,U,?_⟩
  unfold jE at Z;unfold fG;rw[iN O,iP L]at Z⊢;exact Z
 have G:∀{T T':Array Value->World->Prop} {c x:Int} {e:Ending} {Y:World},(∀D Y,T D Y->T' D Y)->rB T c x w e Y->rB T' c x w e Y:=
  fun R ⟨S,D,V,W,U,Z⟩=>⟨S,D,V,W,U,R _ _ Z⟩
 have s: -9223372036854775808<=v/\v<=9223372036854775807:=by have:=H.2.2.2.2;omega
 unfold cK at X;unfold fG at h;unfold IB JO;simp only[iN O,iN L]at X h⊢;obtain⟨A,c,R,o,y⟩:=h;have u:gW z:=by
  by_cases Z:kind=4
  .rw[iP Z]at X;exact X.1
  rw[iN Z]at X;exact X.2.2
 have r:kind=1\/kind=2\/kind=3\/kind=4:=by
  by_cases Z:kind=4
  .exact .inr (.inr (.inr Z))
  rw[iN Z]at X;omega
 have F:=LC (kind:=kind) (LT K u) H;obtain⟨_,_,n⟩:=xS F;have f:=u.1;have q:=K 0 I;have put:∀{D:Array Value} {Y:World},(∃Q N M,lD D kind Q N M (fun _=>0) 0/\fI Y Q N M (lY kind (zL z) a v)/\(0<N->∀b,Q=some b->(A=some b/\0<(z 0).toNat)\/w<=b.block))->fG P kind (BW kind z a k v m) D Y:=by
  rintro D Y ⟨Q,N,M,V,W,U⟩;have B:=W.len;subst B;unfold fG BW;simp only[iN O,iN L];rw[n];have p:(iT (lY kind (zL z) a v).length (lY kind (zL z) a v) 0).toNat=(lY kind (zL z) a v).length:=by unfold iT;simp
  rw[p];refine⟨Q,M,V,W,fun l b j=>?_⟩;rcases U l b j with h9|h9
  .exact y h9.2 b h9.1
  exact g _ h9
 exact(Dx kind r C A _ c _ a k v w R o I s).mono fun e Y i=>G (fun E Y R=>put R) i
