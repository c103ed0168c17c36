/-
  Part of a proof: RecM ThingU. For all values.
-/
import Derived.Maps.Views
import Derived.Test.YtplpimkgihnmhaaGreatDoorA14
import Derived.Test.YtplpimkgihnmhaaGreatDoorA16
set_option maxRecDepth 100000
set_option maxHeartbeats 4000000
set_option linter.all false
namespace Go.Proofs.YtplpimkgihnmhaaGreatDoor
open Go.Proofs.Tryz Go.RowKit
section
open Go.Maps
attribute [local go_sem↓] Go.wp_at_zero Go.wp_at_succ
def rz:Array Value:= #[.int .i64 0,.slice none 0 0,.int .i64 0,.int .i64 0,.int .i64 0,.int .i64 0,.int .i64 0,.int .i64 0,.int .i64 0,.int .i64 0,.int .i64 0,.int .i64 0,.int .i64 0,.int .i64 0,.int .i64 0,.int .i64 0,.int .i64 0,.int .i64 0,.int .i64 0,
 .int .i64 0,.int .i64 0,.int .i64 0,.int .i64 0,.int .i64 0,.int .i64 0,.int .i64 0,.int .i64 0,.int .u64 0,.int .u64 0,.int .u64 0,.int .u64 0,.int .i64 0,.int .i64 0,.int .i64 0,.int .i64 0,.int .u64 0,.int .u64 0]
theorem mU:(prog.info? 136).map (·.size)=some 37:=J
theorem JE:rz.all (·.oneCell')=true:=by kernel_rfl
theorem rS{kind:Int}{z:Nat->Int}(h:cK kind z):1<=kind/\kind<=6:=by
 unfold cK at h
 split at h
 .omega
 split at h
 .omega
 split at h
 .omega
 omega
def TJ(b:Bool)(T:Array Value->World->Prop)(w:World)(e:Ending)(w':World):Prop:=
 Below w w w'/\∃R,R.size=37/\R.all (·.oneCell')=true/\e=.returned (.tuple #[.agg R,b])/\(b=true->T R w')
def Ds(b:Bool)(x:Value):Prop:=∃C,x=.tuple #[.agg C,b]/\C.size=19/\C.all (·.oneCell')=true
def ZW(b:Bool)(T:Array Value->World->Prop)(x:Value)(w:World):Prop:=∃C,x=.tuple #[.agg C,b]/\(b=true->T C w)
def Fo(x:Value):Prop:=∃C,x=.agg C/\C.size=19/\C.all (·.oneCell')=true
def Ec(b:Bool)(T:Array Value->World->Prop)(x:Value)(w:World):Prop:=∃C,x=.agg C/\(b=true->T C w)
structure XZ (R' R C:Array Value):Prop where
 size:R'.size=37
 csz:C.size=19
 thing:C=R'.extract 0 19
 rest:∀i,19<=i->R'[i]? =R[i]?
 one:R'.all (·.oneCell')=true
theorem XK{R C:Array Value}(hR:R.size=37)(hC:C.size=19)(h1:R.all (·.oneCell')=true)(h2:C.all (·.oneCell')=true):XZ (fF R 0 C.toList) R C:=
 ⟨by rw[fA,hR],hC,by
  apply Array.ext_getElem?
  intro i
  by_cases hi:i<19
  .rw[Array.getElem?_extract,iP (by rw[fA];omega)]
   rw[EE (by rw[Array.length_toList];omega) (by rw[Array.length_toList];omega),Array.getElem?_toList]
  .rw[Array.getElem?_eq_none I,Array.getElem?_eq_none (by simp;omega)],
  fun i hi=>iB (.inr (by rw[Array.length_toList];omega)),uN h1 (fun v hv=>by
   rw[Array.all_eq_true]at h2
   obtain⟨i,hi,rfl⟩:=List.getElem_of_mem hv
   have h9:=h2 i (by simpa using hi)
   simpa using h9)⟩
theorem qN{S:Nat->Prop}{w w':World}{A:Option Addr}{n c:Nat}{z:Nat->Int}(h:qY w A n c z)(hk:aD S w w')(hS:∀a,A=some a->¬S a.block):qY w' A n c z:=
 ⟨h.cap,h.cap63,h.bd,fun hn=>by
  obtain⟨b,off,rfl,hlt,hc⟩:=h.at_ hn
  exact⟨b,off,rfl,Nat.lt_of_lt_of_le hlt hk.size,fun i hi=>(hk.cell (p:=⟨b,off+i,none⟩) hlt (hS ⟨b,off,none⟩ rfl)).trans (hc i hi)⟩⟩
theorem aD.setCell'{S:Nat->Prop}{w w':World}(h:aD S w w'){p:Addr}(hp:S p.block\/w<=p.block)(u:Value):aD S w (w'.setCell p u):=h.setCell hp u
theorem dG{c:Bool}{S:Nat->Prop}{w w':World}(h:aD (fun b=>c=false/\S b) w w')(hc:c=true):Below w w w':=(h.mono (S':=bN) fun b hb=>dN hb hc).same
theorem pP{w:World}{b o n c:Nat}{z:Nat->Int}(h:qY w (some ⟨b,o,none⟩) n c z)(i:Nat)(hi:i<n):w.cell? (b,o+i)=[z i]:=by
 obtain⟨g2,o2,he,_,hc⟩:=h.at_ I
 cases he
 exact hc i hi
def rZ(x:Int):Int:=if yI x=true then x/4294967296 else 0
def tU(x:Int):Int:=if yI x=true then x%4294967296 else 0
def nV(z:Nat->Int)(t:Nat):Int:=if yI (z (18+t))=true then z (18+t)/4294967296 else 0
def nW(z:Nat->Int)(t:Nat):Int:=if yI (z (18+t))=true then z (18+t)%4294967296 else 0
def nL(z:Nat->Int)(t:Nat):Int:=z (22+t)
def jA(z:Nat->Int)(t:Nat):Int:=if gO (z 26).toNat t=true then 1 else 0
def lQ(f:Nat->Int)(k t:Nat):Int:=if t<k then f t else 0
theorem fC(f:Nat->Int)(k t:Nat):lQ f (k+1) t=if t=k then f k else lQ f k t:=by
 unfold lQ
 by_cases e:t=k
 .subst e;rw[iP I,iP rfl]
 rw[iN e]
 by_cases h:t<k
 .rw[iP h,iP I]
 rw[iN h,iN I]
theorem zU(f:Nat->Int)(k t:Nat)(h:f k=0):lQ f (k+1) t=lQ f k t:=by
 rw[fC]
 by_cases e:t=k
 .subst e
  rw[iP rfl,h]
  unfold lQ
  rw[iN (Nat.lt_irrefl _)]
 rw[iN e]
theorem uB(b0 b1 b2 b3:Bool)(g:Nat->Int)(h0:g 0=if b0 then 1 else 0)(h1:g 1=if b1 then 1 else 0)(h2:g 2=if b2 then 1 else 0)(h3:g 3=if b3 then 1 else 0):
 uM g 4=(if b0 then 1 else 0)+(if b1 then 2 else 0)+(if b2 then 4 else 0)+(if b3 then 8 else 0):=by
 simp only[uM,h0,h1,h2,h3]
 cases b0<;>cases b1<;>cases b2<;>cases b3<;>decide
theorem AW(z:Nat->Int):uM (jA z) 4=(z 26).toNat%16:=by
 rw[uB _ _ _ _ (jA z) rfl rfl rfl rfl]
 generalize(z 26).toNat=x
 have hb:∀j:Nat,j<64->(gO x (j:Int)=true↔x/2^j%2=1):=fun j hj=>by
  unfold gO
  rw[decide_eq_true_iff,Int.toNat_natCast]
  exact⟨fun h=>h.2.2,fun h=>⟨I,I,h⟩⟩
 have e0:=hb 0 aJ
 have e1:=hb 1 aJ
 have e2:=hb 2 aJ
 have e3:=hb 3 aJ
 rw[show(2:Nat)^0=1 from rfl]at e0
 rw[show(2:Nat)^1=2 from rfl]at e1
 rw[show(2:Nat)^2=4 from rfl]at e2
 rw[show(2:Nat)^3=8 from rfl]at e3
 generalize gO x ((0:Nat):Int)=b0 at*
 generalize gO x ((1:Nat):Int)=b1 at*
 generalize gO x ((2:Nat):Int)=b2 at*
 generalize gO x ((3:Nat):Int)=b3 at*
 cases b0<;>cases b1<;>cases b2<;>cases b3<;>simp at e0 e1 e2 e3⊢<;>omega
theorem KX{x:Int}(h0:0<=x)(h:yI x=true\/x=0):iV (rZ x) (tU x)=x:=by
 rcases h with h|h
 .unfold iV rZ tU
  rw[iP h,iP h,iP (show fU (x/4294967296) (x%4294967296)=true from h)]
  omega
 subst h;rfl
theorem GS{z:Nat->Int}{z0 vv nn:Int}(Ib:z 0=z0)(hv:z 27=vv)(hn:z 28=nn)(hb:∀i,i<32->0<=z i)(h6:z0<=6)(ht:cK z0 (oz z))(hvv:vv<=1099511627776)(hnn:nn<=1099511627776)(hall:∀t,t<4->pV z t):
 (∀i,i<32->iW z0 (oz z) (nV z) (nW z) (nL z) (jA z) vv nn i=z i)↔eE z:=by
 have hk:dH z=z0:=by unfold dH;rw[Ib,iP I]
 have Re:=hb 26 I
 have e26:iW z0 (oz z) (nV z) (nW z) (nL z) (jA z) vv nn 26=(((z 26).toNat%16:Nat):Int):=by
  rw[<-AW];rfl
 constructor
 .intro h
  have a:=h 26 I
  rw[e26]at a
  exact⟨⟨by rw[hk];exact ht,I,by rw[hn];exact hnn,by rw[hv];exact hvv⟩,hall,(h 29 I).symm,(h 30 I).symm,(h 31 I).symm⟩
 rintro⟨⟨_,a26,_,_⟩,_,a29,a30,a31⟩ i hi
 by_cases Is:i=0
 .subst Is;exact Ib.symm
 by_cases h1:i<18
 .unfold iW DY
  rw[iN I,iN I,iN Is,iP h1]
  unfold oz
  rw[show 1+(i-1)=i by omega]
 by_cases h2:i<22
 .unfold iW DY
  rw[iN I,iN I,iN Is,iN h1,iP h2,iP I]
  have:=KX (hb i hi) (by have:=(hall (i-18) I).1.1;rwa [show 18+(i-18)=i by omega]at this)
  rw[show nV z (i-18)=rZ (z (18+(i-18)))from rfl,show nW z (i-18)=tU (z (18+(i-18)))from rfl,show 18+(i-18)=i by omega]
  exact this
 by_cases h3:i<26
 .unfold iW DY
  rw[iN I,iN I,iN Is,iN h1,iN h2,iP h3,iP I]
  unfold nL
  rw[show 22+(i-22)=i by omega]
 have:i=26\/i=27\/i=28\/i=29\/i=30\/i=31:=I
 rcases this with rfl|rfl|rfl|rfl|rfl|rfl
 .rw[e26];omega
 .exact hv.symm
 .exact hn.symm
 .exact a29.symm
 .exact a30.symm
 exact a31.symm
theorem uD.congr{R C:Array Value}{a v h g a' v' h' g':Nat->Int}{ver cnt:Int}(x:uD R C a v h g ver cnt)(e1:∀t,t<4->a' t=a t)(e2:∀t,t<4->v' t=v t)(e3:∀t,t<4->h' t=h t)(e4:∀t,t<4->g' t=g t):uD R C a' v' h' g' ver cnt:=
 ⟨x.size,x.thing,fun t ht=>by rw[e1 t ht];exact x.ac_ t ht,fun t ht=>by rw[e2 t ht];exact x.av_ t ht,fun t ht=>by rw[e3 t ht];exact x.wh_ t ht,fun t ht=>by rw[e4 t ht];exact x.tg_ t ht,x.ver_,x.cnt_⟩
theorem iO{R:Array Value}{i:Nat}{v:Value}(hi:19<=i):(R.setIfInBounds i v).extract 0 19=R.extract 0 19:=by
 apply Array.ext_getElem?
 intro j
 rw[Array.getElem?_extract,Array.getElem?_extract]
 simp only[Array.size_setIfInBounds]
 by_cases h:j<min 19 R.size-0
 .rw[iP h,iP h,Array.getElem?_setIfInBounds,iN I]
 rw[iN h,iN h]
theorem qW{R:Array Value}{i:Nat}{v:Value}(h:R.all (·.oneCell')=true)(hv:v.oneCell'=true):(R.setIfInBounds i v).all (·.oneCell')=true:=by
 rw[Array.all_eq_true]at h⊢
 intro j hj
 have hj':j<R.size:=by simpa using hj
 rw[Array.getElem_setIfInBounds]
 split
 .exact hv
 exact h j hj'
theorem uD.step{R C:Array Value}{a v h g:Nat->Int}{ver cnt:Int}(x:uD R C a v h g ver cnt)(k:Nat)(hk:k<4)(a1 v1 h1:Int):
 uD (((R.setIfInBounds (19+k*2) a1).setIfInBounds (19+k*2+1) v1).setIfInBounds (27+k) [h1]) C
  (fun t=>if t=k then a1 else a t) (fun t=>if t=k then v1 else v t) (fun t=>if t=k then h1 else h t) g ver cnt:=by
 have hs:=x.size
 have get:∀i,(((R.setIfInBounds (19+k*2) a1).setIfInBounds (19+k*2+1) v1).setIfInBounds (27+k) [h1])[i]? =if i=27+k then some (.int .u64 h1)else if i=19+k*2+1 then some (.int .i64 v1)else if i=19+k*2 then some (.int .i64 a1)else R[i]? :=fun i=>by
  rw[Array.getElem?_setIfInBounds,Array.getElem?_setIfInBounds,Array.getElem?_setIfInBounds]
  simp only[Array.size_setIfInBounds,hs]
  by_cases h1:i=27+k
  .rw[iP h1.symm,iP I,iP h1]
  rw[iN (fun e=>h1 e.symm),iN h1]
  by_cases h2:i=19+k*2+1
  .rw[iP h2.symm,iP I,iP h2]
  rw[iN (fun e=>h2 e.symm),iN h2]
  by_cases h3:i=19+k*2
  .rw[iP h3.symm,iP I,iP h3]
  rw[iN (fun e=>h3 e.symm),iN h3]
 refine⟨by simp [hs],by rw[iO I,iO I,iO I];exact x.thing,fun t ht=>?_,fun t ht=>?_,fun t ht=>?_,fun t ht=>?_,?_,?_⟩
 .rw[get,iN I,iN I]
  by_cases e:t=k
  .subst e;rw[iP I,iP rfl]
  rw[iN I,iN e];exact x.ac_ t ht
 .rw[get,iN I]
  by_cases e:t=k
  .subst e;rw[iP I,iP rfl]
  rw[iN I,iN I,iN e];exact x.av_ t ht
 .rw[get]
  by_cases e:t=k
  .subst e;rw[iP rfl,iP rfl]
  rw[iN I,iN I,iN I,iN e];exact x.wh_ t ht
 .rw[get,iN I,iN I,iN I];exact x.tg_ t ht
 .rw[get,iN I,iN I,iN I];exact x.ver_
 rw[get,iN I,iN I,iN I];exact x.cnt_
theorem uD.turn{R C:Array Value}{a v h g:Nat->Int}{ver cnt:Int}(x:uD R C a v h g ver cnt)(k:Nat)(hk:k<4)(g1:Int):
 uD (R.setIfInBounds (31+k) g1) C a v h (fun t=>if t=k then g1 else g t) ver cnt:=by
 have hs:=x.size
 have get:∀i,(R.setIfInBounds (31+k) g1)[i]? =if i=31+k then some (.int .i64 g1)else R[i]? :=fun i=>by
  rw[Array.getElem?_setIfInBounds]
  by_cases h1:i=31+k
  .rw[iP h1.symm,iP I,iP h1]
  rw[iN (fun e=>h1 e.symm),iN h1]
 refine⟨by simp [hs],by rw[iO I];exact x.thing,fun t ht=>?_,fun t ht=>?_,fun t ht=>?_,fun t ht=>?_,?_,?_⟩
 .rw[get,iN I];exact x.ac_ t ht
 .rw[get,iN I];exact x.av_ t ht
 .rw[get,iN I];exact x.wh_ t ht
 .rw[get]
  by_cases e:t=k
  .subst e;rw[iP rfl,iP rfl]
  rw[iN I,iN e];exact x.tg_ t ht
 .rw[get,iN I];exact x.ver_
 rw[get,iN I];exact x.cnt_
theorem ON{R C:Array Value}(h:XZ R rz C)(v n:Int):uD ((R.setIfInBounds 35 [v]).setIfInBounds 36 [n]) C (fun _=>0) (fun _=>0) (fun _=>0) (fun _=>0) v n:=by
 have hs:=h.size
 have get:∀i,19<=i->((R.setIfInBounds 35 (.int .u64 v)).setIfInBounds 36 (.int .u64 n))[i]? =if i=36 then some (.int .u64 n)else if i=35 then some (.int .u64 v)else rz[i]? :=fun i hi=>by
  rw[Array.getElem?_setIfInBounds,Array.getElem?_setIfInBounds]
  simp only[Array.size_setIfInBounds,hs]
  by_cases h1:i=36
  .rw[iP h1.symm,iP (by omega),iP h1]
  rw[iN (fun e=>h1 e.symm),iN h1]
  by_cases h2:i=35
  .rw[iP h2.symm,iP (by omega),iP h2]
  rw[iN (fun e=>h2 e.symm),iN h2];exact h.rest i hi
 have four:∀{P:Nat->Prop},P 0->P 1->P 2->P 3->∀t,t<4->P t:=fun a b c d t ht=>by
  match t,ht with
  |0,_=>exact a
  |1,_=>exact b
  |2,_=>exact c
  |3,_=>exact d
  |t+4,h=>omega
 refine⟨by simp [hs],by rw[iO (by omega),iO (by omega)];exact h.thing,?_,?_,?_,?_,?_,?_⟩
 .exact four (by rw[get _ I];rfl) (by rw[get _ I];rfl) (by rw[get _ I];rfl) (by rw[get _ I];rfl)
 .exact four (by rw[get _ I];rfl) (by rw[get _ I];rfl) (by rw[get _ I];rfl) (by rw[get _ I];rfl)
 .exact four (by rw[get _ I];rfl) (by rw[get _ I];rfl) (by rw[get _ I];rfl) (by rw[get _ I];rfl)
 .exact four (by rw[get _ I];rfl) (by rw[get _ I];rfl) (by rw[get _ I];rfl) (by rw[get _ I];rfl)
 .rw[get _ I];rfl
 rw[get _ I];rfl
def qZ(z:Nat->Int)(k:Nat)(n:Int):Bool:=(List.range k).any fun t=>decide (z (22+t)=n)
theorem nY{z:Nat->Int}{k:Nat}{n:Int}:qZ z k n=true↔∃t,t<k/\z (22+t)=n:=by
 unfold qZ
 rw[List.any_eq_true]
 constructor
 .rintro⟨t,h1,h2⟩;exact⟨t,by simpa using h1,by simpa using h2⟩
 rintro⟨t,h1,h2⟩;exact⟨t,by simpa using h1,by simpa using h2⟩
theorem YV:Keyed prog 23:=int_keyed underlying23
theorem Ef(w:World):(zeroValue 4).run prog w=.ok false w:=J
def jV(z:Nat->Int)(k gm:Nat)(w:World):Prop:=
 ∃D:DataW Unit,w.ownsMap prog 23 (plainElem prog 4) gm k D/\∀n:Int,0<=n->n<18446744073709551616->D.atKey (.int .u64 n) (.lit (.bool false))=.lit (.bool (qZ z k n))
theorem KA{n:Int}(h0:0<=n)(h1:n<18446744073709551616):(Lit.int .u64 n).wf=true:=by
 show(decide (0<=n)&&decide (n<=18446744073709551615))=true
 rw[Bool.and_eq_true]
 exact⟨decide_eq_true h0,decide_eq_true I⟩
theorem jV.look{z:Nat->Int}{k gm:Nat}{w:World}(h:jV z k gm w)(n:Int)(h0:0<=n)(h1:n<18446744073709551616):
 (Instr.lookup 300 (.map (some gm)) [n] false).run prog w=.ok (qZ z k n) w:=by
 obtain⟨D,ho,hD⟩:=h
 obtain⟨v,ps,hr,hv⟩:=ho.lookup YV underlying300 (Ef w) (plainElem_bool underlying4 false) (keyOf_int_mk underlying23 (KA h0 h1))
 rw[hD n h0 h1]at hv
 unfold plainElem at hv
 rw[underlying4]at hv
 cases v<;>simp at hv
 rw[hr,hv.1]
def ZN(g:Nat)(t:TypeId)(b:Bool)(T:Array Value->World->Prop)(w:World):Prop:=∃R C,aY w g t R/\XZ R rz C/\(b=true->T C w)
theorem jV.below{z:Nat->Int}{k gm:Nat}{w w':World}(h:jV z k gm w)(hb:Below w w w'):jV z k gm w':=by
 obtain⟨D,ho,hD⟩:=h
 exact⟨D,ho.kept (row:=none) ⟨hb.os,hb.tape,hb.output,hb.size,fun i hi _=>hb.block i hi⟩ (by simp),hD⟩
theorem jV.far{z:Nat->Int}{k gm:Nat}{w:World}(h:jV z k gm w){p:Addr}(hp:gm≠p.block)(u:Value):jV z k gm (w.setCell p u):=by
 obtain⟨D,ho,hD⟩:=h
 exact⟨D,ho.setCell hp u,hD⟩
theorem jV.start(z:Nat->Int)(w:World):jV z 0 w (w.alloc (.map #[] 0)):=
 ⟨.map [],World.ownsMap_made w _ _ _,fun n _ _=>by simp [DataW.atKey,qZ]⟩
theorem NE(n:Int):WideAt.IsKeyLit (.int .u64 n):=by
 first|exact trivial|(unfold WideAt.IsKeyLit;trivial)|(simp [WideAt.IsKeyLit])
theorem jV.put{z:Nat->Int}{k gm:Nat}{w w':World}{D:DataW Unit}{y:Int}(hy:z (22+k)=y)(h:w'.ownsMap prog 23 (plainElem prog 4) gm (k+1) (D.put (.int .u64 y) (.lit (.bool true))))(hm:IsMap D)
 (hD:∀n:Int,0<=n->n<18446744073709551616->D.atKey (.int .u64 n) (.lit (.bool false))=.lit (.bool (qZ z k n))):jV z (k+1) gm w':=
 ⟨_,h,fun n h0 h1=>by
   by_cases e:n=y
   .subst e
    rw[atKey_put_same hm (NE _)]
    rw[show qZ z (k+1) n=true from nY.2 ⟨k,I,hy⟩]
   rw[atKey_put_other (by intro e2;cases e2;exact e rfl),hD n h0 h1]
   have:qZ z (k+1) n=qZ z k n:=by
    rw[Bool.eq_iff_iff,nY,nY]
    constructor
    .rintro⟨t,h1,h2⟩
     refine⟨t,?_,h2⟩
     rcases Nat.lt_or_ge t k with h3|h3
     .exact h3
     obtain rfl:t=k:=I
     exact absurd (h2.symm.trans hy) e
    rintro⟨t,h1,h2⟩;exact⟨t,I,h2⟩
   rw[this]⟩
theorem QQ(x:Int)(h0:0<=x)(h1:x<18446744073709551616)(w:World):
 Calls prog 113 #[[x]] w fun e w'=>e=.returned (.tuple #[.agg #[(rZ x),(tU x)],(jN (yI x) 3)])/\Below w w w':=by
 obtain⟨n,rfl⟩:=Int.eq_ofNat_of_zero_le h0
 have e1:(n:Int)/4294967296=((n/4294967296:Nat):Int):=I
 have e2:(n:Int)%4294967296=((n%4294967296:Nat):Int):=I
 have:=vH n (n/4294967296) (n%4294967296) w I rfl rfl
 unfold rZ tU yI
 rw[e1,e2]
 exact this
theorem WV{x:Int}(h:yI x=true):1<=rZ x/\x≠0:=by
 unfold rZ
 rw[iP h]
 unfold yI fU at h
 rw[decide_eq_true_iff]at h
 refine⟨h.1,fun e=>?_⟩
 subst e
 omega
theorem Ar{x:Int}(h:yI x=false):rZ x=0/\tU x=0:=by
 unfold rZ tU
 rw[h]
 exact⟨rfl,rfl⟩
def Dc(z:Nat->Int)(R:Array Value)(w:World):Prop:=uD R (R.extract 0 19) (nV z) (nW z) (nL z) (jA z) (z 27) (z 28)/\jE (z 0) (oz z) (R.extract 0 19) w
def TC(x:Value):Prop:=∃g,x=.slice (some ⟨g,0,none⟩) 32 32
def Ey(z:Nat->Int)(x:Value)(w:World):Prop:=∃g D,x=.slice (some ⟨g,0,none⟩) 32 32/\aY w g 23 D/\cH D 32 z
structure zE (w W2:World) (C0:Array Value) (a v h g:Nat->Int) (vv nn:Int) (z:Nat->Int) (k:Nat) (wr:World):Prop where
 keep:aD (fun b=>b=w+1) W2 wr
 ex:∃R,aY wr (w,1) 136 R/\uD R C0 a v h g vv nn/\R.all (·.oneCell')=true
 seen:jV z k W2 wr
section
variable{w W2 wr w':World}{C0:Array Value}{a v h g:Nat->Int}{vv nn:Int}{z:Nat->Int}{k:Nat}
theorem zE.below(x:zE w W2 C0 a v h g vv nn z k wr)(hb:Below wr wr w'):zE w W2 C0 a v h g vv nn z k w':=by
 obtain⟨R,h1,h2,h3⟩:=x.ex
 exact⟨x.keep.trans (aD.of_same hb),⟨R,h1.below hb h1.lt,h2,h3⟩,x.seen.below hb⟩
theorem zE.alloc(x:zE w W2 C0 a v h g vv nn z k wr)(o:Obj):zE w W2 C0 a v h g vv nn z k (wr.alloc o):=x.below ((Below.refl _ _).alloc (Nat.le_refl _) o)
theorem zE.put(x:zE w W2 C0 a v h g vv nn z k wr)(hlt:w.heap.size+1<W2)(j:Nat)(hj:j<4)(a1 v1 h1:Int):
 zE w W2 C0 (fun t=>if t=j then a1 else a t) (fun t=>if t=j then v1 else v t) (fun t=>if t=j then h1 else h t) g vv nn z k
  (((wr.setCell ⟨w.heap.size+1,19+j*2,none⟩ (.int .i64 a1)).setCell ⟨w.heap.size+1,19+j*2+1,none⟩ (.int .i64 v1)).setCell ⟨w.heap.size+1,27+j,none⟩ (.int .u64 h1)):=by
 obtain⟨R,q1,q2,q3⟩:=x.ex
 exact⟨((x.keep.setCell' (.inl rfl) _).setCell' (.inl rfl) _).setCell' (.inl rfl) _,⟨_,((q1.set_ _ _).set_ _ _).set_ _ _,q2.step j hj a1 v1 h1,qW (qW (qW q3 rfl) rfl) rfl⟩,
  ((x.seen.far (by show W2.heap.size≠w+1;omega) _).far (by show W2.heap.size≠w+1;omega) _).far (by show W2.heap.size≠w+1;omega) _⟩
theorem zE.turn(x:zE w W2 C0 a v h g vv nn z k wr)(hlt:w.heap.size+1<W2)(j:Nat)(hj:j<4)(g1:Int):
 zE w W2 C0 a v h (fun t=>if t=j then g1 else g t) vv nn z k (wr.setCell ⟨w.heap.size+1,31+j,none⟩ (.int .i64 g1)):=by
 obtain⟨R,q1,q2,q3⟩:=x.ex
 exact⟨x.keep.setCell' (.inl rfl) _,⟨_,q1.set_ _ _,q2.turn j hj g1,qW q3 rfl⟩,x.seen.far (by show W2.heap.size≠w+1;omega) _⟩
theorem zE.see(x:zE w W2 C0 a v h g vv nn z k wr)(hlt:w.heap.size+1<W2)(hg:wr.grownBy w' (some W2))(hs:jV z (k+1) W2 w'):zE w W2 C0 a v h g vv nn z (k+1) w':=by
 obtain⟨R,q1,q2,q3⟩:=x.ex
 exact⟨⟨hg.os.trans x.keep.os,hg.tape.trans x.keep.tape,hg.output.trans x.keep.output,Nat.le_trans x.keep.size hg.size,fun i hi hn=>(hg.block i (Nat.lt_of_lt_of_le hi x.keep.size) (by simp;omega)).trans (x.keep.block i hi hn)⟩,
  ⟨R,(hg.block _ q1.lt (by simp;omega)).trans q1,q2,q3⟩,hs⟩
theorem zE.congr{a' v' h' g':Nat->Int}(x:zE w W2 C0 a v h g vv nn z k wr)(e1:∀t,t<4->a' t=a t)(e2:∀t,t<4->v' t=v t)(e3:∀t,t<4->h' t=h t)(e4:∀t,t<4->g' t=g t):zE w W2 C0 a' v' h' g' vv nn z k wr:=by
 obtain⟨R,q1,q2,q3⟩:=x.ex
 exact⟨x.keep,⟨R,q1,q2.congr e1 e2 e3 e4,q3⟩,x.seen⟩
end
end
section
attribute [local go_sem↓] Go.wp_at_zero Go.wp_at_succ
theorem Dx(j:Int)(hj:j=1\/j=2\/j=3\/j=4)(C:Array Value)(A:Option Addr)(n c:Nat)(xs:List Int)(a k v:Int)(w:World)(h:lD C j A n c (fun _=>0) 0)(hs:fI w A n c xs)(hn:n<=60)(hv: -9223372036854775808<=v/\v<=9223372036854775807):
 Calls prog 191 #[.agg C,.agg #[a,k,v]] w
  (rB (fun D w'=>∃A' n' c',lD D j A' n' c' (fun _=>0) 0/\fI w' A' n' c' (lY j xs a v)/\(0<n'->∀b,A'=some b->(A=some b/\0<n)\/w<=b.block)) (lC j xs a) (lV j xs a) w):=by
 have q:Tg j:=rfl
 rcases hj with rfl|rfl|rfl|rfl
 all_goals
  have c0:=h.kind_
  have c1:=h.list
  have H:=aH h
  have HS:=aH hs
  have HV:=aH hv
  have Id:=aH (mX.mk_ w C a k v)
  clear h hs hv
  go_enter func191,ntmps191
  go_wp2_with fail
  first
  |refine(Dr A n c xs a k v _ (HS.below Id.below) hn HV).mono ?_
  |refine(Cy A n c xs a k v _ (HS.below Id.below) hn HV).mono ?_
  |refine(Ea A n c xs a k v _ (HS.below Id.below) hn HV).mono ?_
  |refine(Cr A n c xs a k v _ (HS.below Id.below) hn HV).mono ?_
  rintro e w1 ⟨A1,n1,c2,rfl,Ns,Gs,hup⟩
  have Hv:=aH Ns
  have HUP:Hid (0<n1->∀b,A1=some b->b.block<w\/w+5<=b.block):=aH fun Lj b hb=>by
   rcases hup Lj with⟨h1,h2⟩|h1
   .left
    subst h1
    obtain⟨b',off,he,hlt,_⟩:=HS.at_ I
    rw[hb]at he
    cases he
    exact hlt
   right
   have:=h1 b hb
   simp at this
   omega
  have HUP2:Hid (0<n1->∀b,A1=some b->(A=some b/\0<n)\/w<=b.block):=aH fun Lj b hb=>by
   rcases hup Lj with⟨h1,h2⟩|h1
   .left;exact⟨by rw[<-h1];exact hb,I⟩
   right
   have:=h1 b hb
   simp at this
   omega
  clear hup
  have Ih:=aH (Id.on Gs)
  have t1:=(Ih.thing.cell 1).trans c1
  have f1:=Ih.thing.frozen 1
  have a0:=Ih.tmp.cell 0
  have a1:=Ih.tmp.cell 1
  have f2:=Ih.tmp.frozen 0
  have f3:=Ih.tmp.frozen 1
  simp only[List.getElem?_toArray,List.getElem?_cons_zero,List.getElem?_cons_succ]at a0 a1
  have Qr:=aH ((Ih.cell 1 (.slice A1 n1 c2)).answer (lC q xs a) (lV q xs a))
  have Lq:=aH (H.setL A1 n1 c2)
  have Jp:Hid ((prog.info? 131).map (·.size)=some (C.setIfInBounds 1 (.slice A1 n1 c2)).size):=by show _=_;rw[jT,Lq.size]
  have Sv:=aH Lq.size
  have Pc:=aH (kM Lq)
  clear Gs Ns c0 c1
  generalize hco:lC q xs a=co at*
  generalize hva:lV q xs a=va at*
  have HCO:=Lib.hid hco
  have HVA:=Lib.hid hva
  clear hco hva
  go_wp2_with fail
  have Ho:Hid (mX w (((w1.setCell ⟨w.heap.size,1,none⟩ (.slice A1 n1 c2)).setCell ⟨w.heap.size+1+1+1+1,0,none⟩ (.int .i64 co)).setCell ⟨w.heap.size+1+1+1+1,1,none⟩ (.int .i64 va)) (C.setIfInBounds 1 (.slice A1 n1 c2)) a k v co va):=Qr
  have Sz:Hid (fI (((w1.setCell ⟨w.heap.size,1,none⟩ (.slice A1 n1 c2)).setCell ⟨w.heap.size+1+1+1+1,0,none⟩ (.int .i64 co)).setCell ⟨w.heap.size+1+1+1+1,1,none⟩ (.int .i64 va)) A1 n1 c2 (lY q xs a v)):=Lib.hid (((Hv.farc (fun hn b hb=>by have:=HUP.out hn b hb;show b.block≠w.heap.size;omega) _).farc (fun hn b hb=>by have:=HUP.out hn b hb;show b.block≠w.heap.size+1+1+1+1;omega) _).farc (fun hn b hb=>by have:=HUP.out hn b hb;show b.block≠w.heap.size+1+1+1+1;omega) _)
  clear Qr Ih Hv t1 f1 a0 a1 f2 f3
  generalize((w1.setCell ⟨w.heap.size,1,none⟩ (.slice A1 n1 c2)).setCell ⟨w.heap.size+1+1+1+1,0,none⟩ (.int .i64 co)).setCell ⟨w.heap.size+1+1+1+1,1,none⟩ (.int .i64 va)=W3 at*
  generalize C.setIfInBounds 1 (.slice A1 n1 c2)=C2 at*
  refine dQ 3 (fun b=>b=w.heap.size+2) [2] (by kernel_rfl) (by kernel_rfl) ?_
  intro anc HA
  refine bA (.agg C2) cX ?_ ?_
  .intro w9 Gq _
   exact bT 131 _ rfl w.heap.size rfl 131 C2 _ ((Gq.block _ Ho.thing.lt (by show¬w.heap.size=w.heap.size+2;omega)).trans Ho.thing) underlying131 rfl Jp aE
  refine bA (.agg #[.int .i64 co,.int .i64 va]) cX ?_ ?_
  .intro w9 Gq _
   exact bT 44 _ rfl (w.heap.size+4) rfl 44 #[.int .i64 co,.int .i64 va] _ ((Gq.block _ Ho.tmp.lt (by show¬w.heap.size+4=w.heap.size+2;omega)).trans Ho.tmp) underlying44 rfl eU aE
  refine bA undef (fun _ w'=>aY w' (w+2) 131 C2) ?_ ?_
  .intro w9 Gq hmet
   have Ie:aY w9 (w,2) 131 (tz 0):=(hmet.1.block _ Ho.res.lt (fun h=>dN h (by rw[HA.out];kernel_rfl))).trans Ho.res
   exact dS 131 _ _ rfl (w,2) C2 rfl rfl 131 (tz 0) Ie Jp (by rw[Sv.out];rfl) Pc ⟨⟨rfl,Ie.setRow C2⟩,fD (.inl ⟨aJ,rfl⟩) _⟩
  refine aZ ?_
  intro w9 Gq hmet
  have Od:Hid (aY w9 (w,2) 131 C2):=aH (by
   have h1:=hmet.1 rfl
   obtain⟨w0,k0,k1,hF⟩:=h1
   exact(k1.block _ hF.lt (fun h=>dN h (by rw[HA.out];kernel_rfl))).trans hF)
  have Pd:Hid (aY w9 (w.heap.size+3) 44 #[.int .i64 0,.int .i64 0]):=Lib.hid ((Gq.block _ Ho.ans.lt (by show¬w.heap.size+3=w.heap.size+2;omega)).trans Ho.ans)
  have Ir:=Lib.hid (Ho.below.trans (Gq.below Ho.below.size (fun b hb e=>by omega)))
  have Qq:=Lib.hid Gq
  clear hmet Gq
  simp only[List.drop_succ_cons,List.drop_zero]
  go_wp2_with (refine wpList_store_row rfl 44 _ _ rfl (w.heap.size+3) #[.int .i64 co,.int .i64 va] rfl rfl 44 #[.int .i64 0,.int .i64 0] Pd eU rfl (jH _ _) ?_)
  have hR:aY (w9.setRow (w.heap.size+3) #[.int .i64 co,.int .i64 va]) (w.heap.size+2) 131 C2:=(setRow_other _ _ _ _ (by omega)).trans Od
  have hA:aY (w9.setRow (w.heap.size+3) #[.int .i64 co,.int .i64 va]) (w.heap.size+3) 44 #[.int .i64 co,.int .i64 va]:=aY.setRow Pd _
  refine bodyPost_ret (bY results191 _ _ (w.heap.size+2) (w.heap.size+3) 131 44 C2 #[.int .i64 co,.int .i64 va] _ _ rfl rfl hR hA underlying131 rfl Jp underlying44 rfl eU) rfl ⟨aL Ir (by omega) _,C2,Sv.out,Pc.out,by rw[HCO.out,HVA.out],?_⟩
  exact⟨A1,n1,c2,Lq.out,(uG Sz Qq (fun hn b hb e=>by have:=HUP.out hn b hb;omega)).setRow (fun hn b hb=>by have:=HUP.out hn b hb;omega) _,HUP2.out⟩
def fG(P:Nat->Prop)(kind:Int)(z:Nat->Int)(C:Array Value)(w:World):Prop:=
 if kind=5 then lD C 5 none 0 0 z 0 else if kind=6 then lD C 6 none 0 0 (fun _=>0) (z 0)else∃A c,lD C kind A (z 0).toNat c (fun _=>0) 0/\fI w A (z 0).toNat c (zL z)/\(0<(z 0).toNat->∀b,A=some b->P b.block)
theorem fG.weak{P:Nat->Prop}{kind:Int}{z:Nat->Int}{C:Array Value}{w:World}(h:fG P kind z C w):jE kind z C w:=by
 unfold fG at h
 unfold jE
 split
 .rename_i e;rwa [iP e]at h
 rename_i e
 rw[iN e]at h
 split
 .rename_i e6;rwa [iP e6]at h
 rename_i e6
 rw[iN e6]at h
 obtain⟨A,c,h1,h2,_⟩:=h
 exact⟨A,c,h1,h2⟩
theorem jE.inside{kind:Int}{z:Nat->Int}{C:Array Value}{w:World}(h:jE kind z C w):fG (fun b=>b<w) kind z C w:=by
 unfold jE at h
 unfold fG
 split
 .rename_i e;rwa [iP e]at h
 rename_i e
 rw[iN e]at h
 split
 .rename_i e6;rwa [iP e6]at h
 rename_i e6
 rw[iN e6]at h
 obtain⟨A,c,h1,h2⟩:=h
 exact⟨A,c,h1,h2,fun hn b hb=>by
  obtain⟨b',off,hA,hlt,_⟩:=h2.at_ hn
  rw[hb]at hA
  cases hA
  exact hlt⟩
theorem fG.mono{P P':Nat->Prop}{kind:Int}{z:Nat->Int}{C:Array Value}{w:World}(h:fG P kind z C w)(hP:∀b,P b->P' b):fG P' kind z C w:=by
 unfold fG at h⊢
 split
 .rename_i e;rwa [iP e]at h
 rename_i e
 rw[iN e]at h
 split
 .rename_i e6;rwa [iP e6]at h
 rename_i e6
 rw[iN e6]at h
 obtain⟨A,c,h1,h2,h3⟩:=h
 exact⟨A,c,h1,h2,fun hn b hb=>hP _ (h3 hn b hb)⟩
theorem fG.keeps{P:Nat->Prop}{kind:Int}{z:Nat->Int}{C:Array Value}{w w':World}{S:Nat->Prop}(h:fG P kind z C w)(hk:aD S w w')(hS:∀b,P b->¬S b):fG P kind z C w':=by
 unfold fG at h⊢
 split
 .rename_i e;rwa [iP e]at h
 rename_i e
 rw[iN e]at h
 split
 .rename_i e6;rwa [iP e6]at h
 rename_i e6
 rw[iN e6]at h
 obtain⟨A,c,h1,h2,h3⟩:=h
 exact⟨A,c,h1,uG h2 hk (fun hn b hb=>hS _ (h3 hn b hb)),h3⟩
theorem AN(P:Nat->Prop)(C:Array Value)(z:Nat->Int)(kind a k v:Int)(m:Nat)(w:World)(hG:∀b,w.heap.size<=b->P b)(hw:VU z)(hz:cK kind z)(ho:gQ a k v)(hm:kind=5->tG z a k m)(h:fG P kind z C w):
 Calls prog 191 #[.agg C,.agg #[a,k,v]] w (rB (fG P kind (BW kind z a k v m)) (IB kind z a k v) (JO kind z a k v) w):=by
 by_cases h5:kind=5
 .refine(yB C z kind a k v m w hw hz ho hm h.weak (.inl h5)).mono fun e w' ⟨hB,D,h1,h2,h3,h4⟩=>⟨hB,D,h1,h2,h3,?_⟩
  unfold jE at h4
  unfold fG
  rw[iP h5]at h4⊢
  exact h4
 by_cases h6:kind=6
 .refine(yB C z kind a k v m w hw hz ho hm h.weak (.inr h6)).mono fun e w' ⟨hB,D,h1,h2,h3,h4⟩=>⟨hB,D,h1,h2,h3,?_⟩
  unfold jE at h4
  unfold fG
  rw[iN h5,iP h6]at h4⊢
  exact h4
 have fit:∀{T T':Array Value->World->Prop} {c x:Int} {e:Ending} {w':World},(∀D w',T D w'->T' D w')->rB T c x w e w'->rB T' c x w e w':=
  fun hT ⟨hB,D,h1,h2,h3,h4⟩=>⟨hB,D,h1,h2,h3,hT _ _ h4⟩
 have hv: -9223372036854775808<=v/\v<=9223372036854775807:=by have:=ho.2.2.2.2;omega
 unfold cK at hz
 unfold fG at h
 unfold IB JO
 simp only[iN h5,iN h6]at hz h⊢
 obtain⟨A,c,hT,hS,hUP⟩:=h
 have hl:gW z:=by
  by_cases h4:kind=4
  .rw[iP h4]at hz;exact hz.1
  rw[iN h4]at hz;exact hz.2.2
 have hk:kind=1\/kind=2\/kind=3\/kind=4:=by
  by_cases h4:kind=4
  .exact .inr (.inr (.inr h4))
  rw[iN h4]at hz;omega
 have hl':=LC (kind:=kind) (LT hw hl) ho
 obtain⟨_,_,e3⟩:=xS hl'
 have h0:=hl.1
 have Ub:=hw 0 I
 have put:∀{D:Array Value} {w':World},(∃A' n' c',lD D kind A' n' c' (fun _=>0) 0/\fI w' A' n' c' (lY kind (zL z) a v)/\(0<n'->∀b,A'=some b->(A=some b/\0<(z 0).toNat)\/w<=b.block))->fG P kind (BW kind z a k v m) D w':=by
  rintro D w' ⟨A',n',c',h1,h2,h3⟩
  have hn':=h2.len
  subst hn'
  unfold fG BW
  simp only[iN h5,iN h6]
  rw[e3]
  have e0:(iT (lY kind (zL z) a v).length (lY kind (zL z) a v) 0).toNat=(lY kind (zL z) a v).length:=by unfold iT;simp
  rw[e0]
  refine⟨A',c',h1,h2,fun hn b hb=>?_⟩
  rcases h3 hn b hb with h9|h9
  .exact hUP h9.2 b h9.1
  exact hG _ h9
 exact(Dx kind hk C A _ c _ a k v w hT hS I hv).mono fun e w' h'=>fit (fun E w' hT=>put hT) h'
end
end Go.Proofs.YtplpimkgihnmhaaGreatDoor
