/-
  Part of a proof: MBase. For all values.
-/
import Derived.Test.YtplpimkgihnmhaaGreatDoorA01
set_option maxRecDepth 100000
set_option maxHeartbeats 400000
set_option linter.all false
namespace Go.Proofs.YtplpimkgihnmhaaGreatDoor
open Go.Proofs.Tryz Go.RowKit
section
open Go
section
variable{P:Program}{ops:Array Oper}
attribute [go_sem] eQ jQ
end
end
section
open Go.ChangeAt Go.ChangeShapes Go.Deep Go.WideShapes
def mH(g:TypeId->Option (List IntKind)):Nat->List Field->Option (List IntKind)
 |_,[]=>some []
 |o,f::r=>if f.offset=o then
   match g f.type with
   |some K=>(mH g (o+K.length) r).map (K++·)
   |none=>none
  else none
def xB(P:Program):Nat->TypeId->Option (List IntKind)
 |0,_=>none
 |n+1,t=>
  match P.underlying t with
  |some (.int k)=>some [k]
  |some (.array m e)=>
   match xB P n e with
   |some K=>if P.cellsOf e=K.length then some ((List.range (m*K.length)).map fun i=>K.getD (i%K.length) .i64)else none
   |none=>none
  |some (.struct fs)=>mH (fun u=>match xB P n u with|some K=>if P.cellsOf u=K.length then some K else none|none=>none) 0 fs.toList
  |_=>none
def uJ(cs:List Value)(o:Nat)(K:List IntKind):Prop:=∀(i:Nat) (k:IntKind),K[i]? =some k->∃z,cs[o+i]? =some (.int k z)/\(Lit.int k z).wf=true
section
variable{H:Type}{enc:TypeId×Value->H}{P:Program}{w:World}{base:Nat}{spare:Nat->Bool}{held:Bool}
theorem rA{g:TypeId->Option (List IntKind)}{cs:List Value}:∀(fs:List Field) (o:Nat) (K:List IntKind),mH g o fs=some K->
 (∀f∈fs,∀Z,g f.type=some Z->uJ cs f.offset Z)->uJ cs o K
 |[],o,K,h,_=>by
  simp [mH]at h;subst h;intro i k hk;simp at hk
 |f::r,o,K,h,hall=>by
  unfold mH at h;by_cases ho:f.offset=o
  .rw[iP ho]at h;cases hg:g f.type with
   |none=>simp [hg]at h
   |some Z=>
    simp only[hg,Option.map_eq_some_iff]at h;obtain⟨R,hR,rfl⟩:=h;have W:=hall f (by simp) Z hg;have V:=rA r (o+Z.length) R hR (fun U Y=>hall U (by simp [Y]));intro i k hk;rw[List.getElem?_append]at hk;by_cases X:i<Z.length
    .rw[iP X]at hk;rw[<-ho];exact W i k hk
    .rw[iN X]at hk;have:=V (i-Z.length) k hk
     rwa [show o+Z.length+(i-Z.length)=o+i by omega]at this
  .rw[iN ho]at h;cases h
theorem sG{cs:List Value}{o n:Nat}{K:List IntKind}(h:uJ ((cs.drop o).take n) 0 K):uJ cs o K:=by
 intro i k Y;obtain⟨z,Z,X⟩:=h i k Y;refine⟨z,?_,X⟩;rw[Nat.zero_add,List.getElem?_take]at Z;split at Z
 .simpa [List.getElem?_drop]using Z
 cases Z
theorem uA:∀(n:Nat) {fuel:Nat} {t:TypeId} {cs:List Value} {x:DataW H×List MemPlace} {K:List IntKind},xB P n t=some K->DataW.trod enc P w base spare held fuel t cs=some x->uJ cs 0 K
 |0,_,_,_,_,_,h,_=>by simp [xB]at h
 |n+1,fuel,t,cs,x,K,h,hx=>by
  unfold xB at h;split at h
  .rename_i k hu;obtain⟨z,rfl,_,hw⟩:=DataW.trod_int hu hx;cases h;intro i C V;cases i with
   |zero=>simp at V;subst V;exact⟨z,by simp,hw⟩
   |succ i=>simp at V
  .rename_i m e hu;split at h
   .rename_i Ke hKe;split at h
    .rename_i hC;cases h;obtain⟨G,F,_,_,S,Q,Z⟩:=DataW.trod_array hu hx;intro i k V;simp only[List.getElem?_map,Option.map_eq_some_iff]at V;obtain⟨j,O,rfl⟩:=V;obtain⟨X,R⟩:=List.getElem?_eq_some_iff.1 O;clear O;simp only[List.length_range]at X;simp only[List.getElem_range]at R;subst R;have U:0<Ke.length:=by
      rcases Nat.eq_zero_or_pos Ke.length with h0|h0
      .rw[h0]at X;simp at X
      exact h0
     have M:i/Ke.length<m:=Nat.div_lt_of_lt_mul (by rw[Nat.mul_comm];exact X);have W:=Z (i/Ke.length) M;rw[List.getElem?_eq_getElem I]at W;rw[hC]at W;have L:=sG (uA n hKe W);have T:i%Ke.length<Ke.length:=Nat.mod_lt _ U;obtain⟨z,E,hw⟩:=L (i%Ke.length) (Ke.getD (i%Ke.length) .i64) (by rw[List.getD_eq_getElem?_getD,List.getElem?_eq_getElem T];rfl);refine⟨z,?_,hw⟩;rw[Nat.zero_add,<-E,Nat.mul_comm,Nat.div_add_mod]
    cases h
   cases h
  .rename_i fs hu;obtain⟨G,F,_,_,S,Q,Z⟩:=DataW.trod_struct hu hx;refine rA _ _ _ h ?_;intro f D B Y;obtain⟨i,N⟩:=List.getElem?_of_mem D;have W:=Z i f (by simpa using N);have T:i<fs.size:=by
    have:=(List.getElem?_eq_some_iff.1 N).1;simpa using this
   rw[List.getElem?_eq_getElem I]at W;cases hg:xB P n f.type with
   |none=>simp [hg]at Y
   |some K2=>
    simp only[hg]at Y;split at Y
    .cases Y;exact sG (uA n hg W)
    .cases Y
  .cases h
def AK(K:List IntKind)(z:Nat->Int):List Value:=(List.range K.length).map fun i=>.int (K.getD i .i64) (z i)
theorem GX{cs:List Value}{K:List IntKind}(X:cs.length=K.length)(h:uJ cs 0 K):∃z:Nat->Int,cs=AK K z/\∀i,i<K.length->(Lit.int (K.getD i .i64) (z i)).wf=true:=by
 have Y:∀i,∃z:Int,i<K.length->cs[i]? =some (.int (K.getD i .i64) z)/\(Lit.int (K.getD i .i64) z).wf=true:=by
  intro i;by_cases Z:i<K.length
  .obtain⟨z,hz,hw⟩:=h i (K.getD i .i64) (by rw[List.getD_eq_getElem?_getD,List.getElem?_eq_getElem Z];rfl);exact⟨z,fun _=>⟨by simpa using hz,hw⟩⟩
  exact⟨0,fun h=>absurd h Z⟩
 refine⟨fun i=>(Y i).choose,?_,fun i Z=>((Y i).choose_spec Z).2⟩;apply List.ext_getElem?;intro i;by_cases Z:i<K.length
 .rw[((Y i).choose_spec Z).1];simp [AK,Z]
 rw[List.getElem?_eq_none I,List.getElem?_eq_none (by simp [AK];omega)]
end
section
variable{H:Type}{enc:TypeId×Value->H}{P:Program}{w:World}{base:Nat}{held:Bool}
theorem Dz{r:Reach}{C:Nat}{t e:TypeId}{v:Value}{d:DataW H}{p:List MemPlace}{K:List IntKind}(m:Nat)(F:P.underlying t=some (.slice e))(B:xB P m e=some K)(y:P.cellsOf e=K.length)(T:0<K.length)
 (x:Value.okWide P w r C t v) (h:DataW.Trod enc P w base (fun _=>true) held t v d p):
 ∃A n c f,v=.slice A n c/\PQ K w A n c f:=by
 obtain⟨A,n,c,rfl⟩:=okWide_slice F x;obtain⟨E,D⟩:=h;rcases DataW.trod_slice F (show DataW.trod enc P w base (fun _=>true) held E t [.slice A n c]=some (d,p)from D)with⟨hcs,_⟩|⟨a,len,cap,elems,rest,n',_,hcs,_,hb,hl,hm,hlen,hel,_,_⟩
 .simp only[List.cons.injEq,Value.slice.injEq,and_true]at hcs;obtain⟨rfl,rfl,rfl⟩:=hcs;exact⟨none,0,0,fun _ _=>0,rfl,⟨Nat.le_refl _,I,fun i j V=>absurd V I,fun h=>absurd h I⟩⟩
 simp only[List.cons.injEq,Value.slice.injEq,and_true]at hcs;obtain⟨rfl,rfl,rfl⟩:=hcs;have Z:∀i,∃z:Nat->Int,i<n->∀j,j<K.length->w.cell? (a.add (i*K.length+j))=some (.int (K.getD j .i64) (z j))/\(Lit.int (K.getD j .i64) (z j)).wf=true:=by
  intro i;by_cases V:i<n
  .have h1:=hel i V;rw[List.getElem?_eq_getElem I,Option.bind_eq_some_iff]at h1;obtain⟨u,W,N⟩:=h1;obtain⟨_,Y,U⟩:=World.cells?_some W;rw[y]at Y U;obtain⟨z,rfl,M⟩:=GX Y (uA m B N);refine⟨z,fun _ j Q=>⟨?_,M j Q⟩⟩;have:=U j Q;rw[Addr.add_add]at this;rw[this];simp [AK,Q]
  exact⟨fun _=>0,fun h=>absurd h V⟩
 refine⟨some a,n,c,fun i=>(Z i).choose,rfl,⟨hl,by unfold maxLen at hm;omega,fun i j V Q=>(((Z i).choose_spec V) j Q).2,fun G=>?_⟩⟩;obtain⟨b,X,L⟩:∃b X,a=⟨b,X,none⟩:=by
  have S:=(((Z 0).choose_spec G) 0 T).1;obtain⟨b,X,O⟩:=a;have R:O=none:=by simpa [Addr.add]using World.cell?_spot S
  exact⟨b,X,by rw[R]⟩
 subst L;refine⟨b,X,rfl,?_,fun i j V Q=>?_⟩
 .have S:=(((Z 0).choose_spec G) 0 T).1;rw[Go.WideShapes.add_plain]at S;exact World.block_lt_of_cell? w _ S
 have S:=(((Z i).choose_spec V) j Q).1;rw[Go.WideShapes.add_plain]at S;rw[Nat.add_assoc];exact S
end
end
section
instance {j : Int} {h : Tg j} : CoeDep (Tg j) h Int := ⟨j⟩
instance {j : Int} {h : Tg j} : CoeDep (Tg j) h Value := ⟨.int .i64 j⟩
