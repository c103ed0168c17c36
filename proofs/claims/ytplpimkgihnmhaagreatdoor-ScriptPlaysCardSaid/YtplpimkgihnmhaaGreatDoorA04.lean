/-
  Parts of a proof. For all values.
-/
import Derived.Deep.Onto
import Derived.Deep.RegionLawGrows
import Derived.Test.YtplpimkgihnmhaaGreatDoorA01
set_option maxRecDepth 100000
set_option maxHeartbeats 2000000
set_option linter.all false
namespace Go.Proofs.YtplpimkgihnmhaaGreatDoor
open Go.Proofs.Tryz Go.RowKit
variable{w w' w1:World}{n B i m g k j:Nat}{xs ys:List Int}{A:Option Addr}{z:Nat->Int}{a:Act}{o:Oper}{cs C:Array Value}{P:Program}{p q:Addr}{vs:List Value}{t:TypeId}{rest:List Oper}{u u':Value}{co va:Int}
section
def fF(cs:Array Value):Nat->List Value->Array Value
 |_,[]=>cs
 |o,v::r=>fF (cs.setIfInBounds o v) (o+1) r
theorem fA:∀(vs:List Value) (o:Nat) (cs:Array Value),(fF cs o vs).size=cs.size
 |[],_,_=>rfl
 |v::r,o,cs=>by rw[fF,fA r];simp
theorem iR:∀(vs:List Value) (o:Nat) (cs:Array Value) (i:Nat),i<cs.size->(fF cs o vs)[i]? =if o<=i/\i<o+vs.length then vs[i-o]? else cs[i]?
 |[],o,cs,i,_=>by rw[fF,iN (by simp only[List.length_nil];omega)]
 |v::r,o,cs,i,hi=>by
  rw[fF,iR r (o+1) _ i (by simpa using hi),Array.getElem?_setIfInBounds];by_cases h:o=i
  .subst h;rw[iN I,iP rfl,iP hi,iP (by simp),Nat.sub_self];try rfl
  .rw[iN h];by_cases h2:o+1<=i/\i<o+1+r.length
   .rw[iP h2,iP (by simp only[List.length_cons];omega),show i-o=(i-(o+1))+1 by omega];try rfl
   rw[iN h2,iN (by simp only[List.length_cons];omega)]
theorem aAG{o:Nat}(Z:i<vs.length)(h:o+vs.length<=cs.size):(fF cs o vs)[o+i]? =vs[i]? :=by
 rw[iR vs o cs _ I,iP I,Nat.add_sub_cancel_left]
theorem iB{o:Nat}(Z:i<o\/o+vs.length<=i):(fF cs o vs)[i]? =cs[i]? :=by
 rcases Nat.lt_or_ge i cs.size with h|h
 .rw[iR vs o cs _ h,iN I]
 rw[Array.getElem?_eq_none (by rw[fA];exact h),Array.getElem?_eq_none h]
theorem uN{o:Nat}(X:cs.all (·.oneCell')=true)(W:∀v∈vs,v.oneCell'=true):(fF cs o vs).all (·.oneCell')=true:=by
 rw[Array.all_eq_true]at X⊢;intro i Y;have Z:i<cs.size:=by rwa [fA]at Y
 have e:=iR vs o cs i Z;rw[Array.getElem?_eq_getElem Y]at e;by_cases h:o<=i/\i<o+vs.length
 .rw[iP h,List.getElem?_eq_getElem I]at e;rw[Option.some.inj e];exact W _ (List.getElem_mem _)
 rw[iN h,Array.getElem?_eq_getElem Z]at e;rw[Option.some.inj e];exact X i Z
theorem aY.setCells:∀{vs:List Value} {o:Nat} {w:World} {cs:Array Value},aY w g t cs->aY (w.setCells g o vs) g t (fF cs o vs)
 |[],_,_,_,h=>h
 |v::r,o,w,cs,h=>by
  rw[World.setCells,fF];exact aY.setCells (h.set_ o v)
theorem kN(g:Nat):∀(vs:List Value) (o:Nat) (w:World) (k:Nat),k≠g->(w.setCells g o vs).heap[k]? =w.heap[k]?
 |[],_,_,_,_=>rfl
 |v::r,o,w,k,h=>by
  rw[World.setCells,kN g r _ _ k h];exact Below.heap_setCell w _ v k h
theorem mD(g:Nat):∀(vs:List Value) (o:Nat) (w:World),(w.setCells g o vs).heap.size=w
 |[],_,_=>rfl
 |v::r,o,w=>by rw[World.setCells,mD g r];simp
theorem nM(g:Nat):∀(vs:List Value) (o:Nat) (w:World),(w.setCells g o vs).os=w.os/\(w.setCells g o vs).tape=w.tape/\(w.setCells g o vs).output=w.output
 |[],_,_=>⟨rfl,rfl,rfl⟩
 |v::r,o,w=>by
  obtain⟨a,b,c⟩:=nM g r (o+1) (w.setCell (g,o) v);exact⟨a,b,c⟩
theorem aY.far_cells{Z:Nat}(h:aY w Z t cs)(Y:Z≠g)(o:Nat)(vs:List Value):aY (w.setCells g o vs) Z t cs:=(kN g vs o w Z Y).trans h
theorem cE{S:Nat->Prop}(h:S g\/w.heap.size<=g)(o:Nat)(vs:List Value):aD S w (w.setCells g o vs):=by
 obtain⟨a,b,c⟩:=nM g vs o w;refine⟨a,b,c,by rw[mD];exact Nat.le_refl _,fun k Y Z=>kN g vs o w k (fun e=>?_)⟩;subst e;rcases h with h|h
 .exact Z h
 omega
theorem vJ{a:World}(h:Below B a w)(Y:B<=g)(o:Nat)(vs:List Value):Below B a (w.setCells g o vs):=by
 obtain⟨x,y,z⟩:=nM g vs o w;exact h.trans ⟨x,y,z,by rw[mD];exact Nat.le_refl _,fun k Z=>kN g vs o w k I⟩
theorem dA{T:Value->World->Prop}(ty:TypeId)(x y:Operand)(Y:o.op=.store ty x y)(b Z:Nat)(cells:Array Value)(X:a.eval x=.pointer (some ⟨b,Z,none⟩))(W:a.eval y=.agg cells)
 (V:w.there b Z cells.size) (U:(P.info? ty).map (·.size)=some cells.size) (S:cells.all (·.oneCell')=true) (R:T undef (w.setCells b Z cells.toList)):eQ P o a w T:=by
 unfold eQ execOp;simp only[Y,X,W,Instr.storeAt,Instr.sureAddr,Sem.run_bind,Sem.run_pure,Result.andThen_ok,run_storeVar_mid w b Z ty cells V U S];exact R
theorem aY.there(h:aY w g t cs){o:Nat}(Y:o+n<=cs.size):w.there g o n:=fun j Z=>
 ⟨by rw[h.cell,Array.getElem?_eq_getElem I];rfl,h.frozen _⟩
theorem dQ{X:Nat}{l:List Oper}{Q:Exit->Act->World->Prop}(m:Nat)(S:Nat->Prop)(Y:List Nat)(W:P.follows .mixedOrders=true)(V:Rely.okB l.toArray m=true)
 (h:∀Z:Nat->Nat->Bool,Hid (Z=vK (oB l.toArray l.toArray.size))->eR P l.toArray w S Y Z (fun a w=>wpList P l.toArray Q (l.drop m) a w) (l.take m) 0 [] [] a (fun _=>undef)):(Code.region X l.toArray true).wp P Q a w:=
 bK m S Y W V (h _ (aH rfl))
theorem bR{fn:Func}{p q:Tmp}{ty:TypeId}(h:fn.results= #[.cell p ty,.tmp q])(Z:Array Value)(w:World)(g:Nat)(t:TypeId)(cs:Array Value)(d:TypeDesc)(v:Value)
 (W:Z.getD p undef=.pointer (some ⟨g,0,none⟩)) (V:Z.getD q undef=v) (U:aY w g t cs)
 (T:P.underlying ty=some d) (S:(match d with|.struct _|.array _ _=>true|_=>false)=true) (R:(P.info? ty).map (·.size)=some cs.size):
 (results fn Z).run P w=.ok (.tuple #[.agg cs,v]) w:=by
 have Y:Z[p]?.getD undef=.pointer (some ⟨g,0,none⟩):=by simpa using W
 have X:Z[q]?.getD undef=v:=by simpa using V
 simp [results,h,Y,X,asAddr,run_loadVar_row w g t ty cs (0,0) d U T S R]
theorem pG{T:Value->World->Prop}(ty:TypeId)(x:Operand)(Y:o.op=.load ty x)(b Z:Nat)(X:a.eval x=.pointer (some ⟨b,Z,none⟩))
 (cs:List Value) (d:TypeDesc) (W:w.rangeAt b Z cs) (V:P.underlying ty=some d) (U:d.isRow=true) (S:(P.info? ty).map (·.size)=some cs.length) (R:T (.agg cs.toArray) w):eQ P o a w T:=by
 unfold eQ execOp;simp only[Y,X,Instr.loadAt,Instr.sureAddr,Sem.run_bind,Sem.run_pure,Result.andThen_ok,run_loadVar_mid w b Z ty cs d W V U S,jQ];exact R
theorem eG{T:Value->World->Prop}(ty:TypeId)(x:Operand)(Y:o.op=.load ty x)(b Z:Nat)(X:a.eval x=.pointer (some ⟨b,Z,none⟩))
 (C:Array Value) (d:TypeDesc) (W:w.rangeAt b Z C.toList) (V:P.underlying ty=some d) (U:d.isRow=true) (S:(P.info? ty).map (·.size)=some C.size) (R:T (.agg C) w):eQ P o a w T:=
 pG ty x Y b Z X C.toList d W V U (by rw[S,Array.length_toList]) (by rw[Array.toArray_toList];exact R)
section
variable{P:Program}{ops:Array Oper}{rest:List Oper}{a:Act}{w:World}{Q:Exit->Act->World->Prop}{ty':TypeId}{pos:String}{af:Array Edge}
theorem oI(ty:TypeId){x y:Operand}(b o:Nat)(cells:Array Value)(Z:a.eval x=.pointer (some ⟨b,o,none⟩))(Y:a.eval y=.agg cells)
 (X:w.there b o cells.size) (W:(P.info? ty).map (·.size)=some cells.size) (V:cells.all (·.oneCell')=true)
 (h:wpList P ops Q rest a (w.setCells b o cells.toList)):wpList P ops Q ({dst:=none,op:=.store ty x y,type:=ty',pos:=pos,after:=af,guard:=none}::rest) a w:=
 wpList_store_mid rfl ty x y rfl b o cells Z Y X W V h
theorem OJ(ty:TypeId){x:Operand}{d:Option Tmp}(b o:Nat)(C:Array Value){Z:TypeDesc}(Y:a.eval x=.pointer (some ⟨b,o,none⟩))(X:w.rangeAt b o C.toList)(W:P.underlying ty=some Z)
 (V:Z.isRow=true) (U:(P.info? ty).map (·.size)=some C.size)
 (h:wpList P ops Q rest (a.put d (.agg C)) w):wpList P ops Q ({dst:=d,op:=.load ty x,type:=ty',pos:=pos,after:=af,guard:=none}::rest) a w:=
 wpList_load_mid rfl ty x rfl b o Y C.toList Z X W V (by rw[U,Array.length_toList]) (by rw[Array.toArray_toList];exact h)
end
end
section
attribute [local go_sem↓] Go.wp_at_zero Go.wp_at_succ
structure eB (C:Array Value) (n:Nat) (z:Nat->Int):Prop where
 size:C.size=n
 get:∀i,i<n->C[i]? =some (.int .i64 (z i))
 bd:∀i,i<n->-9223372036854775808<=z i/\z i<=9223372036854775807
theorem eB.pair(h:eB C n z)(i:Nat)(Y:i+2<=n):C.extract i (i+2)= #[.int .i64 (z i),.int .i64 (z (i+1))]:=by
 apply Array.ext_getElem?;intro j;have Z:=h.size;rw[Array.getElem?_extract];rcases Nat.lt_or_ge j 2 with hj|hj
 .rw[if_pos I,h.get (i+j) I];rcases j with _|_|j
  .rfl
  .rfl
  .omega
 .rw[if_neg I,Array.getElem?_eq_none (by simpa using hj)]
theorem eB.one(h:eB C n z):C.all (·.oneCell')=true:=by
 rw[Array.all_eq_true];intro i Z;have e:=h.get i (by rw[<-h.size];exact Z);rw[Array.getElem?_eq_getElem Z]at e;rw[Option.some.inj e];rfl
theorem Di(w:World):(sizeOf 282).run prog w=.ok 2 w:=J
theorem Ff(w:World):(isAgg 282).run prog w=.ok true w:=J
theorem mJ(h:eB C 16 z)(k:Nat)(X:k<8)(w:World):(Instr.index 284 (.agg C) k).run prog w=.ok (.agg #[(z (2*k)),(z (2*k+1))]) w:=by
 have Z:=h.pair (2*k) I;have Y:(k:Int)<8:=I;simp [Instr.index,asIntOf,run_underlying underlying284,part,Ff,Di,Y];rw[if_pos X,Nat.mul_comm k 2,Z]
def eV(z:Nat->Int)(k:Nat):Int:=((List.range k).filter fun i=>decide (z (2*i)≠0)).length
theorem lU(z:Nat->Int)(k:Nat):eV z (k+1)=eV z k+if z (2*k)≠0 then 1 else 0:=by
 unfold eV;rw[List.range_succ,List.filter_append];by_cases h:z (2*k)=0<;>simp [h]
theorem sQ(z:Nat->Int)(k:Nat):0<=eV z k/\eV z k<=k:=by
 unfold eV;have:=List.length_filter_le (fun i=>decide (z (2*i)≠0)) (List.range k);simp at this⊢;omega
theorem vP(C:Array Value)(z:Nat->Int)(w:World)(h:eB C 16 z):
 Calls prog 183 #[.agg C] w fun e w'=>e=.returned (eV z 8)/\Below w w w':=by
 have H:=aH h;have S:=h.size;have R:(prog.info? 284).map (·.size)=some C.size:=by rw[S];kernel_rfl
 have O:=aH R;clear R S h;have Q:=underlying284;have N:=Lib.hid Q;clear Q;have P:∀k,k<8->C.extract (2*k) (2*k+2)= #[.int .i64 (z (2*k)),.int .i64 (z (2*k+1))]:=fun k K=>H.out.pair (2*k) (by omega)
 have G:=aH P;clear P
 go_enter func183,ntmps183
 go_wp2_with (refine wpList_load_row rfl 284 _ rfl w rfl 284 C (0,0) _ ?ha N.out rfl ?hb1 ?_)
 case ha=>exact aY.new _ _ _
 case hb1=>exact O.out
 go_wp2
 go_loopw [3,7] (fun n i wr=>∃k:Nat,k<=8/\i=.int .i64 k/\n=.int .i64 (eV z k)/\Below w w wr) (fun _ i _=>8-(intOf i).toNat)
 case atStart=>exact⟨0,I,rfl,rfl,by go_grown⟩
 case round=>
  obtain⟨k,K,rfl,rfl,U⟩:=hrel;by_cases T:k<8
  .have b1:(k:Int)<8:=I;have M:=mJ H.out k T;have W:=lU z k;have L:=sQ z k;have V:=aH W;clear W;generalize F:z (2*k)=y at*;by_cases Z:y=0
   .have hyb:(y !=0)=false:=by simpa using Z
    have Y:eV z (k+1)=eV z k:=by rw[V.out,if_neg (by simpa using Z)];omega
    have X:=aH Y;clear Y Z;go_wp2;go_roundw
    case rel=>exact⟨k+1,I,aG,by rw[X.out],U.alloc U.size _⟩
    case measure=>simp [intOf];omega
   .have hyb:(y !=0)=true:=by simpa using Z
    have Y:eV z (k+1)=eV z k+1:=by rw[V.out,if_pos (by simpa using Z)]
    have X:=aH Y;clear Y Z;go_wp2;go_roundw
    case rel=>exact⟨k+1,I,aG,by rw[X.out],U.alloc U.size _⟩
    case measure=>simp [intOf];omega
  .obtain rfl:k=8:=I;go_wp2;go_ret;exact⟨rfl,U⟩
def dR(key k:Nat):Nat:=(key*5%8+k)%8
theorem mY(key k:Nat):dR key k<8:=Nat.mod_lt _ aJ
def gL(z:Nat->Int)(key:Nat)(k:Nat):Bool:=decide (z (2*dR key k)=key\/z (2*dR key k)=0)
def kF(z:Nat->Int)(key:Nat):Int:=match(List.range 8).find? (gL z key)with|some k=>(dR key k:Int)|none=> -1
theorem mC{p:Nat->Bool}(Y:k<n)(h:p k=true)(X:∀j,j<k->p j=false):(List.range n).find? p=some k:=by
 rw[List.find?_range_eq_some];refine⟨h,by simpa using Y,fun j Z=>by simpa using X j Z⟩
theorem pJ{p:Nat->Bool}(Y:∀j,j<n->p j=false):(List.range n).find? p=none:=by
 rw[List.find?_eq_none];intro x Z;simp at Z;simp [Y x Z]
theorem QH(key:Nat)(w:World)(Y:key<=1000):Calls prog 194 #[key] w fun e w'=>e=.returned ((key*5%8:Nat):Int)/\w=w':=by
 have Z:(key:Int)<=1000:=I
 go_enter func194,ntmps194
 go_wp2;go_ret;exact⟨gU I,rfl⟩
theorem TH(C:Array Value)(z:Nat->Int)(g key:Nat)(w:World)(h:eB C 16 z)(S:aY w g 284 C)(v:key<=1000):
 Calls prog 184 #[(g,0),key] w fun e w'=>e=.returned (kF z key)/\Below w w w':=by
 have H:=aH h;clear h;have W:=S.lt;have K:=aH S;clear S
 go_enter func184,ntmps184
 go_wp2
 go_loopw [7] (fun i wr=>∃k:Nat,k<=8/\i=.int .i64 k/\Below w w wr/\Hid (∀j,j<k->gL z key j=false)) (fun i _=>8-(intOf i).toNat)
 case atStart=>exact⟨0,I,rfl,Below.refl _ _,fun j O=>absurd O I⟩
 case round=>
  obtain⟨k,v,rfl,X,Z⟩:=hrel;by_cases T:k<8
  .have b1:(k:Int)<8:=I;have G:=mY key k;have V:wr.cell? (g,dR key k*2)=(z (2*dR key k)):=(X.cell (p:=⟨g,dR key k*2,none⟩) W).trans (by rw[Nat.mul_comm,K.out.cell,H.out.get _ I]);have Y:(((key*5%8:Nat):Int)+k)%8=((dR key k:Nat):Int):=by unfold dR;omega
   have F:((key*5%8:Nat):Int)<8:=I;generalize N:key*5%8=m at*;generalize M:dR key k=r at*;have E:=aH N;have R:=aH M;clear N M;have D:(r:Int)<8:=I;generalize L:z (2*r)=y at*;have B:=aH L;clear L;have U:Hid (gL z key k=decide (y=key\/y=0)):=by unfold gL;rw[R.out,B.out];exact rfl
   have Q:Hid (gL z key k=true->kF z key=(r:Int)):=fun u=>by
    have A:(List.range 8).find? (gL z key)=some k:=mC T u Z.out;unfold kF;rw[A,<-R.out]
   go_wp2_with (go_at_call 194;refine(QH key _ (by assumption)).mono ?_;rintro e w' ⟨rfl,rfl⟩;rw[E.out])
   .go_ret;exact⟨gU (Y.trans (Q.out (by rw[U.out];simp_all)).symm),X⟩
   .go_ret;exact⟨gU (Y.trans (Q.out (by rw[U.out];simp_all)).symm),X⟩
   go_roundw
   case rel=>exact⟨k+1,I,aG,X,aH fun j O=>by
    rcases Nat.lt_or_ge j k with h|h
    .exact Z.out j h
    obtain rfl:j=k:=I;rw[U.out]
    simp_all⟩
   case measure=>simp [intOf];omega
  obtain rfl:k=8:=I;have P:(List.range 8).find? (gL z key)=none:=pJ Z.out;have x:Hid (kF z key= -1):=by unfold kF;rw[P];exact rfl
  clear P;go_wp2;go_ret;exact⟨gU x.out.symm,X⟩
theorem VI(C:Array Value)(z:Nat->Int)(g:Nat)(key:Int)(w:World)(h:eB C 16 z)(Z:aY w g 284 C)(Y:0<=key)(X:key<=1000):
 Calls prog 184 #[(g,0),key] w fun e w'=>e=.returned (kF z key.toNat)/\Below w w w':=by
 obtain⟨q,rfl⟩:=Int.eq_ofNat_of_zero_le Y;simpa using TH C z g q w h Z I
def iL(z:Nat->Int)(i:Nat):Bool:=decide (0<=z (2*i)/\z (2*i)<=1000/\0<=z (2*i+1)/\z (2*i+1)<=4294967295/\(z (2*i)=0->z (2*i+1)=0)/\(z (2*i)≠0->kF z (z (2*i)).toNat=i))
def cS(z:Nat->Int):Bool:=decide (eV z 8<=6)&&(List.range 8).all (iL z)
theorem AD(Z:k<8)(h:iL z k=false):cS z=false:=by
 unfold cS;rw[Bool.and_eq_false_iff];right;rw[List.all_eq_false];exact⟨k,by simpa using Z,by simp [h]⟩
theorem rU(Y:eV z 8<=6)(h:∀i,i<8->iL z i=true):cS z=true:=by
 unfold cS;rw[Bool.and_eq_true];exact⟨by simpa using Y,by rw[List.all_eq_true];intro x Z;exact h x (by simpa using Z)⟩
theorem AF(C:Array Value)(z:Nat->Int)(w:World)(h:eB C 16 z):
 Calls prog 182 #[.agg C] w fun e w'=>e=.returned (cS z)/\Below w w w':=by
 have H:=aH h;have F:=h.size;have E:(prog.info? 284).map (·.size)=some C.size:=by rw[F];kernel_rfl
 have x:=aH E;clear E F h;have D:=underlying284;have u:=aH D;clear D;have Q:=sQ z 8;obtain⟨l,K⟩:=aP (eV z 8);rw[K]at Q;have P:=aH K;clear K;have V:aY (w.alloc (.cells C 284)) w 284 C:=aY.new _ _ _;have X:=aH V;clear V
 go_enter func182,ntmps182
 go_wp2_with (first
  |(refine wpList_load_row rfl 284 _ rfl w rfl 284 C (0,0) _ ?_ u.out rfl ?_ ?_;(first|exact X.out|exact X.out.below Z (by simp));(exact x.out))
  |(go_at_call 183;refine(vP C z _ H.out).mono ?_;rintro e G ⟨rfl,Z⟩;rw[P.out]))
 .go_ret;have t:6<l:=by assumption
  exact⟨dF (by
   have e:cS z=false:=by
    unfold cS;rw[Bool.and_eq_false_iff];left;rw[P.out];simp;omega
   rw[e]),Below.trans (by go_grown) (Z.mono (by simp))⟩
 have O:l<=6:=by assumption
 have U:=aH (X.out.below Z (by simp));have N:Below w w G:=Below.trans (by go_grown) (Z.mono (by simp));have M:=Z.size;simp only[World.size_alloc]at M;clear Z
 go_loopw [9] (fun i wr=>∃k:Nat,k<=8/\i=.int .i64 k/\Below G G wr/\Hid (∀j,j<k->iL z j=true)) (fun i _=>8-(intOf i).toNat)
 case atStart=>exact⟨0,I,rfl,Below.refl _ _,fun j A=>absurd A I⟩
 case round=>
  obtain⟨k,n,rfl,W,Y⟩:=hrel;have s:=W.size;by_cases R:k<8
  .have b1:(k:Int)<8:=I;have r:=mJ H.out k R;have T:=aH ((U.out.below W I).alloc (.cells #[(z (2*k)),(z (2*k+1))] 282));have q:=H.out.bd (2*k) I;have B:Hid (iL z k=decide (0<=z (2*k)/\z (2*k)<=1000/\0<=z (2*k+1)/\z (2*k+1)<=4294967295/\(z (2*k)=0->z (2*k+1)=0)/\(z (2*k)≠0->kF z (z (2*k)).toNat=k))):=rfl;generalize p:z (2*k)=y at*;generalize o:z (2*k+1)=v at*;clear p o;have L:Hid (iL z k=false->cS z=false):=fun h=>AD R h
   go_wp2_with (go_at_call 184;refine(VI C z w y _ H.out T.out (by assumption) (by assumption)).mono ?_;rintro e m ⟨rfl,S⟩)
   all_goals first
    |(go_ret
      refine⟨dF (by
       rw[L.out (by rw[B.out];simp only[bne_iff_ne,ne_eq,decide_eq_false_iff_not]at*;omega)]),?_⟩
      first
      |exact N.trans ((W.alloc I _).mono I)
      |exact N.trans (((W.alloc I _).trans (S.mono (by simp;omega))).mono I))
    |(refine⟨⟨k+1,I,aG,?_,aH fun j A=>?_⟩,by simp [intOf];omega⟩
      .first
       |exact W.alloc I _
       |exact(W.alloc I _).trans (S.mono (by simp;omega))
      .rcases Nat.lt_or_ge j k with h|h
       .exact Y.out j h
       obtain rfl:j=k:=I;rw[B.out];simp only[bne_eq_false_iff_eq,decide_eq_true_eq]at*;omega)
  obtain rfl:k=8:=I;go_wp2;go_ret;exact⟨dF (by rw[rU (by rw[P.out];exact O) Y.out]),N.trans (W.mono I)⟩
end
section
def setS(z:Nat->Int)(i:Nat)(k v:Int):Nat->Int:=fun j=>if j=2*i then k else if j=2*i+1 then v else z j
theorem dI(z:Nat->Int)(i:Nat)(k v:Int)(x:Nat):setS z i k v (2*x)=if x=i then k else z (2*x):=by
 unfold setS;by_cases h:x=i
 .subst h;simp
 rw[iN I,iN I,iN h]
theorem sI(z:Nat->Int)(i:Nat)(k v:Int)(x:Nat):setS z i k v (2*x+1)=if x=i then v else z (2*x+1):=by
 unfold setS;by_cases h:x=i
 .subst h;simp
 rw[iN I,iN I,iN h]
def kk(i x:Nat):Nat:=(i+1+x)%8
theorem vD(i x:Nat):kk i x<8:=Nat.mod_lt _ aJ
theorem qE(h:cS z=true)(Z:k<8):iL z k=true:=by
 unfold cS at h;rw[Bool.and_eq_true,List.all_eq_true]at h;exact h.2 k (by simpa using Z)
theorem oO(h:cS z=true):eV z 8<=6:=by
 unfold cS at h;rw[Bool.and_eq_true]at h;simpa using h.1
theorem nB(h:cS z=true)(Z:k<8):0<=z (2*k)/\z (2*k)<=1000/\0<=z (2*k+1)/\z (2*k+1)<=4294967295/\(z (2*k)=0->z (2*k+1)=0):=by
 have:=qE h Z;unfold iL at this;simp only[decide_eq_true_eq]at this;exact⟨this.1,this.2.1,this.2.2.1,this.2.2.2.1,this.2.2.2.2.1⟩
theorem TT(h:cS z=true)(V:k<8)(U:z (2*k)≠0):∃d,d<8/\dR (z (2*k)).toNat d=k/\∀b,b<d->z (2*dR (z (2*k)).toNat b)≠0:=by
 have:=qE h V;unfold iL at this;simp only[decide_eq_true_eq]at this;have Z:=this.2.2.2.2.2 U;unfold kF at Z;split at Z
 .rename_i d hd;rw[List.find?_range_eq_some]at hd;obtain⟨_,Y,X⟩:=hd;simp at Y;refine⟨d,Y,I,fun b W=>?_⟩;have:=X b W;unfold gL at this;simp at this;exact this.2
 omega
theorem EP{key d:Nat}(V:d<8)(U:z (2*dR key d)=0):∃a,a<=d/\kF z key=dR key a/\gL z key a=true:=by
 have Y:gL z key d=true:=by unfold gL;simp [U]
 cases hf:(List.range 8).find? (gL z key)with
 |none=>
  rw[List.find?_eq_none]at hf;exact absurd Y (hf d (by simpa using V))
 |some a=>
  have Z:=hf;rw[List.find?_range_eq_some]at hf;obtain⟨X,T,W⟩:=hf;refine⟨a,?_,by unfold kF;rw[Z],X⟩;rcases Nat.lt_or_ge d a with h|h
  .have:=W d h;simp [Y]at this
  .exact h
structure vI (z:Nat->Int) (i m:Nat):Prop where
 right:cS z=true
 hi:i<8
 hz:z (2*i)≠0
 m7:m<=7
 occ:∀x,x<m->setS z i 0 0 (2*kk i x)≠0
 free:setS z i 0 0 (2*kk i m)=0
theorem AG(h:∀x,x<8->z (2*x)≠0):eV z 8=8:=by
 unfold eV;rw[List.filter_eq_self.2 (fun x Z=>by simpa using h x (by simpa using Z))];rfl
theorem vI.m6(b:vI z i m):m<=6:=by
 rcases Nat.lt_or_ge m 7 with h|h
 .omega
 exfalso;obtain rfl:m=7:=by have:=b.m7;omega
 have Y:=oO b.right;rw[AG (fun x X=>?_)]at Y
 .omega
 by_cases Z:x=i
 .subst Z;exact b.hz
 have:=b.occ ((x+7-i)%8) (by have:=b.hi;omega);have e:kk i ((x+7-i)%8)=x:=by unfold kk;have:=b.hi;omega
 rw[e,dI,iN Z]at this;exact this
theorem JQ(U:cS z=true)(T:i<8)(S:z (2*i)≠0):∃m,vI z i m:=by
 have X:setS z i 0 0 (2*kk i 7)=0:=by
  rw[dI,iP (by unfold kk;omega)]
 have:∃m,m<=7/\setS z i 0 0 (2*kk i m)=0/\∀x,x<m->setS z i 0 0 (2*kk i x)≠0:=by
  have key:∀n,n<=7->(∀x,x<7-n->setS z i 0 0 (2*kk i x)≠0)->∃m,m<=7/\setS z i 0 0 (2*kk i m)=0/\∀x,x<m->setS z i 0 0 (2*kk i x)≠0:=by
   intro n
   induction n with
   |zero=>intro _ h;exact⟨7,Nat.le_refl _,X,h⟩
   |succ n ih=>
    intro R h;by_cases Y:setS z i 0 0 (2*kk i (7-(n+1)))=0
    .exact⟨_,I,Y,h⟩
    .refine ih I fun x Z=>?_
     rcases Nat.lt_or_ge x (7-(n+1))with h1|h1
     .exact h x h1
     obtain rfl:x=7-(n+1):=I;exact Y
  exact key 7 (Nat.le_refl _) (fun x Z=>absurd Z I)
 obtain⟨m,h1,W,V⟩:=this;exact⟨m,U,T,S,h1,V,W⟩
def xP(T z:Nat->Int)(i j m:Nat):Prop:=∀x,j<=x->x<=m->T (2*kk i x)=z (2*kk i x)/\T (2*kk i x+1)=z (2*kk i x+1)
theorem vI.step(b:vI z i m)(G:j<m){T:Nat->Int}(F:xP T (setS z i 0 0) i j m):
 ∃p:Nat,p<8/\kF (setS T (kk i j) 0 0) (T (2*kk i j)).toNat=(p:Int)/\∀x,j<x->x<=m->kk i x≠p:=by
 have E:=b.m6;have D:=b.hi;have X:kk i j≠i:=by unfold kk;omega
 have Q:T (2*kk i j)=z (2*kk i j):=by rw[(F j (Nat.le_refl _) I).1,dI,iN X]
 have P:z (2*kk i j)≠0:=by have:=b.occ j G;rwa [dI,iN X]at this
 obtain⟨d,M,Z,Y⟩:=TT b.right (vD i j) P;rw[Q];generalize C:(z (2*kk i j)).toNat=q at*;obtain⟨a,L,S,_⟩:=EP (z:=setS T (kk i j) 0 0) (key:=q) M (by rw[dI,iP Z]);refine⟨dR q a,mY _ _,S,fun x K H V=>?_⟩;have O:a+(m-x)<d:=by
  unfold dR at V Z;unfold kk at V Z;omega
 have N:dR q (a+(m-x))=kk i m:=by
  unfold dR at V⊢;unfold kk at V⊢;omega
 have R:=Y _ O;rw[N]at R;have U:=b.free;rw[dI]at U;by_cases W:kk i m=i
 .unfold kk at W;omega
 rw[iN W]at U;exact R U
def rC(T:Nat->Int)(k:Nat):Nat->Int:=setS (setS T k 0 0) (kF (setS T k 0 0) (T (2*k)).toNat).toNat (T (2*k)) (T (2*k+1))
def iX(z:Nat->Int)(i:Nat):Nat->Nat->Int
 |0=>setS z i 0 0
 |j+1=>rC (iX z i j) (kk i j)
theorem vI.next(b:vI z i m)(Q:j<m){T:Nat->Int}(S:xP T (setS z i 0 0) i j m):xP (rC T (kk i j)) (setS z i 0 0) i (j+1) m:=by
 intro x R Z;obtain⟨p,O,Y,X⟩:=b.step Q S;have P:=b.m6;have W:=X x I Z;have V:kk i x≠kk i j:=by unfold kk;omega
 have U:=S x I Z;unfold rC;rw[Y,Int.toNat_natCast];refine⟨?_,?_⟩
 .rw[dI,iN W,dI,iN V];exact U.1
 rw[sI,iN W,sI,iN V];exact U.2
theorem vI.run(b:vI z i m):∀j,j<=m->xP (iX z i j) (setS z i 0 0) i j m
 |0,_=>fun _ _ _=>⟨rfl,rfl⟩
 |j+1,h=>b.next I (b.run j I)
theorem vI.key(b:vI z i m)(Z:j<m):iX z i j (2*kk i j)≠0:=by
 rw[(b.run j I j (Nat.le_refl _) I).1];exact b.occ j Z
theorem vI.end_(b:vI z i m):iX z i m (2*kk i m)=0:=by
 rw[(b.run m (Nat.le_refl _) m (Nat.le_refl _) (Nat.le_refl _)).1];exact b.free
theorem vI.bd(b:vI z i m)(V:j<m):1<=iX z i j (2*kk i j)/\iX z i j (2*kk i j)<=1000/\0<=iX z i j (2*kk i j+1)/\iX z i j (2*kk i j+1)<=4294967295:=by
 have U:=b.m6;have T:=b.hi;have Z:kk i j≠i:=by unfold kk;omega
 obtain⟨Y,X⟩:=b.run j I j (Nat.le_refl _) I;rw[dI,iN Z]at Y;rw[sI,iN Z]at X;have W:=b.key V;rw[Y]at W;rw[Y,X];have:=nB b.right (vD i j);omega
end
section
attribute [local go_sem↓] Go.wp_at_zero Go.wp_at_succ
def fW(x k:Nat):Array Value:=((List.range 64).map fun i=>Value.int .i64 ((if i<k then x/2^i%2 else 0:Nat):Int)).toArray
theorem iK(x k i:Nat)(h:i<64):(fW x k)[i]? =some (.int .i64 ((if i<k then x/2^i%2 else 0:Nat):Int)):=by
 simp [fW,h]
theorem IA(x k:Nat):(fW x k).setIfInBounds k ((x/2^k%2:Nat):Int)=fW x (k+1):=by
 apply Array.ext_getElem?;intro i;rw[Array.getElem?_setIfInBounds];by_cases Z:i<64
 .by_cases h:k=i
  .subst h;have Y:k<(fW x k).size:=by simp [fW];exact Z
   rw[iP rfl,iP Y,iK _ _ _ Z,iP I]
  rw[iN h,iK _ _ _ Z,iK _ _ _ Z];by_cases X:i<k
  .rw[iP X,iP I]
  rw[iN X,iN I]
 have W:(fW x k)[i]? =none:=by simp [fW];omega
 have V:(fW x (k+1))[i]? =none:=by simp [fW];omega
 have Y:¬k=i\/¬k<(fW x k).size:=by
  by_cases h:k=i
  .right;simp [fW];omega
  exact .inl h
 rw[W,V];by_cases h:k=i
 .rw[iP h,iN (by rcases Y with h'|h';exact absurd h h';exact h')]
 rw[iN h]
theorem MI(w:World):(Instr.makeSlice 125 (64:Int) (64:Int)).run prog w=.ok (.slice (some ⟨w.heap.size,0,none⟩) 64 64) (w.alloc (.cells (fW 0 0) 3)):=J
theorem EI(x:Nat):fW x 0=fW 0 0:=by
 unfold fW;congr 1
theorem rO(x:Nat)(w:World)(N:x<18446744073709551616):
 Calls prog 105 #[[x]] w fun e w'=>e=.returned (.slice (some ⟨w.heap.size,0,none⟩) 64 64)/\aY w' w 3 (fW x 64)/\Below w w w':=by
 have U:=MI;have Y:aY (w.alloc (.cells (fW 0 0) 3)) w 3 (fW x 0):=by rw[EI];exact aY.new _ _ _
 have T:=aH Y;clear Y
 go_enter func105,ntmps105
 go_wp2;clear U
 go_loopw [0,8] (fun y i wr=>∃k:Nat,k<=64/\i=.int .i64 k/\y=.int .u64 ((x/2^k:Nat):Int)/\Hid (aY wr w 3 (fW x k))/\Below w w wr) (fun _ i _=>64-(intOf i).toNat)
 case atStart=>exact⟨0,I,rfl,by simp,T.out,by go_grown⟩
 case round=>
  obtain⟨k,K,rfl,rfl,Z,S⟩:=hrel;have Q:x/2^k<18446744073709551616:=Nat.lt_of_le_of_lt (Nat.div_le_self _ _) N;have X:x/2^(k+1)=x/2^k/2:=by rw[Nat.pow_succ,Nat.div_div_eq_div_mul]
  have P:=aH X;clear X;have W:=IA x k;have O:=aH W;clear W;generalize R:x/2^k=y at*;have M:=aH R;clear R;by_cases V:k<64
  .have hc:wr.cell? (w.heap.size,k)=(0:Int):=by rw[Z.cell k,iK _ _ _ V,iN I];rfl
   have L:wr.frozen? ⟨w.heap.size,k,none⟩=false:=Z.frozen k;go_wp2;go_roundw
   case rel=>exact⟨k+1,I,aG,by rw[P.out];simp;try omega,by
    have h:=Z.set_ k (.int .i64 ((y:Int)%2));rw[show((y:Int)%2)=((y%2:Nat):Int) by omega,O.out]at h;exact aH (by simpa using h),S.setCell (by simp) _⟩
   case measure=>simp [intOf];omega
  obtain rfl:k=64:=I;go_wp2;go_ret;exact⟨rfl,Z.out,S⟩
theorem SJ{xs:List Nat}(Z:k<xs.length):Pl.nof (xs.drop k)=xs[k]?.getD 0+2*Pl.nof (xs.drop (k+1)):=by
 rw[List.drop_eq_getElem_cons Z,Pl.nof,List.getElem?_eq_getElem Z];rfl
theorem EN{xs:List Nat}(Z:∀b∈xs,b<2)(V:xs.length<=64)(k:Nat):Pl.nof (xs.drop k)<18446744073709551616:=by
 have Y:=Pl.nof_lt (xs.drop k) (fun b h=>Z b (List.mem_of_mem_drop h));have X:2^(xs.drop k).length<=2^64:=Nat.pow_le_pow_right aJ (by rw[List.length_drop];omega);have W:(2:Nat)^64=18446744073709551616:=by decide
 omega
theorem wA(A:Option Addr)(n c:Nat)(xs:List Nat)(w:World)(h:fI w A n c (xs.map fun b:Nat=>(b:Int)))(W:∀b∈xs,b<2)(M:xs.length<=64):
 Calls prog 106 #[.slice A n c] w fun e w'=>e=.returned [((Pl.nof xs:Nat):Int)]/\w=w':=by
 have T:xs.length=n:=by simpa using h.len
 have L:n<=64:=I;have S:=aH T;clear T;have K:=aH h;clear h;have R:=aH W;clear W
 go_enter func106,ntmps106
 go_wp2
 go_loop [3,4] (fun a i=>∃k:Nat,k<=n/\i=.int .i64 ((k:Int)-1)/\a=.int .u64 ((Pl.nof (xs.drop k):Nat):Int)) (fun _ i=>(intOf i+1).toNat)
 case atStart=>exact⟨n,Nat.le_refl _,aG,by rw[List.drop_of_length_le (by rw[S.out];exact Nat.le_refl _)];rfl⟩
 case round=>
  obtain⟨k,x,rfl,rfl⟩:=hrel;by_cases C:0<k
  .obtain⟨j,rfl⟩:∃j,k=j+1:=⟨k-1,I⟩;obtain⟨b,D,rfl,O,Y⟩:=K.at_ I;have H:=Y j I;clear Y;have X:j<xs.length:=by rw[S.out];omega
   have G:xs[j]?.getD 0<2:=by rw[List.getElem?_eq_getElem X];exact R _ (List.getElem_mem X)
   have Q:((xs.map fun b:Nat=>(b:Int))[j]?.getD 0)=((xs[j]?.getD 0:Nat):Int):=by simp [List.getElem?_eq_getElem X]
   rw[Q]at H;clear Q;have Z:=SJ X;have U:=EN R M j;have P:((j+1:Nat):Int)-1=(j:Int):=I;rw[P];clear P;generalize N:Pl.nof (xs.drop (j+1))=a at*;generalize V:xs[j]?.getD 0=B at*;have z:=aH N;clear N;have F:=aH V;clear V;have E:=aH Z;have y:B+2*a<18446744073709551616:=I;clear Z U M;go_wp2
   go_round
   case rel=>exact⟨j,I,aG,by rw[E.out];exact jW I⟩
   case measure=>simp [intOf];try omega
  obtain rfl:k=0:=I;go_wp2;go_ret;exact⟨by simp,rfl⟩
def gO(x:Nat)(a:Int):Bool:=decide (0<=a/\a<64/\x/2^a.toNat%2=1)
def iH(x:Nat)(a:Int):Nat:=if 0<=a/\a<64 then x^^^2^a.toNat else x
theorem rX(h:j<64):2^j<18446744073709551616:=by
 have Z:2^j<2^64:=Nat.pow_lt_pow_right aJ h;have Y:(2:Nat)^64=18446744073709551616:=by decide
 omega
theorem KS(x j:Nat)(Z:x<18446744073709551616):bits .and .u64 ((x:Int)/2^j) 1=((x/2^j%2:Nat):Int):=by
 have e:(x:Int)/2^j=((x/2^j:Nat):Int):=by simp
 rw[e,show(1:Int)=((1:Nat):Int)from rfl,u64_and_nat _ _ (Nat.lt_of_le_of_lt (Nat.div_le_self _ _) Z) aJ,Nat.and_one_is_mod]
theorem XU(x j:Nat)(W:x<18446744073709551616)(Z:j<64):bits .xor .u64 (x:Int) (IntKind.u64.wrap (2^j))=((x^^^2^j:Nat):Int):=by
 have Y:=rX Z;have X:(2:Int)^j=((2^j:Nat):Int):=by simp
 have e:IntKind.u64.wrap ((2:Int)^j)=((2^j:Nat):Int):=by
  rw[X];generalize 2^j=q at Y;exact IntWalk.u64_in _ I
 rw[e,u64_xor_nat _ _ W (rX Z)]
theorem KQ(x j:Nat)(Z:j<64):gO x (j:Int)=decide (x/2^j%2=1):=by
 have h:(j:Int)<64:=I;simp [gO,h]
theorem PU(m:Nat):(((m:Nat):Int)==1)=decide (m=1):=by
 rw[Bool.eq_iff_iff];simp;omega
theorem tN(x j:Nat)(Z:j<64):iH x (j:Int)=x^^^2^j:=by
 have h:(j:Int)<64:=I;simp [iH,h]
theorem YK(x:Nat)(a:Int)(w:World)(Y:x<18446744073709551616):
 Calls prog 118 #[[x],a] w fun e w'=>e=.returned (gO x a)/\w=w':=by
 by_cases Z:0<=a/\a<64
 .obtain⟨h0,h1⟩:=Z;obtain⟨j,rfl⟩:=Int.eq_ofNat_of_zero_le h0
  go_enter func118,ntmps118
  go_wp2;go_ret;refine⟨dF ?_,rfl⟩;rw[KS x j Y,KQ x j I,PU]
 go_enter func118,ntmps118
 go_wp2
 all_goals first|(exfalso;omega)|(go_ret;exact⟨dF (by simp [gO];omega),rfl⟩)
theorem kJ(x:Nat)(a:Int)(w:World)(R:x<18446744073709551616):
 Calls prog 102 #[[x],a] w fun e w'=>e=.returned (gO x a)/\Below w w w':=by
 by_cases S:0<=a/\a<64
 .obtain⟨h0,h1⟩:=S;obtain⟨j,rfl⟩:=Int.eq_ofNat_of_zero_le h0;have W:bV (j:Int) 0 63=true:=by simp [bV];omega
  go_enter func102,ntmps102
  go_wp2_with fail;refine(bQ _ _ _ _).mono ?_;rintro e Y ⟨rfl,rfl⟩;go_wp2_with fail;refine(rO x _ R).mono ?_;rintro e Y ⟨rfl,Z,T⟩;have V:Y.cell? (w.heap.size,j)=((x/2^j%2:Nat):Int):=by rw[Z.cell j,iK _ _ _ I,iP I]
  generalize X:x/2^j%2=m at V;have U:=aH X;clear X;go_wp2;go_ret;exact⟨dF (by rw[KQ x j I,PU,U.out]),T⟩
 have W:bV a 0 63=false:=by simp [bV];omega
 go_enter func102,ntmps102
 go_wp2_with (go_at_call 55;refine(bQ _ _ _ _).mono ?_;rintro e Y ⟨rfl,rfl⟩)
 go_ret;exact⟨dF (by simp [gO];omega),Below.refl _ _⟩
theorem UD(x:Nat)(a:Int)(w:World)(X:x<18446744073709551616):
 Calls prog 145 #[[x],a] w fun e w'=>e=.returned [((iH x a:Nat):Int)]/\w=w':=by
 by_cases Y:0<=a/\a<64
 .obtain⟨h0,h1⟩:=Y;obtain⟨j,rfl⟩:=Int.eq_ofNat_of_zero_le h0;have Z:j<64:=I
  go_enter func145,ntmps145
  go_wp2;go_ret;exact⟨gU (by rw[XU x j X Z,tN x j Z]),rfl⟩
 go_enter func145,ntmps145
 go_wp2
 all_goals first|(exfalso;omega)|(go_ret;exact⟨gU (by simp only[iH];rw[iN Y]),rfl⟩)
theorem SB{x:Nat}(h:aY w g 3 (fW x 64)):fI w (some ⟨g,0,none⟩) 64 64 ((Pl.digs x).map fun b:Nat=>(b:Int)):=by
 have Z:∀i:Nat,i<64->((Pl.digs x).map fun b:Nat=>(b:Int))[i]?.getD 0=((x/2^i%2:Nat):Int):=fun i Y=>by
  rw[List.getElem?_map,Pl.digs_get x i Y];rfl
 refine fI.of_blk h (by simp [Pl.digs_length]) (Nat.le_refl _) aJ (fun i Y=>?_) (fun i=>?_)
 .rw[iK _ _ _ Y,iP Y,Z i Y]
 by_cases Y:i<64
 .rw[Z i Y];omega
 rw[List.getElem?_eq_none (by simp [Pl.digs_length];omega)];decide
theorem ES(x:Nat)(a:Int)(w:World)(N:x<18446744073709551616):
 Calls prog 87 #[[x],a] w fun e w'=>e=.returned [((iH x a:Nat):Int)]/\Below w w w':=by
 have X:x<2^64:=by have G:(2:Nat)^64=18446744073709551616:=by decide
                   omega
 by_cases P:0<=a/\a<64
 .obtain⟨h0,h1⟩:=P;obtain⟨j,rfl⟩:=Int.eq_ofNat_of_zero_le h0;have M:bV (j:Int) 0 63=true:=by simp [bV];omega
  have T:j<64:=I
  go_enter func87,ntmps87
  go_wp2_with fail;refine(rO x _ N).mono ?_;rintro e U ⟨rfl,Z,Q⟩;have L:U.cell? (w.heap.size,j)=((x/2^j%2:Nat):Int):=by rw[Z.cell j,iK _ _ _ I,iP I]
  have F:U.frozen? ⟨w.heap.size,j,none⟩=false:=Z.frozen j;have S:x/2^j%2<2:=Nat.mod_lt _ aJ;generalize O:x/2^j%2=m at L S;have K:=aH O;clear O
  go_wp2_with (go_at_call 55;refine(bQ _ _ _ _).mono ?_;rintro e U ⟨rfl,rfl⟩)
  have R:fI (U.setCell ⟨w.heap.size,j,none⟩ (.int .i64 (1-(m:Int)))) (some ⟨w.heap.size,0,none⟩) 64 64 (((Pl.digs x).set j (1-m)).map fun b:Nat=>(b:Int)):=by
   have Y:(Pl.digs x).length=64:=Pl.digs_length x;have W:∀i:Nat,i<64->(((Pl.digs x).set j (1-m)).map fun b:Nat=>(b:Int))[i]?.getD 0=if j=i then 1-(m:Int)else((x/2^i%2:Nat):Int):=fun i V=>by
    rw[List.getElem?_map,List.getElem?_set,Y,iP T];by_cases h:j=i
    .rw[iP h,iP h];simp only[Option.map_some,Option.getD_some];omega
    rw[iN h,iN h,Pl.digs_get x i V];rfl
   refine fI.of_blk (Z.set_ j _) (by simp [Y]) (Nat.le_refl _) aJ (fun i V=>?_) (fun i=>?_)
   .rw[Array.getElem?_setIfInBounds,W i V];by_cases h:j=i
    .subst h;rw[iP rfl,iP rfl,iP (by simp [fW];exact T)]
    rw[iN h,iN h,iK _ _ _ V,iP V]
   by_cases V:i<64
   .rw[W i V];split
    .omega
    have:x/2^i%2<2:=Nat.mod_lt _ aJ;generalize x/2^i%2=z at this;omega
   rw[List.getElem?_eq_none (by simp [Y];omega)];decide
  refine(wA _ _ _ _ _ R (Pl.mem_set_bit (Pl.digs_bit x) I) (by simp [Pl.digs_length])).mono ?_;rintro e H ⟨rfl,rfl⟩;go_wp2;go_ret;exact⟨gU (by rw[tN x j T,<-K.out,Pl.nof_flip x j X T]),by go_grown⟩
 have M:bV a 0 63=false:=by simp [bV];omega
 go_enter func87,ntmps87
 go_wp2_with fail;refine(rO x _ N).mono ?_;rintro e U ⟨rfl,Z,Q⟩
 go_wp2_with (first|(go_at_call 55;refine(bQ _ _ _ _).mono ?_;rintro e U ⟨rfl,rfl⟩)|(go_at_call 106;refine(wA _ _ _ (Pl.digs x) _ (SB Z) (Pl.digs_bit x) (by rw[Pl.digs_length];exact Nat.le_refl _)).mono ?_;rintro e H ⟨rfl,rfl⟩))
 go_ret;exact⟨gU (by simp only[iH];rw[iN P,Pl.nof_digs x X]),Q⟩
theorem sH(C:Array Value)(z:Nat->Int)(w:World)(h:cH C 32 z):
 Calls prog 141 #[.agg C] w fun e w'=>e=.returned (.int .i64 (if z 0<=4294967296 then z 0 else 4294967296))/\Below w.heap.size w w':=by
 have Z:=h.get 0 aJ;obtain⟨Y,X⟩:=h.bd 0 aJ;have H:=aH h;clear h
 go_enter func141,ntmps141
 go_wp2
 all_goals(go_ret;refine⟨gU ?_,by go_grown⟩;first|rfl|(split<;>omega))
theorem Gh(b:Nat)(w:World):(Instr.arrayAt 252 (.slice (some ⟨b,1,none⟩) 17 31)).run prog w=.ok (b,1) w:=J
theorem GI:(prog.info? 252).map (·.size)=some 17:=J
theorem oT(C D:Array Value)(z:Nat->Int)(w:World)(h:cH C 32 z)(W:D=C.extract 1 18):
 Calls prog 142 #[.agg C] w fun e w'=>e=.returned (.agg D)/\Below w w w':=by
 have V:=Gh;have Y:cH D 17 (fun i=>z (1+i)):=by rw[W];exact h.cut 1 17 aJ
 have U:=cH.one Y;have Z:=Y.size;have H:=aH h;clear h;have T:=aH W;clear W;have S:=aH Y;clear Y;have X:=aH Z;clear Z
 go_enter func142,ntmps142
 go_wp2_with (first
  |(refine wpList_load_mid rfl 252 _ rfl w 1 rfl D.toList _ ?hc underlying252 rfl ?hi ?_)
  |(refine wpList_store_row rfl 252 _ _ rfl (w,1) D rfl rfl 252 (17:Nat) ?hg ?hj ?ho U ?_))
 case hc=>
  rw[T.out];exact World.rangeAt_of_block (t:=25) (fr:=(0,0)) (((aY.new w 25 C).alloc _)) 1 17
 case hi=>rw[GI,Array.length_toList,X.out]
 case hg=>exact aY.newAt _ _ _ (by simp)
 case hj=>rw[GI,X.out]
 case ho=>rw[X.out];rfl
 refine bodyPost_ret (results_cell_row results142 _ _ (w,1) 252 D (0,0) _ rfl ?_ underlying252 rfl (by rw[GI,X.out])) rfl ⟨rfl,?_⟩
 .refine aY.setRow (cs:=(17:Nat)) ?_ D;exact aY.newAt _ _ _ (by simp)
 exact aL (by go_grown) (by simp) _
def AT(x:Nat)(t:Int):Int:=if 0<=t/\t<4/\gO x t=true then 1 else 0
theorem rI(C:Array Value)(z:Nat->Int)(t:Int)(w:World)(h:cH C 32 z):
 Calls prog 94 #[.agg C,t] w fun e w'=>e=.returned (AT (z 26).toNat t)/\Below w w w':=by
 have V:=h.get 26 aJ;obtain⟨X,W⟩:=h.bd 26 aJ;obtain⟨x,Y⟩:=Int.eq_ofNat_of_zero_le X;rw[Y]at V W;have U:=aH Y;clear Y X;have Z:x<18446744073709551616:=I;have T:=aH Z;clear W Z;have H:=aH h;clear h
 go_enter func94,ntmps94
 go_wp2_with (go_at_call 118;refine(YK _ _ _ T).mono ?_;rintro e S ⟨rfl,rfl⟩)
 all_goals(go_ret;refine⟨gU ?_,by go_grown⟩;rw[U.out];simp_all [AT];try omega)
theorem tJ:(prog.info? 3).map (fun i=>(i.zero,i.size,i.bytes))=some (some (.int .i64 0),1,8):=J
def Fg(xs:List Int)(w:World)(e:Ending)(w':World):Prop:=
 ∃v',e=.returned v'/\w'.ownsRow w 3 1 v' xs.length (xs.map (Value.int .i64))/\Below w w w'
theorem pT{e:TypeId}{v:Value}{xs:List Value}(h:w.ownsRow B e 1 v n xs):∃A c,v=.slice A n c/\n<=c/\c<=maxLen/\(0<n->∃g,A=some ⟨g,0,none⟩/\B<=g/\g<w):=by
 rcases h.2 with⟨rfl,rfl⟩|⟨g,Z,Y,rfl,X,W,V,U,_⟩
 .exact⟨none,0,rfl,Nat.le_refl _,Nat.zero_le _,fun h=>absurd h I⟩
 exact⟨_,Z,rfl,V,U,fun _=>⟨g,rfl,X,(Array.getElem?_eq_some_iff.1 W).1⟩⟩
theorem fI.of_own{e:TypeId}{c:Nat}(h:w.ownsRow B e 1 (.slice A n c) n (xs.map (Value.int .i64)))(bd:∀i:Nat,-9223372036854775808<=xs[i]?.getD 0/\xs[i]?.getD 0<=9223372036854775807):
 fI w A n c xs:=by
 have Z:xs.length=n:=by have:=h.1;simpa using this
 obtain⟨S,R,X,W,V,U⟩:=pT h;simp only[Value.slice.injEq,true_and]at X;obtain⟨rfl,rfl⟩:=X;refine⟨Z,W,by unfold maxLen at V;omega,bd,fun T=>?_⟩;obtain⟨g,rfl,_,Y⟩:=U T;refine⟨g,0,rfl,Y,fun i Q=>?_⟩;have:=h.cells (g:=g) rfl i (xs[i]?.getD 0) (by rw[List.getElem?_map,List.getElem?_eq_getElem I];rfl);rw[Nat.zero_add];simpa [Addr.add_lit]using this
def jX(w:World)(B:Nat)(A:Option Addr)(n c:Nat)(xs:List Int):Prop:=w.ownsRow B 3 1 (.slice A n c) n (xs.map (Value.int .i64))
theorem jX.alloc{c:Nat}(h:jX w B A n c xs)(o:Obj):jX (w.alloc o) B A n c xs:=World.ownsRow.alloc h o
theorem jX.mono{B':Nat}{c:Nat}(h:jX w B A n c xs)(Z:B'<=B):jX w B' A n c xs:=World.ownsRow.mono h Z
theorem jX.len{c:Nat}(h:jX w B A n c xs):xs.length=n:=by have:=h.1;simpa using this
theorem jX.far{c:Nat}(h:jX w B A n c xs)(V:p.block<B)(u:Value):jX (w.setCell p u) B A n c xs:=by
 refine World.ownsRow.kept (row:=some p.block) h ⟨rfl,rfl,rfl,by simp,fun k W Z=>Below.heap_setCell w p u k (fun e=>Z (by rw[e]))⟩ ?_;cases ho:(Value.slice A n c).ownBlock with
 |none=>exact .inl rfl
 |some k=>
  refine .inr fun e=>?_
  have Y:=(World.ownsRow.lt h k ho).1;have X:k=p.block:=Option.some.inj e;omega
theorem jX.sli{c:Nat}(h:jX w B A n c xs)(bd:∀i:Nat,-9223372036854775808<=xs[i]?.getD 0/\xs[i]?.getD 0<=9223372036854775807):fI w A n c xs:=fI.of_own h bd
theorem bX{o:Obj}{b:Nat}(h:b<w):(w.alloc o).cell? (b,i)=w.cell? (b,i):=World.cell?_alloc_lt _ _ _ h
theorem eP{o:Obj}{b:Nat}(h:b<w):(w.alloc o).frozen? ⟨b,i,none⟩=w.frozen? ⟨b,i,none⟩:=World.frozen?_of_block (Below.heap_alloc w o b h)
theorem fI.tail{b Z c:Nat}(h:fI w (some ⟨b,Z,none⟩) n c xs)(U:0<n):fI w (some ⟨b,Z+1,none⟩) (n-1) (c-1) xs.tail:=
 ⟨by simp [h.len],by have:=h.cap;omega,by have:=h.cap63;omega,fun i=>by rw[List.getElem?_tail];exact h.bd (i+1),fun _=>by
  obtain⟨T,X,W,Y,V⟩:=h.at_ U;cases W;refine⟨b,Z+1,rfl,Y,fun i S=>?_⟩;rw[List.getElem?_tail,Nat.add_assoc,Nat.add_comm 1 i];exact V (i+1) I⟩
theorem fI.tailIf{b Z c:Nat}(h:fI w (some ⟨b,Z,none⟩) n c xs)(X:0<n):fI w (if c=1 then some ⟨b,Z,none⟩else some ⟨b,Z+1,none⟩) (n-1) (c-1) xs.tail:=by
 by_cases W:c=1
 .have h1:=h.cap;have Y:=h.tail X;exact⟨Y.len,Y.cap,Y.cap63,Y.bd,fun k=>by omega⟩
 rw[iN W];exact h.tail X
theorem jX.nil(w:World)(B:Nat):jX w B none 0 0 []:=World.ownsRow_nil _ _ _ _
theorem jX.at_{c:Nat}(h:jX w B A n c xs)(V:0<n):∃g,A=some ⟨g,0,none⟩/\B<=g/\g<w/\∀i:Nat,i<n->w.cell? (g,i)=(xs[i]?.getD 0):=by
 obtain⟨T,S,Y,R,Q,X⟩:=pT h;simp only[Value.slice.injEq,true_and]at Y;obtain⟨rfl,rfl⟩:=Y;obtain⟨g,rfl,W,Z⟩:=X V;refine⟨g,rfl,W,Z,fun i P=>?_⟩;have U:=h.len;have:=World.ownsRow.cells h (g:=g) rfl i (xs[i]?.getD 0) (by rw[List.getElem?_map,List.getElem?_eq_getElem I];rfl);simpa [Addr.add_lit]using this
theorem rQ{c:Nat}(Y:jX w B A n c xs){v:Int}(G:w.cell? (g,0)=v)(D:n<=1000)(F:B<=w)(ty:TypeId)(c':Nat):
 ∃W Z w',(Builtin.append_ #[125,125] ty #[.slice A n c,.slice (some ⟨g,0,none⟩) 1 c']).run prog w=.ok (.slice (some ⟨W,0,none⟩) (n+1) Z) w'/\jX w' B (some ⟨W,0,none⟩) (n+1) Z (xs++[v])/\Below B w w':=by
 obtain⟨O,N,U,T,S⟩:=info_parts tJ;obtain⟨W,Z,w',M,L,X,K,H⟩:=run_append_lies (P:=prog) w 125 ty B 3 O (0:Int) 1 8 underlying125 N U T S rfl aJ (.slice A n c) n _ Y ⟨g,0,none⟩ 1 c' [.int .i64 v] rfl
  (by intro j u R
      have V:j=0:=by have:=(List.getElem?_eq_some_iff.1 R).1;simp at this;exact this
      subst V;simp only[List.getElem?_cons_zero,Option.some.injEq]at R;subst R;simpa [Addr.add_lit]using G) (by intro u Q;simp at Q;subst Q;rfl) aJ (by unfold maxLen;omega) I F _ rfl
 refine⟨W,Z,w',M,by unfold jX;simpa using L,⟨X.os,X.tape,X.output,X.size,fun k E=>X.block k I ?_⟩⟩;intro e;have:=(World.ownsRow.lt Y k e.symm).1;omega
theorem lR{ops:Array Oper}{K:Act->World->Prop}{Q:Exit->Act->World->Prop}{E:Prop}(W:o.guard=none)(s x:Operand)
 (R:o.op=.call {callee:=.builtin .append,args:= #[s,x],argTypes:= #[125,125]}) {B:Nat} {A:Option Addr} {n c:Nat} {xs:List Int} (P:a.eval s=.slice A n c) (Y:jX w B A n c xs) {g:Nat} {v:Int} {c':Nat}
 (O:a.eval x=.slice (some ⟨g,0,none⟩) 1 c') (N:w.cell? (g,0)=v) (M:n<=1000) (L:B<=w)
 (h:∀X Z w',jX w' B (some ⟨X,0,none⟩) (n+1) Z (xs++[v])->Below B w w'->K (a.put o.dst (.slice (some ⟨X,0,none⟩) (n+1) Z)) w'):
 if Region.wanted o (yielded ops a.tmps)=true then Oper.wp prog o a w K Q else E:=by
 have V:Region.wanted o (yielded ops a.tmps)=true:=by simp [Region.wanted,W]
 rw[iP V];obtain⟨X,Z,w',U,T,S⟩:=rQ Y N M L o.type c';unfold Oper.wp execOp;simp only[R,resolve,invoke,builtin,Sem.run_bind,Sem.run_pure,Result.andThen_ok,List.map_toArray,List.map_cons,List.map_nil,P,O,U];exact h X Z w' T S
theorem dM{ops:Array Oper}{Q:Exit->Act->World->Prop}(W:o.guard=none)(s x:Operand)
 (R:o.op=.call {callee:=.builtin .append,args:= #[s,x],argTypes:= #[125,125]}) {B:Nat} {A:Option Addr} {n c:Nat} {xs:List Int} (P:a.eval s=.slice A n c) (Y:jX w B A n c xs) {g:Nat} {v:Int} {c':Nat}
 (O:a.eval x=.slice (some ⟨g,0,none⟩) 1 c') (N:w.cell? (g,0)=v) (M:n<=1000) (L:B<=w)
 (h:∀X Z w',jX w' B (some ⟨X,0,none⟩) (n+1) Z (xs++[v])->Below B w w'->wpList prog ops Q rest (a.put o.dst (.slice (some ⟨X,0,none⟩) (n+1) Z)) w'):wpList prog ops Q (o::rest) a w:=
 wpList_plain W fun _ V=>by
  obtain⟨X,Z,w',U,T,S⟩:=rQ Y N M L o.type c';unfold Oper.wp execOp;simp only[R,resolve,invoke,builtin,Sem.run_bind,Sem.run_pure,Result.andThen_ok,List.map_toArray,List.map_cons,List.map_nil,P,O,U];exact V _ _ (h X Z w' T S)
theorem NB(A:Option Addr)(n c:Nat)(xs:List Int)(w:World)(h:fI w A n c xs)(t:n<=60):
 Calls prog 186 #[.slice A n c] w (Fg xs w):=by
 have K:∀(w:World) (a:Option Addr) (n c T S:Nat),(binOp .eql 125 (.slice a n c) (.slice none T S)).run prog w=.ok a.isNone w:=fun w a n c T S=>Lib.run_eql_slice_nil w _ _ a n c T S underlying125
 obtain⟨F,E,R,Q,P⟩:=info_parts tJ;have Z:=h.len;have X:=aH Z;clear Z;have H:=aH h;clear h;cases A with
 |none=>
  have U:n=0:=by
   rcases Nat.eq_zero_or_pos n with h0|h0
   .exact h0
   obtain⟨b,O,h,_⟩:=H.at_ h0;cases h
  subst U;have G:xs=[]:=List.eq_nil_of_length_eq_zero X;subst G
  go_enter func186,ntmps186
  go_wp2;go_ret;exact⟨_,rfl,World.ownsRow_nil _ _ _ _,Below.refl _ _⟩
 |some a=>
  go_enter func186,ntmps186
  go_wp2_with (at_builtin;refine wpList_append_own _ rfl _ _ 125 rfl w 3 F (0:Int) 1 8 underlying125 E R Q P rfl aJ _ _ _ rfl (World.ownsRow_made w #[] 0 (Nat.le_refl _) (Nat.zero_le _) rfl) a n c (xs.map (Value.int .i64)) rfl ?qc1 ?qc2 ?qc3 ?qc4 ?qc5 ?qc6 ?_)
  case qc1=>simp [X.out]
  case qc2=>
   intro j u N;have W:j<n:=by
    have:=(List.getElem?_eq_some_iff.1 N).1;simpa [X.out]using this
   obtain⟨b,O,D,M,C⟩:=H.at_ I;cases D;have e:(xs.map (Value.int .i64))[j]? =some (Value.int .i64 (xs[j]?.getD 0)):=by rw[List.getElem?_map,List.getElem?_eq_getElem (by rw[X.out];exact W)];rfl
   rw[e]at N;rw[<-N,Addr.add_lit,World.cell?_alloc_lt _ _ _ (by exact M)];exact C j W
  case qc3=>intro u B;obtain⟨x,_,rfl⟩:=List.mem_map.1 B;rfl
  case qc4=>unfold maxLen;omega
  case qc5=>omega
  case qc6=>simp
  intro z v V Y L;go_wp2;go_ret;refine⟨z,rfl,by rw[X.out];simpa using V,?_⟩;exact((Below.refl _ w).alloc (Nat.le_refl _) _).grown Y (by simp) (by intro k y;simp [Value.ownBlock]at y;omega)
def WW(xs:List Int)(n:Nat)(w W:World)(e:Ending)(w1:World):Prop:=
 ∃A c,e=.returned (.slice A n c)/\jX w1 W A n c xs/\Below W W w1/\Below w w w1
theorem fR(A:Option Addr)(n c:Nat)(xs:List Int)(w W:World)(h:fI w A n c xs)(S:n<=60)(Y:Below w w W):
 Calls prog 186 #[.slice A n c] W (WW xs n w W):=by
 have V:=h.len;refine(NB A n c xs W (h.below Y) S).mono ?_;rintro e R ⟨Q,rfl,Z,X⟩;rw[V]at Z;obtain⟨U,T,rfl,_,_,_⟩:=pT Z;exact⟨U,T,rfl,Z,X,Y.trans (X.mono Y.size)⟩
end
section
theorem fI.cellsAt{c:Nat}(h:fI w A n c xs):∀b,A=some b->∀j u,(xs.map (Value.int .i64))[j]? =some u->w.cell? (b.add j)=some u:=by
 intro b W j u Y;have Z:j<n:=by
  have:=(List.getElem?_eq_some_iff.1 Y).1;simpa [h.len]using this
 obtain⟨S,V,X,U,T⟩:=h.at_ I;rw[W]at X;cases X;have e:(xs.map (Value.int .i64))[j]? =some (Value.int .i64 (xs[j]?.getD 0)):=by rw[List.getElem?_map,List.getElem?_eq_getElem (by rw[h.len];exact Z)];rfl
 rw[e]at Y;rw[<-Y,Addr.add_lit];exact T j Z
theorem qA(Z:w.grownBy w' none):Below w w w':=⟨Z.os,Z.tape,Z.output,Z.size,fun k Y=>Z.block k Y (by simp)⟩
theorem fI.pos_some{c:Nat}(h:fI w A n c xs)(X:0<n):∃b,A=some b:=by
 obtain⟨b,Z,Y,_⟩:=h.at_ X;exact⟨_,Y⟩
theorem uS(w:World)(ty:TypeId)(A B:Option Addr)(n c d:Nat)(V:n<=c):
 (Builtin.append_ #[125,125] ty #[.slice A n c,.slice B 0 d]).run prog w=.ok (.slice A n c) w:=by
 obtain⟨U,Z,Y,X,W⟩:=info_parts tJ;cases A<;>cases B<;>simp [Builtin.append_,run_underlying underlying125,sizeOf,typeInfo,Z,Builtin.lenOf,Builtin.firstCells,loadCells,loadCellsFrom,storeCells,V]
structure kC (w:World) (B:Nat) (A:Option Addr) (n c:Nat) (xs:List Int):Prop where
 sli:fI w A n c xs
 up:0<n->∀b,A=some b->B<=b.block
theorem kC.far{c:Nat}(h:kC w B A n c xs)(S:p.block<B)(u:Value):kC (w.setCell p u) B A n c xs:=
 ⟨⟨h.sli.len,h.sli.cap,h.sli.cap63,h.sli.bd,fun X=>by
   obtain⟨b,Z,W,Y,U⟩:=h.sli.at_ X;have V:=h.up X _ W;refine⟨b,Z,W,by simpa using Y,fun i T=>?_⟩;rw[World.cell?_setCell_far _ _ _ _ (by show p.block≠b;have:B<=b:=V;omega)];exact U i T⟩,h.up⟩
theorem kC.below{c:Nat}(h:kC w B A n c xs)(Z:Below w w w'):kC w' B A n c xs:=⟨h.sli.below Z,h.up⟩
theorem kC.alloc{c:Nat}(h:kC w B A n c xs)(o:Obj):kC (w.alloc o) B A n c xs:=h.below ((Below.refl _ _).alloc (Nat.le_refl _) _)
theorem kC.mono{B':Nat}{c:Nat}(h:kC w B A n c xs)(X:B'<=B):kC w B' A n c xs:=⟨h.sli,fun Z b Y=>Nat.le_trans X (h.up Z b Y)⟩
theorem jX.slo{c:Nat}(h:jX w B A n c xs)(bd:∀i:Nat,-9223372036854775808<=xs[i]?.getD 0/\xs[i]?.getD 0<=9223372036854775807):kC w B A n c xs:=
 ⟨h.sli bd,fun Y b X=>by
  obtain⟨g,Z,W,_⟩:=h.at_ Y;rw[X]at Z;cases Z;exact W⟩
theorem kC.one(w:World)(t:TypeId)(v:Int)(W: -9223372036854775808<=v/\v<=9223372036854775807):kC (w.alloc (.cells #[v] t)) w (some ⟨w.heap.size,0,none⟩) 1 1 [v]:=
 ⟨fI.of_blk (aY.new w t _) rfl (Nat.le_refl _) aJ (fun i (Y:i<1)=>by have Z:i=0:=Nat.lt_one_iff.1 Y;subst Z;rfl) (fun i=>by
  cases i with
  |zero=>exact W
  |succ i=>simp),fun _ b X=>by cases X;exact Nat.le_refl _⟩
theorem uU{B:Option Addr}{c d G:Nat}(L:kC w G A n c xs)(E:G<=w)(D:A=none->c=0)(k:fI w B m d ys)(O:m=0\/c<n+m)(C:n+m<=1000)(ty:TypeId):
 ∃T c' w',(Builtin.append_ #[125,125] ty #[.slice A n c,.slice B m d]).run prog w=.ok (.slice T (n+m) c') w'/\kC w' G T (n+m) c' (xs++ys)/\Below w w w':=by
 have h:=L.sli;obtain⟨N,M,Y,X,W⟩:=info_parts tJ;rcases Nat.eq_zero_or_pos m with hm|hm
 .subst hm;have:ys=[]:=List.eq_nil_of_length_eq_zero k.len;subst this;exact⟨A,c,w,uS w ty A B n c d h.cap,by simpa using L,Below.refl _ _⟩
 have K:c<n+m:=I;obtain⟨V,rfl⟩:=k.pos_some hm;have bd:∀i:Nat,-9223372036854775808<=(xs++ys)[i]?.getD 0/\(xs++ys)[i]?.getD 0<=9223372036854775807:=fun i=>by
  rw[List.getElem?_append];split
  .exact h.bd i
  exact k.bd _
 have key:∃U w',(Builtin.append_ #[125,125] ty #[.slice A n c,.slice (some V) m d]).run prog w=.ok U w'/\w'.ownsRow w 3 1 U (n+m) (xs.map (Value.int .i64)++ys.map (Value.int .i64))/\w.grownBy w' none:=by
  cases A with
  |some b=>
   exact run_append_arg_grows (P:=prog) w 125 ty 3 N (0:Int) 1 8 underlying125 M Y X W rfl aJ b n c _ (by simp [h.len]) (h.cellsAt b rfl) V m d _ (by simp [k.len]) (k.cellsAt V rfl) K (by unfold maxLen;omega) I
  |none=>
   obtain rfl:=D rfl;have R:n=0:=by have:=h.cap;omega
   subst R;obtain rfl:xs=[]:=List.eq_nil_of_length_eq_zero h.len;obtain⟨U,w',Z,S,Q,_⟩:=run_append_own (P:=prog) w w 125 ty 3 N (0:Int) 1 8 underlying125 M Y X W rfl aJ (.slice none 0 0) 0 [] (World.ownsRow_nil w _ _ _) V m d _ (by simp [k.len]) (k.cellsAt V rfl) (by intro u F;obtain⟨x,_,rfl⟩:=List.mem_map.1 F;rfl) (by unfold maxLen;omega) I (Nat.le_refl _);exact⟨U,w',Z,S,Q⟩
 obtain⟨U,w',Z,S,Q⟩:=key;obtain⟨T,c',rfl,_,_,_⟩:=pT S;have H:jX w' w T (n+m) c' (xs++ys):=by unfold jX;simpa using S
 exact⟨T,c',w',Z,(H.slo bd).mono E,qA Q⟩
theorem DA{B:Option Addr}{d:Nat}(k:fI w B m d ys)(M:m<=1000)(ty:TypeId):
 ∃Y c' w',(Builtin.append_ #[125,125] ty #[.slice none 0 0,.slice B m d]).run prog w=.ok (.slice Y m c') w'/\jX w' w Y m c' ys/\Below w w w':=by
 obtain⟨S,R,X,W,V⟩:=info_parts tJ;rcases Nat.eq_zero_or_pos m with hm|hm
 .subst hm;have:ys=[]:=List.eq_nil_of_length_eq_zero k.len;subst this;exact⟨none,0,w,uS w ty none B 0 0 d (Nat.le_refl _),jX.nil _ _,Below.refl _ _⟩
 obtain⟨T,rfl⟩:=k.pos_some hm;obtain⟨N,w',Z,U,Q,_⟩:=run_append_own (P:=prog) w w 125 ty 3 S (0:Int) 1 8 underlying125 R X W V rfl aJ (.slice none 0 0) 0 [] (World.ownsRow_nil w _ _ _) T m d _ (by simp [k.len]) (k.cellsAt T rfl) (by intro u O;obtain⟨x,_,rfl⟩:=List.mem_map.1 O;rfl) (by unfold maxLen;omega) I (Nat.le_refl _);rw[Nat.zero_add]at U;obtain⟨Y,c',rfl,_,_,_⟩:=pT U;exact⟨Y,c',w',Z,by unfold jX;simpa using U,qA Q⟩
theorem mQ{ops:Array Oper}{Q:Exit->Act->World->Prop}(W:o.guard=none)(s x:Operand)
 (S:o.op=.call {callee:=.builtin .append,args:= #[s,x],argTypes:= #[125,125]}) {A B:Option Addr} {n c m d G:Nat} {xs ys:List Int} (R:a.eval s=.slice A n c) (P:a.eval x=.slice B m d) (h:kC w G A n c xs) (O:G<=w) (N:A=none->c=0) (k:fI w B m d ys) (Z:m=0\/c<n+m) (M:n+m<=1000)
 (L:∀Y c' w',kC w' G Y (n+m) c' (xs++ys)->Below w w w'->wpList prog ops Q rest (a.put o.dst (.slice Y (n+m) c')) w'):wpList prog ops Q (o::rest) a w:=
 wpList_plain W fun _ X=>by
  obtain⟨Y,c',w',V,U,T⟩:=uU h O N k Z M o.type;unfold Oper.wp execOp;simp only[S,resolve,invoke,builtin,Sem.run_bind,Sem.run_pure,Result.andThen_ok,List.map_toArray,List.map_cons,List.map_nil,R,P,V];exact X _ _ (L Y c' w' U T)
theorem cY{ops:Array Oper}{Q:Exit->Act->World->Prop}(X:o.guard=none)(s x:Operand)
 (T:o.op=.call {callee:=.builtin .append,args:= #[s,x],argTypes:= #[125,125]}) {B:Option Addr} {m d:Nat} {ys:List Int} (S:a.eval s=.slice none 0 0) (R:a.eval x=.slice B m d) (k:fI w B m d ys) (P:m<=1000)
 (O:∀Z c' w',jX w' w Z m c' ys->Below w w w'->wpList prog ops Q rest (a.put o.dst (.slice Z m c')) w'):wpList prog ops Q (o::rest) a w:=
 wpList_plain X fun _ Y=>by
  obtain⟨Z,c',w',W,V,U⟩:=DA k P o.type;unfold Oper.wp execOp;simp only[T,resolve,invoke,builtin,Sem.run_bind,Sem.run_pure,Result.andThen_ok,List.map_toArray,List.map_cons,List.map_nil,S,R,W];exact Y _ _ (O Z c' w' V U)
theorem rJ{T:Value->World->Prop}(s x:Operand)
 (U:o.op=.call {callee:=.builtin .append,args:= #[s,x],argTypes:= #[125,125]}) {A B:Option Addr} {n c m d G:Nat} {xs ys:List Int} (S:a.eval s=.slice A n c) (R:a.eval x=.slice B m d) (h:kC w G A n c xs) (Q:G<=w) (P:A=none->c=0) (k:fI w B m d ys) (Z:m=0\/c<n+m) (O:n+m<=1000)
 (N:∀Y c' w',kC w' G Y (n+m) c' (xs++ys)->Below w w w'->T (.slice Y (n+m) c') w'):eQ prog o a w T:=by
 obtain⟨Y,c',w',X,W,V⟩:=uU h Q P k Z O o.type;unfold eQ execOp;simp only[U,resolve,invoke,builtin,Sem.run_bind,Sem.run_pure,Result.andThen_ok,List.map_toArray,List.map_cons,List.map_nil,S,R,X];exact N Y c' w' W V
theorem xW{T:Value->World->Prop}(s x:Operand)
 (S:o.op=.call {callee:=.builtin .append,args:= #[s,x],argTypes:= #[125,125]}) {B:Nat} {A:Option Addr} {n c:Nat} {xs:List Int} (R:a.eval s=.slice A n c) (Y:jX w B A n c xs) {g:Nat} {v:Int} {c':Nat}
 (Q:a.eval x=.slice (some ⟨g,0,none⟩) 1 c') (P:w.cell? (g,0)=v) (O:n<=1000) (N:B<=w)
 (M:∀X Z w',jX w' B (some ⟨X,0,none⟩) (n+1) Z (xs++[v])->Below B w w'->T (.slice (some ⟨X,0,none⟩) (n+1) Z) w'):eQ prog o a w T:=by
 obtain⟨X,Z,w',W,V,U⟩:=rQ Y P O N o.type c';unfold eQ execOp;simp only[S,resolve,invoke,builtin,Sem.run_bind,Sem.run_pure,Result.andThen_ok,List.map_toArray,List.map_cons,List.map_nil,R,Q,W];exact M X Z w' V U
theorem kC.take{G:Nat}{c:Nat}(h:kC w G A n c xs)(k:Nat)(T:k<=n):kC w G A k k (xs.take k):=
 ⟨⟨by rw[List.length_take,h.sli.len];omega,Nat.le_refl _,by have:=h.sli.cap;have:=h.sli.cap63;omega,fun i=>by
   rw[List.getElem?_take];split
   .exact h.sli.bd i
   .decide,fun Z=>by
   obtain⟨b,Y,X,W,V⟩:=h.sli.at_ I;exact⟨b,Y,X,W,fun i U=>by rw[List.getElem?_take,iP U];exact V i I⟩⟩,fun Z b X=>h.up I b X⟩
theorem fI.dropIf{b Z c:Nat}(h:fI w (some ⟨b,Z,none⟩) n c xs)(k:Nat)(Q:k<=n):fI w (if c=k then some ⟨b,Z,none⟩else some ⟨b,Z+k,none⟩) (n-k) (c-k) (xs.drop k):=
 ⟨by simp [h.len],by have:=h.cap;omega,by have:=h.cap63;omega,fun i=>by rw[List.getElem?_drop];exact h.bd (k+i),fun T=>by
  have U:=h.cap;rw[iN I];obtain⟨S,X,W,Y,V⟩:=h.at_ I;cases W;refine⟨b,Z+k,rfl,Y,fun i R=>?_⟩;rw[List.getElem?_drop,Nat.add_assoc];exact V (k+i) I⟩
theorem kC.of_keeps{S:Nat->Prop}{c:Nat}(h:kC w B A n c xs)(V:aD S w w')(R:∀b,B<=b->¬S b):kC w' B A n c xs:=
 ⟨⟨h.sli.len,h.sli.cap,h.sli.cap63,h.sli.bd,fun X=>by
   obtain⟨b,Z,W,Y,U⟩:=h.sli.at_ X;exact⟨b,Z,W,Nat.lt_of_lt_of_le Y V.size,fun i T=>(V.cell (p:=⟨b,Z+i,none⟩) Y (R b (h.up X _ W))).trans (U i T)⟩⟩,h.up⟩
theorem fI.keeps{c:Nat}(h:fI w A n c xs)(Z:aD bN w w'):fI w' A n c xs:=h.below Z.same
theorem kC.keeps{c:Nat}(h:kC w B A n c xs)(Z:aD bN w w'):kC w' B A n c xs:=h.below Z.same
theorem kC.nil(w:World)(B:Nat)(c:Nat)(Z:c<=9223372036854775807)(A:Option Addr):kC w B A 0 c []:=⟨⟨rfl,Nat.zero_le _,Z,fun i=>by simp,fun h=>absurd h I⟩,fun h=>absurd h I⟩
def nJ(xs:List Int):Prop:=∀i:Nat,-9223372036854775808<=xs[i]?.getD 0/\xs[i]?.getD 0<=9223372036854775807
def fQ(ys:List Int)(code val:Int)(w:World)(e:Ending)(w':World):Prop:=
 ∃A n c,e=.returned (.tuple #[.slice A n c,.agg #[code,val]])/\kC w' w A n c ys/\Below w w w'
theorem nJ.app(h:nJ xs){v:Int}(Z: -9223372036854775808<=v/\v<=9223372036854775807):nJ (xs++[v]):=fun i=>by
 rw[List.getElem?_append];split
 .exact h i
 rcases Nat.eq_zero_or_pos (i-xs.length)with e|e
 .rw[e];exact Z
 rw[List.getElem?_eq_none (by simp;omega)];decide
theorem nJ.tail(h:nJ xs):nJ xs.tail:=fun i=>by rw[List.getElem?_tail];exact h (i+1)
theorem dB{c:Nat}{Y:List Int}{Z val:Int}(X:kC w1 B A n c Y)(U:Below w w w1)(T:p.block<B)(S:q.block<B)(W:w<=p.block)(V:w<=q.block)(R:Y=ys)(Q:co=Z)(P:va=val):
 fQ ys Z val w (.returned (.tuple #[.slice A n c,.agg #[co,va]])) ((w1.setCell p u).setCell q u'):=
 ⟨A,n,c,by rw[Q,P],by rw[<-R];exact((X.far T u).far S u').mono I,(U.setCell W _).setCell V _⟩
theorem nZ{c:Nat}{Y:List Int}{Z val:Int}(X:jX w1 B A n c Y)(U:Below w w w1)(bd:nJ Y)(T:p.block<B)(S:q.block<B)(W:w<=p.block)(V:w<=q.block)(R:Y=ys)(Q:co=Z)(P:va=val):
 fQ ys Z val w (.returned (.tuple #[.slice A n c,.agg #[co,va]])) ((w1.setCell p u).setCell q u'):=dB (X.slo bd) U T S W V R Q P
theorem ET{Z val:Int}(Y:Below w w w1)(X:[]=ys)(W:co=Z)(V:va=val):fQ ys Z val w (.returned (.tuple #[.slice none 0 0,.agg #[co,va]])) w1:=
 ⟨none,0,0,by rw[W,V],by rw[<-X];exact kC.nil _ _ _ I _,Y⟩
theorem fQ.alloc{Z val:Int}{e:Ending}(h:fQ ys Z val w e w')(o:Obj):fQ ys Z val w e (w'.alloc o):=by
 obtain⟨A,n,c,X,W,Y⟩:=h;exact⟨A,n,c,X,W.below ((Below.refl _ _).alloc (Nat.le_refl _) _),Y.alloc Y.size _⟩
theorem oY{W:World}{c:Nat}{Z val:Int}(U:kC w1 W A n c ys)(V:Below w w W)(T:Below W W w1)(S:p.block<W)(R:q.block<W)(Y:w<=p.block)(X:w<=q.block):
 fQ ys Z val w (.returned (.tuple #[.slice A n c,.agg #[Z,val]])) ((w1.setCell p u).setCell q u'):=
 dB U (V.trans (T.mono V.size)) S R Y X rfl rfl rfl
end
section
attribute [local go_sem↓] Go.wp_at_zero Go.wp_at_succ
def zW(z:Nat->Int)(n:Nat):List Int:=(List.range n).map fun i=>z (i+1)
theorem EW(z:Nat->Int)(n:Nat):zW z (n+1)=zW z n++[z (n+1)]:=by unfold zW;rw[List.range_succ,List.map_append];rfl
theorem qT(z:Nat->Int)(n:Nat):(zW z n).length=n:=by unfold zW;simp
theorem pA(z:Nat->Int)(n i:Nat)(h:i<n):(zW z n)[i]?.getD 0=z (i+1):=by unfold zW;simp [h]
def tY(z:Nat->Int)(n0:Nat)(i:Nat):Prop:=z (i+1)<=4294967295/\(n0<=i->z (i+1)=0)
def gW(z:Nat->Int):Prop:=z 0<=6/\∀i,i<16->tY z (z 0).toNat i
def AZ(z:Nat->Int)(w:World)(e:Ending)(w':World):Prop:=
 Below w w w'/\((gW z/\∃A c,e=.returned (.tuple #[.slice A (z 0).toNat c,true])/\jX w' (w+1) A (z 0).toNat c (zW z (z 0).toNat))\/(¬gW z/\e=.returned (.tuple #[.slice none 0 0,false])))
theorem vX(C:Array Value)(z:Nat->Int)(w:World)(h:cH C 17 z):Calls prog 155 #[.agg C] w (AZ z w):=by
 have x:=h.get 0 I;obtain⟨Z,U⟩:=Int.eq_ofNat_of_zero_le (h.bd 0 I).1;have L:=(h.bd 0 I).2;rw[U]at x L;have Q:=aH U;have u:=aH h;have e:=aH h.size;have P:Hid (aY (w.alloc (.cells C 252)) w 252 C):=aY.new _ _ _;clear h U;by_cases h6:Z<=6
 .have n:decide (6<(Z:Int))=false:=by simp;omega
  go_enter func155,ntmps155
  go_wp2
  go_loopw [4,13] (fun l i wr=>∃k m:Nat,k<=16/\i=.int .i64 k/\Hid (m=min k Z)/\Hid (∃A c,l=.slice A m c/\jX wr (w,1) A m c (zW z m))/\Below (w,1) (w.alloc (.cells C 252)) wr/\Hid (∀j,j<k->tY z Z j)) (fun _ i _=>16-(intOf i).toNat)
  case atStart=>exact⟨0,0,I,rfl,aH I,aH ⟨none,0,rfl,jX.nil _ _⟩,Below.refl _ _,aH fun j F=>absurd F I⟩
  case round=>
   obtain⟨k,m,a,rfl,E,O,X,Y⟩:=hrel;obtain⟨A,c,rfl,W⟩:=O.out;have K:=aH W;clear W O;by_cases V:k<16
   .have b1:(k:Int)<16:=I;have d:wr.cell? w=[Z]:=(X.cell (p:=⟨w.heap.size,0,none⟩) (by simp)).trans ((P.cell 0).trans x);have t:wr.cell? (w.heap.size,k+1)=[z (k+1)]:=(X.cell (p:=⟨w.heap.size,k+1,none⟩) (by simp)).trans ((P.cell (k+1)).trans (u.get _ I));have H:wr.cell? (w.heap.size,1+k)=[z (k+1)]:=by rw[Nat.add_comm 1 k];exact t
    have bd:=u.bd (k+1) I;generalize s:z (k+1)=v at t H bd;have R:=aH s;clear s;by_cases N:v<=4294967295
    .have o:decide (4294967295<v)=false:=by simp;omega
     by_cases f:k<Z
     .have q:(k:Int)<Z:=I;have r:decide ((k:Int)<Z)=true:=by simp;omega
      obtain rfl:m=k:=by have:=E.out;omega
      have G:=X.size;simp only[World.size_alloc]at G
      go_wp2_with (at_builtin;refine dM rfl (.tmp 34) (.tmp 37) rfl (B:=w+1) rfl (K.alloc _) rfl ((aY.new _ _ _).cell 0) I (by simp;omega) ?_;intro g2 c2 w2 T D)
      go_roundw
      case rel=>exact⟨m+1,m+1,I,aG,aH I,aH ⟨_,_,rfl,by rw[EW,R.out];exact T⟩,X.trans (Below.trans (by go_grown) D),aH fun j F=>by
       rcases Nat.lt_or_ge j m with h|h
       .exact Y j h
       obtain rfl:j=m:=I;exact⟨by rw[R.out];exact N,fun g=>absurd g I⟩⟩
      case measure=>simp [intOf];omega
     have q:¬(k:Int)<Z:=I;have r:decide ((k:Int)<Z)=false:=by simp;omega
     by_cases S:v=0
     .subst S;go_wp2;go_roundw
      case rel=>exact⟨k+1,m,I,aG,aH (by have:=E.out;omega),aH ⟨A,c,rfl,K.out⟩,X,aH fun j F=>by
       rcases Nat.lt_or_ge j k with h|h
       .exact Y j h
       obtain rfl:j=k:=I;exact⟨by rw[R.out];omega,fun _=>R.out⟩⟩
      case measure=>simp [intOf];omega
     have b:(v !=0)=true:=by simpa using S
     go_wp2;refine bodyPost_ret (by simp [results,results155,go_sem];try rfl) rfl ?_;refine⟨Below.trans (by go_grown) (X.mono I),.inr ⟨fun y=>?_,rfl⟩⟩;have M:=(y.2 k V).2;rw[Q.out,R.out]at M;exact S (M I)
    have o:decide (4294967295<v)=true:=by simp;omega
    go_wp2;refine bodyPost_ret (by simp [results,results155,go_sem];try rfl) rfl ?_;refine⟨Below.trans (by go_grown) (X.mono I),.inr ⟨fun y=>?_,rfl⟩⟩;have M:=(y.2 k V).1;rw[R.out]at M;omega
   obtain rfl:k=16:=I;obtain rfl:m=Z:=by have:=E.out;omega
   go_wp2;refine bodyPost_ret (by simp [results,results155,go_sem];try rfl) rfl ?_;refine⟨Below.trans (by go_grown) (X.mono I),.inl ⟨⟨by rw[Q.out];omega,by rw[Q.out];exact Y⟩,A,c,?_⟩⟩;rw[Q.out];exact⟨rfl,K.out⟩
 have n:decide (6<(Z:Int))=true:=by simp;omega
 go_enter func155,ntmps155
 go_wp2;refine bodyPost_ret (by simp [results,results155,go_sem];try rfl) rfl ?_;exact⟨by go_grown,.inr ⟨fun h=>by have:=h.1;rw[Q.out]at this;omega,rfl⟩⟩
