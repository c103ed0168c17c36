/-
  Parts of a proof. For all values.
-/
import Derived.Deep.Upon
import Derived.Test.YtplpimkgihnmhaaGreatDoorA16
set_option maxRecDepth 100000
set_option maxHeartbeats 400000
set_option linter.all false
namespace Go.Proofs.YtplpimkgihnmhaaGreatDoor
open Go.Proofs.Tryz Go.RowKit
variable{P:Program}{w:World}{t e:TypeId}{m B bytes:Nat}{zv:Value}{o:Oper}{a:Act}
section
theorem PZ{size:Nat}(Z:P.underlying t=some (.slice e))(X:Option Addr)(d:Nat):Src P size t (.slice X 0 d) 0 [] w:=by
 refine⟨.inl ⟨e,Z⟩,?_,?_,?_,by simp,fun u h=>by simp at h⟩
 .intro w';simp [Builtin.lenOf]
 .cases X<;>simp [Builtin.firstCells,loadCells,loadCellsFrom]
 cases X<;>simp [Builtin.firstCells,loadCells,loadCellsFrom]
theorem ER(W:0<m){rows:List (List Value)}(h:∀r∈rows,r.length=m){j:Nat}{u:Value}(V:rows.flatten[j]? =some u):∃r,rows[j/m]? =some r/\r[j%m]? =some u:=by
 have U:=fP h;have Z:j<rows.length*m:=by have:=(List.getElem?_eq_some_iff.1 V).1;rw[U]at this;exact this
 have Y:=(Nat.div_lt_iff_lt_mul W).2 Z;refine⟨rows[j/m],List.getElem?_eq_getElem Y,?_⟩;have X:=nH h (List.getElem?_eq_getElem Y) (Nat.mod_lt j W);rw[Nat.mul_comm,Nat.div_add_mod]at X;rw[<-X];exact V
theorem BV{U:TypeInfo}(H:P.underlying t=some (.slice e))(x:P.info? e=some U)(hz:U.zero=some zv)(hs:U.size=m)(G:U.bytes=bytes)
 (F:zv.cells.size=m) (v:0<m) (E:bytes<=1000) {A:Option Addr} {n c:Nat} {rows:List (List Value)} (Z:cU w B e m A n c rows) {X:Option Addr} {k d:Nat} {xs:List (List Value)} (W:FI m w X k d xs)
 (h1:∀r∈xs,∀u∈r,u.oneCell'=true) (hn:n+k<=1000000000) (hB:B<=w) (ty:TypeId):
 ∃D c' w',(Builtin.append_ #[t,t] ty #[.slice A n c,.slice X k d]).run P w=.ok (.slice D (n+k) c') w'/\cU w' B e m D (n+k) c' (rows++xs)/\aD (iI A) w w'/\∀b,iI D b->iI A b\/w<=b:=by
 rcases Nat.eq_zero_or_pos k with hk|hk
 .subst hk;have S:=List.eq_nil_of_length_eq_zero W.len;subst S;refine⟨A,c,w,run_append_nothing w t t ty e U H x A n c ?_ _ (PZ H X d),by rw[List.append_nil];exact Z,aD.refl _ _,fun b V=>.inl V⟩;obtain⟨_,R⟩:=Z.own;rcases R with⟨R,_⟩|⟨g,T,s,q,_,_,C,_⟩
  .simp only[Value.slice.injEq]at R;omega
  simp only[Value.slice.injEq]at q;omega
 obtain⟨b,Q,rfl,p,C⟩:=W.at_ hk;obtain⟨z,T,w',hr,o,l,O,_⟩:=run_append_lies (P:=P) w t ty B e U zv m bytes H x hz hs G F v (.slice A n c) n _ Z.own ⟨b,Q,none⟩ k d xs.flatten (by rw[fP W.each,W.len])
  (by intro j u i
      obtain⟨r,N,M⟩:=ER v W.each i;have Y:=C _ r N _ u M;have e:j/m*m+j%m=j:=by rw[Nat.mul_comm];exact Nat.div_add_mod j m
      rw[Nat.add_assoc,e]at Y;by_cases y:j=0
      .subst y;simpa [Addr.add]using Y
      .simpa [Addr.add,y]using Y)
  (by intro u L
      obtain⟨r,hr,K⟩:=List.mem_flatten.1 L;exact h1 r hr u K) hk (by unfold maxLen;omega) (by
       have:(n+k)*bytes<=1000000000*1000:=Nat.mul_le_mul hn E;omega) hB _ rfl
 refine⟨some ⟨z,0,none⟩,T,w',hr,⟨by rw[List.flatten_append];exact o,by simp [Z.len,W.len],fun r hr=>?_⟩,(tM l).mono fun b V=>?_,fun b V=>?_⟩
 .rcases List.mem_append.1 hr with hr|hr
  .exact Z.each r hr
  exact W.each r hr
 .cases A with
  |none=>simp [Value.ownBlock]at V
  |some a=>exact⟨a,rfl,by simpa [Value.ownBlock]using V⟩
 obtain⟨a,f,rfl⟩:=V;cases f;rcases O with h|h
 .left;cases A with
  |none=>simp [Value.ownBlock]at h
  |some a=>exact⟨a,rfl,by simpa [Value.ownBlock]using h⟩
 right;show w<=z;omega
theorem CZ(s x:Operand){W:TypeInfo}
 (N:o.op=.call {callee:=.builtin .append,args:= #[s,x],argTypes:= #[t,t]}) (M:P.underlying t=some (.slice e)) (L:P.info? e=some W) (K:W.zero=some zv) (H:W.size=m) (V:W.bytes=bytes)
 (U:zv.cells.size=m) (G:0<m) (T:bytes<=1000) {A:Option Addr} {n c:Nat} {rows:List (List Value)} (S:a.eval s=.slice A n c) (Y:cU w B e m A n c rows) {X:Option Addr} {k d:Nat} {xs:List (List Value)} (R:a.eval x=.slice X k d) (F:FI m w X k d xs)
 (E:∀r∈xs,∀u∈r,u.oneCell'=true) (D:n+k<=1000000000) (C:B<=w):
 ∃Z c' w',(execOp a.eval o).run P w=.ok (.value (.slice Z (n+k) c')) w'/\cU w' B e m Z (n+k) c' (rows++xs)/\aD (iI A) w w'/\∀b,iI Z b->iI A b\/w<=b:=by
 obtain⟨Z,c',w',Q,O⟩:=BV M L K H V U G T Y F E D C o.type;refine⟨Z,c',w',?_,O⟩;unfold execOp;simp only[N,resolve,invoke,builtin,Sem.run_bind,Sem.run_pure,Result.andThen_ok,List.map_toArray,List.map_cons,List.map_nil,S,R,Q]
theorem pY{ops:Array Oper}{Q:Exit->Act->World->Prop}{Z:List Oper}(s x:Operand){V:TypeInfo}
 (E:o.op=.call {callee:=.builtin .append,args:= #[s,x],argTypes:= #[t,t]}) (T:o.guard=none) (D:P.underlying t=some (.slice e)) (C:P.info? e=some V) (z:V.zero=some zv) (y:V.size=m) (S:V.bytes=bytes)
 (R:zv.cells.size=m) (v:0<m) (O:bytes<=1000) {A:Option Addr} {n c:Nat} {rows:List (List Value)} (N:a.eval s=.slice A n c) (W:cU w B e m A n c rows) {X:Option Addr} {k d:Nat} {xs:List (List Value)} (M:a.eval x=.slice X k d) (q:FI m w X k d xs)
 (p:∀r∈xs,∀u∈r,u.oneCell'=true) (l:n+k<=1000000000) (j:B<=w)
 (i:∀Y c' w',cU w' B e m Y (n+k) c' (rows++xs)->aD (iI A) w w'->(∀b,iI Y b->iI A b\/w<=b)->wpList P ops Q Z (a.put o.dst (.slice Y (n+k) c')) w'):wpList P ops Q (o::Z) a w:=by
 obtain⟨Y,c',w',L,H,G,F⟩:=CZ s x E D C z y S R v O N W M q p l j;refine wpList_step fun K U=>?_
 rw[iP (by unfold Region.wanted;rw[T])];unfold Oper.wp;rw[L];exact U _ _ (i Y c' w' H G F)
theorem Cz{T:Value->World->Prop}(s x:Operand){W:TypeInfo}
 (K:o.op=.call {callee:=.builtin .append,args:= #[s,x],argTypes:= #[t,t]}) (H:P.underlying t=some (.slice e)) (G:P.info? e=some W) (F:W.zero=some zv) (E:W.size=m) (V:W.bytes=bytes)
 (U:zv.cells.size=m) (D:0<m) (S:bytes<=1000) {A:Option Addr} {n c:Nat} {rows:List (List Value)} (R:a.eval s=.slice A n c) (Y:cU w B e m A n c rows) {X:Option Addr} {k d:Nat} {xs:List (List Value)} (Q:a.eval x=.slice X k d) (C:FI m w X k d xs)
 (z:∀r∈xs,∀u∈r,u.oneCell'=true) (y:n+k<=1000000000) (v:B<=w)
 (q:∀Z c' w',cU w' B e m Z (n+k) c' (rows++xs)->aD (iI A) w w'->(∀b,iI Z b->iI A b\/w<=b)->T (.slice Z (n+k) c') w'):eQ P o a w T:=by
 obtain⟨Z,c',w',O,N,M,L⟩:=CZ s x K H G F E V U D S R Y Q C z y v;exact yM O (q Z c' w' N M L)
