/-
  Part of a proof: RowM. For all values.
-/
import Derived.Deep.Upon
import Derived.Test.YtplpimkgihnmhaaGreatDoorA20
set_option maxRecDepth 100000
set_option maxHeartbeats 400000
set_option linter.all false
namespace Go.Proofs.YtplpimkgihnmhaaGreatDoor
open Go.Proofs.Tryz Go.RowKit
section
theorem PZ{P:Program}{w:World}{t e:TypeId}{size:Nat}(hu:P.underlying t=some (.slice e))(X:Option Addr)(d:Nat):Src P size t (.slice X 0 d) 0 [] w:=by
 refine⟨.inl ⟨e,hu⟩,?_,?_,?_,by simp,fun u h=>by simp at h⟩
 .intro w';simp [Builtin.lenOf]
 .cases X<;>simp [Builtin.firstCells,loadCells,loadCellsFrom]
 cases X<;>simp [Builtin.firstCells,loadCells,loadCellsFrom]
theorem ER{m:Nat}(hm:0<m){rows:List (List Value)}(h:∀r∈rows,r.length=m){j:Nat}{u:Value}(hj:rows.flatten[j]? =some u):∃r,rows[j/m]? =some r/\r[j%m]? =some u:=by
 have hl:=fP h
 have hlt:j<rows.length*m:=by have:=(List.getElem?_eq_some_iff.1 hj).1;rw[hl]at this;exact this
 have h1:=(Nat.div_lt_iff_lt_mul hm).2 hlt
 refine⟨rows[j/m],List.getElem?_eq_getElem h1,?_⟩
 have h2:=nH h (List.getElem?_eq_getElem h1) (Nat.mod_lt j hm)
 rw[Nat.mul_comm,Nat.div_add_mod]at h2
 rw[<-h2];exact hj
theorem BV{P:Program}{w:World}{B:Nat}{t e:TypeId}{m bytes:Nat}{i0:TypeInfo}{zv:Value}(hu:P.underlying t=some (.slice e))(hi:P.info? e=some i0)(hz:i0.zero=some zv)(hs:i0.size=m)(hby:i0.bytes=bytes)
 (hzs:zv.cells.size=m) (hm:0<m) (hbb:bytes<=1000) {A:Option Addr} {n c:Nat} {rows:List (List Value)} (hown:cU w B e m A n c rows) {X:Option Addr} {k d:Nat} {xs:List (List Value)} (hx:FI m w X k d xs)
 (h1:∀r∈xs,∀u∈r,u.oneCell'=true) (hn:n+k<=1000000000) (hB:B<=w) (ty:TypeId):
 ∃A' c' w',(Builtin.append_ #[t,t] ty #[.slice A n c,.slice X k d]).run P w=.ok (.slice A' (n+k) c') w'/\cU w' B e m A' (n+k) c' (rows++xs)/\aD (iI A) w w'/\∀b,iI A' b->iI A b\/w<=b:=by
 rcases Nat.eq_zero_or_pos k with hk|hk
 .subst hk
  have Im:=List.eq_nil_of_length_eq_zero hx.len
  subst Im
  refine⟨A,c,w,run_append_nothing w t t ty e i0 hu hi A n c ?_ _ (PZ hu X d),by rw[List.append_nil];exact hown,aD.refl _ _,fun b hb=>.inl hb⟩
  obtain⟨_,h2⟩:=hown.own
  rcases h2 with⟨h2,_⟩|⟨g,cap,cur,hv,_,_,hc,_⟩
  .simp only[Value.slice.injEq]at h2;omega
  simp only[Value.slice.injEq]at hv;omega
 obtain⟨b,off,rfl,hlt,hc⟩:=hx.at_ hk
 obtain⟨g',cap,w',hr,ho,hg,hat,_⟩:=run_append_lies (P:=P) w t ty B e i0 zv m bytes hu hi hz hs hby hzs hm (.slice A n c) n _ hown.own ⟨b,off,none⟩ k d xs.flatten (by rw[fP hx.each,hx.len])
  (by intro j u hj
      obtain⟨r,hr1,hr2⟩:=ER hm hx.each hj
      have hcc:=hc _ r hr1 _ u hr2
      have e:j/m*m+j%m=j:=by rw[Nat.mul_comm];exact Nat.div_add_mod j m
      rw[Nat.add_assoc,e]at hcc
      by_cases j0:j=0
      .subst j0;simpa [Addr.add]using hcc
      .simpa [Addr.add,j0]using hcc)
  (by intro u Zk
      obtain⟨r,hr,hur⟩:=List.mem_flatten.1 Zk
      exact h1 r hr u hur) hk (by unfold maxLen;omega) (by
       have:(n+k)*bytes<=1000000000*1000:=Nat.mul_le_mul hn hbb
       omega) hB _ rfl
 refine⟨some ⟨g',0,none⟩,cap,w',hr,⟨by rw[List.flatten_append];exact ho,by simp [hown.len,hx.len],fun r hr=>?_⟩,(tM hg).mono fun b hb=>?_,fun b hb=>?_⟩
 .rcases List.mem_append.1 hr with hr|hr
  .exact hown.each r hr
  exact hx.each r hr
 .cases A with
  |none=>simp [Value.ownBlock]at hb
  |some a=>exact⟨a,rfl,by simpa [Value.ownBlock]using hb⟩
 obtain⟨a,ha,rfl⟩:=hb
 cases ha
 rcases hat with h|h
 .left
  cases A with
  |none=>simp [Value.ownBlock]at h
  |some a=>exact⟨a,rfl,by simpa [Value.ownBlock]using h⟩
 right
 show w<=g'
 omega
theorem CZ{P:Program}{o:Oper}{a:Act}{w:World}(s x:Operand){B:Nat}{t e:TypeId}{m bytes:Nat}{i0:TypeInfo}{zv:Value}
 (ho:o.op=.call {callee:=.builtin .append,args:= #[s,x],argTypes:= #[t,t]}) (hu:P.underlying t=some (.slice e)) (hi:P.info? e=some i0) (hz:i0.zero=some zv) (hs:i0.size=m) (hby:i0.bytes=bytes)
 (hzs:zv.cells.size=m) (hm:0<m) (hbb:bytes<=1000) {A:Option Addr} {n c:Nat} {rows:List (List Value)} (hse:a.eval s=.slice A n c) (hown:cU w B e m A n c rows) {X:Option Addr} {k d:Nat} {xs:List (List Value)} (hxe:a.eval x=.slice X k d) (hx:FI m w X k d xs)
 (h1:∀r∈xs,∀u∈r,u.oneCell'=true) (hn:n+k<=1000000000) (hB:B<=w):
 ∃A' c' w',(execOp a.eval o).run P w=.ok (.value (.slice A' (n+k) c')) w'/\cU w' B e m A' (n+k) c' (rows++xs)/\aD (iI A) w w'/\∀b,iI A' b->iI A b\/w<=b:=by
 obtain⟨A',c',w',hr,h2⟩:=BV hu hi hz hs hby hzs hm hbb hown hx h1 hn hB o.type
 refine⟨A',c',w',?_,h2⟩
 unfold execOp
 simp only[ho,resolve,invoke,builtin,Sem.run_bind,Sem.run_pure,Result.andThen_ok,List.map_toArray,List.map_cons,List.map_nil,hse,hxe,hr]
theorem pY{P:Program}{ops:Array Oper}{Q:Exit->Act->World->Prop}{rest:List Oper}{o:Oper}{a:Act}{w:World}(s x:Operand){B:Nat}{t e:TypeId}{m bytes:Nat}{i0:TypeInfo}{zv:Value}
 (ho:o.op=.call {callee:=.builtin .append,args:= #[s,x],argTypes:= #[t,t]}) (hgd:o.guard=none) (hu:P.underlying t=some (.slice e)) (hi:P.info? e=some i0) (hz:i0.zero=some zv) (hs:i0.size=m) (hby:i0.bytes=bytes)
 (hzs:zv.cells.size=m) (hm:0<m) (hbb:bytes<=1000) {A:Option Addr} {n c:Nat} {rows:List (List Value)} (hse:a.eval s=.slice A n c) (hown:cU w B e m A n c rows) {X:Option Addr} {k d:Nat} {xs:List (List Value)} (hxe:a.eval x=.slice X k d) (hx:FI m w X k d xs)
 (h1:∀r∈xs,∀u∈r,u.oneCell'=true) (hn:n+k<=1000000000) (hB:B<=w)
 (hK:∀A' c' w',cU w' B e m A' (n+k) c' (rows++xs)->aD (iI A) w w'->(∀b,iI A' b->iI A b\/w<=b)->wpList P ops Q rest (a.put o.dst (.slice A' (n+k) c')) w'):wpList P ops Q (o::rest) a w:=by
 obtain⟨A',c',w',hr,h2,h3,h4⟩:=CZ s x ho hu hi hz hs hby hzs hm hbb hse hown hxe hx h1 hn hB
 refine wpList_step fun K Yx=>?_
 rw[iP (by unfold Region.wanted;rw[hgd])]
 unfold Oper.wp
 rw[hr]
 exact Yx _ _ (hK A' c' w' h2 h3 h4)
end
end Go.Proofs.YtplpimkgihnmhaaGreatDoor
