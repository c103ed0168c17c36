/-
  Part of a proof: RelyU Pb. For all values.
-/
import Derived.Test.YtplpimkgihnmhaaGreatDoorA02
set_option maxRecDepth 100000
set_option maxHeartbeats 400000
set_option linter.all false
namespace Go.Proofs.YtplpimkgihnmhaaGreatDoor
open Go.Proofs.Tryz Go.RowKit
section
open Go.Maps
structure cL (p:Prop):Prop where
 out:p
theorem cC{p:Prop}(h:cL p):p:=h.out
section
variable{P:Program}{ops:Array Oper}
structure qX where
 k:Nat
 dst:Option Tmp
 pv:Value->Prop
 f:(Nat->Value)->Value->World->Prop
def cM:List qX->List fS->Act->(Nat->Value)->(List fS->Act->(Nat->Value)->Prop)->Prop
 |[],H,a,u,K=>K H a u
 |e::r,H,a,u,K=>∀v,e.pv v->cM r ((e.k,fun us=>e.f us v)::H) (a.put e.dst v) (fun i=>if i=e.k then v else u i) K
def bW(P:Program)(ops:Array Oper)(W0:World)(S:Nat->Prop)(wl:List Nat)(anc:Nat->Nat->Bool)(k:Nat)(o:Oper)(E:List qX)(H:List fS)(a:Act)(u:Nat->Value)(T:(Nat->Value)->Value->World->Prop):Prop:=
 cM E H a u fun H' a' u'=>Region.wanted o (yielded ops a'.tmps)=true/\∀w,aD S W0 w->(aD (fun b=>sM wl anc k=false/\S b) W0 w/\BX W0 S (anc k) (BR wl anc k) anc u' H' w)->eQ P o a' w (Bi (T (cV anc k u')) (fun b=>wl.contains k=true/\S b) w)
def fL(P:Program)(ops:Array Oper)(W0:World)(S:Nat->Prop)(wl:List Nat)(anc:Nat->Nat->Bool)(Q:Act->World->Prop):List Oper->Nat->List qX->List fS->Act->(Nat->Value)->Prop
 |[],_,E,H,a,u=>cM E H a u fun H' a' u'=>∀w,aD S W0 w->BX W0 S (fun _=>true) (lO wl anc) anc u' H' w->Q a' w
 |o::r,k,E,H,a,u=>
  (∃(v0:Value) (F0:(Nat->Value)->World->Prop),bW P ops W0 S wl anc k o E H a u (fun u'=>PP v0 (F0 u'))/\fL P ops W0 S wl anc Q r (k+1) E ((k,F0)::H) (a.put o.dst v0) (fun i=>if i=k then v0 else u i))\/
  (cM E H a u (fun _ a' _=>Region.wanted o (yielded ops a'.tmps)=false)/\fL P ops W0 S wl anc Q r (k+1) E H (a.put o.dst undef) (fun i=>if i=k then undef else u i))\/
  (∃(pv:Value->Prop) (F:(Nat->Value)->Value->World->Prop),(∃v,pv v)/\bW P ops W0 S wl anc k o E H a u (fun us=>ZK pv (F us))/\fL P ops W0 S wl anc Q r (k+1) (⟨k,o.dst,pv,F⟩::E) H a u)
theorem yF{m:Nat}{anc:Nat->Nat->Bool}(ok:Rely.Ok ops m anc){a0:Act}{vs:Nat->Value}{K:List fS->Act->(Nat->Value)->Prop}:∀(E:List qX) (H:List fS) (a:Act) (u:Nat->Value) (L:Nat->Prop),
 (∀e∈E,e.k<m/\e.dst=eZ ops e.k/\e.pv (vs e.k)/\¬L e.k)->(E.map (·.k)).Nodup->(∀j,L j->j<m)->dO a0 (eZ ops) L vs a->(∀j,L j->u j=vs j)->cM E H a u K->
 ∃H' a' u',K H' a' u'/\dO a0 (eZ ops) (fun j=>L j\/∃e∈E,e.k=j) vs a'/\(∀j,(L j\/∃e∈E,e.k=j)->u' j=vs j)/\∀x∈H',x∈H\/∃e∈E,x=(e.k,fun us=>e.f us (vs e.k))
 |[],H,a,u,L,_,_,_,hf,hu,h=>⟨H,a,u,h,hf.congr (fun j=>by simp) (fun _ _=>rfl),fun j hj=>by simp at hj;exact hu j hj,fun x hx=>.inl hx⟩
 |e::r,H,a,u,L,hE,hn,hL,hf,hu,h=>by
  obtain⟨h1,h2,h3,h4⟩:=hE e (by simp)
  rw[List.map_cons,List.nodup_cons]at hn
  have h':=h (vs e.k) h3
  rw[h2]at h'
  have hf':dO a0 (eZ ops) (fun j=>j=e.k\/L j) vs (a.put (eZ ops e.k) (vs e.k)):=
   hf.put e.k (fun j t hj hd=>ok.dist e.k j t h1 (hL j hj) (fun q=>h4 (q▸hj)) hd) _ rfl (fun _ _=>rfl) (fun j=>Iff.rfl)
  obtain⟨H',a',u',hK,hfill,hu',hH⟩:=yF ok r _ _ _ (fun j=>j=e.k\/L j) (fun x hx=>by
   obtain⟨q1,q2,q3,q4⟩:=hE x (by simp [hx])
   refine⟨q1,q2,q3,?_⟩
   rintro(q|q)
   .exact hn.1 (by rw[<-q];exact List.mem_map.2 ⟨x,hx,rfl⟩)
   .exact q4 q) hn.2 (fun j hj=>by
   rcases hj with rfl|hj
   .exact h1
   .exact hL j hj) hf' (fun j hj=>by
   by_cases q:j=e.k
   .simp [q]
   simp only[q,if_false]
   exact hu j (hj.resolve_left q)) h'
  refine⟨H',a',u',hK,hfill.congr (fun j=>?_) (fun _ _=>rfl),fun j hj=>hu' j ?_,fun x hx=>?_⟩
  .constructor
   .rintro(q|⟨x,hx,rfl⟩)
    .exact .inl (.inr q)
    rcases List.mem_cons.1 hx with rfl|hx
    .exact .inl (.inl rfl)
    exact .inr ⟨x,hx,rfl⟩
   rintro((rfl|q)|⟨x,hx,rfl⟩)
   .exact .inr ⟨e,by simp,rfl⟩
   .exact .inl q
   exact .inr ⟨x,by simp [hx],rfl⟩
  .rcases hj with q|⟨x,hx,rfl⟩
   .exact .inl (.inr q)
   rcases List.mem_cons.1 hx with rfl|hx
   .exact .inl (.inl rfl)
   exact .inr ⟨x,hx,rfl⟩
  .rcases hH x hx with q|⟨y,hy,rfl⟩
   .rcases List.mem_cons.1 q with rfl|q
    .exact .inr ⟨e,by simp,rfl⟩
    exact .inl q
   exact .inr ⟨y,by simp [hy],rfl⟩
structure Ej (ops:Array Oper) (a0:Act) (spec:Nat->nU) (k:Nat) (E:List qX) (H:List fS) (a:Act) (u:Nat->Value):Prop where
 ent:∀e∈E,e.k<k/\e.dst=eZ ops e.k/\(∀v,(spec e.k).pv v->e.pv v)/\∀vs v w,(spec e.k).f vs v w->e.f vs v w
 nodup:(E.map (·.k)).Nodup
 facts:∀x∈H,x.1<k/\∀vs v w,(spec x.1).pv v->(spec x.1).f vs v w->x.2 vs w
 frame:dO a0 (eZ ops) (fun j=>j<k/\∀e∈E,e.k≠j) u a
 known:∀j,j<k->(∀e∈E,e.k≠j)->∀v,(spec j).pv v->v=u j
theorem Ej.fill{m:Nat}{anc:Nat->Nat->Bool}(ok:Rely.Ok ops m anc){a0:Act}{spec:Nat->nU}{k:Nat}{E:List qX}{H:List fS}{a:Act}{u:Nat->Value}(st:Ej ops a0 spec k E H a u)(hk:k<=m){vs:Nat->Value}(hvs:∀j,j<k->(spec j).pv (vs j))
 {K:List fS->Act->(Nat->Value)->Prop} (h:cM E H a u K):
 ∃H' a' u',K H' a' u'/\dO a0 (eZ ops) (fun j=>j<k) vs a'/\(∀j,j<k->u' j=vs j)/\∀x∈H',x.1<k/\∀us w,(spec x.1).f us (vs x.1) w->x.2 us w:=by
 have hfl':dO a0 (eZ ops) (fun j=>j<k/\∀e∈E,e.k≠j) vs a:=st.frame.congr (fun _=>Iff.rfl) (fun j hj=>st.known j hj.1 hj.2 _ (hvs j hj.1))
 have hall:∀j,j<k->((j<k/\∀e∈E,e.k≠j)\/∃e∈E,e.k=j):=fun j hj=>by
  by_cases hex:∃e∈E,e.k=j
  .exact .inr hex
  exact .inl ⟨hj,fun e he q=>hex ⟨e,he,q⟩⟩
 obtain⟨H',a',u',hK,hf,hu,hH⟩:=yF ok E H a u _ (fun e he=>by
  obtain⟨h1,h2,h3,_⟩:=st.ent e he
  exact⟨I,h2,h3 _ (hvs _ h1),fun q=>q.2 e he rfl⟩) st.nodup (fun j hj=>by have:=hj.1;omega) hfl' (fun j hj=>(st.known j hj.1 hj.2 _ (hvs j hj.1)).symm) h
 refine⟨H',a',u',hK,hf.congr (fun j=>?_) (fun _ _=>rfl),fun j hj=>hu j (hall j hj),fun x hx=>?_⟩
 .constructor
  .exact hall j
  rintro(q|⟨e,he,rfl⟩)
  .exact q.1
  exact(st.ent e he).1
 rcases hH x hx with q|⟨e,he,rfl⟩
 .obtain⟨h1,h2⟩:=st.facts x q
  exact⟨h1,fun us w hw=>h2 us _ w (hvs _ h1) hw⟩
 obtain⟨h1,_,_,h4⟩:=st.ent e he
 exact⟨h1,fun us w hw=>h4 us _ w hw⟩
theorem wH{m:Nat}{W0:World}{S:Nat->Prop}{wl:List Nat}{anc:Nat->Nat->Bool}(ok:Rely.Ok ops m anc){a0:Act}{spec spec':Nat->nU}{k:Nat}{E:List qX}{H:List fS}{a:Act}{u:Nat->Value}{o:Oper}(st:Ej ops a0 spec k E H a u)(hk:k<m)(ho:ops[k]? =some o)
 {s:nU} (hs':spec' k=s) (hs:∀j,j<k->spec' j=spec j) (hne:∃v,s.pv v) (h:bW P ops W0 S wl anc k o E H a u (fun us v w'=>s.pv v/\s.f us v w')):oP P ops W0 S wl anc a0 spec' k:=by
 have hkn:k<ops.size:=Nat.lt_of_lt_of_le hk ok.le
 unfold oP
 rw[hs']
 refine⟨hne,fun o' ho' vs hvs a' ha'=>?_⟩
 rw[ho]at ho'
 cases ho'
 obtain⟨H',a'',u',hK,hf,hu,hH⟩:=st.fill ok I (vs:=vs) (fun j hj=>by rw[<-hs j hj];exact hvs j hj) h
 have e:=hf.unique ha'
 subst e
 have hmk:∀j,j<=k->cV anc j u'=cV anc j vs:=fun j hj=>jK (fun i hi=>hu i (by have:=ok.lt I hi;omega))
 refine .inl ⟨hK.1,fun w hw hst hfa=>?_⟩
 have:=hK.2 w hw (.intro hst<|vS H' fun x hx hsee=>(hfa x.1 (hH x hx).1 hsee).imp fun w0 Oh=>(hH x hx).2 _ w0 (by rw[hmk x.1 (by have:=(hH x hx).1;omega),<-hs x.1 (hH x hx).1];exact Oh))
 rw[hmk k (Nat.le_refl _)]at this
 unfold eQ at this⊢
 generalize(execOp a''.eval o).run P w=r at*
 cases r with
 |ok n w'=>
  cases n<;>simp only[jQ]at this⊢
  case value v=>exact⟨this.1.1,this.1.2,this.2⟩
  case skip=>exact⟨this.1.1,this.1.2,this.2⟩
  case enter f args=>exact this.mono fun e w'' ⟨v,he,ht⟩=>⟨v,he,ht.1.1,ht.1.2,ht.2⟩
 |halt x w'=>simp only[jQ]at this
theorem qM{m:Nat}{W0:World}{S:Nat->Prop}{wl:List Nat}{anc:Nat->Nat->Bool}{Q:Act->World->Prop}(ok:Rely.Ok ops m anc){a0:Act}:∀(l:List Oper) (k:Nat) (E:List qX) (H:List fS) (a:Act) (u:Nat->Value) (spec:Nat->nU),
 (∀j o,l[j]? =some o->ops[k+j]? =some o)->k+l.length=m->Ej ops a0 spec k E H a u->(∀k',k'<k->oP P ops W0 S wl anc a0 spec k')->fL P ops W0 S wl anc Q l k E H a u->
 ∃spec':Nat->nU,(∀k',k'<m->oP P ops W0 S wl anc a0 spec' k')/\
  ∀vs:Nat->Value,(∀j,j<m->(spec' j).pv (vs j))->∀a w,dO a0 (eZ ops) (fun j=>j<m) vs a->aD S W0 w->(∀j,j<m->iY W0 S (lO wl anc j) ((spec' j).f (cV anc j vs) (vs j)) w)->Q a w
 |[],k,E,H,a,u,spec,_,hk,st,hop,h=>by
  simp only[List.length_nil,Nat.add_zero]at hk
  subst hk
  refine⟨spec,hop,fun vs hvs a' w ha' hw hfa=>?_⟩
  obtain⟨H',a'',u',hK,hf,hu,hH⟩:=st.fill ok (Nat.le_refl _) hvs h
  have e:=hf.unique ha'
  subst e
  refine hK w hw (vS H' fun x hx _=>(hfa x.1 (hH x hx).1).imp fun w0 Oh=>(hH x hx).2 _ w0 ?_)
  have hxk:=(hH x hx).1
  rw[show cV anc x.1 u'=cV anc x.1 vs from jK (fun i hi=>hu i (by have:=ok.lt (Nat.lt_of_lt_of_le hxk ok.le) hi;omega))]
  exact Oh
 |o::r,k,E,H,a,u,spec,hl,hk,st,hop,h=>by
  have ho:ops[k]? =some o:=by simpa using hl 0 o (by simp)
  have hkm:k<m:=by simp at hk;omega
  have hdk:o.dst=eZ ops k:=by simp [eZ,ho]
  have hl':∀j o',r[j]? =some o'->ops[k+1+j]? =some o':=fun j o' hj=>by
   have:=hl (j+1) o' (by simpa using hj)
   rwa [show k+1+j=k+(j+1) by omega]
  have hk':k+1+r.length=m:=by simp at hk;omega
  have Ly:∀(s:nU) j,j<k->(fun j=>if j=k then s else spec j) j=spec j:=fun s j hj=>by simp [show j≠k by omega]
  have hop':∀s:nU,oP P ops W0 S wl anc a0 (fun j=>if j=k then s else spec j) k->∀k',k'<k+1->oP P ops W0 S wl anc a0 (fun j=>if j=k then s else spec j) k':=fun s hs k' hlt=>by
   rcases Nat.lt_or_ge k' k with q|q
   .exact(hop k' q).congr fun j hj=>Ly s j I
   rw[show k'=k by omega];exact hs
  have Km:∀(v0:Value) (F0:(Nat->Value)->World->Prop) (H':List fS),(∀x∈H',x∈H\/x=(k,F0))->Ej ops a0 (fun j=>if j=k then⟨fun v=>v=v0,fun us _=>F0 us⟩else spec j) (k+1) E H' (a.put o.dst v0) (fun i=>if i=k then v0 else u i):=fun v0 F0 H' hH'=>by
   refine⟨fun e he=>?_,st.nodup,fun x hx=>?_,?_,fun j hj hE v hv=>?_⟩
   .obtain⟨h1,h2,h3,h4⟩:=st.ent e he
    simp only[iN (Nat.ne_of_lt h1)]
    exact⟨I,h2,h3,h4⟩
   .rcases hH' x hx with q|rfl
    .obtain⟨h1,h2⟩:=st.facts x q
     simp only[iN (Nat.ne_of_lt h1)]
     exact⟨I,h2⟩
    refine⟨by simp,fun us v w _ hw=>?_⟩
    simpa using hw
   .rw[hdk]
    refine st.frame.put k (fun j t hj hd=>ok.dist k j t hkm I I hd) v0 (by simp) (fun j hj=>by simp [show j≠k by omega]) (fun j=>?_)
    constructor
    .rintro⟨h1,h2⟩
     by_cases e:j=k
     .exact .inl e
     exact .inr ⟨I,h2⟩
    rintro(rfl|⟨h1,h2⟩)
    .exact⟨I,fun e he q=>by have:=(st.ent e he).1;omega⟩
    exact⟨I,h2⟩
   by_cases e:j=k
   .subst e;simpa using hv
   simp only[e,if_false]at hv⊢
   exact st.known j I hE v hv
  rcases h with⟨v0,F0,hr,hn⟩|⟨hw,hn⟩|⟨pv,F,hne,hr,hn⟩
  .exact qM ok r (k+1) E _ _ _ _ hl' hk' (Km v0 F0 ((k,F0)::H) (fun x hx=>(List.mem_cons.1 hx).symm))
    (hop' _ (wH ok st hkm ho (s:=⟨fun v=>v=v0,fun us _=>F0 us⟩) (by simp) (fun j hj=>Ly _ j hj) ⟨v0,rfl⟩ hr)) hn
  .refine qM ok r (k+1) E _ _ _ _ hl' hk' (Km undef (fun _ _=>True) H (fun x hx=>.inl hx)) (hop' _ ?_) hn
   unfold oP
   simp only[if_true]
   refine⟨⟨undef,rfl⟩,fun o' ho' vs hvs a' ha'=>?_⟩
   rw[ho]at ho'
   cases ho'
   obtain⟨H',a'',u',hK,hf,hu,hH⟩:=st.fill ok I (vs:=vs) (fun j hj=>by have:=hvs j hj;simpa [show j≠k by omega]using this) hw
   have e:=hf.unique ha'
   subst e
   exact .inr ⟨hK,trivial,fun _=>trivial⟩
  .refine qM ok r (k+1) _ H a u _ hl' hk' ⟨fun e he=>?_,?_,fun x hx=>?_,?_,fun j hj hE v hv=>?_⟩
    (hop' ⟨pv,fun us=>F us⟩ (wH ok st hkm ho (s:=⟨pv,fun us=>F us⟩) (by simp) (fun j hj=>Ly _ j hj) hne hr)) hn
   .rcases List.mem_cons.1 he with rfl|he
    .exact⟨by simp,hdk,fun v hv=>by simpa using hv,fun us v w hw=>by simpa using hw⟩
    obtain⟨h1,h2,h3,h4⟩:=st.ent e he
    simp only[iN (Nat.ne_of_lt h1)]
    exact⟨I,h2,h3,h4⟩
   .rw[List.map_cons,List.nodup_cons]
    refine⟨fun q=>?_,st.nodup⟩
    obtain⟨e,he,q⟩:=List.mem_map.1 q
    have:=(st.ent e he).1
    simp only at q
    omega
   .obtain⟨h1,h2⟩:=st.facts x hx
    simp only[iN (Nat.ne_of_lt h1)]
    exact⟨I,h2⟩
   .refine st.frame.congr (fun j=>?_) (fun _ _=>rfl)
    constructor
    .rintro⟨h1,h2⟩
     have hjk:j≠k:=fun q=>h2 ⟨k,o.dst,pv,F⟩ (by simp) q.symm
     exact⟨I,fun e he=>h2 e (by simp [he])⟩
    rintro⟨h1,h2⟩
    refine⟨I,fun e he=>?_⟩
    rcases List.mem_cons.1 he with rfl|he
    .simp only;omega
    exact h2 e he
   have hjk:j≠k:=fun q=>hE ⟨k,o.dst,pv,F⟩ (by simp) q.symm
   simp only[hjk,if_false]at hv
   exact st.known j I (fun e he=>hE e (by simp [he])) v hv
theorem vG{id:Nat}{l:List Oper}{Q:Exit->Act->World->Prop}{a:Act}{w:World}(m:Nat)(S:Nat->Prop)(wl:List Nat)(hm:P.follows .mixedOrders=true)(hB:Rely.okB l.toArray m=true)
 (h:fL P l.toArray w S wl (vK (oB l.toArray l.toArray.size)) (fun a w=>wpList P l.toArray Q (l.drop m) a w) (l.take m) 0 [] [] a (fun _=>undef)):(Code.region id l.toArray true).wp P Q a w:=by
 have ok:=Rely.ok hB
 have hle:=ok.le
 simp only[List.size_toArray]at hle
 obtain⟨spec,hop,hend⟩:=qM (P:=P) ok (a0:=a) (l.take m) 0 [] [] a (fun _=>undef) (fun _=>⟨fun _=>True,fun _ _ _=>True⟩) (fun j o hj=>by
  rw[List.getElem?_take]at hj
  split at hj
  .simpa using hj
  .cases hj) (by rw[List.length_take];omega)
  ⟨fun e he=>absurd he (by simp),List.nodup_nil,fun x hx=>absurd hx (by simp),(dO.start (vs:=fun _=>undef)).congr (fun j=>by simp) (fun _ h=>h.elim),fun j hj=>absurd hj I⟩ (fun k hk=>absurd hk I) h
 refine wp_region_any hm ?_
 have hex:∀j,∃v,j<m->(spec j).pv v:=fun j=>by
  by_cases hj:j<m
  .obtain⟨v,hv⟩:=(hop j hj).1
   exact⟨v,fun _=>hv⟩
  exact⟨undef,fun h=>absurd h hj⟩
 obtain⟨vs,hvs⟩:=Classical.axiomOfChoice hex
 refine zK ok hop (fun vs hvs a w hf hk hfa=>?_) _ _ vs _ _ ?_ ⟨by simp,hvs,?_,?_,⟨rfl,rfl,rfl,Nat.le_refl _,fun _ _ _=>rfl⟩,fun j hj=>?_,fun i hi=>?_,fun j hj hl=>?_⟩
 .have:=hend vs hvs a w hf hk hfa
  have e:=wpOps_eq_wpList (P:=P) (ops:=l.toArray) (Q:=Q) (l.drop m) m (fun j=>by rw[List.getElem?_drop];simp)
  rw[List.length_drop]at e
  rw[List.size_toArray,e]
  exact this
 .unfold cnt
  rw[List.filter_eq_self.2 (fun j hj=>by simp at hj;simp [hj])]
  simp
 .exact(dO.start (vs:=vs)).congr (fun j=>by simp [Array.getElem?_replicate];intro _;split<;>simp) (fun _ h=>h.elim)
 .exact⟨rfl,rfl,rfl,Nat.le_refl _,fun _ _ _=>rfl⟩
 .simp [Array.getElem?_replicate];split<;>simp
 .exfalso;simp [Array.getElem?_replicate]at hi;split at hi<;>simp at hi
 exfalso;simp [Array.getElem?_replicate]at hl;split at hl<;>simp at hl
theorem aI{W0:World}{S:Nat->Prop}{wl:List Nat}{anc:Nat->Nat->Bool}{Q:Act->World->Prop}{o:Oper}{r:List Oper}{k:Nat}{E:List qX}{H:List fS}{a:Act}{u:Nat->Value}
 (h:∀K:List qX->List fS->Act->(Nat->Value)->Prop,(∀E H a u,fL P ops W0 S wl anc Q r (k+1) E H a u->K E H a u)->
   (∃(v0:Value) (F0:(Nat->Value)->World->Prop),bW P ops W0 S wl anc k o E H a u (fun u'=>PP v0 (F0 u'))/\K E ((k,F0)::H) (a.put o.dst v0) (fun i=>if i=k then v0 else u i))\/
   (cM E H a u (fun _ a' _=>Region.wanted o (yielded ops a'.tmps)=false)/\K E H (a.put o.dst undef) (fun i=>if i=k then undef else u i))\/
   (∃(pv:Value->Prop) (F:(Nat->Value)->Value->World->Prop),(∃v,pv v)/\bW P ops W0 S wl anc k o E H a u (fun us=>ZK pv (F us))/\K (⟨k,o.dst,pv,F⟩::E) H a u)):
 fL P ops W0 S wl anc Q (o::r) k E H a u:=h _ (fun _ _ _ _ h=>h)
theorem kS{W0:World}{S:Nat->Prop}{wl:List Nat}{anc:Nat->Nat->Bool}{Q:Act->World->Prop}{k:Nat}{E:List qX}{H:List fS}{a:Act}{u:Nat->Value}
 (h:cM E H a u fun H' a' u'=>∀w,aD S W0 w->BX W0 S (fun _=>true) (lO wl anc) anc u' H' w->Q a' w):fL P ops W0 S wl anc Q [] k E H a u:=h
theorem hJ{id:Nat}{l:List Oper}{Q:Exit->Act->World->Prop}{a:Act}{w:World}(m:Nat)(S:Nat->Prop)(wl:List Nat)(hm:P.follows .mixedOrders=true)(hB:Rely.okB l.toArray m=true)
 (h:∀anc:Nat->Nat->Bool,Hid (anc=vK (oB l.toArray l.toArray.size))->fL P l.toArray w S wl anc (fun a w=>wpList P l.toArray Q (l.drop m) a w) (l.take m) 0 [] [] a (fun _=>undef)):(Code.region id l.toArray true).wp P Q a w:=
 vG m S wl hm hB (h _ (aH rfl))
end
end
section
theorem aN{P Q:Prop}(k:Q)(h:cL Q->P:=by
 intro kk
 first
 |(simp only[Act.put,List.setIfInBounds_toArray,List.set_cons_zero,List.set_cons_succ];exact kk.out)
 |exact kk.out):P:=h ⟨k⟩
theorem aQ{P Q:Prop}(k:Q)(h:cL Q->P:=by
 intro kk
 simp only[List.drop_succ_cons,List.drop_zero,List.drop,Act.put,List.setIfInBounds_toArray,List.set_cons_zero,List.set_cons_succ]
 exact kk.out):P:=h ⟨k⟩
theorem aW{P Q:Prop}(k:Q)(h:Q->P:=by with_reducible exact fun k=>cL.mk k):P:=h k
theorem aS{P Q:Prop}(k:Q)(h:Q->P:=by with_reducible exact fun k=>cC k):P:=h k
inductive aX (B C:Value->Prop):Prop
 |mk (v:Value) (b:B v) (c:C v):aX B C
theorem aR{P:Program}{ops:Array Oper}{W0:World}{S:Nat->Prop}{wl:List Nat}{anc:Nat->Nat->Bool}{Q:Act->World->Prop}{o:Oper}{r:List Oper}{k:Nat}{E:List zX}{H:List fS}{a:Act}{u:Nat->Value}{B C:Value->Prop}(b:aX B C)
 (h1:∀v,cL (B v)->bJ P ops W0 S wl anc k o E H a u (fun u'=>PP v (cX u')):=by
   intro v kk
   simp only[bJ,bM]
   refine⟨?_,kk.out⟩
   first|rfl|(go_simp;done))
 (h2:∀v,cL (C v)->eR P ops W0 S wl anc Q r (k+1) E ((k,cX)::H) (a.put o.dst v) (fun i=>if i=k then v else u i):=by
   intro v kk
   first
   |(simp only[Act.put,List.setIfInBounds_toArray,List.set_cons_zero,List.set_cons_succ];exact kk.out)
   |exact kk.out):eR P ops W0 S wl anc Q (o::r) k E H a u:=
 let⟨v,hb,hc⟩:=b
 .inl ⟨v,cX,h1 v ⟨hb⟩,h2 v ⟨hc⟩⟩
theorem aV{P:Program}{ops:Array Oper}{W0:World}{S:Nat->Prop}{wl:List Nat}{anc:Nat->Nat->Bool}{Q:Act->World->Prop}{o:Oper}{r:List Oper}{k:Nat}{E:List qX}{H:List fS}{a:Act}{u:Nat->Value}{B C:Value->Prop}(b:aX B C)
 (h1:∀v,cL (B v)->bW P ops W0 S wl anc k o E H a u (fun u'=>PP v (cX u')):=by
   intro v kk
   simp only[bW,cM]
   refine⟨?_,kk.out⟩
   first|rfl|(go_simp;done))
 (h2:∀v,cL (C v)->fL P ops W0 S wl anc Q r (k+1) E ((k,cX)::H) (a.put o.dst v) (fun i=>if i=k then v else u i):=by
   intro v kk
   first
   |(simp only[Act.put,List.setIfInBounds_toArray,List.set_cons_zero,List.set_cons_succ];exact kk.out)
   |exact kk.out):fL P ops W0 S wl anc Q (o::r) k E H a u:=
 let⟨v,hb,hc⟩:=b
 .inl ⟨v,cX,h1 v ⟨hb⟩,h2 v ⟨hc⟩⟩
theorem aR1{P:Program}{ops:Array Oper}{W0:World}{S:Nat->Prop}{wl:List Nat}{anc:Nat->Nat->Bool}{Q:Act->World->Prop}{o:Oper}{r:List Oper}{k:Nat}{E:List zX}{H:List fS}{a:Act}{u:Nat->Value}{B C:Value->Prop}(b:aX B C)
 (h1:∀v,cL (B v)->bJ P ops W0 S wl anc k o E H a u (fun u'=>PP v (cX u')):=by
   intro v kk
   simp only[bJ,bM]
   constructor
   .first|rfl|(go_simp;done)
   intro w9 Gq hx
   clear hx
   obtain⟨Gy,Gz⟩:=Gq.all
   revert Gz Gy Gq w9
   exact kk.out)
 (h2:∀v,cL (C v)->eR P ops W0 S wl anc Q r (k+1) E ((k,cX)::H) (a.put o.dst v) (fun i=>if i=k then v else u i):=by
   intro v kk
   first
   |(simp only[Act.put,List.setIfInBounds_toArray,List.set_cons_zero,List.set_cons_succ];exact kk.out)
   |exact kk.out):eR P ops W0 S wl anc Q (o::r) k E H a u:=
 let⟨v,hb,hc⟩:=b
 .inl ⟨v,cX,h1 v ⟨hb⟩,h2 v ⟨hc⟩⟩
theorem aU{P:Program}{ops:Array Oper}{W0:World}{S:Nat->Prop}{wl:List Nat}{anc:Nat->Nat->Bool}{Q:Act->World->Prop}{o:Oper}{r:List Oper}{k:Nat}{E:List zX}{H:List fS}{a:Act}{u:Nat->Value}{C:Prop}(c:C)
 (h1:bM E H a u (fun _ a' _=>Region.wanted o (yielded ops a'.tmps)=false):=by
   simp only[bM]
   first|rfl|(go_simp;done))
 (h2:cL C->eR P ops W0 S wl anc Q r (k+1) E H (a.put o.dst undef) (fun i=>if i=k then undef else u i):=by
   intro kk
   first
   |(simp only[Act.put,List.setIfInBounds_toArray,List.set_cons_zero,List.set_cons_succ];exact kk.out)
   |exact kk.out):eR P ops W0 S wl anc Q (o::r) k E H a u:=.inr (.inl ⟨h1,h2 ⟨c⟩⟩)
theorem aZ{W0:World}{S:Nat->Prop}{wl:List Nat}{anc:Nat->Nat->Bool}{Q:Act->World->Prop}{P:Program}{ops:Array Oper}{k:Nat}{E:List zX}{H:List fS}{a:Act}{u:Nat->Value}{C:Prop}(c:C)
 (h:cL C->eR P ops W0 S wl anc Q [] k E H a u:=by
   intro kk
   refine cP ?_
   simp only[bM]
   exact kk.out):eR P ops W0 S wl anc Q [] k E H a u:=h ⟨c⟩
theorem bZ{W0:World}{S:Nat->Prop}{wl:List Nat}{anc:Nat->Nat->Bool}{Q:Act->World->Prop}{P:Program}{ops:Array Oper}{k:Nat}{E:List zX}{H:List fS}{a:Act}{u:Nat->Value}{C:Prop}(c:C)
 (h:cL C->eR P ops W0 S wl anc Q [] k E H a u:=by
   intro kk
   refine cP ?_
   simp only[bM]
   intro w9 Gq hx
   clear hx
   obtain⟨Gy,Gz⟩:=Gq.all
   revert Gz Gy Gq w9
   exact kk.out):eR P ops W0 S wl anc Q [] k E H a u:=h ⟨c⟩
theorem aE{p:Prop}(h:p:=by exact⟨⟨rfl,trivial⟩,aD.refl _ _⟩):p:=h
theorem aA{P:Program}{id:Nat}{l:List Oper}{Q:Exit->Act->World->Prop}{a:Act}{w:World}(m:Nat)(h:eR P l.toArray w bN [] (vK (oB l.toArray l.toArray.size)) (fun a w=>wpList P l.toArray Q (l.drop m) a w) (l.take m) 0 [] [] a (fun _=>undef))
 (hm:P.follows .mixedOrders=true:=by kernel_rfl) (hB:Rely.okB l.toArray m=true:=by kernel_rfl):(Code.region id l.toArray true).wp P Q a w:=bK m bN [] hm hB h
theorem aF{p:Prop}(h:p:=by first|rfl|(go_simp;done)):p:=h
theorem bA{P:Program}{ops:Array Oper}{W0:World}{S:Nat->Prop}{wl:List Nat}{anc:Nat->Nat->Bool}{Q:Act->World->Prop}{o:Oper}{r:List Oper}{k:Nat}{E:List zX}{H:List fS}{a:Act}{u:Nat->Value}{B C:Prop}(v:Value)(F:(Nat->Value)->World->Prop)(b:B)(c:C)
 (h1:cL B->bJ P ops W0 S wl anc k o E H a u (fun u'=>PP v (F u')):=by
   intro kk
   simp only[bJ,bM]
   refine⟨?_,kk.out⟩
   first|rfl|(go_simp;done))
 (h2:cL C->eR P ops W0 S wl anc Q r (k+1) E ((k,F)::H) (a.put o.dst v) (fun i=>if i=k then v else u i):=by
   intro kk
   first
   |(simp only[Act.put,List.setIfInBounds_toArray,List.set_cons_zero,List.set_cons_succ];exact kk.out)
   |exact kk.out):eR P ops W0 S wl anc Q (o::r) k E H a u:=.inl ⟨v,F,h1 ⟨b⟩,h2 ⟨c⟩⟩
theorem bB{P:Program}{ops:Array Oper}{W0:World}{S:Nat->Prop}{wl:List Nat}{anc:Nat->Nat->Bool}{Q:Act->World->Prop}{o:Oper}{r:List Oper}{k:Nat}{E:List zX}{H:List fS}{a:Act}{u:Nat->Value}{B C:Prop}(v:Value)(F:(Nat->Value)->World->Prop)(b:B)(c:C)
 (h1:cL B->bJ P ops W0 S wl anc k o E H a u (fun u'=>PP v (F u')):=by
   intro kk
   simp only[bJ,bM]
   exact kk.out)
 (h2:cL C->eR P ops W0 S wl anc Q r (k+1) E ((k,F)::H) (a.put o.dst v) (fun i=>if i=k then v else u i):=by
   intro kk
   first
   |(simp only[Act.put,List.setIfInBounds_toArray,List.set_cons_zero,List.set_cons_succ];exact kk.out)
   |exact kk.out):eR P ops W0 S wl anc Q (o::r) k E H a u:=.inl ⟨v,F,h1 ⟨b⟩,h2 ⟨c⟩⟩
theorem bC{P:Program}{ops:Array Oper}{W0:World}{S:Nat->Prop}{wl:List Nat}{anc:Nat->Nat->Bool}{Q:Act->World->Prop}{o:Oper}{r:List Oper}{k:Nat}{E:List zX}{H:List fS}{a:Act}{u:Nat->Value}{B C:Prop}(pv:Value->Prop)(F:Value->World->Prop)(x:∃v,pv v)(b:B)(c:C)
 (h1:cL B->bJ P ops W0 S wl anc k o E H a u (fun _=>ZK pv F):=by
   intro kk
   simp only[bJ,bM]
   refine⟨?_,kk.out⟩
   first|rfl|(go_simp;done))
 (h2:cL C->eR P ops W0 S wl anc Q r (k+1) (⟨k,o.dst,pv,F⟩::E) H a u:=by
   intro kk
   first
   |(simp only[Act.put,List.setIfInBounds_toArray,List.set_cons_zero,List.set_cons_succ];exact kk.out)
   |exact kk.out):eR P ops W0 S wl anc Q (o::r) k E H a u:=.inr (.inr ⟨pv,F,x,h1 ⟨b⟩,h2 ⟨c⟩⟩)
theorem bD{P:Program}{ops:Array Oper}{W0:World}{S:Nat->Prop}{wl:List Nat}{anc:Nat->Nat->Bool}{Q:Act->World->Prop}{o:Oper}{r:List Oper}{k:Nat}{E:List zX}{H:List fS}{a:Act}{u:Nat->Value}{B C:Prop}(pv:Value->Prop)(F:Value->World->Prop)(x:∃v,pv v)(b:B)(c:C)
 (h1:cL B->bJ P ops W0 S wl anc k o E H a u (fun _=>ZK pv F):=by
   intro kk
   simp only[bJ,bM]
   exact kk.out)
 (h2:cL C->eR P ops W0 S wl anc Q r (k+1) (⟨k,o.dst,pv,F⟩::E) H a u:=by
   intro kk
   first
   |(simp only[Act.put,List.setIfInBounds_toArray,List.set_cons_zero,List.set_cons_succ];exact kk.out)
   |exact kk.out):eR P ops W0 S wl anc Q (o::r) k E H a u:=.inr (.inr ⟨pv,F,x,h1 ⟨b⟩,h2 ⟨c⟩⟩)
theorem bE{P:Program}{ops:Array Oper}{W0:World}{S:Nat->Prop}{wl:List Nat}{anc:Nat->Nat->Bool}{Q:Act->World->Prop}{o:Oper}{r:List Oper}{k:Nat}{E:List qX}{H:List fS}{a:Act}{u:Nat->Value}{B C:Prop}(v:Value)(F:(Nat->Value)->World->Prop)(b:B)(c:C)
 (h1:cL B->bW P ops W0 S wl anc k o E H a u (fun u'=>PP v (F u')):=by
   intro kk
   simp only[bW,cM]
   refine⟨?_,kk.out⟩
   first|rfl|(go_simp;done))
 (h2:cL C->fL P ops W0 S wl anc Q r (k+1) E ((k,F)::H) (a.put o.dst v) (fun i=>if i=k then v else u i):=by
   intro kk
   first
   |(simp only[Act.put,List.setIfInBounds_toArray,List.set_cons_zero,List.set_cons_succ];exact kk.out)
   |exact kk.out):fL P ops W0 S wl anc Q (o::r) k E H a u:=.inl ⟨v,F,h1 ⟨b⟩,h2 ⟨c⟩⟩
theorem bF{P:Program}{ops:Array Oper}{W0:World}{S:Nat->Prop}{wl:List Nat}{anc:Nat->Nat->Bool}{Q:Act->World->Prop}{o:Oper}{r:List Oper}{k:Nat}{E:List qX}{H:List fS}{a:Act}{u:Nat->Value}{B C:Prop}(v:Value)(F:(Nat->Value)->World->Prop)(b:B)(c:C)
 (h1:cL B->bW P ops W0 S wl anc k o E H a u (fun u'=>PP v (F u')):=by
   intro kk
   simp only[bW,cM]
   exact kk.out)
 (h2:cL C->fL P ops W0 S wl anc Q r (k+1) E ((k,F)::H) (a.put o.dst v) (fun i=>if i=k then v else u i):=by
   intro kk
   first
   |(simp only[Act.put,List.setIfInBounds_toArray,List.set_cons_zero,List.set_cons_succ];exact kk.out)
   |exact kk.out):fL P ops W0 S wl anc Q (o::r) k E H a u:=.inl ⟨v,F,h1 ⟨b⟩,h2 ⟨c⟩⟩
theorem bG{P:Program}{ops:Array Oper}{W0:World}{S:Nat->Prop}{wl:List Nat}{anc:Nat->Nat->Bool}{Q:Act->World->Prop}{o:Oper}{r:List Oper}{k:Nat}{E:List qX}{H:List fS}{a:Act}{u:Nat->Value}{B C:Prop}(pv:Value->Prop)(F:(Nat->Value)->Value->World->Prop)(x:∃v,pv v)(b:B)(c:C)
 (h1:cL B->bW P ops W0 S wl anc k o E H a u (fun us=>ZK pv (F us)):=by
   intro kk
   simp only[bW,cM]
   refine⟨?_,kk.out⟩
   first|rfl|(go_simp;done))
 (h2:cL C->fL P ops W0 S wl anc Q r (k+1) (⟨k,o.dst,pv,F⟩::E) H a u:=by
   intro kk
   first
   |(simp only[Act.put,List.setIfInBounds_toArray,List.set_cons_zero,List.set_cons_succ];exact kk.out)
   |exact kk.out):fL P ops W0 S wl anc Q (o::r) k E H a u:=.inr (.inr ⟨pv,F,x,h1 ⟨b⟩,h2 ⟨c⟩⟩)
theorem bH{P:Program}{ops:Array Oper}{W0:World}{S:Nat->Prop}{wl:List Nat}{anc:Nat->Nat->Bool}{Q:Act->World->Prop}{o:Oper}{r:List Oper}{k:Nat}{E:List qX}{H:List fS}{a:Act}{u:Nat->Value}{B C:Prop}(pv:Value->Prop)(F:(Nat->Value)->Value->World->Prop)(x:∃v,pv v)(b:B)(c:C)
 (h1:cL B->bW P ops W0 S wl anc k o E H a u (fun us=>ZK pv (F us)):=by
   intro kk
   simp only[bW,cM]
   exact kk.out)
 (h2:cL C->fL P ops W0 S wl anc Q r (k+1) (⟨k,o.dst,pv,F⟩::E) H a u:=by
   intro kk
   first
   |(simp only[Act.put,List.setIfInBounds_toArray,List.set_cons_zero,List.set_cons_succ];exact kk.out)
   |exact kk.out):fL P ops W0 S wl anc Q (o::r) k E H a u:=.inr (.inr ⟨pv,F,x,h1 ⟨b⟩,h2 ⟨c⟩⟩)
end
end Go.Proofs.YtplpimkgihnmhaaGreatDoor
