/-
  Part of a proof: MSets MTabA MWord. For all values.
-/
import Derived.Deep.Onto
import Derived.Deep.RegionLawGrows
import Derived.Test.YtplpimkgihnmhaaGreatDoorA03
set_option maxRecDepth 100000
set_option maxHeartbeats 2000000
set_option linter.all false
namespace Go.Proofs.YtplpimkgihnmhaaGreatDoor
open Go.Proofs.Tryz Go.RowKit
section
def fF(cs:Array Value):Nat->List Value->Array Value
 |_,[]=>cs
 |o,v::r=>fF (cs.setIfInBounds o v) (o+1) r
theorem fA:∀(vs:List Value) (o:Nat) (cs:Array Value),(fF cs o vs).size=cs.size
 |[],_,_=>rfl
 |v::r,o,cs=>by rw[fF,fA r];simp
theorem iR:∀(vs:List Value) (o:Nat) (cs:Array Value) (i:Nat),i<cs.size->(fF cs o vs)[i]? =if o<=i/\i<o+vs.length then vs[i-o]? else cs[i]?
 |[],o,cs,i,_=>by rw[fF,iN (by simp only[List.length_nil];omega)]
 |v::r,o,cs,i,hi=>by
  rw[fF,iR r (o+1) _ i (by simpa using hi),Array.getElem?_setIfInBounds]
  by_cases h:o=i
  .subst h
   rw[iN I,iP rfl,iP hi,iP (by simp),Nat.sub_self];try rfl
  .rw[iN h]
   by_cases h2:o+1<=i/\i<o+1+r.length
   .rw[iP h2,iP (by simp only[List.length_cons];omega),show i-o=(i-(o+1))+1 by omega];try rfl
   rw[iN h2,iN (by simp only[List.length_cons];omega)]
theorem EE{vs:List Value}{o i:Nat}{cs:Array Value}(hi:i<vs.length)(h:o+vs.length<=cs.size):(fF cs o vs)[o+i]? =vs[i]? :=by
 rw[iR vs o cs _ I,iP I,Nat.add_sub_cancel_left]
theorem iB{vs:List Value}{o i:Nat}{cs:Array Value}(hi:i<o\/o+vs.length<=i):(fF cs o vs)[i]? =cs[i]? :=by
 rcases Nat.lt_or_ge i cs.size with h|h
 .rw[iR vs o cs _ h,iN I]
 rw[Array.getElem?_eq_none (by rw[fA];exact h),Array.getElem?_eq_none h]
theorem uN{vs:List Value}{o:Nat}{cs:Array Value}(hc:cs.all (·.oneCell')=true)(hv:∀v∈vs,v.oneCell'=true):(fF cs o vs).all (·.oneCell')=true:=by
 rw[Array.all_eq_true]at hc⊢
 intro i hi
 have hi':i<cs.size:=by rwa [fA]at hi
 have e:=iR vs o cs i hi'
 rw[Array.getElem?_eq_getElem hi]at e
 by_cases h:o<=i/\i<o+vs.length
 .rw[iP h,List.getElem?_eq_getElem I]at e
  rw[Option.some.inj e]
  exact hv _ (List.getElem_mem _)
 rw[iN h,Array.getElem?_eq_getElem hi']at e
 rw[Option.some.inj e]
 exact hc i hi'
theorem aY.setCells{g:Nat}{t:TypeId}:∀{vs:List Value} {o:Nat} {w:World} {cs:Array Value},aY w g t cs->aY (w.setCells g o vs) g t (fF cs o vs)
 |[],_,_,_,h=>h
 |v::r,o,w,cs,h=>by
  rw[World.setCells,fF]
  exact aY.setCells (h.set_ o v)
theorem kN(g:Nat):∀(vs:List Value) (o:Nat) (w:World) (k:Nat),k≠g->(w.setCells g o vs).heap[k]? =w.heap[k]?
 |[],_,_,_,_=>rfl
 |v::r,o,w,k,h=>by
  rw[World.setCells,kN g r _ _ k h]
  exact Below.heap_setCell w _ v k h
theorem mD(g:Nat):∀(vs:List Value) (o:Nat) (w:World),(w.setCells g o vs).heap.size=w
 |[],_,_=>rfl
 |v::r,o,w=>by rw[World.setCells,mD g r];simp
theorem nM(g:Nat):∀(vs:List Value) (o:Nat) (w:World),(w.setCells g o vs).os=w.os/\(w.setCells g o vs).tape=w.tape/\(w.setCells g o vs).output=w.output
 |[],_,_=>⟨rfl,rfl,rfl⟩
 |v::r,o,w=>by
  obtain⟨a,b,c⟩:=nM g r (o+1) (w.setCell (g,o) v)
  exact⟨a,b,c⟩
theorem aY.far_cells{w:World}{g g':Nat}{t:TypeId}{cs:Array Value}(h:aY w g' t cs)(hg:g'≠g)(o:Nat)(vs:List Value):aY (w.setCells g o vs) g' t cs:=(kN g vs o w g' hg).trans h
theorem cE{S:Nat->Prop}{w:World}{g:Nat}(h:S g\/w.heap.size<=g)(o:Nat)(vs:List Value):aD S w (w.setCells g o vs):=by
 obtain⟨a,b,c⟩:=nM g vs o w
 refine⟨a,b,c,by rw[mD];exact Nat.le_refl _,fun k hk hn=>kN g vs o w k (fun e=>?_)⟩
 subst e
 rcases h with h|h
 .exact hn h
 omega
theorem vJ{B g:Nat}{a w:World}(h:Below B a w)(hg:B<=g)(o:Nat)(vs:List Value):Below B a (w.setCells g o vs):=by
 obtain⟨x,y,z⟩:=nM g vs o w
 exact h.trans ⟨x,y,z,by rw[mD];exact Nat.le_refl _,fun k hk=>kN g vs o w k I⟩
theorem dA{P:Program}{o:Oper}{a:Act}{w:World}{T:Value->World->Prop}(ty:TypeId)(x y:Operand)(ho:o.op=.store ty x y)(b off:Nat)(cells:Array Value)(hx:a.eval x=.pointer (some ⟨b,off,none⟩))(hy:a.eval y=.agg cells)
 (ht:w.there b off cells.size) (hi:(P.info? ty).map (·.size)=some cells.size) (h1:cells.all (·.oneCell')=true) (hT:T undef (w.setCells b off cells.toList)):eQ P o a w T:=by
 unfold eQ execOp
 simp only[ho,hx,hy,Instr.storeAt,Instr.sureAddr,Sem.run_bind,Sem.run_pure,Result.andThen_ok,run_storeVar_mid w b off ty cells ht hi h1]
 exact hT
theorem aY.there{w:World}{g:Nat}{t:TypeId}{cs:Array Value}(h:aY w g t cs){o n:Nat}(hn:o+n<=cs.size):w.there g o n:=fun j hj=>
 ⟨by rw[h.cell,Array.getElem?_eq_getElem I];rfl,h.frozen _⟩
theorem dQ{P:Program}{id:Nat}{l:List Oper}{Q:Exit->Act->World->Prop}{a:Act}{w:World}(m:Nat)(S:Nat->Prop)(wl:List Nat)(hm:P.follows .mixedOrders=true)(hB:Rely.okB l.toArray m=true)
 (h:∀anc:Nat->Nat->Bool,Hid (anc=vK (oB l.toArray l.toArray.size))->eR P l.toArray w S wl anc (fun a w=>wpList P l.toArray Q (l.drop m) a w) (l.take m) 0 [] [] a (fun _=>undef)):(Code.region id l.toArray true).wp P Q a w:=
 bK m S wl hm hB (h _ (aH rfl))
theorem bR{P:Program}{fn:Func}{p q:Tmp}{ty:TypeId}(h:fn.results= #[.cell p ty,.tmp q])(tmps:Array Value)(w:World)(g:Nat)(t:TypeId)(cs:Array Value)(d:TypeDesc)(v:Value)
 (hp:tmps.getD p undef=.pointer (some ⟨g,0,none⟩)) (hq:tmps.getD q undef=v) (hg:aY w g t cs)
 (hu:P.underlying ty=some d) (hd:(match d with|.struct _|.array _ _=>true|_=>false)=true) (hi:(P.info? ty).map (·.size)=some cs.size):
 (results fn tmps).run P w=.ok (.tuple #[.agg cs,v]) w:=by
 have hp':tmps[p]?.getD undef=.pointer (some ⟨g,0,none⟩):=by simpa using hp
 have hq':tmps[q]?.getD undef=v:=by simpa using hq
 simp [results,h,hp',hq',asAddr,run_loadVar_row w g t ty cs (0,0) d hg hu hd hi]
theorem pG{P:Program}{o:Oper}{a:Act}{w:World}{T:Value->World->Prop}(ty:TypeId)(x:Operand)(ho:o.op=.load ty x)(b off:Nat)(hx:a.eval x=.pointer (some ⟨b,off,none⟩))
 (cs:List Value) (d:TypeDesc) (hc:w.rangeAt b off cs) (hu:P.underlying ty=some d) (hd:d.isRow=true) (hi:(P.info? ty).map (·.size)=some cs.length) (hT:T (.agg cs.toArray) w):eQ P o a w T:=by
 unfold eQ execOp
 simp only[ho,hx,Instr.loadAt,Instr.sureAddr,Sem.run_bind,Sem.run_pure,Result.andThen_ok,run_loadVar_mid w b off ty cs d hc hu hd hi,jQ]
 exact hT
theorem eG{P:Program}{o:Oper}{a:Act}{w:World}{T:Value->World->Prop}(ty:TypeId)(x:Operand)(ho:o.op=.load ty x)(b off:Nat)(hx:a.eval x=.pointer (some ⟨b,off,none⟩))
 (C:Array Value) (d:TypeDesc) (hc:w.rangeAt b off C.toList) (hu:P.underlying ty=some d) (hd:d.isRow=true) (hi:(P.info? ty).map (·.size)=some C.size) (hT:T (.agg C) w):eQ P o a w T:=
 pG ty x ho b off hx C.toList d hc hu hd (by rw[hi,Array.length_toList]) (by rw[Array.toArray_toList];exact hT)
section
variable{P:Program}{ops:Array Oper}{rest:List Oper}{a:Act}{w:World}{Q:Exit->Act->World->Prop}{ty':TypeId}{pos:String}{af:Array Edge}
theorem oI(ty:TypeId){x y:Operand}(b o:Nat)(cells:Array Value)(hx:a.eval x=.pointer (some ⟨b,o,none⟩))(hy:a.eval y=.agg cells)
 (ht:w.there b o cells.size) (hi:(P.info? ty).map (·.size)=some cells.size) (h1:cells.all (·.oneCell')=true)
 (h:wpList P ops Q rest a (w.setCells b o cells.toList)):wpList P ops Q ({dst:=none,op:=.store ty x y,type:=ty',pos:=pos,after:=af,guard:=none}::rest) a w:=
 wpList_store_mid rfl ty x y rfl b o cells hx hy ht hi h1 h
end
end
section
attribute [local go_sem↓] Go.wp_at_zero Go.wp_at_succ
structure eB (C:Array Value) (n:Nat) (z:Nat->Int):Prop where
 size:C.size=n
 get:∀i,i<n->C[i]? =some (.int .i64 (z i))
 bd:∀i,i<n->-9223372036854775808<=z i/\z i<=9223372036854775807
theorem eB.pair{C:Array Value}{n:Nat}{z:Nat->Int}(h:eB C n z)(i:Nat)(hi:i+2<=n):C.extract i (i+2)= #[.int .i64 (z i),.int .i64 (z (i+1))]:=by
 apply Array.ext_getElem?
 intro j
 have hs:=h.size
 rw[Array.getElem?_extract]
 rcases Nat.lt_or_ge j 2 with hj|hj
 .rw[if_pos I,h.get (i+j) I]
  rcases j with _|_|j
  .rfl
  .rfl
  .omega
 .rw[if_neg I,Array.getElem?_eq_none (by simpa using hj)]
theorem eB.one{C:Array Value}{n:Nat}{z:Nat->Int}(h:eB C n z):C.all (·.oneCell')=true:=by
 rw[Array.all_eq_true]
 intro i hi
 have e:=h.get i (by rw[<-h.size];exact hi)
 rw[Array.getElem?_eq_getElem hi]at e
 rw[Option.some.inj e]
 rfl
theorem Di(w:World):(sizeOf 282).run prog w=.ok 2 w:=J
theorem Ff(w:World):(isAgg 282).run prog w=.ok true w:=J
theorem mJ{C:Array Value}{z:Nat->Int}(h:eB C 16 z)(k:Nat)(hk:k<8)(w:World):(Instr.index 284 (.agg C) k).run prog w=.ok (.agg #[(z (2*k)),(z (2*k+1))]) w:=by
 have hp:=h.pair (2*k) I
 have h8:(k:Int)<8:=I
 simp [Instr.index,asIntOf,run_underlying underlying284,part,Ff,Di,h8]
 rw[if_pos hk,Nat.mul_comm k 2,hp]
def eV(z:Nat->Int)(k:Nat):Int:=((List.range k).filter fun i=>decide (z (2*i)≠0)).length
theorem lU(z:Nat->Int)(k:Nat):eV z (k+1)=eV z k+if z (2*k)≠0 then 1 else 0:=by
 unfold eV
 rw[List.range_succ,List.filter_append]
 by_cases h:z (2*k)=0<;>simp [h]
theorem sQ(z:Nat->Int)(k:Nat):0<=eV z k/\eV z k<=k:=by
 unfold eV
 have:=List.length_filter_le (fun i=>decide (z (2*i)≠0)) (List.range k)
 simp at this⊢
 omega
theorem vP(C:Array Value)(z:Nat->Int)(w:World)(h:eB C 16 z):
 Calls prog 183 #[.agg C] w fun e w'=>e=.returned (eV z 8)/\Below w w w':=by
 have H:=aH h
 have hs:=h.size
 have hi:(prog.info? 284).map (·.size)=some C.size:=by rw[hs];kernel_rfl
 have HI:=aH hi
 clear hi hs h
 have hu:=underlying284
 have HU:=Lib.hid hu
 clear hu
 have hp:∀k,k<8->C.extract (2*k) (2*k+2)= #[.int .i64 (z (2*k)),.int .i64 (z (2*k+1))]:=fun k hk=>H.out.pair (2*k) (by omega)
 have HP:=aH hp
 clear hp
 go_enter func183,ntmps183
 go_wp2_with (refine wpList_load_row rfl 284 _ rfl w rfl 284 C (0,0) _ ?ha HU.out rfl ?Gs ?_)
 case ha=>exact aY.new _ _ _
 case Gs=>exact HI.out
 go_wp2
 go_loopw [3,7] (fun n i wr=>∃k:Nat,k<=8/\i=.int .i64 k/\n=.int .i64 (eV z k)/\Below w w wr) (fun _ i _=>8-(intOf i).toNat)
 case atStart=>exact⟨0,I,rfl,rfl,by go_grown⟩
 case round=>
  obtain⟨k,hk,rfl,rfl,hb⟩:=hrel
  by_cases Md:k<8
  .have b1:(k:Int)<8:=I
   have hix:=mJ H.out k Md
   have hls:=lU z k
   have hlb:=sQ z k
   have HLS:=aH hls
   clear hls
   generalize hy:z (2*k)=y at*
   by_cases Jq:y=0
   .have hyb:(y !=0)=false:=by simpa using Jq
    have hys:eV z (k+1)=eV z k:=by rw[HLS.out,if_neg (by simpa using Jq)];omega
    have Xd:=aH hys
    clear hys Jq
    go_wp2
    go_roundw
    case rel=>exact⟨k+1,I,aG,by rw[Xd.out],hb.alloc hb.size _⟩
    case measure=>simp [intOf];omega
   .have hyb:(y !=0)=true:=by simpa using Jq
    have hys:eV z (k+1)=eV z k+1:=by rw[HLS.out,if_pos (by simpa using Jq)]
    have Xd:=aH hys
    clear hys Jq
    go_wp2
    go_roundw
    case rel=>exact⟨k+1,I,aG,by rw[Xd.out],hb.alloc hb.size _⟩
    case measure=>simp [intOf];omega
  .obtain rfl:k=8:=I
   go_wp2
   go_ret
   exact⟨rfl,hb⟩
def dR(key k:Nat):Nat:=(key*5%8+k)%8
theorem mY(key k:Nat):dR key k<8:=Nat.mod_lt _ aJ
def gL(z:Nat->Int)(key:Nat)(k:Nat):Bool:=decide (z (2*dR key k)=key\/z (2*dR key k)=0)
def kF(z:Nat->Int)(key:Nat):Int:=match(List.range 8).find? (gL z key)with|some k=>(dR key k:Int)|none=> -1
theorem mC{p:Nat->Bool}{n k:Nat}(hk:k<n)(h:p k=true)(hn:∀j,j<k->p j=false):(List.range n).find? p=some k:=by
 rw[List.find?_range_eq_some]
 refine⟨h,by simpa using hk,fun j hj=>by simpa using hn j hj⟩
theorem pJ{p:Nat->Bool}{n:Nat}(hn:∀j,j<n->p j=false):(List.range n).find? p=none:=by
 rw[List.find?_eq_none]
 intro x hx
 simp at hx
 simp [hn x hx]
theorem QH(key:Nat)(w:World)(hk:key<=1000):Calls prog 194 #[key] w fun e w'=>e=.returned ((key*5%8:Nat):Int)/\w=w':=by
 have h1:(key:Int)<=1000:=I
 go_enter func194,ntmps194
 go_wp2
 go_ret
 exact⟨gU I,rfl⟩
theorem TH(C:Array Value)(z:Nat->Int)(g key:Nat)(w:World)(h:eB C 16 z)(hg:aY w g 284 C)(hk:key<=1000):
 Calls prog 184 #[(g,0),key] w fun e w'=>e=.returned (kF z key)/\Below w w w':=by
 have H:=aH h
 clear h
 have hgl:=hg.lt
 have HG:=aH hg
 clear hg
 go_enter func184,ntmps184
 go_wp2
 go_loopw [7] (fun i wr=>∃k:Nat,k<=8/\i=.int .i64 k/\Below w w wr/\Hid (∀j,j<k->gL z key j=false)) (fun i _=>8-(intOf i).toNat)
 case atStart=>exact⟨0,I,rfl,Below.refl _ _,fun j hj=>absurd hj I⟩
 case round=>
  obtain⟨k,hk,rfl,hb,hno⟩:=hrel
  by_cases Md:k<8
  .have b1:(k:Int)<8:=I
   have hrl:=mY key k
   have hcell:wr.cell? (g,dR key k*2)=(z (2*dR key k)):=(hb.cell (p:=⟨g,dR key k*2,none⟩) hgl).trans (by rw[Nat.mul_comm,HG.out.cell,H.out.get _ I])
   have hrd:(((key*5%8:Nat):Int)+k)%8=((dR key k:Nat):Int):=by unfold dR;omega
   have Pz:((key*5%8:Nat):Int)<8:=I
   generalize hm:key*5%8=m at*
   generalize hr:dR key k=r at*
   have HM:=aH hm
   have HR:=aH hr
   clear hm hr
   have hr8:(r:Int)<8:=I
   generalize hy:z (2*r)=y at*
   have HY:=aH hy
   clear hy
   have HH:Hid (gL z key k=decide (y=key\/y=0)):=by unfold gL;rw[HR.out,HY.out];exact rfl
   have HF:Hid (gL z key k=true->kF z key=(r:Int)):=fun hh=>by
    have hf:(List.range 8).find? (gL z key)=some k:=mC Md hh hno.out
    unfold kF
    rw[hf,<-HR.out]
   go_wp2_with (go_at_call 194;refine(QH key _ (by assumption)).mono ?_;rintro e w' ⟨rfl,rfl⟩;rw[HM.out])
   .go_ret
    exact⟨gU (hrd.trans (HF.out (by rw[HH.out];simp_all)).symm),hb⟩
   .go_ret
    exact⟨gU (hrd.trans (HF.out (by rw[HH.out];simp_all)).symm),hb⟩
   go_roundw
   case rel=>exact⟨k+1,I,aG,hb,aH fun j hj=>by
    rcases Nat.lt_or_ge j k with h|h
    .exact hno.out j h
    obtain rfl:j=k:=I
    rw[HH.out]
    simp_all⟩
   case measure=>simp [intOf];omega
  obtain rfl:k=8:=I
  have hn:(List.range 8).find? (gL z key)=none:=pJ hno.out
  have HE:Hid (kF z key= -1):=by unfold kF;rw[hn];exact rfl
  clear hn
  go_wp2
  go_ret
  exact⟨gU HE.out.symm,hb⟩
theorem VI(C:Array Value)(z:Nat->Int)(g:Nat)(key:Int)(w:World)(h:eB C 16 z)(hg:aY w g 284 C)(h0:0<=key)(h1:key<=1000):
 Calls prog 184 #[(g,0),key] w fun e w'=>e=.returned (kF z key.toNat)/\Below w w w':=by
 obtain⟨q,rfl⟩:=Int.eq_ofNat_of_zero_le h0
 simpa using TH C z g q w h hg I
def iL(z:Nat->Int)(i:Nat):Bool:=decide (0<=z (2*i)/\z (2*i)<=1000/\0<=z (2*i+1)/\z (2*i+1)<=4294967295/\(z (2*i)=0->z (2*i+1)=0)/\(z (2*i)≠0->kF z (z (2*i)).toNat=i))
def cS(z:Nat->Int):Bool:=decide (eV z 8<=6)&&(List.range 8).all (iL z)
theorem AD{z:Nat->Int}{k:Nat}(hk:k<8)(h:iL z k=false):cS z=false:=by
 unfold cS
 rw[Bool.and_eq_false_iff]
 right
 rw[List.all_eq_false]
 exact⟨k,by simpa using hk,by simp [h]⟩
theorem rU{z:Nat->Int}(hl:eV z 8<=6)(h:∀i,i<8->iL z i=true):cS z=true:=by
 unfold cS
 rw[Bool.and_eq_true]
 exact⟨by simpa using hl,by rw[List.all_eq_true];intro x hx;exact h x (by simpa using hx)⟩
theorem AF(C:Array Value)(z:Nat->Int)(w:World)(h:eB C 16 z):
 Calls prog 182 #[.agg C] w fun e w'=>e=.returned (cS z)/\Below w w w':=by
 have H:=aH h
 have hs:=h.size
 have hi:(prog.info? 284).map (·.size)=some C.size:=by rw[hs];kernel_rfl
 have HI:=aH hi
 clear hi hs h
 have hu:=underlying284
 have HU:=aH hu
 clear hu
 have hlb:=sQ z 8
 obtain⟨l,hl⟩:=aP (eV z 8)
 rw[hl]at hlb
 have HL:=aH hl
 clear hl
 have hbk:aY (w.alloc (.cells C 284)) w 284 C:=aY.new _ _ _
 have Lv:=aH hbk
 clear hbk
 go_enter func182,ntmps182
 go_wp2_with (first
  |(refine wpList_load_row rfl 284 _ rfl w rfl 284 C (0,0) _ ?_ HU.out rfl ?_ ?_;(first|exact Lv.out|exact Lv.out.below Gs (by simp));(exact HI.out))
  |(go_at_call 183;refine(vP C z _ H.out).mono ?_;rintro e w1 ⟨rfl,Gs⟩;rw[HL.out]))
 .go_ret
  have hgt:6<l:=by assumption
  exact⟨dF (by
   have e:cS z=false:=by
    unfold cS
    rw[Bool.and_eq_false_iff]
    left
    rw[HL.out]
    simp;omega
   rw[e]),Below.trans (by go_grown) (Gs.mono (by simp))⟩
 have hle:l<=6:=by assumption
 have HBK1:=aH (Lv.out.below Gs (by simp))
 have hB:Below w w w1:=Below.trans (by go_grown) (Gs.mono (by simp))
 have Io:=Gs.size
 simp only[World.size_alloc]at Io
 clear Gs
 go_loopw [9] (fun i wr=>∃k:Nat,k<=8/\i=.int .i64 k/\Below w1 w1 wr/\Hid (∀j,j<k->iL z j=true)) (fun i _=>8-(intOf i).toNat)
 case atStart=>exact⟨0,I,rfl,Below.refl _ _,fun j hj=>absurd hj I⟩
 case round=>
  obtain⟨k,hk,rfl,hb,hall⟩:=hrel
  have hsz:=hb.size
  by_cases Md:k<8
  .have b1:(k:Int)<8:=I
   have hix:=mJ H.out k Md
   have Xe:=aH ((HBK1.out.below hb I).alloc (.cells #[(z (2*k)),(z (2*k+1))] 282))
   have hbd:=H.out.bd (2*k) I
   have HS:Hid (iL z k=decide (0<=z (2*k)/\z (2*k)<=1000/\0<=z (2*k+1)/\z (2*k+1)<=4294967295/\(z (2*k)=0->z (2*k+1)=0)/\(z (2*k)≠0->kF z (z (2*k)).toNat=k))):=rfl
   generalize hy:z (2*k)=y at*
   generalize hv:z (2*k+1)=v at*
   clear hy hv
   have Rx:Hid (iL z k=false->cS z=false):=fun h=>AD Md h
   go_wp2_with (go_at_call 184;refine(VI C z w y _ H.out Xe.out (by assumption) (by assumption)).mono ?_;rintro e w3 ⟨rfl,He⟩)
   all_goals first
    |(go_ret
      refine⟨dF (by
       rw[Rx.out (by rw[HS.out];simp only[bne_iff_ne,ne_eq,decide_eq_false_iff_not]at*;omega)]),?_⟩
      first
      |exact hB.trans ((hb.alloc I _).mono I)
      |exact hB.trans (((hb.alloc I _).trans (He.mono (by simp;omega))).mono I))
    |(refine⟨⟨k+1,I,aG,?_,aH fun j hj=>?_⟩,by simp [intOf];omega⟩
      .first
       |exact hb.alloc I _
       |exact(hb.alloc I _).trans (He.mono (by simp;omega))
      .rcases Nat.lt_or_ge j k with h|h
       .exact hall.out j h
       obtain rfl:j=k:=I
       rw[HS.out]
       simp only[bne_eq_false_iff_eq,decide_eq_true_eq]at*
       omega)
  obtain rfl:k=8:=I
  go_wp2
  go_ret
  exact⟨dF (by rw[rU (by rw[HL.out];exact hle) hall.out]),hB.trans (hb.mono I)⟩
end
section
def setS(z:Nat->Int)(i:Nat)(k v:Int):Nat->Int:=fun j=>if j=2*i then k else if j=2*i+1 then v else z j
theorem dI(z:Nat->Int)(i:Nat)(k v:Int)(x:Nat):setS z i k v (2*x)=if x=i then k else z (2*x):=by
 unfold setS
 by_cases h:x=i
 .subst h;simp
 rw[iN I,iN I,iN h]
theorem sI(z:Nat->Int)(i:Nat)(k v:Int)(x:Nat):setS z i k v (2*x+1)=if x=i then v else z (2*x+1):=by
 unfold setS
 by_cases h:x=i
 .subst h;simp
 rw[iN I,iN I,iN h]
def kk(i x:Nat):Nat:=(i+1+x)%8
theorem vD(i x:Nat):kk i x<8:=Nat.mod_lt _ aJ
theorem qE{z:Nat->Int}(h:cS z=true){k:Nat}(hk:k<8):iL z k=true:=by
 unfold cS at h
 rw[Bool.and_eq_true,List.all_eq_true]at h
 exact h.2 k (by simpa using hk)
theorem oO{z:Nat->Int}(h:cS z=true):eV z 8<=6:=by
 unfold cS at h
 rw[Bool.and_eq_true]at h
 simpa using h.1
theorem nB{z:Nat->Int}(h:cS z=true){k:Nat}(hk:k<8):0<=z (2*k)/\z (2*k)<=1000/\0<=z (2*k+1)/\z (2*k+1)<=4294967295/\(z (2*k)=0->z (2*k+1)=0):=by
 have:=qE h hk
 unfold iL at this
 simp only[decide_eq_true_eq]at this
 exact⟨this.1,this.2.1,this.2.2.1,this.2.2.2.1,this.2.2.2.2.1⟩
theorem TT{z:Nat->Int}(h:cS z=true){k:Nat}(hk:k<8)(hz:z (2*k)≠0):∃d,d<8/\dR (z (2*k)).toNat d=k/\∀b,b<d->z (2*dR (z (2*k)).toNat b)≠0:=by
 have:=qE h hk
 unfold iL at this
 simp only[decide_eq_true_eq]at this
 have ha:=this.2.2.2.2.2 hz
 unfold kF at ha
 split at ha
 .rename_i d hd
  rw[List.find?_range_eq_some]at hd
  obtain⟨_,h2,h3⟩:=hd
  simp at h2
  refine⟨d,h2,I,fun b hb=>?_⟩
  have:=h3 b hb
  unfold gL at this
  simp at this
  exact this.2
 omega
theorem EP{z:Nat->Int}{key d:Nat}(hd:d<8)(hz:z (2*dR key d)=0):∃a,a<=d/\kF z key=dR key a/\gL z key a=true:=by
 have hh:gL z key d=true:=by unfold gL;simp [hz]
 cases hf:(List.range 8).find? (gL z key)with
 |none=>
  rw[List.find?_eq_none]at hf
  exact absurd hh (hf d (by simpa using hd))
 |some a=>
  have hf':=hf
  rw[List.find?_range_eq_some]at hf
  obtain⟨h1,h2,h3⟩:=hf
  refine⟨a,?_,by unfold kF;rw[hf'],h1⟩
  rcases Nat.lt_or_ge d a with h|h
  .have:=h3 d h
   simp [hh]at this
  .exact h
structure vI (z:Nat->Int) (i m:Nat):Prop where
 right:cS z=true
 hi:i<8
 hz:z (2*i)≠0
 m7:m<=7
 occ:∀x,x<m->setS z i 0 0 (2*kk i x)≠0
 free:setS z i 0 0 (2*kk i m)=0
theorem AG{z:Nat->Int}(h:∀x,x<8->z (2*x)≠0):eV z 8=8:=by
 unfold eV
 rw[List.filter_eq_self.2 (fun x hx=>by simpa using h x (by simpa using hx))]
 rfl
theorem vI.m6{z:Nat->Int}{i m:Nat}(b:vI z i m):m<=6:=by
 rcases Nat.lt_or_ge m 7 with h|h
 .omega
 exfalso
 obtain rfl:m=7:=by have:=b.m7;omega
 have hl:=oO b.right
 rw[AG (fun x hx=>?_)]at hl
 .omega
 by_cases hxi:x=i
 .subst hxi;exact b.hz
 have:=b.occ ((x+7-i)%8) (by have:=b.hi;omega)
 have e:kk i ((x+7-i)%8)=x:=by unfold kk;have:=b.hi;omega
 rw[e,dI,iN hxi]at this
 exact this
theorem JQ{z:Nat->Int}{i:Nat}(hr:cS z=true)(hi:i<8)(hz:z (2*i)≠0):∃m,vI z i m:=by
 have h7:setS z i 0 0 (2*kk i 7)=0:=by
  rw[dI,iP (by unfold kk;omega)]
 have:∃m,m<=7/\setS z i 0 0 (2*kk i m)=0/\∀x,x<m->setS z i 0 0 (2*kk i x)≠0:=by
  have key:∀n,n<=7->(∀x,x<7-n->setS z i 0 0 (2*kk i x)≠0)->∃m,m<=7/\setS z i 0 0 (2*kk i m)=0/\∀x,x<m->setS z i 0 0 (2*kk i x)≠0:=by
   intro n
   induction n with
   |zero=>intro _ h;exact⟨7,Nat.le_refl _,h7,h⟩
   |succ n ih=>
    intro hn h
    by_cases h0:setS z i 0 0 (2*kk i (7-(n+1)))=0
    .exact⟨_,I,h0,h⟩
    .refine ih I fun x hx=>?_
     rcases Nat.lt_or_ge x (7-(n+1))with h1|h1
     .exact h x h1
     obtain rfl:x=7-(n+1):=I
     exact h0
  exact key 7 (Nat.le_refl _) (fun x hx=>absurd hx I)
 obtain⟨m,h1,h2,h3⟩:=this
 exact⟨m,hr,hi,hz,h1,h3,h2⟩
def xP(T z:Nat->Int)(i j m:Nat):Prop:=∀x,j<=x->x<=m->T (2*kk i x)=z (2*kk i x)/\T (2*kk i x+1)=z (2*kk i x+1)
theorem vI.step{z:Nat->Int}{i m:Nat}(b:vI z i m){j:Nat}(hj:j<m){T:Nat->Int}(hT:xP T (setS z i 0 0) i j m):
 ∃p:Nat,p<8/\kF (setS T (kk i j) 0 0) (T (2*kk i j)).toNat=(p:Int)/\∀x,j<x->x<=m->kk i x≠p:=by
 have h6:=b.m6
 have hi:=b.hi
 have hkj:kk i j≠i:=by unfold kk;omega
 have e1:T (2*kk i j)=z (2*kk i j):=by rw[(hT j (Nat.le_refl _) I).1,dI,iN hkj]
 have hz:z (2*kk i j)≠0:=by have:=b.occ j hj;rwa [dI,iN hkj]at this
 obtain⟨d,hd,hrow,hfull⟩:=TT b.right (vD i j) hz
 rw[e1]
 generalize hq:(z (2*kk i j)).toNat=q at*
 obtain⟨a,had,hat,_⟩:=EP (z:=setS T (kk i j) 0 0) (key:=q) hd (by rw[dI,iP hrow])
 refine⟨dR q a,mY _ _,hat,fun x hjx hxm hx=>?_⟩
 have hb:a+(m-x)<d:=by
  unfold dR at hx hrow
  unfold kk at hx hrow
  omega
 have hm:dR q (a+(m-x))=kk i m:=by
  unfold dR at hx⊢
  unfold kk at hx⊢
  omega
 have h0:=hfull _ hb
 rw[hm]at h0
 have hf:=b.free
 rw[dI]at hf
 by_cases hmi:kk i m=i
 .unfold kk at hmi;omega
 rw[iN hmi]at hf
 exact h0 hf
def rC(T:Nat->Int)(k:Nat):Nat->Int:=setS (setS T k 0 0) (kF (setS T k 0 0) (T (2*k)).toNat).toNat (T (2*k)) (T (2*k+1))
def iX(z:Nat->Int)(i:Nat):Nat->Nat->Int
 |0=>setS z i 0 0
 |j+1=>rC (iX z i j) (kk i j)
theorem vI.next{z:Nat->Int}{i m:Nat}(b:vI z i m){j:Nat}(hj:j<m){T:Nat->Int}(hT:xP T (setS z i 0 0) i j m):xP (rC T (kk i j)) (setS z i 0 0) i (j+1) m:=by
 intro x hjx hxm
 obtain⟨p,hp,hat,hne⟩:=b.step hj hT
 have h6:=b.m6
 have h1:=hne x I hxm
 have h2:kk i x≠kk i j:=by unfold kk;omega
 have h3:=hT x I hxm
 unfold rC
 rw[hat,Int.toNat_natCast]
 refine⟨?_,?_⟩
 .rw[dI,iN h1,dI,iN h2];exact h3.1
 rw[sI,iN h1,sI,iN h2];exact h3.2
theorem vI.run{z:Nat->Int}{i m:Nat}(b:vI z i m):∀j,j<=m->xP (iX z i j) (setS z i 0 0) i j m
 |0,_=>fun _ _ _=>⟨rfl,rfl⟩
 |j+1,h=>b.next I (b.run j I)
theorem vI.key{z:Nat->Int}{i m:Nat}(b:vI z i m){j:Nat}(hj:j<m):iX z i j (2*kk i j)≠0:=by
 rw[(b.run j I j (Nat.le_refl _) I).1]
 exact b.occ j hj
theorem vI.end_{z:Nat->Int}{i m:Nat}(b:vI z i m):iX z i m (2*kk i m)=0:=by
 rw[(b.run m (Nat.le_refl _) m (Nat.le_refl _) (Nat.le_refl _)).1]
 exact b.free
theorem vI.bd{z:Nat->Int}{i m:Nat}(b:vI z i m){j:Nat}(hj:j<m):1<=iX z i j (2*kk i j)/\iX z i j (2*kk i j)<=1000/\0<=iX z i j (2*kk i j+1)/\iX z i j (2*kk i j+1)<=4294967295:=by
 have h6:=b.m6
 have hi:=b.hi
 have hkj:kk i j≠i:=by unfold kk;omega
 obtain⟨e1,e2⟩:=b.run j I j (Nat.le_refl _) I
 rw[dI,iN hkj]at e1
 rw[sI,iN hkj]at e2
 have h0:=b.key hj
 rw[e1]at h0
 rw[e1,e2]
 have:=nB b.right (vD i j)
 omega
end
section
attribute [local go_sem↓] Go.wp_at_zero Go.wp_at_succ
def fW(x k:Nat):Array Value:=((List.range 64).map fun i=>Value.int .i64 ((if i<k then x/2^i%2 else 0:Nat):Int)).toArray
theorem iK(x k i:Nat)(h:i<64):(fW x k)[i]? =some (.int .i64 ((if i<k then x/2^i%2 else 0:Nat):Int)):=by
 simp [fW,h]
theorem IA(x k:Nat):(fW x k).setIfInBounds k ((x/2^k%2:Nat):Int)=fW x (k+1):=by
 apply Array.ext_getElem?
 intro i
 rw[Array.getElem?_setIfInBounds]
 by_cases hk:i<64
 .by_cases h:k=i
  .subst h
   have hs:k<(fW x k).size:=by simp [fW];exact hk
   rw[iP rfl,iP hs,iK _ _ _ hk,iP I]
  rw[iN h,iK _ _ _ hk,iK _ _ _ hk]
  by_cases h2:i<k
  .rw[iP h2,iP I]
  rw[iN h2,iN I]
 have e1:(fW x k)[i]? =none:=by simp [fW];omega
 have e2:(fW x (k+1))[i]? =none:=by simp [fW];omega
 have hs:¬k=i\/¬k<(fW x k).size:=by
  by_cases h:k=i
  .right;simp [fW];omega
  exact .inl h
 rw[e1,e2]
 by_cases h:k=i
 .rw[iP h,iN (by rcases hs with h'|h';exact absurd h h';exact h')]
 rw[iN h]
theorem MI(w:World):(Instr.makeSlice 125 (64:Int) (64:Int)).run prog w=.ok (.slice (some ⟨w.heap.size,0,none⟩) 64 64) (w.alloc (.cells (fW 0 0) 3)):=J
theorem EI(x:Nat):fW x 0=fW 0 0:=by
 unfold fW
 congr 1
theorem rO(x:Nat)(w:World)(hx:x<18446744073709551616):
 Calls prog 105 #[[x]] w fun e w'=>e=.returned (.slice (some ⟨w.heap.size,0,none⟩) 64 64)/\aY w' w 3 (fW x 64)/\Below w w w':=by
 have hmk:=MI
 have Vo:aY (w.alloc (.cells (fW 0 0) 3)) w 3 (fW x 0):=by rw[EI];exact aY.new _ _ _
 have Hd:=aH Vo
 clear Vo
 go_enter func105,ntmps105
 go_wp2
 clear hmk
 go_loopw [0,8] (fun y i wr=>∃k:Nat,k<=64/\i=.int .i64 k/\y=.int .u64 ((x/2^k:Nat):Int)/\Hid (aY wr w 3 (fW x k))/\Below w w wr) (fun _ i _=>64-(intOf i).toNat)
 case atStart=>exact⟨0,I,rfl,by simp,Hd.out,by go_grown⟩
 case round=>
  obtain⟨k,hk,rfl,rfl,hblk,hb⟩:=hrel
  have hyx:x/2^k<18446744073709551616:=Nat.lt_of_le_of_lt (Nat.div_le_self _ _) hx
  have hnext:x/2^(k+1)=x/2^k/2:=by rw[Nat.pow_succ,Nat.div_div_eq_div_mul]
  have HN:=aH hnext
  clear hnext
  have hset:=IA x k
  have HS:=aH hset
  clear hset
  generalize hy:x/2^k=y at*
  have HY:=aH hy
  clear hy
  by_cases hk64:k<64
  .have hc:wr.cell? (w.heap.size,k)=(0:Int):=by rw[hblk.cell k,iK _ _ _ hk64,iN I];rfl
   have hf:wr.frozen? ⟨w.heap.size,k,none⟩=false:=hblk.frozen k
   go_wp2
   go_roundw
   case rel=>exact⟨k+1,I,aG,by rw[HN.out];simp;try omega,by
    have h:=hblk.set_ k (.int .i64 ((y:Int)%2))
    rw[show((y:Int)%2)=((y%2:Nat):Int) by omega,HS.out]at h
    exact aH (by simpa using h),hb.setCell (by simp) _⟩
   case measure=>simp [intOf];omega
  obtain rfl:k=64:=I
  go_wp2
  go_ret
  exact⟨rfl,hblk.out,hb⟩
theorem SJ{xs:List Nat}{k:Nat}(hk:k<xs.length):Pl.nof (xs.drop k)=xs[k]?.getD 0+2*Pl.nof (xs.drop (k+1)):=by
 rw[List.drop_eq_getElem_cons hk,Pl.nof,List.getElem?_eq_getElem hk]
 rfl
theorem EN{xs:List Nat}(hb:∀b∈xs,b<2)(hl:xs.length<=64)(k:Nat):Pl.nof (xs.drop k)<18446744073709551616:=by
 have h1:=Pl.nof_lt (xs.drop k) (fun b h=>hb b (List.mem_of_mem_drop h))
 have h2:2^(xs.drop k).length<=2^64:=Nat.pow_le_pow_right aJ (by rw[List.length_drop];omega)
 have h3:(2:Nat)^64=18446744073709551616:=by decide
 omega
theorem wA(A:Option Addr)(n c:Nat)(xs:List Nat)(w:World)(h:fI w A n c (xs.map fun b:Nat=>(b:Int)))(hbit:∀b∈xs,b<2)(hl:xs.length<=64):
 Calls prog 106 #[.slice A n c] w fun e w'=>e=.returned [((Pl.nof xs:Nat):Int)]/\w=w':=by
 have hn:xs.length=n:=by simpa using h.len
 have h64:n<=64:=I
 have HN:=aH hn
 clear hn
 have HS:=aH h
 clear h
 have HB:=aH hbit
 clear hbit
 go_enter func106,ntmps106
 go_wp2
 go_loop [3,4] (fun a i=>∃k:Nat,k<=n/\i=.int .i64 ((k:Int)-1)/\a=.int .u64 ((Pl.nof (xs.drop k):Nat):Int)) (fun _ i=>(intOf i+1).toNat)
 case atStart=>exact⟨n,Nat.le_refl _,aG,by rw[List.drop_of_length_le (by rw[HN.out];exact Nat.le_refl _)];rfl⟩
 case round=>
  obtain⟨k,hk,rfl,rfl⟩:=hrel
  by_cases Ny:0<k
  .obtain⟨j,rfl⟩:∃j,k=j+1:=⟨k-1,I⟩
   obtain⟨b,off,rfl,hblt,hcell⟩:=HS.at_ I
   have hc:=hcell j I
   clear hcell
   have hjl:j<xs.length:=by rw[HN.out];omega
   have hbj:xs[j]?.getD 0<2:=by rw[List.getElem?_eq_getElem hjl];exact HB _ (List.getElem_mem hjl)
   have e1:((xs.map fun b:Nat=>(b:Int))[j]?.getD 0)=((xs[j]?.getD 0:Nat):Int):=by simp [List.getElem?_eq_getElem hjl]
   rw[e1]at hc
   clear e1
   have hdrop:=SJ hjl
   have hlt:=EN HB hl j
   have e2:((j+1:Nat):Int)-1=(j:Int):=I
   rw[e2]
   clear e2
   generalize ha:Pl.nof (xs.drop (j+1))=a at*
   generalize hbb:xs[j]?.getD 0=bb at*
   have HA:=aH ha
   clear ha
   have HBB:=aH hbb
   clear hbb
   have HD:=aH hdrop
   have hs:bb+2*a<18446744073709551616:=I
   clear hdrop hlt hl
   go_wp2
   go_round
   case rel=>exact⟨j,I,aG,by rw[HD.out];exact jW I⟩
   case measure=>simp [intOf];try omega
  obtain rfl:k=0:=I
  go_wp2
  go_ret
  exact⟨by simp,rfl⟩
def gO(x:Nat)(a:Int):Bool:=decide (0<=a/\a<64/\x/2^a.toNat%2=1)
def iH(x:Nat)(a:Int):Nat:=if 0<=a/\a<64 then x^^^2^a.toNat else x
theorem rX{j:Nat}(h:j<64):2^j<18446744073709551616:=by
 have h1:2^j<2^64:=Nat.pow_lt_pow_right aJ h
 have h2:(2:Nat)^64=18446744073709551616:=by decide
 omega
theorem KS(x j:Nat)(hx:x<18446744073709551616):bits .and .u64 ((x:Int)/2^j) 1=((x/2^j%2:Nat):Int):=by
 have e:(x:Int)/2^j=((x/2^j:Nat):Int):=by simp
 rw[e,show(1:Int)=((1:Nat):Int)from rfl,u64_and_nat _ _ (Nat.lt_of_le_of_lt (Nat.div_le_self _ _) hx) aJ,Nat.and_one_is_mod]
theorem XU(x j:Nat)(hx:x<18446744073709551616)(hj:j<64):bits .xor .u64 (x:Int) (IntKind.u64.wrap (2^j))=((x^^^2^j:Nat):Int):=by
 have h1:=rX hj
 have h2:(2:Int)^j=((2^j:Nat):Int):=by simp
 have e:IntKind.u64.wrap ((2:Int)^j)=((2^j:Nat):Int):=by
  rw[h2]
  generalize 2^j=q at h1
  exact IntWalk.u64_in _ I
 rw[e,u64_xor_nat _ _ hx (rX hj)]
theorem KQ(x j:Nat)(hj:j<64):gO x (j:Int)=decide (x/2^j%2=1):=by
 have h:(j:Int)<64:=I
 simp [gO,h]
theorem PU(m:Nat):(((m:Nat):Int)==1)=decide (m=1):=by
 rw[Bool.eq_iff_iff];simp;omega
theorem tN(x j:Nat)(hj:j<64):iH x (j:Int)=x^^^2^j:=by
 have h:(j:Int)<64:=I
 simp [iH,h]
theorem YK(x:Nat)(a:Int)(w:World)(hx:x<18446744073709551616):
 Calls prog 118 #[[x],a] w fun e w'=>e=.returned (gO x a)/\w=w':=by
 by_cases ha:0<=a/\a<64
 .obtain⟨h0,h1⟩:=ha
  obtain⟨j,rfl⟩:=Int.eq_ofNat_of_zero_le h0
  go_enter func118,ntmps118
  go_wp2
  go_ret
  refine⟨dF ?_,rfl⟩
  rw[KS x j hx,KQ x j I,PU]
 go_enter func118,ntmps118
 go_wp2
 all_goals first|(exfalso;omega)|(go_ret;exact⟨dF (by simp [gO];omega),rfl⟩)
theorem kJ(x:Nat)(a:Int)(w:World)(hx:x<18446744073709551616):
 Calls prog 102 #[[x],a] w fun e w'=>e=.returned (gO x a)/\Below w w w':=by
 by_cases ha:0<=a/\a<64
 .obtain⟨h0,h1⟩:=ha
  obtain⟨j,rfl⟩:=Int.eq_ofNat_of_zero_le h0
  have hw:bV (j:Int) 0 63=true:=by simp [bV];omega
  go_enter func102,ntmps102
  go_wp2_with fail
  refine(bQ _ _ _ _).mono ?_
  rintro e w1 ⟨rfl,rfl⟩
  go_wp2_with fail
  refine(rO x _ hx).mono ?_
  rintro e w1 ⟨rfl,hblk,hb⟩
  have hc:w1.cell? (w.heap.size,j)=((x/2^j%2:Nat):Int):=by rw[hblk.cell j,iK _ _ _ I,iP I]
  generalize hm:x/2^j%2=m at hc
  have HM:=aH hm
  clear hm
  go_wp2
  go_ret
  exact⟨dF (by rw[KQ x j I,PU,HM.out]),hb⟩
 have hw:bV a 0 63=false:=by simp [bV];omega
 go_enter func102,ntmps102
 go_wp2_with (go_at_call 55;refine(bQ _ _ _ _).mono ?_;rintro e w1 ⟨rfl,rfl⟩)
 go_ret
 exact⟨dF (by simp [gO];omega),Below.refl _ _⟩
theorem UD(x:Nat)(a:Int)(w:World)(hx:x<18446744073709551616):
 Calls prog 145 #[[x],a] w fun e w'=>e=.returned [((iH x a:Nat):Int)]/\w=w':=by
 by_cases ha:0<=a/\a<64
 .obtain⟨h0,h1⟩:=ha
  obtain⟨j,rfl⟩:=Int.eq_ofNat_of_zero_le h0
  have hj:j<64:=I
  go_enter func145,ntmps145
  go_wp2
  go_ret
  exact⟨gU (by rw[XU x j hx hj,tN x j hj]),rfl⟩
 go_enter func145,ntmps145
 go_wp2
 all_goals first|(exfalso;omega)|(go_ret;exact⟨gU (by simp only[iH];rw[iN ha]),rfl⟩)
theorem SB{w:World}{g x:Nat}(h:aY w g 3 (fW x 64)):fI w (some ⟨g,0,none⟩) 64 64 ((Pl.digs x).map fun b:Nat=>(b:Int)):=by
 have hget:∀i:Nat,i<64->((Pl.digs x).map fun b:Nat=>(b:Int))[i]?.getD 0=((x/2^i%2:Nat):Int):=fun i hi=>by
  rw[List.getElem?_map,Pl.digs_get x i hi];rfl
 refine fI.of_blk h (by simp [Pl.digs_length]) (Nat.le_refl _) aJ (fun i hi=>?_) (fun i=>?_)
 .rw[iK _ _ _ hi,iP hi,hget i hi]
 by_cases hi:i<64
 .rw[hget i hi];omega
 rw[List.getElem?_eq_none (by simp [Pl.digs_length];omega)];decide
theorem ES(x:Nat)(a:Int)(w:World)(hx:x<18446744073709551616):
 Calls prog 87 #[[x],a] w fun e w'=>e=.returned [((iH x a:Nat):Int)]/\Below w w w':=by
 have Nl:x<2^64:=by have h2:(2:Nat)^64=18446744073709551616:=by decide
                    omega
 by_cases ha:0<=a/\a<64
 .obtain⟨h0,h1⟩:=ha
  obtain⟨j,rfl⟩:=Int.eq_ofNat_of_zero_le h0
  have hw:bV (j:Int) 0 63=true:=by simp [bV];omega
  have hj:j<64:=I
  go_enter func87,ntmps87
  go_wp2_with fail
  refine(rO x _ hx).mono ?_
  rintro e w1 ⟨rfl,hblk,hb⟩
  have hc:w1.cell? (w.heap.size,j)=((x/2^j%2:Nat):Int):=by rw[hblk.cell j,iK _ _ _ I,iP I]
  have hf:w1.frozen? ⟨w.heap.size,j,none⟩=false:=hblk.frozen j
  have hm2:x/2^j%2<2:=Nat.mod_lt _ aJ
  generalize hm:x/2^j%2=m at hc hm2
  have HM:=aH hm
  clear hm
  go_wp2_with (go_at_call 55;refine(bQ _ _ _ _).mono ?_;rintro e w1 ⟨rfl,rfl⟩)
  have hsl:fI (w1.setCell ⟨w.heap.size,j,none⟩ (.int .i64 (1-(m:Int)))) (some ⟨w.heap.size,0,none⟩) 64 64 (((Pl.digs x).set j (1-m)).map fun b:Nat=>(b:Int)):=by
   have hlen:(Pl.digs x).length=64:=Pl.digs_length x
   have hget:∀i:Nat,i<64->(((Pl.digs x).set j (1-m)).map fun b:Nat=>(b:Int))[i]?.getD 0=if j=i then 1-(m:Int)else((x/2^i%2:Nat):Int):=fun i hi=>by
    rw[List.getElem?_map,List.getElem?_set,hlen,iP hj]
    by_cases h:j=i
    .rw[iP h,iP h]
     simp only[Option.map_some,Option.getD_some]
     omega
    rw[iN h,iN h,Pl.digs_get x i hi];rfl
   refine fI.of_blk (hblk.set_ j _) (by simp [hlen]) (Nat.le_refl _) aJ (fun i hi=>?_) (fun i=>?_)
   .rw[Array.getElem?_setIfInBounds,hget i hi]
    by_cases h:j=i
    .subst h
     rw[iP rfl,iP rfl,iP (by simp [fW];exact hj)]
    rw[iN h,iN h,iK _ _ _ hi,iP hi]
   by_cases hi:i<64
   .rw[hget i hi]
    split
    .omega
    have:x/2^i%2<2:=Nat.mod_lt _ aJ
    generalize x/2^i%2=z at this
    omega
   rw[List.getElem?_eq_none (by simp [hlen];omega)];decide
  refine(wA _ _ _ _ _ hsl (Pl.mem_set_bit (Pl.digs_bit x) I) (by simp [Pl.digs_length])).mono ?_
  rintro e w2 ⟨rfl,rfl⟩
  go_wp2
  go_ret
  exact⟨gU (by rw[tN x j hj,<-HM.out,Pl.nof_flip x j Nl hj]),by go_grown⟩
 have hw:bV a 0 63=false:=by simp [bV];omega
 go_enter func87,ntmps87
 go_wp2_with fail
 refine(rO x _ hx).mono ?_
 rintro e w1 ⟨rfl,hblk,hb⟩
 go_wp2_with (first|(go_at_call 55;refine(bQ _ _ _ _).mono ?_;rintro e w1 ⟨rfl,rfl⟩)|(go_at_call 106;refine(wA _ _ _ (Pl.digs x) _ (SB hblk) (Pl.digs_bit x) (by rw[Pl.digs_length];exact Nat.le_refl _)).mono ?_;rintro e w2 ⟨rfl,rfl⟩))
 go_ret
 exact⟨gU (by simp only[iH];rw[iN ha,Pl.nof_digs x Nl]),hb⟩
theorem sH(C:Array Value)(z:Nat->Int)(w:World)(h:cH C 32 z):
 Calls prog 141 #[.agg C] w fun e w'=>e=.returned (.int .i64 (if z 0<=4294967296 then z 0 else 4294967296))/\Below w.heap.size w w':=by
 have h0:=h.get 0 aJ
 obtain⟨b1,b2⟩:=h.bd 0 aJ
 have H:=aH h
 clear h
 go_enter func141,ntmps141
 go_wp2
 all_goals(go_ret;refine⟨gU ?_,by go_grown⟩;first|rfl|(split<;>omega))
theorem Gh(b:Nat)(w:World):(Instr.arrayAt 252 (.slice (some ⟨b,1,none⟩) 17 31)).run prog w=.ok (b,1) w:=J
theorem GI:(prog.info? 252).map (·.size)=some 17:=J
theorem oT(C D:Array Value)(z:Nat->Int)(w:World)(h:cH C 32 z)(hD:D=C.extract 1 18):
 Calls prog 142 #[.agg C] w fun e w'=>e=.returned (.agg D)/\Below w w w':=by
 have Mp:=Gh
 have hu:cH D 17 (fun i=>z (1+i)):=by rw[hD];exact h.cut 1 17 aJ
 have h1:=cH.one hu
 have hsz:=hu.size
 have H:=aH h
 clear h
 have HD:=aH hD
 clear hD
 have HU:=aH hu
 clear hu
 have HS:=aH hsz
 clear hsz
 go_enter func142,ntmps142
 go_wp2_with (first
  |(refine wpList_load_mid rfl 252 _ rfl w 1 rfl D.toList _ ?hc underlying252 rfl ?hi ?_)
  |(refine wpList_store_row rfl 252 _ _ rfl (w,1) D rfl rfl 252 (17:Nat) ?hg ?hj ?ho h1 ?_))
 case hc=>
  rw[HD.out]
  exact World.rangeAt_of_block (t:=25) (fr:=(0,0)) (((aY.new w 25 C).alloc _)) 1 17
 case hi=>rw[GI,Array.length_toList,HS.out]
 case hg=>exact aY.newAt _ _ _ (by simp)
 case hj=>rw[GI,HS.out]
 case ho=>rw[HS.out];rfl
 refine bodyPost_ret (results_cell_row results142 _ _ (w,1) 252 D (0,0) _ rfl ?_ underlying252 rfl (by rw[GI,HS.out])) rfl ⟨rfl,?_⟩
 .refine aY.setRow (cs:=(17:Nat)) ?_ D
  exact aY.newAt _ _ _ (by simp)
 exact aL (by go_grown) (by simp) _
def AT(x:Nat)(t:Int):Int:=if 0<=t/\t<4/\gO x t=true then 1 else 0
theorem rI(C:Array Value)(z:Nat->Int)(t:Int)(w:World)(h:cH C 32 z):
 Calls prog 94 #[.agg C,t] w fun e w'=>e=.returned (AT (z 26).toNat t)/\Below w w w':=by
 have h0:=h.get 26 aJ
 obtain⟨b1,b2⟩:=h.bd 26 aJ
 obtain⟨x,hx⟩:=Int.eq_ofNat_of_zero_le b1
 rw[hx]at h0 b2
 have HX:=aH hx
 clear hx b1
 have Nl:x<18446744073709551616:=I
 have HB:=aH Nl
 clear b2 Nl
 have H:=aH h
 clear h
 go_enter func94,ntmps94
 go_wp2_with (go_at_call 118;refine(YK _ _ _ HB).mono ?_;rintro e w1 ⟨rfl,rfl⟩)
 all_goals(go_ret;refine⟨gU ?_,by go_grown⟩;rw[HX.out];simp_all [AT];try omega)
theorem tJ:(prog.info? 3).map (fun i=>(i.zero,i.size,i.bytes))=some (some (.int .i64 0),1,8):=J
def Fg(xs:List Int)(w:World)(e:Ending)(w':World):Prop:=
 ∃v',e=.returned v'/\w'.ownsRow w 3 1 v' xs.length (xs.map (Value.int .i64))/\Below w w w'
theorem pT{w:World}{B:Nat}{e:TypeId}{v:Value}{n:Nat}{xs:List Value}(h:w.ownsRow B e 1 v n xs):∃A c,v=.slice A n c/\n<=c/\c<=maxLen/\(0<n->∃g,A=some ⟨g,0,none⟩/\B<=g/\g<w):=by
 rcases h.2 with⟨rfl,rfl⟩|⟨g,cap,cur,rfl,hb,hg,hc,hm,_⟩
 .exact⟨none,0,rfl,Nat.le_refl _,Nat.zero_le _,fun h=>absurd h I⟩
 exact⟨_,cap,rfl,hc,hm,fun _=>⟨g,rfl,hb,(Array.getElem?_eq_some_iff.1 hg).1⟩⟩
theorem fI.of_own{w:World}{B:Nat}{e:TypeId}{A:Option Addr}{c n:Nat}{xs:List Int}(h:w.ownsRow B e 1 (.slice A n c) n (xs.map (Value.int .i64)))(bd:∀i:Nat,-9223372036854775808<=xs[i]?.getD 0/\xs[i]?.getD 0<=9223372036854775807):
 fI w A n c xs:=by
 have hlen:xs.length=n:=by have:=h.1;simpa using this
 obtain⟨A',c',hv,hc,hm,hp⟩:=pT h
 simp only[Value.slice.injEq,true_and]at hv
 obtain⟨rfl,rfl⟩:=hv
 refine⟨hlen,hc,by unfold maxLen at hm;omega,bd,fun hn=>?_⟩
 obtain⟨g,rfl,_,hlt⟩:=hp hn
 refine⟨g,0,rfl,hlt,fun i hi=>?_⟩
 have:=h.cells (g:=g) rfl i (xs[i]?.getD 0) (by rw[List.getElem?_map,List.getElem?_eq_getElem I];rfl)
 rw[Nat.zero_add]
 simpa [Addr.add_lit]using this
def jX(w:World)(B:Nat)(A:Option Addr)(n c:Nat)(xs:List Int):Prop:=w.ownsRow B 3 1 (.slice A n c) n (xs.map (Value.int .i64))
theorem jX.alloc{w:World}{B:Nat}{A:Option Addr}{n c:Nat}{xs:List Int}(h:jX w B A n c xs)(o:Obj):jX (w.alloc o) B A n c xs:=World.ownsRow.alloc h o
theorem jX.mono{w:World}{B B':Nat}{A:Option Addr}{n c:Nat}{xs:List Int}(h:jX w B A n c xs)(hb:B'<=B):jX w B' A n c xs:=World.ownsRow.mono h hb
theorem jX.len{w:World}{B:Nat}{A:Option Addr}{n c:Nat}{xs:List Int}(h:jX w B A n c xs):xs.length=n:=by have:=h.1;simpa using this
theorem jX.far{w:World}{B:Nat}{A:Option Addr}{n c:Nat}{xs:List Int}(h:jX w B A n c xs){p:Addr}(hp:p.block<B)(u:Value):jX (w.setCell p u) B A n c xs:=by
 refine World.ownsRow.kept (row:=some p.block) h ⟨rfl,rfl,rfl,by simp,fun k hk hne=>Below.heap_setCell w p u k (fun e=>hne (by rw[e]))⟩ ?_
 cases ho:(Value.slice A n c).ownBlock with
 |none=>exact .inl rfl
 |some k=>
  refine .inr fun e=>?_
  have h1:=(World.ownsRow.lt h k ho).1
  have h2:k=p.block:=Option.some.inj e
  omega
theorem jX.sli{w:World}{B:Nat}{A:Option Addr}{n c:Nat}{xs:List Int}(h:jX w B A n c xs)(bd:∀i:Nat,-9223372036854775808<=xs[i]?.getD 0/\xs[i]?.getD 0<=9223372036854775807):fI w A n c xs:=fI.of_own h bd
theorem bX{w:World}{o:Obj}{b i:Nat}(h:b<w):(w.alloc o).cell? (b,i)=w.cell? (b,i):=World.cell?_alloc_lt _ _ _ h
theorem eP{w:World}{o:Obj}{b i:Nat}(h:b<w):(w.alloc o).frozen? ⟨b,i,none⟩=w.frozen? ⟨b,i,none⟩:=World.frozen?_of_block (Below.heap_alloc w o b h)
theorem fI.tail{w:World}{b off n c:Nat}{xs:List Int}(h:fI w (some ⟨b,off,none⟩) n c xs)(hn:0<n):fI w (some ⟨b,off+1,none⟩) (n-1) (c-1) xs.tail:=
 ⟨by simp [h.len],by have:=h.cap;omega,by have:=h.cap63;omega,fun i=>by rw[List.getElem?_tail];exact h.bd (i+1),fun _=>by
  obtain⟨b',off',hA,hlt,hc⟩:=h.at_ hn
  cases hA
  refine⟨b,off+1,rfl,hlt,fun i hi=>?_⟩
  rw[List.getElem?_tail,Nat.add_assoc,Nat.add_comm 1 i]
  exact hc (i+1) I⟩
theorem fI.tailIf{w:World}{b off n c:Nat}{xs:List Int}(h:fI w (some ⟨b,off,none⟩) n c xs)(hn:0<n):fI w (if c=1 then some ⟨b,off,none⟩else some ⟨b,off+1,none⟩) (n-1) (c-1) xs.tail:=by
 by_cases hc:c=1
 .have h1:=h.cap
  have h2:=h.tail hn
  exact⟨h2.len,h2.cap,h2.cap63,h2.bd,fun k=>by omega⟩
 rw[iN hc];exact h.tail hn
theorem jX.nil(w:World)(B:Nat):jX w B none 0 0 []:=World.ownsRow_nil _ _ _ _
theorem jX.at_{w:World}{B:Nat}{A:Option Addr}{n c:Nat}{xs:List Int}(h:jX w B A n c xs)(hn:0<n):∃g,A=some ⟨g,0,none⟩/\B<=g/\g<w/\∀i:Nat,i<n->w.cell? (g,i)=(xs[i]?.getD 0):=by
 obtain⟨A',c',hv,hc,hm,hp⟩:=pT h
 simp only[Value.slice.injEq,true_and]at hv
 obtain⟨rfl,rfl⟩:=hv
 obtain⟨g,rfl,hb,hlt⟩:=hp hn
 refine⟨g,rfl,hb,hlt,fun i hi=>?_⟩
 have hl:=h.len
 have:=World.ownsRow.cells h (g:=g) rfl i (xs[i]?.getD 0) (by rw[List.getElem?_map,List.getElem?_eq_getElem I];rfl)
 simpa [Addr.add_lit]using this
theorem rQ{w:World}{B:Nat}{A:Option Addr}{n c:Nat}{xs:List Int}(hown:jX w B A n c xs){g:Nat}{v:Int}(hv:w.cell? (g,0)=v)(hn:n<=1000)(hB:B<=w)(ty:TypeId)(c':Nat):
 ∃g' cap w',(Builtin.append_ #[125,125] ty #[.slice A n c,.slice (some ⟨g,0,none⟩) 1 c']).run prog w=.ok (.slice (some ⟨g',0,none⟩) (n+1) cap) w'/\jX w' B (some ⟨g',0,none⟩) (n+1) cap (xs++[v])/\Below B w w':=by
 obtain⟨i0,hi,Ib,Io,Hh⟩:=info_parts tJ
 obtain⟨g',cap,w',hr,ho,hg,hat,hlt⟩:=run_append_lies (P:=prog) w 125 ty B 3 i0 (0:Int) 1 8 underlying125 hi Ib Io Hh rfl aJ (.slice A n c) n _ hown ⟨g,0,none⟩ 1 c' [.int .i64 v] rfl
  (by intro j u hj
      have Xf:j=0:=by have:=(List.getElem?_eq_some_iff.1 hj).1;simp at this;exact this
      subst Xf
      simp only[List.getElem?_cons_zero,Option.some.injEq]at hj
      subst hj
      simpa [Addr.add_lit]using hv) (by intro u hu;simp at hu;subst hu;rfl) aJ (by unfold maxLen;omega) I hB _ rfl
 refine⟨g',cap,w',hr,by unfold jX;simpa using ho,⟨hg.os,hg.tape,hg.output,hg.size,fun k hk=>hg.block k I ?_⟩⟩
 intro e
 have:=(World.ownsRow.lt hown k e.symm).1
 omega
theorem lR{ops:Array Oper}{o:Oper}{a:Act}{w:World}{K:Act->World->Prop}{Q:Exit->Act->World->Prop}{E:Prop}(hgd:o.guard=none)(s x:Operand)
 (ho:o.op=.call {callee:=.builtin .append,args:= #[s,x],argTypes:= #[125,125]}) {B:Nat} {A:Option Addr} {n c:Nat} {xs:List Int} (hs:a.eval s=.slice A n c) (hown:jX w B A n c xs) {g:Nat} {v:Int} {c':Nat}
 (hx:a.eval x=.slice (some ⟨g,0,none⟩) 1 c') (hv:w.cell? (g,0)=v) (hn:n<=1000) (hB:B<=w)
 (h:∀g' cap w',jX w' B (some ⟨g',0,none⟩) (n+1) cap (xs++[v])->Below B w w'->K (a.put o.dst (.slice (some ⟨g',0,none⟩) (n+1) cap)) w'):
 if Region.wanted o (yielded ops a.tmps)=true then Oper.wp prog o a w K Q else E:=by
 have hw:Region.wanted o (yielded ops a.tmps)=true:=by simp [Region.wanted,hgd]
 rw[iP hw]
 obtain⟨g',cap,w',hr,h2,h3⟩:=rQ hown hv hn hB o.type c'
 unfold Oper.wp execOp
 simp only[ho,resolve,invoke,builtin,Sem.run_bind,Sem.run_pure,Result.andThen_ok,List.map_toArray,List.map_cons,List.map_nil,hs,hx,hr]
 exact h g' cap w' h2 h3
theorem dM{ops:Array Oper}{rest:List Oper}{o:Oper}{a:Act}{w:World}{Q:Exit->Act->World->Prop}(hgd:o.guard=none)(s x:Operand)
 (ho:o.op=.call {callee:=.builtin .append,args:= #[s,x],argTypes:= #[125,125]}) {B:Nat} {A:Option Addr} {n c:Nat} {xs:List Int} (hs:a.eval s=.slice A n c) (hown:jX w B A n c xs) {g:Nat} {v:Int} {c':Nat}
 (hx:a.eval x=.slice (some ⟨g,0,none⟩) 1 c') (hv:w.cell? (g,0)=v) (hn:n<=1000) (hB:B<=w)
 (h:∀g' cap w',jX w' B (some ⟨g',0,none⟩) (n+1) cap (xs++[v])->Below B w w'->wpList prog ops Q rest (a.put o.dst (.slice (some ⟨g',0,none⟩) (n+1) cap)) w'):wpList prog ops Q (o::rest) a w:=
 wpList_plain hgd fun _ hK=>by
  obtain⟨g',cap,w',hr,h2,h3⟩:=rQ hown hv hn hB o.type c'
  unfold Oper.wp execOp
  simp only[ho,resolve,invoke,builtin,Sem.run_bind,Sem.run_pure,Result.andThen_ok,List.map_toArray,List.map_cons,List.map_nil,hs,hx,hr]
  exact hK _ _ (h g' cap w' h2 h3)
theorem NB(A:Option Addr)(n c:Nat)(xs:List Int)(w:World)(h:fI w A n c xs)(hn:n<=60):
 Calls prog 186 #[.slice A n c] w (Fg xs w):=by
 have q22:∀(w:World) (a:Option Addr) (n c n' c':Nat),(binOp .eql 125 (.slice a n c) (.slice none n' c')).run prog w=.ok a.isNone w:=fun w a n c n' c'=>Lib.run_eql_slice_nil w _ _ a n c n' c' underlying125
 obtain⟨i0,hi,Ib,Io,Hh⟩:=info_parts tJ
 have hlen:=h.len
 have HL:=aH hlen
 clear hlen
 have H:=aH h
 clear h
 cases A with
 |none=>
  have Hr:n=0:=by
   rcases Nat.eq_zero_or_pos n with h0|h0
   .exact h0
   obtain⟨b,off,h,_⟩:=H.at_ h0
   cases h
  subst Hr
  have hx:xs=[]:=List.eq_nil_of_length_eq_zero HL
  subst hx
  go_enter func186,ntmps186
  go_wp2
  go_ret
  exact⟨_,rfl,World.ownsRow_nil _ _ _ _,Below.refl _ _⟩
 |some a=>
  go_enter func186,ntmps186
  go_wp2_with (at_builtin;refine wpList_append_own _ rfl _ _ 125 rfl w 3 i0 (0:Int) 1 8 underlying125 hi Ib Io Hh rfl aJ _ _ _ rfl (World.ownsRow_made w #[] 0 (Nat.le_refl _) (Nat.zero_le _) rfl) a n c (xs.map (Value.int .i64)) rfl ?qc1 ?qc2 ?qc3 ?qc4 ?qc5 ?qc6 ?_)
  case qc1=>simp [HL.out]
  case qc2=>
   intro j u hj
   have hjn:j<n:=by
    have:=(List.getElem?_eq_some_iff.1 hj).1
    simpa [HL.out]using this
   obtain⟨b,off,hA,hlt,hc⟩:=H.at_ I
   cases hA
   have e:(xs.map (Value.int .i64))[j]? =some (Value.int .i64 (xs[j]?.getD 0)):=by rw[List.getElem?_map,List.getElem?_eq_getElem (by rw[HL.out];exact hjn)];rfl
   rw[e]at hj
   rw[<-hj,Addr.add_lit,World.cell?_alloc_lt _ _ _ (by exact hlt)]
   exact hc j hjn
  case qc3=>intro u hu;obtain⟨x,_,rfl⟩:=List.mem_map.1 hu;rfl
  case qc4=>unfold maxLen;omega
  case qc5=>omega
  case qc6=>simp
  intro v' w1 hown hgrow hnil
  go_wp2
  go_ret
  refine⟨v',rfl,by rw[HL.out];simpa using hown,?_⟩
  exact((Below.refl _ w).alloc (Nat.le_refl _) _).grown hgrow (by simp) (by intro k hk;simp [Value.ownBlock]at hk;omega)
def WW(xs:List Int)(n:Nat)(w W:World)(e:Ending)(w1:World):Prop:=
 ∃A c,e=.returned (.slice A n c)/\jX w1 W A n c xs/\Below W W w1/\Below w w w1
theorem fR(A:Option Addr)(n c:Nat)(xs:List Int)(w W:World)(h:fI w A n c xs)(hn:n<=60)(hW:Below w w W):
 Calls prog 186 #[.slice A n c] W (WW xs n w W):=by
 have hl:=h.len
 refine(NB A n c xs W (h.below hW) hn).mono ?_
 rintro e w1 ⟨v',rfl,hown,hb⟩
 rw[hl]at hown
 obtain⟨A',c',rfl,_,_,_⟩:=pT hown
 exact⟨A',c',rfl,hown,hb,hW.trans (hb.mono hW.size)⟩
end
section
theorem fI.cellsAt{w:World}{A:Option Addr}{n c:Nat}{xs:List Int}(h:fI w A n c xs):∀b,A=some b->∀j u,(xs.map (Value.int .i64))[j]? =some u->w.cell? (b.add j)=some u:=by
 intro b hb j u hj
 have hjn:j<n:=by
  have:=(List.getElem?_eq_some_iff.1 hj).1
  simpa [h.len]using this
 obtain⟨b',off,hA,hlt,hc⟩:=h.at_ I
 rw[hb]at hA
 cases hA
 have e:(xs.map (Value.int .i64))[j]? =some (Value.int .i64 (xs[j]?.getD 0)):=by rw[List.getElem?_map,List.getElem?_eq_getElem (by rw[h.len];exact hjn)];rfl
 rw[e]at hj
 rw[<-hj,Addr.add_lit]
 exact hc j hjn
theorem qA{w w':World}(hg:w.grownBy w' none):Below w w w':=⟨hg.os,hg.tape,hg.output,hg.size,fun k hk=>hg.block k hk (by simp)⟩
theorem fI.pos_some{w:World}{A:Option Addr}{n c:Nat}{xs:List Int}(h:fI w A n c xs)(hn:0<n):∃b,A=some b:=by
 obtain⟨b,off,hA,_⟩:=h.at_ hn
 exact⟨_,hA⟩
theorem uS(w:World)(ty:TypeId)(A B:Option Addr)(n c d:Nat)(hc:n<=c):
 (Builtin.append_ #[125,125] ty #[.slice A n c,.slice B 0 d]).run prog w=.ok (.slice A n c) w:=by
 obtain⟨i0,hi,Ib,Io,Hh⟩:=info_parts tJ
 cases A<;>cases B<;>simp [Builtin.append_,run_underlying underlying125,sizeOf,typeInfo,hi,Builtin.lenOf,Builtin.firstCells,loadCells,loadCellsFrom,storeCells,hc]
structure kC (w:World) (B:Nat) (A:Option Addr) (n c:Nat) (xs:List Int):Prop where
 sli:fI w A n c xs
 up:0<n->∀b,A=some b->B<=b.block
theorem kC.far{w:World}{B:Nat}{A:Option Addr}{n c:Nat}{xs:List Int}(h:kC w B A n c xs){p:Addr}(hp:p.block<B)(u:Value):kC (w.setCell p u) B A n c xs:=
 ⟨⟨h.sli.len,h.sli.cap,h.sli.cap63,h.sli.bd,fun hn=>by
   obtain⟨b,off,hA,hlt,hc⟩:=h.sli.at_ hn
   have hb:=h.up hn _ hA
   refine⟨b,off,hA,by simpa using hlt,fun i hi=>?_⟩
   rw[World.cell?_setCell_far _ _ _ _ (by show p.block≠b;have:B<=b:=hb;omega)]
   exact hc i hi⟩,h.up⟩
theorem kC.below{w w':World}{B:Nat}{A:Option Addr}{n c:Nat}{xs:List Int}(h:kC w B A n c xs)(hb:Below w w w'):kC w' B A n c xs:=⟨h.sli.below hb,h.up⟩
theorem kC.alloc{w:World}{B:Nat}{A:Option Addr}{n c:Nat}{xs:List Int}(h:kC w B A n c xs)(o:Obj):kC (w.alloc o) B A n c xs:=h.below ((Below.refl _ _).alloc (Nat.le_refl _) _)
theorem kC.mono{w:World}{B B':Nat}{A:Option Addr}{n c:Nat}{xs:List Int}(h:kC w B A n c xs)(hb:B'<=B):kC w B' A n c xs:=⟨h.sli,fun hn b hA=>Nat.le_trans hb (h.up hn b hA)⟩
theorem jX.slo{w:World}{B:Nat}{A:Option Addr}{n c:Nat}{xs:List Int}(h:jX w B A n c xs)(bd:∀i:Nat,-9223372036854775808<=xs[i]?.getD 0/\xs[i]?.getD 0<=9223372036854775807):kC w B A n c xs:=
 ⟨h.sli bd,fun hn b hA=>by
  obtain⟨g,hA',hb,_⟩:=h.at_ hn
  rw[hA]at hA'
  cases hA'
  exact hb⟩
theorem kC.one(w:World)(t:TypeId)(v:Int)(hv: -9223372036854775808<=v/\v<=9223372036854775807):kC (w.alloc (.cells #[v] t)) w (some ⟨w.heap.size,0,none⟩) 1 1 [v]:=
 ⟨fI.of_blk (aY.new w t _) rfl (Nat.le_refl _) aJ (fun i (hi:i<1)=>by have h0:i=0:=Nat.lt_one_iff.1 hi;subst h0;rfl) (fun i=>by
  cases i with
  |zero=>exact hv
  |succ i=>simp),fun _ b hA=>by cases hA;exact Nat.le_refl _⟩
theorem uU{w:World}{A B:Option Addr}{n c m d G:Nat}{xs ys:List Int}(ho:kC w G A n c xs)(hG:G<=w)(hA:A=none->c=0)(k:fI w B m d ys)(hfull:m=0\/c<n+m)(hb:n+m<=1000)(ty:TypeId):
 ∃A' c' w',(Builtin.append_ #[125,125] ty #[.slice A n c,.slice B m d]).run prog w=.ok (.slice A' (n+m) c') w'/\kC w' G A' (n+m) c' (xs++ys)/\Below w w w':=by
 have h:=ho.sli
 obtain⟨i0,hi,Ib,Io,Hh⟩:=info_parts tJ
 rcases Nat.eq_zero_or_pos m with hm|hm
 .subst hm
  have:ys=[]:=List.eq_nil_of_length_eq_zero k.len
  subst this
  exact⟨A,c,w,uS w ty A B n c d h.cap,by simpa using ho,Below.refl _ _⟩
 have hf:c<n+m:=I
 obtain⟨ad,rfl⟩:=k.pos_some hm
 have bd:∀i:Nat,-9223372036854775808<=(xs++ys)[i]?.getD 0/\(xs++ys)[i]?.getD 0<=9223372036854775807:=fun i=>by
  rw[List.getElem?_append];split
  .exact h.bd i
  exact k.bd _
 have key:∃v' w',(Builtin.append_ #[125,125] ty #[.slice A n c,.slice (some ad) m d]).run prog w=.ok v' w'/\w'.ownsRow w 3 1 v' (n+m) (xs.map (Value.int .i64)++ys.map (Value.int .i64))/\w.grownBy w' none:=by
  cases A with
  |some b=>
   exact run_append_arg_grows (P:=prog) w 125 ty 3 i0 (0:Int) 1 8 underlying125 hi Ib Io Hh rfl aJ b n c _ (by simp [h.len]) (h.cellsAt b rfl) ad m d _ (by simp [k.len]) (k.cellsAt ad rfl) hf (by unfold maxLen;omega) I
  |none=>
   obtain rfl:=hA rfl
   have Hr:n=0:=by have:=h.cap;omega
   subst Hr
   obtain rfl:xs=[]:=List.eq_nil_of_length_eq_zero h.len
   obtain⟨v',w',hrun,r1,r2,_⟩:=run_append_own (P:=prog) w w 125 ty 3 i0 (0:Int) 1 8 underlying125 hi Ib Io Hh rfl aJ (.slice none 0 0) 0 [] (World.ownsRow_nil w _ _ _) ad m d _ (by simp [k.len]) (k.cellsAt ad rfl) (by intro u hu;obtain⟨x,_,rfl⟩:=List.mem_map.1 hu;rfl) (by unfold maxLen;omega) I (Nat.le_refl _)
   exact⟨v',w',hrun,r1,r2⟩
 obtain⟨v',w',hrun,r1,r2⟩:=key
 obtain⟨A',c',rfl,_,_,_⟩:=pT r1
 have ow:jX w' w A' (n+m) c' (xs++ys):=by unfold jX;simpa using r1
 exact⟨A',c',w',hrun,(ow.slo bd).mono hG,qA r2⟩
theorem DA{w:World}{B:Option Addr}{m d:Nat}{ys:List Int}(k:fI w B m d ys)(hb:m<=1000)(ty:TypeId):
 ∃A' c' w',(Builtin.append_ #[125,125] ty #[.slice none 0 0,.slice B m d]).run prog w=.ok (.slice A' m c') w'/\jX w' w A' m c' ys/\Below w w w':=by
 obtain⟨i0,hi,Ib,Io,Hh⟩:=info_parts tJ
 rcases Nat.eq_zero_or_pos m with hm|hm
 .subst hm
  have:ys=[]:=List.eq_nil_of_length_eq_zero k.len
  subst this
  exact⟨none,0,w,uS w ty none B 0 0 d (Nat.le_refl _),jX.nil _ _,Below.refl _ _⟩
 obtain⟨ad,rfl⟩:=k.pos_some hm
 obtain⟨v',w',hrun,r1,r2,_⟩:=run_append_own (P:=prog) w w 125 ty 3 i0 (0:Int) 1 8 underlying125 hi Ib Io Hh rfl aJ (.slice none 0 0) 0 [] (World.ownsRow_nil w _ _ _) ad m d _ (by simp [k.len]) (k.cellsAt ad rfl) (by intro u hu;obtain⟨x,_,rfl⟩:=List.mem_map.1 hu;rfl) (by unfold maxLen;omega) I (Nat.le_refl _)
 rw[Nat.zero_add]at r1
 obtain⟨A',c',rfl,_,_,_⟩:=pT r1
 exact⟨A',c',w',hrun,by unfold jX;simpa using r1,qA r2⟩
theorem mQ{ops:Array Oper}{rest:List Oper}{o:Oper}{a:Act}{w:World}{Q:Exit->Act->World->Prop}(hgd:o.guard=none)(s x:Operand)
 (ho:o.op=.call {callee:=.builtin .append,args:= #[s,x],argTypes:= #[125,125]}) {A B:Option Addr} {n c m d G:Nat} {xs ys:List Int} (hs:a.eval s=.slice A n c) (hx:a.eval x=.slice B m d) (h:kC w G A n c xs) (hG:G<=w) (hA:A=none->c=0) (k:fI w B m d ys) (hfull:m=0\/c<n+m) (hb:n+m<=1000)
 (hK:∀A' c' w',kC w' G A' (n+m) c' (xs++ys)->Below w w w'->wpList prog ops Q rest (a.put o.dst (.slice A' (n+m) c')) w'):wpList prog ops Q (o::rest) a w:=
 wpList_plain hgd fun _ hKK=>by
  obtain⟨A',c',w',hr,h2,h3⟩:=uU h hG hA k hfull hb o.type
  unfold Oper.wp execOp
  simp only[ho,resolve,invoke,builtin,Sem.run_bind,Sem.run_pure,Result.andThen_ok,List.map_toArray,List.map_cons,List.map_nil,hs,hx,hr]
  exact hKK _ _ (hK A' c' w' h2 h3)
theorem cY{ops:Array Oper}{rest:List Oper}{o:Oper}{a:Act}{w:World}{Q:Exit->Act->World->Prop}(hgd:o.guard=none)(s x:Operand)
 (ho:o.op=.call {callee:=.builtin .append,args:= #[s,x],argTypes:= #[125,125]}) {B:Option Addr} {m d:Nat} {ys:List Int} (hs:a.eval s=.slice none 0 0) (hx:a.eval x=.slice B m d) (k:fI w B m d ys) (hb:m<=1000)
 (hK:∀A' c' w',jX w' w A' m c' ys->Below w w w'->wpList prog ops Q rest (a.put o.dst (.slice A' m c')) w'):wpList prog ops Q (o::rest) a w:=
 wpList_plain hgd fun _ hKK=>by
  obtain⟨A',c',w',hr,h2,h3⟩:=DA k hb o.type
  unfold Oper.wp execOp
  simp only[ho,resolve,invoke,builtin,Sem.run_bind,Sem.run_pure,Result.andThen_ok,List.map_toArray,List.map_cons,List.map_nil,hs,hx,hr]
  exact hKK _ _ (hK A' c' w' h2 h3)
theorem rJ{o:Oper}{a:Act}{w:World}{T:Value->World->Prop}(s x:Operand)
 (ho:o.op=.call {callee:=.builtin .append,args:= #[s,x],argTypes:= #[125,125]}) {A B:Option Addr} {n c m d G:Nat} {xs ys:List Int} (hs:a.eval s=.slice A n c) (hx:a.eval x=.slice B m d) (h:kC w G A n c xs) (hG:G<=w) (hA:A=none->c=0) (k:fI w B m d ys) (hfull:m=0\/c<n+m) (hb:n+m<=1000)
 (hK:∀A' c' w',kC w' G A' (n+m) c' (xs++ys)->Below w w w'->T (.slice A' (n+m) c') w'):eQ prog o a w T:=by
 obtain⟨A',c',w',hr,h2,h3⟩:=uU h hG hA k hfull hb o.type
 unfold eQ execOp
 simp only[ho,resolve,invoke,builtin,Sem.run_bind,Sem.run_pure,Result.andThen_ok,List.map_toArray,List.map_cons,List.map_nil,hs,hx,hr]
 exact hK A' c' w' h2 h3
theorem xW{o:Oper}{a:Act}{w:World}{T:Value->World->Prop}(s x:Operand)
 (ho:o.op=.call {callee:=.builtin .append,args:= #[s,x],argTypes:= #[125,125]}) {B:Nat} {A:Option Addr} {n c:Nat} {xs:List Int} (hs:a.eval s=.slice A n c) (hown:jX w B A n c xs) {g:Nat} {v:Int} {c':Nat}
 (hx:a.eval x=.slice (some ⟨g,0,none⟩) 1 c') (hv:w.cell? (g,0)=v) (hn:n<=1000) (hB:B<=w)
 (hK:∀g' cap w',jX w' B (some ⟨g',0,none⟩) (n+1) cap (xs++[v])->Below B w w'->T (.slice (some ⟨g',0,none⟩) (n+1) cap) w'):eQ prog o a w T:=by
 obtain⟨g',cap,w',hr,h2,h3⟩:=rQ hown hv hn hB o.type c'
 unfold eQ execOp
 simp only[ho,resolve,invoke,builtin,Sem.run_bind,Sem.run_pure,Result.andThen_ok,List.map_toArray,List.map_cons,List.map_nil,hs,hx,hr]
 exact hK g' cap w' h2 h3
theorem kC.take{w:World}{G:Nat}{A:Option Addr}{n c:Nat}{xs:List Int}(h:kC w G A n c xs)(k:Nat)(hk:k<=n):kC w G A k k (xs.take k):=
 ⟨⟨by rw[List.length_take,h.sli.len];omega,Nat.le_refl _,by have:=h.sli.cap;have:=h.sli.cap63;omega,fun i=>by
   rw[List.getElem?_take];split
   .exact h.sli.bd i
   .decide,fun Ny=>by
   obtain⟨b,off,hA,hlt,hc⟩:=h.sli.at_ I
   exact⟨b,off,hA,hlt,fun i hi=>by rw[List.getElem?_take,iP hi];exact hc i I⟩⟩,fun Ny b hA=>h.up I b hA⟩
theorem fI.dropIf{w:World}{b off n c:Nat}{xs:List Int}(h:fI w (some ⟨b,off,none⟩) n c xs)(k:Nat)(hk:k<=n):fI w (if c=k then some ⟨b,off,none⟩else some ⟨b,off+k,none⟩) (n-k) (c-k) (xs.drop k):=
 ⟨by simp [h.len],by have:=h.cap;omega,by have:=h.cap63;omega,fun i=>by rw[List.getElem?_drop];exact h.bd (k+i),fun hn=>by
  have h1:=h.cap
  rw[iN I]
  obtain⟨b',off',hA,hlt,hc⟩:=h.at_ I
  cases hA
  refine⟨b,off+k,rfl,hlt,fun i hi=>?_⟩
  rw[List.getElem?_drop,Nat.add_assoc]
  exact hc (k+i) I⟩
theorem kC.of_keeps{S:Nat->Prop}{w w':World}{B:Nat}{A:Option Addr}{n c:Nat}{xs:List Int}(h:kC w B A n c xs)(hk:aD S w w')(hS:∀b,B<=b->¬S b):kC w' B A n c xs:=
 ⟨⟨h.sli.len,h.sli.cap,h.sli.cap63,h.sli.bd,fun hn=>by
   obtain⟨b,off,hA,hlt,hc⟩:=h.sli.at_ hn
   exact⟨b,off,hA,Nat.lt_of_lt_of_le hlt hk.size,fun i hi=>(hk.cell (p:=⟨b,off+i,none⟩) hlt (hS b (h.up hn _ hA))).trans (hc i hi)⟩⟩,h.up⟩
theorem fI.keeps{w w':World}{A:Option Addr}{n c:Nat}{xs:List Int}(h:fI w A n c xs)(hk:aD bN w w'):fI w' A n c xs:=h.below hk.same
theorem kC.keeps{w w':World}{B:Nat}{A:Option Addr}{n c:Nat}{xs:List Int}(h:kC w B A n c xs)(hk:aD bN w w'):kC w' B A n c xs:=h.below hk.same
theorem kC.nil(w:World)(B:Nat)(c:Nat)(hc:c<=9223372036854775807)(A:Option Addr):kC w B A 0 c []:=⟨⟨rfl,Nat.zero_le _,hc,fun i=>by simp,fun h=>absurd h I⟩,fun h=>absurd h I⟩
def nJ(xs:List Int):Prop:=∀i:Nat,-9223372036854775808<=xs[i]?.getD 0/\xs[i]?.getD 0<=9223372036854775807
def fQ(ys:List Int)(code val:Int)(w:World)(e:Ending)(w':World):Prop:=
 ∃A n c,e=.returned (.tuple #[.slice A n c,.agg #[code,val]])/\kC w' w A n c ys/\Below w w w'
theorem nJ.app{xs:List Int}(h:nJ xs){v:Int}(hv: -9223372036854775808<=v/\v<=9223372036854775807):nJ (xs++[v]):=fun i=>by
 rw[List.getElem?_append]
 split
 .exact h i
 rcases Nat.eq_zero_or_pos (i-xs.length)with e|e
 .rw[e];exact hv
 rw[List.getElem?_eq_none (by simp;omega)];decide
theorem nJ.tail{xs:List Int}(h:nJ xs):nJ xs.tail:=fun i=>by rw[List.getElem?_tail];exact h (i+1)
theorem dB{w w1:World}{B:Nat}{A:Option Addr}{n c:Nat}{ys ys':List Int}{code val:Int}(hown:kC w1 B A n c ys')(hb:Below w w w1){p q:Addr}{u u':Value}{co va:Int}(hp:p.block<B)(hq:q.block<B)(hp':w<=p.block)(hq':w<=q.block)(h0:ys'=ys)(h1:co=code)(h2:va=val):
 fQ ys code val w (.returned (.tuple #[.slice A n c,.agg #[co,va]])) ((w1.setCell p u).setCell q u'):=
 ⟨A,n,c,by rw[h1,h2],by rw[<-h0];exact((hown.far hp u).far hq u').mono I,(hb.setCell hp' _).setCell hq' _⟩
theorem nZ{w w1:World}{B:Nat}{A:Option Addr}{n c:Nat}{ys ys':List Int}{code val:Int}(hown:jX w1 B A n c ys')(hb:Below w w w1)(bd:nJ ys'){p q:Addr}{u u':Value}{co va:Int}(hp:p.block<B)(hq:q.block<B)(hp':w<=p.block)(hq':w<=q.block)(h0:ys'=ys)(h1:co=code)(h2:va=val):
 fQ ys code val w (.returned (.tuple #[.slice A n c,.agg #[co,va]])) ((w1.setCell p u).setCell q u'):=dB (hown.slo bd) hb hp hq hp' hq' h0 h1 h2
theorem ET{w w1:World}{ys:List Int}{code val:Int}(hb:Below w w w1){co va:Int}(h0:[]=ys)(h1:co=code)(h2:va=val):fQ ys code val w (.returned (.tuple #[.slice none 0 0,.agg #[co,va]])) w1:=
 ⟨none,0,0,by rw[h1,h2],by rw[<-h0];exact kC.nil _ _ _ I _,hb⟩
theorem fQ.alloc{ys:List Int}{code val:Int}{w:World}{e:Ending}{w':World}(h:fQ ys code val w e w')(o:Obj):fQ ys code val w e (w'.alloc o):=by
 obtain⟨A,n,c,he,hs,hb⟩:=h
 exact⟨A,n,c,he,hs.below ((Below.refl _ _).alloc (Nat.le_refl _) _),hb.alloc hb.size _⟩
theorem oY{w W w1:World}{A:Option Addr}{n c:Nat}{ys:List Int}{code val:Int}(hs:kC w1 W A n c ys)(hW:Below w w W)(hb:Below W W w1){p q:Addr}{u u':Value}(hp:p.block<W)(hq:q.block<W)(hp':w<=p.block)(hq':w<=q.block):
 fQ ys code val w (.returned (.tuple #[.slice A n c,.agg #[code,val]])) ((w1.setCell p u).setCell q u'):=
 dB hs (hW.trans (hb.mono hW.size)) hp hq hp' hq' rfl rfl rfl
end
section
attribute [local go_sem↓] Go.wp_at_zero Go.wp_at_succ
def zW(z:Nat->Int)(n:Nat):List Int:=(List.range n).map fun i=>z (i+1)
theorem EW(z:Nat->Int)(n:Nat):zW z (n+1)=zW z n++[z (n+1)]:=by unfold zW;rw[List.range_succ,List.map_append];rfl
theorem qT(z:Nat->Int)(n:Nat):(zW z n).length=n:=by unfold zW;simp
theorem pA(z:Nat->Int)(n i:Nat)(h:i<n):(zW z n)[i]?.getD 0=z (i+1):=by unfold zW;simp [h]
def tY(z:Nat->Int)(n0:Nat)(i:Nat):Prop:=z (i+1)<=4294967295/\(n0<=i->z (i+1)=0)
def gW(z:Nat->Int):Prop:=z 0<=6/\∀i,i<16->tY z (z 0).toNat i
def AZ(z:Nat->Int)(w:World)(e:Ending)(w':World):Prop:=
 Below w w w'/\((gW z/\∃A c,e=.returned (.tuple #[.slice A (z 0).toNat c,true])/\jX w' (w+1) A (z 0).toNat c (zW z (z 0).toNat))\/(¬gW z/\e=.returned (.tuple #[.slice none 0 0,false])))
theorem vX(C:Array Value)(z:Nat->Int)(w:World)(h:cH C 17 z):Calls prog 155 #[.agg C] w (AZ z w):=by
 have c0:=h.get 0 I
 obtain⟨n0,Hr⟩:=Int.eq_ofNat_of_zero_le (h.bd 0 I).1
 have h64:=(h.bd 0 I).2
 rw[Hr]at c0 h64
 have HN:=aH Hr
 have HC:=aH h
 have HS:=aH h.size
 have Lv:Hid (aY (w.alloc (.cells C 252)) w 252 C):=aY.new _ _ _
 clear h Hr
 by_cases h6:n0<=6
 .have d6:decide (6<(n0:Int))=false:=by simp;omega
  go_enter func155,ntmps155
  go_wp2
  go_loopw [4,13] (fun l i wr=>∃k m:Nat,k<=16/\i=.int .i64 k/\Hid (m=min k n0)/\Hid (∃A c,l=.slice A m c/\jX wr (w,1) A m c (zW z m))/\Below (w,1) (w.alloc (.cells C 252)) wr/\Hid (∀j,j<k->tY z n0 j)) (fun _ i _=>16-(intOf i).toNat)
  case atStart=>exact⟨0,0,I,rfl,aH I,aH ⟨none,0,rfl,jX.nil _ _⟩,Below.refl _ _,aH fun j hj=>absurd hj I⟩
  case round=>
   obtain⟨k,m,hk,rfl,hm,hex,hb,hall⟩:=hrel
   obtain⟨A,c,rfl,hown⟩:=hex.out
   have HO:=aH hown
   clear hown hex
   by_cases hk16:k<16
   .have b1:(k:Int)<16:=I
    have s0:wr.cell? w=[n0]:=(hb.cell (p:=⟨w.heap.size,0,none⟩) (by simp)).trans ((Lv.cell 0).trans c0)
    have s1:wr.cell? (w.heap.size,k+1)=[z (k+1)]:=(hb.cell (p:=⟨w.heap.size,k+1,none⟩) (by simp)).trans ((Lv.cell (k+1)).trans (HC.get _ I))
    have s1':wr.cell? (w.heap.size,1+k)=[z (k+1)]:=by rw[Nat.add_comm 1 k];exact s1
    have bd:=HC.bd (k+1) I
    generalize hv:z (k+1)=v at s1 s1' bd
    have HV:=aH hv
    clear hv
    by_cases hbig:v<=4294967295
    .have d1:decide (4294967295<v)=false:=by simp;omega
     by_cases hin:k<n0
     .have b2:(k:Int)<n0:=I
      have d2:decide ((k:Int)<n0)=true:=by simp;omega
      obtain rfl:m=k:=by have:=hm.out;omega
      have hbz:=hb.size
      simp only[World.size_alloc]at hbz
      go_wp2_with (at_builtin;refine dM rfl (.tmp 34) (.tmp 37) rfl (B:=w+1) rfl (HO.alloc _) rfl ((aY.new _ _ _).cell 0) I (by simp;omega) ?_;intro g2 c2 w2 Hb Gt)
      go_roundw
      case rel=>exact⟨m+1,m+1,I,aG,aH I,aH ⟨_,_,rfl,by rw[EW,HV.out];exact Hb⟩,hb.trans (Below.trans (by go_grown) Gt),aH fun j hj=>by
       rcases Nat.lt_or_ge j m with h|h
       .exact hall j h
       obtain rfl:j=m:=I
       exact⟨by rw[HV.out];exact hbig,fun hn=>absurd hn I⟩⟩
      case measure=>simp [intOf];omega
     have b2:¬(k:Int)<n0:=I
     have d2:decide ((k:Int)<n0)=false:=by simp;omega
     by_cases hv0:v=0
     .subst hv0
      go_wp2
      go_roundw
      case rel=>exact⟨k+1,m,I,aG,aH (by have:=hm.out;omega),aH ⟨A,c,rfl,HO.out⟩,hb,aH fun j hj=>by
       rcases Nat.lt_or_ge j k with h|h
       .exact hall j h
       obtain rfl:j=k:=I
       exact⟨by rw[HV.out];omega,fun _=>HV.out⟩⟩
      case measure=>simp [intOf];omega
     have d3:(v !=0)=true:=by simpa using hv0
     go_wp2
     refine bodyPost_ret (by simp [results,results155,go_sem];try rfl) rfl ?_
     refine⟨Below.trans (by go_grown) (hb.mono I),.inr ⟨fun hl=>?_,rfl⟩⟩
     have h1:=(hl.2 k hk16).2
     rw[HN.out,HV.out]at h1
     exact hv0 (h1 I)
    have d1:decide (4294967295<v)=true:=by simp;omega
    go_wp2
    refine bodyPost_ret (by simp [results,results155,go_sem];try rfl) rfl ?_
    refine⟨Below.trans (by go_grown) (hb.mono I),.inr ⟨fun hl=>?_,rfl⟩⟩
    have h1:=(hl.2 k hk16).1
    rw[HV.out]at h1
    omega
   obtain rfl:k=16:=I
   obtain rfl:m=n0:=by have:=hm.out;omega
   go_wp2
   refine bodyPost_ret (by simp [results,results155,go_sem];try rfl) rfl ?_
   refine⟨Below.trans (by go_grown) (hb.mono I),.inl ⟨⟨by rw[HN.out];omega,by rw[HN.out];exact hall⟩,A,c,?_⟩⟩
   rw[HN.out]
   exact⟨rfl,HO.out⟩
 have d6:decide (6<(n0:Int))=true:=by simp;omega
 go_enter func155,ntmps155
 go_wp2
 refine bodyPost_ret (by simp [results,results155,go_sem];try rfl) rfl ?_
 exact⟨by go_grown,.inr ⟨fun h=>by have:=h.1;rw[HN.out]at this;omega,rfl⟩⟩
end
end Go.Proofs.YtplpimkgihnmhaaGreatDoor
