/-
  Part of a proof: StM RowL ShP. For all values.
-/
import Derived.Test.YtplpimkgihnmhaaGreatDoorA06
set_option maxRecDepth 100000
set_option maxHeartbeats 400000
set_option linter.all false
namespace Go.Proofs.YtplpimkgihnmhaaGreatDoor
open Go.Proofs.Tryz Go.RowKit
section
def jM(n:Nat)(f:Nat->Value):Array Value:=((List.range n).map f).toArray
section
variable{n:Nat}{f g:Nat->Value}
theorem dJ:(jM n f).size=n:=by simp [jM]
theorem cW{i:Nat}(h:i<n):(jM n f)[i]? =some (f i):=by simp [jM,h]
theorem UY{i:Nat}(h:n<=i):(jM n f)[i]? =none:=by rw[Array.getElem?_eq_none];rw[dJ];exact h
theorem tP{C:Array Value}(hs:C.size=n)(h:∀i,i<n->C[i]? =some (f i)):C=jM n f:=by
 apply Array.ext_getElem?
 intro i
 by_cases hi:i<n
 .rw[h i hi,cW hi]
 rw[UY I,Array.getElem?_eq_none I]
theorem jJ(h:∀i,i<n->f i=g i):jM n f=jM n g:=tP dJ fun i hi=>by rw[cW hi,h i hi]
theorem dP{i:Nat}{v:Value}(h:∀j,j<n->g j=if j=i then v else f j):(jM n f).setIfInBounds i v=jM n g:=by
 refine tP (by simp [dJ]) fun j hj=>?_
 rw[Array.getElem?_setIfInBounds,dJ,cW hj,h j hj]
 by_cases e:i=j
 .subst e;rw[iP rfl,iP hj,iP rfl]
 rw[iN e,iN (fun x=>e x.symm)]
theorem pS{o m:Nat}(h:o+m<=n):(jM n f).extract o (o+m)=jM m (fun i=>f (o+i)):=by
 refine tP (by simp [dJ];omega) fun i hi=>?_
 rw[Array.getElem?_extract,iP (by rw[dJ];omega),cW I]
theorem qH(h:∀i,i<n->(f i).oneCell'=true):(jM n f).all (·.oneCell')=true:=by
 rw[Array.all_eq_true]
 intro i hi
 rw[dJ]at hi
 have e:=cW (f:=f) hi
 rw[Array.getElem?_eq_getElem (by rw[dJ];exact hi)]at e
 rw[Option.some.inj e]
 exact h i hi
theorem PD:(jM n f).toList=(List.range n).map f:=by simp [jM]
theorem TQ:(jM n f).toList.length=n:=by simp [jM]
theorem qS{o m:Nat}{k:Nat->Value}(h:o+m<=n)(hg:∀j,j<n->g j=if o<=j/\j<o+m then k (j-o)else f j):fF (jM n f) o (jM m k).toList=jM n g:=by
 refine tP (by rw[fA,dJ]) fun j hj=>?_
 rw[iR _ _ _ _ (by rw[dJ];exact hj),TQ,hg j hj]
 by_cases e:o<=j/\j<o+m
 .rw[iP e,iP e,PD,List.getElem?_map,List.getElem?_range I];rfl
 rw[iN e,iN e,cW hj]
end
structure cN where
 now:Nat->Int
 good:Nat->Int
 want:Nat->Nat->Bool
 fl:Nat
 fe:Nat
namespace cN
def new:cN:=⟨fun _=>0,fun _=>0,fun _ _=>false,0,0⟩
def save(s:cN)(a:Nat)(v:Int):cN:={s with now:=fun i=>if i=a then v else s.now i}
def land(s:cN)(l:Nat):cN:={s with good:=fun i=>if i/8=l then s.now i else s.good i}
def flush(s:cN)(t l:Nat):cN:={s with want:=fun t' l'=>if t'=t/\l'=l then true else s.want t' l',fl:=s.fl+1}
def lands(s:cN)(t k:Nat):cN:={s with good:=fun i=>if i/8<k/\s.want t (i/8)=true then s.now i else s.good i}
def quiet(s:cN)(t:Nat):cN:={s with want:=fun t' l'=>if t'=t then false else s.want t' l'}
def fence(s:cN)(t:Nat):cN:={(s.lands t 9).quiet t with fe:=s.fe+1}
structure Ok (s:cN):Prop where
 now:∀i,i<72->0<=s.now i/\s.now i<18446744073709551616
 good:∀i,i<72->0<=s.good i/\s.good i<18446744073709551616
variable{s:cN}
theorem Ok.save(h:Ok s)(a:Nat){v:Int}(hv:0<=v/\v<18446744073709551616):Ok (s.save a v):=
 ⟨fun i hi=>by simp only[cN.save];split;exact hv;exact h.now i hi,h.good⟩
theorem Ok.flush(h:Ok s)(t l:Nat):Ok (s.flush t l):=⟨h.now,h.good⟩
theorem Ok.lands(h:Ok s)(t k:Nat):Ok (s.lands t k):=⟨h.now,fun i hi=>by simp only[cN.lands];split;exact h.now i hi;exact h.good i hi⟩
theorem Ok.fence(h:Ok s)(t:Nat):Ok (s.fence t):=⟨(h.lands t 9).now,(h.lands t 9).good⟩
theorem lands0(t:Nat):s.lands t 0=s:=by simp [cN.lands]
end cN
def uZ(s:cN)(i:Nat):Value:=
 if i<72 then .int .u64 (s.now i)else if i<144 then .int .u64 (s.good (i-72))else if i<180 then .bool (s.want ((i-144)/9) ((i-144)%9))else if i=180 then .int .i64 (s.fl:Int)else .int .i64 (s.fe:Int)
def xZ(s:cN)(m:Nat)(i:Nat):Value:=
 if i<72 then .int .u64 (s.now i)else if i<144 then .int .u64 (s.good (i-72))else if i=144 then .map (some m)else if i=145 then .int .i64 (s.fl:Int)else .int .i64 (s.fe:Int)
def nI(s:cN):Array Value:=jM 182 (uZ s)
def kD(s:cN)(m:Nat):Array Value:=jM 147 (xZ s m)
theorem SR(s:cN):(nI s).size=182:=dJ
theorem sB(s:cN)(m:Nat):(kD s m).size=147:=dJ
theorem KT(s:cN){i:Nat}(h:i<72):(nI s)[i]? =some (.int .u64 (s.now i)):=by rw[nI,cW I,uZ,iP h]
theorem Dl(s:cN){i:Nat}(h:i<72):(nI s)[72+i]? =some (.int .u64 (s.good i)):=by
 rw[nI,cW I,uZ,iN I,iP I,Nat.add_sub_cancel_left]
theorem UO(s:cN){t l:Nat}(ht:t<4)(hl:l<9):(nI s)[144+t*9+l]? =some (.bool (s.want t l)):=by
 rw[nI,cW I,uZ,iN I,iN I,iP I]
 have e1:(144+t*9+l-144)/9=t:=I
 have e2:(144+t*9+l-144)%9=l:=I
 rw[e1,e2]
theorem Ac(s:cN):(nI s)[180]? =some (.int .i64 (s.fl:Int)):=by rw[nI,cW I];rfl
theorem Ap(s:cN):(nI s)[181]? =some (.int .i64 (s.fe:Int)):=by rw[nI,cW I];rfl
theorem KU(s:cN)(m:Nat){i:Nat}(h:i<72):(kD s m)[i]? =some (.int .u64 (s.now i)):=by rw[kD,cW I,xZ,iP h]
theorem UL(s:cN)(m:Nat){i:Nat}(h:i<72):(kD s m)[72+i]? =some (.int .u64 (s.good i)):=by
 rw[kD,cW I,xZ,iN I,iP I,Nat.add_sub_cancel_left]
theorem BP(s:cN)(m:Nat):(kD s m)[144]? =some (.map (some m)):=by rw[kD,cW I];rfl
theorem Cd(s:cN)(m:Nat):(kD s m)[145]? =some (.int .i64 (s.fl:Int)):=by rw[kD,cW I];rfl
theorem Bu(s:cN)(m:Nat):(kD s m)[146]? =some (.int .i64 (s.fe:Int)):=by rw[kD,cW I];rfl
def sF(f:Nat->Int)(o:Nat):Array Value:=jM 8 (fun i=>.int .u64 (f (o+i)))
theorem xY(f:Nat->Int)(o:Nat):(sF f o).size=8:=dJ
theorem OK(f:Nat->Int)(o:Nat):(sF f o).all (·.oneCell')=true:=qH fun _ _=>rfl
theorem BM(s:cN){l:Nat}(h:l<9):(nI s).extract (l*8) (l*8+8)=sF s.now (l*8):=by
 rw[nI,pS I]
 exact jJ fun i hi=>by rw[uZ,iP I]
theorem VR(s:cN){l:Nat}(h:l<9):(nI s).extract (72+l*8) (72+l*8+8)=sF s.good (l*8):=by
 rw[nI,pS I]
 exact jJ fun i hi=>by rw[uZ,iN I,iP I];congr 2;omega
def xR(s:cN)(t:Nat):Array Value:=jM 9 (fun l=>.bool (s.want t l))
theorem PM(s:cN){t:Nat}(h:t<4):(nI s).extract (144+t*9) (144+t*9+9)=xR s t:=by
 rw[nI,pS I]
 exact jJ fun i hi=>by
  rw[uZ,iN I,iN I,iP I]
  have e1:(144+t*9+i-144)/9=t:=I
  have e2:(144+t*9+i-144)%9=i:=I
  rw[e1,e2]
theorem Dg(s:cN){j:Nat}(h:j<72):uZ s j=.int .u64 (s.now j):=by rw[uZ,iP h]
theorem Ct(s:cN){j:Nat}(h:72<=j/\j<144):uZ s j=.int .u64 (s.good (j-72)):=by rw[uZ,iN I,iP h.2]
theorem XF(s:cN){j:Nat}(h:144<=j/\j<180):uZ s j=.bool (s.want ((j-144)/9) ((j-144)%9)):=by rw[uZ,iN I,iN I,iP h.2]
theorem Dw(s:cN){j:Nat}(h:j=180):uZ s j=.int .i64 (s.fl:Int):=by subst h;rfl
theorem Cp(s:cN){j:Nat}(h:180<j):uZ s j=.int .i64 (s.fe:Int):=by rw[uZ,iN I,iN I,iN I,iN I]
theorem GT{s t:cN}{j:Nat}(h1:j<72->s.now j=t.now j)(h2:72<=j->j<144->s.good (j-72)=t.good (j-72))(h3:144<=j->j<180->s.want ((j-144)/9) ((j-144)%9)=t.want ((j-144)/9) ((j-144)%9))
 (h4:j=180->s.fl=t.fl) (h5:180<j->s.fe=t.fe):uZ s j=uZ t j:=by
 by_cases c1:j<72
 .rw[Dg _ c1,Dg _ c1,h1 c1]
 by_cases c2:j<144
 .rw[Ct _ ⟨I,c2⟩,Ct _ ⟨I,c2⟩,h2 I c2]
 by_cases c3:j<180
 .rw[XF _ ⟨I,c3⟩,XF _ ⟨I,c3⟩,h3 I c3]
 by_cases c4:j=180
 .rw[Dw _ c4,Dw _ c4,h4 c4]
 rw[Cp _ I,Cp _ I,h5 I]
theorem DE(s:cN){a:Nat}(v:Int)(h:a<72):(nI s).setIfInBounds a [v]=nI (s.save a v):=by
 refine dP fun j hj=>?_
 by_cases e:j=a
 .subst e;rw[iP rfl,uZ,iP h];simp [cN.save]
 rw[iN e,uZ,uZ];simp [cN.save,e]
theorem NU(s:cN){t l:Nat}(ht:t<4)(hl:l<9):((nI s).setIfInBounds (144+t*9+l) true).setIfInBounds 180 ((s.fl+1:Nat):Int)=nI (s.flush t l):=by
 have e1:(nI s).setIfInBounds (144+t*9+l) true=nI {s.flush t l with fl:=s.fl}:=dP fun j hj=>by
  by_cases e:j=144+t*9+l
  .rw[iP e,XF _ I]
   have a1:(j-144)/9=t:=I
   have a2:(j-144)%9=l:=I
   simp [cN.flush,a1,a2]
  rw[iN e]
  refine GT (fun _=>rfl) (fun _ _=>rfl) (fun h1 h2=>?_) (fun _=>rfl) (fun _=>rfl)
  have:¬((j-144)/9=t/\(j-144)%9=l):=I
  simp only[cN.flush,this,if_false]
 rw[e1]
 exact dP fun j hj=>by
  by_cases e:j=180
  .subst e;rfl
  rw[iN e]
  exact GT (fun _=>rfl) (fun _ _=>rfl) (fun h1 h2=>rfl) (fun h=>absurd h e) (fun _=>rfl)
theorem QG(s:cN){l:Nat}(hl:l<9):fF (nI s) (72+l*8) (sF s.now (l*8)).toList=nI (s.land l):=by
 refine qS I fun j hj=>?_
 by_cases e:72+l*8<=j/\j<72+l*8+8
 .rw[iP e,uZ,iN I,iP I]
  have a1:(j-72)/8=l:=I
  have a2:l*8+(j-(72+l*8))=j-72:=I
  simp [cN.land,a1,a2]
 rw[iN e,uZ,uZ]
 by_cases c2:j<72
 .rw[iP c2,iP c2];rfl
 rw[iN c2,iN c2]
 by_cases c:j<144
 .rw[iP c,iP c]
  have:¬(j-72)/8=l:=I
  simp [cN.land,this]
 rw[iN c,iN c];rfl
def oV(n:Nat):Array Value:=jM n (fun _=>.bool false)
theorem GN(n:Nat):(oV n).all (·.oneCell')=true:=qH fun _ _=>rfl
theorem OM(s:cN){t:Nat}(ht:t<4):fF (nI s) (144+t*9) (oV 9).toList=nI (s.quiet t):=by
 refine qS I fun j hj=>?_
 by_cases e:144+t*9<=j/\j<144+t*9+9
 .rw[iP e,XF _ I]
  have a1:(j-144)/9=t:=I
  simp [cN.quiet,a1]
 rw[iN e]
 refine GT (fun _=>rfl) (fun _ _=>rfl) (fun h1 h2=>?_) (fun _=>rfl) (fun _=>rfl)
 have:¬(j-144)/9=t:=I
 simp only[cN.quiet,this,if_false]
theorem XC(s:cN)(k:Nat):(nI s).setIfInBounds 181 k=nI {s with fe:=k}:=dP fun j hj=>by
 by_cases e:j=181
 .subst e;rfl
 rw[iN e,uZ,uZ]
 by_cases c:j<180
 .simp [c]
 have:j=180:=I
 subst this;rfl
theorem RL(s:cN)(m:Nat){a:Nat}(v:Int)(h:a<72):(kD s m).setIfInBounds a [v]=kD (s.save a v) m:=by
 refine dP fun j hj=>?_
 by_cases e:j=a
 .subst e;rw[iP rfl,xZ,iP h];simp [cN.save]
 rw[iN e,xZ,xZ];simp [cN.save,e]
theorem MB(s:cN)(m:Nat){a:Nat}(v:Int)(h:a<72):(kD s m).setIfInBounds (72+a) [v]=kD {s with good:=fun i=>if i=a then v else s.good i} m:=by
 refine dP fun j hj=>?_
 by_cases e:j=72+a
 .subst e;rw[iP rfl,xZ,iN I,iP I];simp
 rw[iN e,xZ,xZ]
 by_cases c:j<72
 .rw[iP c,iP c]
 rw[iN c,iN c]
 by_cases c2:j<144
 .rw[iP c2,iP c2]
  have:¬j-72=a:=I
  simp [this]
 rw[iN c2,iN c2]
theorem WC(s:cN)(m k:Nat):(kD s m).setIfInBounds 145 k=kD {s with fl:=k} m:=dP fun j hj=>by
 by_cases e:j=145
 .subst e;rfl
 rw[iN e,xZ,xZ];simp [e]
theorem WZ(s:cN)(m k:Nat):(kD s m).setIfInBounds 146 k=kD {s with fe:=k} m:=dP fun j hj=>by
 by_cases e:j=146
 .subst e;rfl
 rw[iN e,xZ,xZ]
 by_cases c:j<145
 .by_cases c1:j<72
  .rw[iP c1,iP c1]
  rw[iN c1,iN c1]
  by_cases c2:j<144
  .rw[iP c2,iP c2]
  have:j=144:=I
  subst this;rfl
 have:j=145:=I
 subst this;rfl
def jB(f:Nat->Int):Array Value:=jM 72 (fun i=>.int .u64 (f i))
theorem JG(f:Nat->Int):(jB f).all (·.oneCell')=true:=qH fun _ _=>rfl
namespace cN
variable(s:cN)
theorem lands_yes{t k:Nat}(h:s.want t k=true):(s.lands t k).land k=s.lands t (k+1):=by
 unfold cN.lands cN.land
 congr 1
 funext i
 by_cases e:i/8=k
 .subst e
  simp [h]
 by_cases e2:i/8<k
 .have:i/8<k+1:=I
  simp [e,e2,this]
 have:¬i/8<k+1:=I
 simp [e,e2,this]
theorem lands_no{t k:Nat}(h:s.want t k=false):s.lands t k=s.lands t (k+1):=by
 unfold cN.lands
 congr 1
 funext i
 by_cases e:i/8=k
 .subst e
  simp [h]
 by_cases e2:i/8<k
 .have:i/8<k+1:=I
  simp [e2,this]
 have:¬i/8<k+1:=I
 simp [e2,this]
end cN
def iI(A:Option Addr)(b:Nat):Prop:=∃a,A=some a/\a.block=b
structure FI (m:Nat) (w:World) (A:Option Addr) (n c:Nat) (rows:List (List Value)):Prop where
 len:rows.length=n
 each:∀r∈rows,r.length=m
 cap:n<=c
 cap63:c<=9223372036854775807
 at_:0<n->∃b off,A=some ⟨b,off,none⟩/\b<w/\∀(i:Nat) r,rows[i]? =some r->∀(j:Nat) v,r[j]? =some v->w.cell? (b,off+i*m+j)=v
theorem FI.kept{m:Nat}{w w':World}{A:Option Addr}{n c:Nat}{rows:List (List Value)}{S:Nat->Prop}(h:FI m w A n c rows)(hk:aD S w w')(hS:∀a,A=some a->¬S a.block):FI m w' A n c rows:=
 ⟨h.len,h.each,h.cap,h.cap63,fun hn=>by
  obtain⟨b,off,rfl,hlt,hc⟩:=h.at_ hn
  exact⟨b,off,rfl,Nat.lt_of_lt_of_le hlt hk.size,fun i r hi j v hj=>(hk.cell (p:=⟨b,off+i*m+j,none⟩) hlt (hS ⟨b,off,none⟩ rfl)).trans (hc i r hi j v hj)⟩⟩
theorem FI.below{m:Nat}{w w':World}{A:Option Addr}{n c:Nat}{rows:List (List Value)}(h:FI m w A n c rows)(hb:Below w w w'):FI m w' A n c rows:=
 h.kept (S:=bN) (aD.of_same hb) (fun _ _ h=>h)
theorem FI.slf{K:List IntKind}{w:World}{A:Option Addr}{n c:Nat}{rows:List (List Value)}(h:FI K.length w A n c rows)(f:Nat->Nat->Int)(hf:∀i,i<n->rows[i]? =some ((List.range K.length).map fun j=>.int (K.getD j .i64) (f i j)))
 (wf:∀i j,i<n->j<K.length->(Lit.int (K.getD j .i64) (f i j)).wf=true):PQ K w A n c f:=
 ⟨h.cap,h.cap63,wf,fun hn=>by
  obtain⟨b,off,rfl,hlt,hc⟩:=h.at_ hn
  exact⟨b,off,rfl,hlt,fun i j hi hj=>hc i _ (hf i hi) j _ (by simp [hj])⟩⟩
structure cU (w:World) (B:Nat) (e:TypeId) (m:Nat) (A:Option Addr) (n c:Nat) (rows:List (List Value)):Prop where
 own:w.ownsRow B e m (.slice A n c) n rows.flatten
 len:rows.length=n
 each:∀r∈rows,r.length=m
theorem fP{m:Nat}:∀{rows:List (List Value)},(∀r∈rows,r.length=m)->rows.flatten.length=rows.length*m
 |[],_=>by simp
 |r::l,h=>by
  have h1:=h r (by simp)
  have h2:=fP (rows:=l) (fun x hx=>h x (by simp [hx]))
  simp only[List.flatten_cons,List.length_append,List.length_cons,h1,h2,Nat.add_mul,Nat.one_mul]
  omega
theorem nH{m:Nat}:∀{rows:List (List Value)},(∀r∈rows,r.length=m)->∀{i:Nat} {r:List Value},rows[i]? =some r->∀{j:Nat},j<m->rows.flatten[i*m+j]? =r[j]?
 |[],_,_,_,hi,_,_=>by simp at hi
 |x::l,h,0,r,hi,j,hj=>by
  simp at hi;subst hi
  have h1:=h x (by simp)
  rw[Nat.zero_mul,Nat.zero_add,List.flatten_cons,List.getElem?_append_left I]
 |x::l,h,i+1,r,hi,j,hj=>by
  have h1:=h x (by simp)
  have h2:=nH (rows:=l) (fun y hy=>h y (by simp [hy])) (i:=i) (r:=r) (by simpa using hi) hj
  rw[List.flatten_cons,List.getElem?_append_right (by rw[h1,Nat.add_mul];omega),<-h2]
  congr 1
  rw[h1,Nat.add_mul]
  omega
section
variable{w w':World}{B:Nat}{e:TypeId}{m:Nat}{A:Option Addr}{n c:Nat}{rows:List (List Value)}
theorem cU.nil(w:World)(B:Nat)(e:TypeId)(m:Nat):cU w B e m none 0 0 []:=⟨World.ownsRow_nil _ _ _ _,rfl,fun r hr=>by simp at hr⟩
theorem cU.kept{S:Nat->Prop}(h:cU w B e m A n c rows)(hk:aD S w w')(hS:∀a,A=some a->¬S a.block):cU w' B e m A n c rows:=by
 refine⟨?_,h.len,h.each⟩
 obtain⟨h1,h2⟩:=h.own
 refine⟨h1,?_⟩
 rcases h2 with h2|⟨g,cap,cur,hv,hb,hg,hr⟩
 .exact .inl h2
 simp only[Value.slice.injEq]at hv
 obtain⟨rfl,_,rfl⟩:=hv
 have hlt:g<w:=(Array.getElem?_eq_some_iff.1 hg).1
 exact .inr ⟨g,c,cur,rfl,hb,(hk.block g hlt (hS _ rfl)).trans hg,hr⟩
theorem cU.below(h:cU w B e m A n c rows)(hb:Below w w w'):cU w' B e m A n c rows:=h.kept (S:=bN) (aD.of_same hb) (fun _ _ h=>h)
theorem cU.mono{B':Nat}(h:cU w B e m A n c rows)(hB:B'<=B):cU w B' e m A n c rows:=⟨by
 obtain⟨h1,h2⟩:=h.own
 refine⟨h1,?_⟩
 rcases h2 with h2|⟨g,cap,cur,hv,hb,hr⟩
 .exact .inl h2
 exact .inr ⟨g,cap,cur,hv,Nat.le_trans hB hb,hr⟩,h.len,h.each⟩
theorem cU.lt(h:cU w B e m A n c rows):∀a,A=some a->B<=a.block/\a.block<w:=by
 rintro a rfl
 obtain⟨_,h2⟩:=h.own
 rcases h2 with⟨h2,_⟩|⟨g,cap,cur,hv,hb,hg,hr⟩
 .simp at h2
 simp only[Value.slice.injEq,Option.some.injEq]at hv
 obtain⟨rfl,_,rfl⟩:=hv
 exact⟨hb,(Array.getElem?_eq_some_iff.1 hg).1⟩
theorem cU.slr(h:cU w B e m A n c rows):FI m w A n c rows:=by
 have hF:=fP h.each
 obtain⟨h1,h2⟩:=h.own
 rcases h2 with⟨h2,h3⟩|⟨g,cap,cur,hv,hb,hg,Iz,Hk,hs,ht⟩
 .simp only[Value.slice.injEq]at h2
  obtain⟨rfl,_,rfl⟩:=h2
  exact⟨h.len,h.each,I,I,fun hn=>absurd hn I⟩
 simp only[Value.slice.injEq]at hv
 obtain⟨rfl,_,rfl⟩:=hv
 refine⟨h.len,h.each,Iz,by unfold maxLen at Hk;omega,fun hn=>⟨g,0,rfl,(Array.getElem?_eq_some_iff.1 hg).1,fun i r hi j v hj=>?_⟩⟩
 have hr:r∈rows:=List.mem_of_getElem? hi
 have hjm:j<m:=by have:=(List.getElem?_eq_some_iff.1 hj).1;rw[h.each r hr]at this;exact this
 have e1:=nH h.each hi hjm
 rw[hj,<-ht,List.getElem?_take]at e1
 split at e1
 .rw[Nat.zero_add,cell_of_row w g (i*m+j) cur e (0,0) hg]
  simpa using e1
 cases e1
end
theorem cU.high{w:World}{B:Nat}{e:TypeId}{m:Nat}{A:Option Addr}{n c:Nat}{rows:List (List Value)}(h:cU w B e m A n c rows){b:Nat}(hb:iI A b):B<=b:=by
 obtain⟨a,ha,rfl⟩:=hb
 exact(h.lt a ha).1
theorem cA{c:Bool}{S:Nat->Prop}{w w':World}(h:aD (fun b=>c=false/\S b) w w')(hc:c=true):Below w w w':=(h.mono (S':=bN) fun b hb=>by rw[hc]at hb;cases hb.1).same
theorem Aq{c:Bool}{S:Nat->Prop}{w w':World}(h:aD (fun b=>c=false/\S b) w w')(hc:c=true):aD bN w w':=h.mono (S':=bN) fun b hb=>by rw[hc]at hb;cases hb.1
def cI(g b:Nat):Prop:=b=g
theorem jD(w:World)(g:Nat)(cs:Array Value):aD (cI g) w (w.setRow g cs):=⟨rfl,rfl,rfl,by simp [World.setRow],fun b _ hn=>setRow_other w g b cs hn⟩
theorem bP(w:World)(g i:Nat)(u:Value):aD (cI g) w (w.setCell (g,i) u):=(aD.refl (cI g) w).setCell (p:=⟨g,i,none⟩) (.inl rfl) u
theorem tM{w w':World}{b:Option Nat}(hg:w.grownBy w' b):aD (fun k=>b=some k) w w':=
 ⟨hg.os,hg.tape,hg.output,hg.size,fun k hk hne=>hg.block k hk (fun e=>hne e.symm)⟩
theorem EO{P:Program}{w:World}{B:Nat}{t e:TypeId}{m bytes:Nat}{i0:TypeInfo}{zv:Value}(hu:P.underlying t=some (.slice e))(hi:P.info? e=some i0)(hz:i0.zero=some zv)(hs:i0.size=m)(hby:i0.bytes=bytes)
 (hzs:zv.cells.size=m) (hm:0<m) (hbb:bytes<=1000) {A:Option Addr} {n c:Nat} {rows:List (List Value)} (hown:cU w B e m A n c rows) {g:Nat} {ys:List Value} (hl:ys.length=m)
 (hv:∀j,j<m->w.cell? (g,j)=ys[j]?) (h1:∀u∈ys,u.oneCell'=true) (hn:n<=1000000000) (hB:B<=w) (ty:TypeId) (c':Nat):
 ∃g' cap w',(Builtin.append_ #[t,t] ty #[.slice A n c,.slice (some ⟨g,0,none⟩) 1 c']).run P w=.ok (.slice (some ⟨g',0,none⟩) (n+1) cap) w'/\cU w' B e m (some ⟨g',0,none⟩) (n+1) cap (rows++[ys])/\aD (iI A) w w'/\
  ((∃a,A=some a/\a.block=g')\/g'=w):=by
 obtain⟨g',cap,w',hr,ho,hg,hat,hlt⟩:=run_append_lies (P:=P) w t ty B e i0 zv m bytes hu hi hz hs hby hzs hm (.slice A n c) n _ hown.own ⟨g,0,none⟩ 1 c' ys I
  (by intro j u hj
      have Xf:j<m:=by have:=(List.getElem?_eq_some_iff.1 hj).1;omega
      have:=hv j Xf
      rw[hj]at this
      simpa [Addr.add_lit]using this) h1 aJ (by unfold maxLen;omega) (by
       have:(n+1)*bytes<=1000000001*1000:=Nat.mul_le_mul I hbb
       omega) hB _ rfl
 refine⟨g',cap,w',hr,⟨by rw[List.flatten_append];simpa using ho,by simp [hown.len],fun r hr=>?_⟩,(tM hg).mono fun b hb=>?_,?_⟩
 .rcases List.mem_append.1 hr with hr|hr
  .exact hown.each r hr
  simp at hr;rw[hr];exact hl
 .cases A with
  |none=>simp [Value.ownBlock]at hb
  |some a=>exact⟨a,rfl,by simpa [Value.ownBlock]using hb⟩
 rcases hat with h|h
 .left
  cases A with
  |none=>simp [Value.ownBlock]at h
  |some a=>exact⟨a,rfl,by simpa [Value.ownBlock]using h⟩
 exact .inr h
theorem vA{P:Program}{o:Oper}{a:Act}{w:World}(s x:Operand){B:Nat}{t e:TypeId}{m bytes:Nat}{i0:TypeInfo}{zv:Value}
 (ho:o.op=.call {callee:=.builtin .append,args:= #[s,x],argTypes:= #[t,t]}) (hu:P.underlying t=some (.slice e)) (hi:P.info? e=some i0) (hz:i0.zero=some zv) (hs:i0.size=m) (hby:i0.bytes=bytes)
 (hzs:zv.cells.size=m) (hm:0<m) (hbb:bytes<=1000) {A:Option Addr} {n c:Nat} {rows:List (List Value)} (hse:a.eval s=.slice A n c) (hown:cU w B e m A n c rows) {g c':Nat} (hx:a.eval x=.slice (some ⟨g,0,none⟩) 1 c') {ys:List Value} (hl:ys.length=m)
 (hv:∀j,j<m->w.cell? (g,j)=ys[j]?) (h1:∀u∈ys,u.oneCell'=true) (hn:n<=1000000000) (hB:B<=w):
 ∃g' cap w',(execOp a.eval o).run P w=.ok (.value (.slice (some ⟨g',0,none⟩) (n+1) cap)) w'/\cU w' B e m (some ⟨g',0,none⟩) (n+1) cap (rows++[ys])/\aD (iI A) w w'/\
  ((∃a,A=some a/\a.block=g')\/g'=w):=by
 obtain⟨g',cap,w',hr,h2⟩:=EO hu hi hz hs hby hzs hm hbb hown hl hv h1 hn hB o.type c'
 refine⟨g',cap,w',?_,h2⟩
 unfold execOp
 simp only[ho,resolve,invoke,builtin,Sem.run_bind,Sem.run_pure,Result.andThen_ok,List.map_toArray,List.map_cons,List.map_nil,hse,hx,hr]
theorem iM{P:Program}{o:Oper}{a:Act}{w:World}{T:Value->World->Prop}(s x:Operand){B:Nat}{t e:TypeId}{m bytes:Nat}{i0:TypeInfo}{zv:Value}
 (ho:o.op=.call {callee:=.builtin .append,args:= #[s,x],argTypes:= #[t,t]}) (hu:P.underlying t=some (.slice e)) (hi:P.info? e=some i0) (hz:i0.zero=some zv) (hs:i0.size=m) (hby:i0.bytes=bytes)
 (hzs:zv.cells.size=m) (hm:0<m) (hbb:bytes<=1000) {A:Option Addr} {n c:Nat} {rows:List (List Value)} (hse:a.eval s=.slice A n c) (hown:cU w B e m A n c rows) {g c':Nat} (hx:a.eval x=.slice (some ⟨g,0,none⟩) 1 c') {ys:List Value} (hl:ys.length=m)
 (hv:∀j,j<m->w.cell? (g,j)=ys[j]?) (h1:∀u∈ys,u.oneCell'=true) (hn:n<=1000000000) (hB:B<=w)
 (hK:∀g' cap w',cU w' B e m (some ⟨g',0,none⟩) (n+1) cap (rows++[ys])->aD (iI A) w w'->((∃a,A=some a/\a.block=g')\/g'=w)->T (.slice (some ⟨g',0,none⟩) (n+1) cap) w'):eQ P o a w T:=by
 obtain⟨g',cap,w',hr,h2,h3,h4⟩:=vA s x ho hu hi hz hs hby hzs hm hbb hse hown hx hl hv h1 hn hB
 exact yM hr (hK g' cap w' h2 h3 h4)
theorem qJ{P:Program}{ops:Array Oper}{Q:Exit->Act->World->Prop}{rest:List Oper}{o:Oper}{a:Act}{w:World}(s x:Operand){B:Nat}{t e:TypeId}{m bytes:Nat}{i0:TypeInfo}{zv:Value}
 (ho:o.op=.call {callee:=.builtin .append,args:= #[s,x],argTypes:= #[t,t]}) (hgd:o.guard=none) (hu:P.underlying t=some (.slice e)) (hi:P.info? e=some i0) (hz:i0.zero=some zv) (hs:i0.size=m) (hby:i0.bytes=bytes)
 (hzs:zv.cells.size=m) (hm:0<m) (hbb:bytes<=1000) {A:Option Addr} {n c:Nat} {rows:List (List Value)} (hse:a.eval s=.slice A n c) (hown:cU w B e m A n c rows) {g c':Nat} (hx:a.eval x=.slice (some ⟨g,0,none⟩) 1 c') {ys:List Value} (hl:ys.length=m)
 (hv:∀j,j<m->w.cell? (g,j)=ys[j]?) (h1:∀u∈ys,u.oneCell'=true) (hn:n<=1000000000) (hB:B<=w)
 (hK:∀g' cap w',cU w' B e m (some ⟨g',0,none⟩) (n+1) cap (rows++[ys])->aD (iI A) w w'->((∃a,A=some a/\a.block=g')\/g'=w)->wpList P ops Q rest (a.put o.dst (.slice (some ⟨g',0,none⟩) (n+1) cap)) w'):wpList P ops Q (o::rest) a w:=by
 obtain⟨g',cap,w',hr,h2,h3,h4⟩:=vA s x ho hu hi hz hs hby hzs hm hbb hse hown hx hl hv h1 hn hB
 refine wpList_step fun K Yx=>?_
 rw[iP (by unfold Region.wanted;rw[hgd])]
 unfold Oper.wp
 rw[hr]
 exact Yx _ _ (hK g' cap w' h2 h3 h4)
def cR(g:Nat):Value:=.pointer (some ⟨g,0,none⟩)
def Db(z:Nat->Int)(k:Nat):cN:=⟨fun i=>if 8<=i/\i<8+k then z (i-8)else 0,fun _=>0,fun _ _=>false,0,0⟩
def YX(z:Nat->Int)(k:Nat):cN:=⟨fun i=>if 8<=i/\i<40 then z (i-8)else 0,fun i=>if 8<=i/\i<8+8*k/\i<40 then z (i-8)else 0,fun _ _=>false,0,0⟩
theorem Dh(z:Nat->Int):Db z 0=cN.new:=by
 unfold Db cN.new
 congr 1
 funext i
 try dsimp only
 rw[iN I]
theorem Cq(z:Nat->Int)(k:Nat):(Db z k).save (8+k) (z k)=Db z (k+1):=by
 unfold Db cN.save
 congr 1
 funext i
 try dsimp only
 by_cases e:i=8+k
 .rw[iP e,iP I,show i-8=k by omega]
 rw[iN e]
 by_cases h:8<=i/\i<8+k
 .rw[iP h,iP I]
 rw[iN h,iN I]
end
end Go.Proofs.YtplpimkgihnmhaaGreatDoor
