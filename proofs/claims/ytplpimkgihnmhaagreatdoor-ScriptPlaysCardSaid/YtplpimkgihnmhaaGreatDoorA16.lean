/-
  Parts of a proof. For all values.
-/
import Derived.Test.YtplpimkgihnmhaaGreatDoorA04
set_option maxRecDepth 100000
set_option maxHeartbeats 400000
set_option linter.all false
namespace Go.Proofs.YtplpimkgihnmhaaGreatDoor
open Go.Proofs.Tryz Go.RowKit
variable{w w':World}{m i t l j k B x bytes a:Nat}{A:Option Addr}{rows:List (List Value)}{S:Nat->Prop}{P:Program}{zv:Value}{o:Oper}
section
def jM(n:Nat)(f:Nat->Value):Array Value:=((List.range n).map f).toArray
section
variable{n:Nat}{f g:Nat->Value}
theorem dJ:(jM n f).size=n:=by simp [jM]
theorem cW(h:i<n):(jM n f)[i]? =some (f i):=by simp [jM,h]
theorem UY(h:n<=i):(jM n f)[i]? =none:=by rw[Array.getElem?_eq_none];rw[dJ];exact h
theorem tP{C:Array Value}(Y:C.size=n)(h:∀i,i<n->C[i]? =some (f i)):C=jM n f:=by
 apply Array.ext_getElem?;intro i;by_cases Z:i<n
 .rw[h i Z,cW Z]
 rw[UY I,Array.getElem?_eq_none I]
theorem jJ(h:∀i,i<n->f i=g i):jM n f=jM n g:=tP dJ fun i Z=>by rw[cW Z,h i Z]
theorem dP{v:Value}(h:∀j,j<n->g j=if j=i then v else f j):(jM n f).setIfInBounds i v=jM n g:=by
 refine tP (by simp [dJ]) fun j Z=>?_
 rw[Array.getElem?_setIfInBounds,dJ,cW Z,h j Z];by_cases e:i=j
 .subst e;rw[iP rfl,iP Z,iP rfl]
 rw[iN e,iN (fun x=>e x.symm)]
theorem pS{o:Nat}(h:o+m<=n):(jM n f).extract o (o+m)=jM m (fun i=>f (o+i)):=by
 refine tP (by simp [dJ];omega) fun i Z=>?_
 rw[Array.getElem?_extract,iP (by rw[dJ];omega),cW I]
theorem qH(h:∀i,i<n->(f i).oneCell'=true):(jM n f).all (·.oneCell')=true:=by
 rw[Array.all_eq_true];intro i Z;rw[dJ]at Z;have e:=cW (f:=f) Z;rw[Array.getElem?_eq_getElem (by rw[dJ];exact Z)]at e;rw[Option.some.inj e];exact h i Z
theorem PD:(jM n f).toList=(List.range n).map f:=by simp [jM]
theorem TQ:(jM n f).toList.length=n:=by simp [jM]
theorem qS{o:Nat}{k:Nat->Value}(h:o+m<=n)(Y:∀j,j<n->g j=if o<=j/\j<o+m then k (j-o)else f j):fF (jM n f) o (jM m k).toList=jM n g:=by
 refine tP (by rw[fA,dJ]) fun j Z=>?_
 rw[iR _ _ _ _ (by rw[dJ];exact Z),TQ,Y j Z];by_cases e:o<=j/\j<o+m
 .rw[iP e,iP e,PD,List.getElem?_map,List.getElem?_range I];rfl
 rw[iN e,iN e,cW Z]
end
structure cN where
 now:Nat->Int
 good:Nat->Int
 want:Nat->Nat->Bool
 fl:Nat
 fe:Nat
namespace cN
def new:cN:=⟨fun _=>0,fun _=>0,fun _ _=>false,0,0⟩
def save(s:cN)(a:Nat)(v:Int):cN:={s with now:=fun i=>if i=a then v else s.now i}
def land(s:cN)(l:Nat):cN:={s with good:=fun i=>if i/8=l then s.now i else s.good i}
def flush(s:cN)(t l:Nat):cN:={s with want:=fun t' l'=>if t'=t/\l'=l then true else s.want t' l',fl:=s.fl+1}
def lands(s:cN)(t k:Nat):cN:={s with good:=fun i=>if i/8<k/\s.want t (i/8)=true then s.now i else s.good i}
def quiet(s:cN)(t:Nat):cN:={s with want:=fun t' l'=>if t'=t then false else s.want t' l'}
def fence(s:cN)(t:Nat):cN:={(s.lands t 9).quiet t with fe:=s.fe+1}
def fallK(s:cN)(x k:Nat):cN:={s with good:=fun i=>if i/8<k/\x/2^(i/8)%2=1 then s.now i else s.good i,now:=fun i=>if i/8<k/\¬x/2^(i/8)%2=1 then s.good i else s.now i}
def fallR(s:cN)(x k:Nat):cN:={s with good:=fun i=>if i/8<k/\x/2^(i/8)%2=1 then s.now i else s.good i}
def crash(s:cN)(x:Nat):cN:={now:=fun i=>if x/2^(i/8)%2=1 then s.now i else s.good i,good:=fun i=>if x/2^(i/8)%2=1 then s.now i else s.good i,want:=fun _ _=>false,fl:=s.fl,fe:=s.fe}
structure Ok (s:cN):Prop where
 now:∀i,i<72->0<=s.now i/\s.now i<18446744073709551616
 good:∀i,i<72->0<=s.good i/\s.good i<18446744073709551616
variable{s:cN}
theorem Ok.save(h:Ok s)(a:Nat){v:Int}(Y:0<=v/\v<18446744073709551616):Ok (s.save a v):=
 ⟨fun i Z=>by simp only[cN.save];split;exact Y;exact h.now i Z,h.good⟩
theorem Ok.land(h:Ok s)(l:Nat):Ok (s.land l):=⟨h.now,fun i Z=>by simp only[cN.land];split;exact h.now i Z;exact h.good i Z⟩
theorem Ok.flush(h:Ok s)(t l:Nat):Ok (s.flush t l):=⟨h.now,h.good⟩
theorem Ok.lands(h:Ok s)(t k:Nat):Ok (s.lands t k):=⟨h.now,fun i Z=>by simp only[cN.lands];split;exact h.now i Z;exact h.good i Z⟩
theorem Ok.fence(h:Ok s)(t:Nat):Ok (s.fence t):=⟨(h.lands t 9).now,(h.lands t 9).good⟩
theorem Ok.crash(h:Ok s)(x:Nat):Ok (s.crash x):=⟨fun i Z=>by simp only[cN.crash];split;exact h.now i Z;exact h.good i Z,fun i Z=>by simp only[cN.crash];split;exact h.now i Z;exact h.good i Z⟩
theorem lands0(t:Nat):s.lands t 0=s:=by simp [cN.lands]
theorem fallK0(x:Nat):s.fallK x 0=s:=by simp [cN.fallK]
theorem fallR0(x:Nat):s.fallR x 0=s:=by simp [cN.fallR]
end cN
def uZ(s:cN)(i:Nat):Value:=
 if i<72 then .int .u64 (s.now i)else if i<144 then .int .u64 (s.good (i-72))else if i<180 then .bool (s.want ((i-144)/9) ((i-144)%9))else if i=180 then .int .i64 (s.fl:Int)else .int .i64 (s.fe:Int)
def xZ(s:cN)(m:Nat)(i:Nat):Value:=
 if i<72 then .int .u64 (s.now i)else if i<144 then .int .u64 (s.good (i-72))else if i=144 then .map (some m)else if i=145 then .int .i64 (s.fl:Int)else .int .i64 (s.fe:Int)
def nI(s:cN):Array Value:=jM 182 (uZ s)
def kD(s:cN)(m:Nat):Array Value:=jM 147 (xZ s m)
theorem SR(s:cN):(nI s).size=182:=dJ
theorem sB(s:cN)(m:Nat):(kD s m).size=147:=dJ
theorem KT(s:cN)(h:i<72):(nI s)[i]? =some (.int .u64 (s.now i)):=by rw[nI,cW I,uZ,iP h]
theorem Dl(s:cN)(h:i<72):(nI s)[72+i]? =some (.int .u64 (s.good i)):=by
 rw[nI,cW I,uZ,iN I,iP I,Nat.add_sub_cancel_left]
theorem UO(s:cN)(X:t<4)(W:l<9):(nI s)[144+t*9+l]? =some (.bool (s.want t l)):=by
 rw[nI,cW I,uZ,iN I,iN I,iP I];have Z:(144+t*9+l-144)/9=t:=I;have Y:(144+t*9+l-144)%9=l:=I;rw[Z,Y]
theorem Ac(s:cN):(nI s)[180]? =some (.int .i64 (s.fl:Int)):=by rw[nI,cW I];rfl
theorem Ap(s:cN):(nI s)[181]? =some (.int .i64 (s.fe:Int)):=by rw[nI,cW I];rfl
theorem KU(s:cN)(m:Nat)(h:i<72):(kD s m)[i]? =some (.int .u64 (s.now i)):=by rw[kD,cW I,xZ,iP h]
theorem UL(s:cN)(m:Nat)(h:i<72):(kD s m)[72+i]? =some (.int .u64 (s.good i)):=by
 rw[kD,cW I,xZ,iN I,iP I,Nat.add_sub_cancel_left]
theorem BP(s:cN)(m:Nat):(kD s m)[144]? =some (.map (some m)):=by rw[kD,cW I];rfl
theorem Cd(s:cN)(m:Nat):(kD s m)[145]? =some (.int .i64 (s.fl:Int)):=by rw[kD,cW I];rfl
theorem Bu(s:cN)(m:Nat):(kD s m)[146]? =some (.int .i64 (s.fe:Int)):=by rw[kD,cW I];rfl
def sF(f:Nat->Int)(o:Nat):Array Value:=jM 8 (fun i=>.int .u64 (f (o+i)))
theorem xY(f:Nat->Int)(o:Nat):(sF f o).size=8:=dJ
theorem OK(f:Nat->Int)(o:Nat):(sF f o).all (·.oneCell')=true:=qH fun _ _=>rfl
theorem BM(s:cN)(h:l<9):(nI s).extract (l*8) (l*8+8)=sF s.now (l*8):=by
 rw[nI,pS I];exact jJ fun i Z=>by rw[uZ,iP I]
theorem VR(s:cN)(h:l<9):(nI s).extract (72+l*8) (72+l*8+8)=sF s.good (l*8):=by
 rw[nI,pS I];exact jJ fun i Z=>by rw[uZ,iN I,iP I];congr 2;omega
def xR(s:cN)(t:Nat):Array Value:=jM 9 (fun l=>.bool (s.want t l))
theorem PM(s:cN)(h:t<4):(nI s).extract (144+t*9) (144+t*9+9)=xR s t:=by
 rw[nI,pS I];exact jJ fun i X=>by
  rw[uZ,iN I,iN I,iP I];have Z:(144+t*9+i-144)/9=t:=I;have Y:(144+t*9+i-144)%9=i:=I;rw[Z,Y]
theorem Dg(s:cN)(h:j<72):uZ s j=.int .u64 (s.now j):=by rw[uZ,iP h]
theorem Ct(s:cN)(h:72<=j/\j<144):uZ s j=.int .u64 (s.good (j-72)):=by rw[uZ,iN I,iP h.2]
theorem XF(s:cN)(h:144<=j/\j<180):uZ s j=.bool (s.want ((j-144)/9) ((j-144)%9)):=by rw[uZ,iN I,iN I,iP h.2]
theorem Dw(s:cN)(h:j=180):uZ s j=.int .i64 (s.fl:Int):=by subst h;rfl
theorem Cp(s:cN)(h:180<j):uZ s j=.int .i64 (s.fe:Int):=by rw[uZ,iN I,iN I,iN I,iN I]
theorem GT{s t:cN}(W:j<72->s.now j=t.now j)(V:72<=j->j<144->s.good (j-72)=t.good (j-72))(U:144<=j->j<180->s.want ((j-144)/9) ((j-144)%9)=t.want ((j-144)/9) ((j-144)%9))
 (T:j=180->s.fl=t.fl) (S:180<j->s.fe=t.fe):uZ s j=uZ t j:=by
 by_cases c1:j<72
 .rw[Dg _ c1,Dg _ c1,W c1]
 by_cases Z:j<144
 .rw[Ct _ ⟨I,Z⟩,Ct _ ⟨I,Z⟩,V I Z]
 by_cases Y:j<180
 .rw[XF _ ⟨I,Y⟩,XF _ ⟨I,Y⟩,U I Y]
 by_cases X:j=180
 .rw[Dw _ X,Dw _ X,T X]
 rw[Cp _ I,Cp _ I,S I]
theorem DE(s:cN)(v:Int)(h:a<72):(nI s).setIfInBounds a [v]=nI (s.save a v):=by
 refine dP fun j Z=>?_
 by_cases e:j=a
 .subst e;rw[iP rfl,uZ,iP h];simp [cN.save]
 rw[iN e,uZ,uZ];simp [cN.save,e]
theorem NU(s:cN)(T:t<4)(S:l<9):((nI s).setIfInBounds (144+t*9+l) true).setIfInBounds 180 ((s.fl+1:Nat):Int)=nI (s.flush t l):=by
 have Z:(nI s).setIfInBounds (144+t*9+l) true=nI {s.flush t l with fl:=s.fl}:=dP fun j W=>by
  by_cases e:j=144+t*9+l
  .rw[iP e,XF _ I];have Y:(j-144)/9=t:=I;have X:(j-144)%9=l:=I;simp [cN.flush,Y,X]
  rw[iN e];refine GT (fun _=>rfl) (fun _ _=>rfl) (fun V U=>?_) (fun _=>rfl) (fun _=>rfl);have:¬((j-144)/9=t/\(j-144)%9=l):=I;simp only[cN.flush,this,if_false]
 rw[Z];exact dP fun j W=>by
  by_cases e:j=180
  .subst e;rfl
  rw[iN e];exact GT (fun _=>rfl) (fun _ _=>rfl) (fun V U=>rfl) (fun h=>absurd h e) (fun _=>rfl)
theorem QG(s:cN)(V:l<9):fF (nI s) (72+l*8) (sF s.now (l*8)).toList=nI (s.land l):=by
 refine qS I fun j W=>?_
 by_cases e:72+l*8<=j/\j<72+l*8+8
 .rw[iP e,uZ,iN I,iP I];have Y:(j-72)/8=l:=I;have X:l*8+(j-(72+l*8))=j-72:=I;simp [cN.land,Y,X]
 rw[iN e,uZ,uZ];by_cases Z:j<72
 .rw[iP Z,iP Z];rfl
 rw[iN Z,iN Z];by_cases c:j<144
 .rw[iP c,iP c];have:¬(j-72)/8=l:=I;simp [cN.land,this]
 rw[iN c,iN c];rfl
def cN.back(s:cN)(l:Nat):cN:={s with now:=fun i=>if i/8=l then s.good i else s.now i}
theorem Ox(s:cN)(V:l<9):fF (nI s) (l*8) (sF s.good (l*8)).toList=nI (s.back l):=by
 refine qS I fun j W=>?_
 by_cases e:l*8<=j/\j<l*8+8
 .rw[iP e,uZ,iP I];have Y:j/8=l:=I;have X:l*8+(j-l*8)=j:=I;simp [cN.back,Y,X]
 rw[iN e,uZ,uZ];by_cases Z:j<72
 .rw[iP Z,iP Z];have:¬j/8=l:=I;simp [cN.back,this]
 rw[iN Z,iN Z];rfl
def oV(n:Nat):Array Value:=jM n (fun _=>.bool false)
theorem GN(n:Nat):(oV n).all (·.oneCell')=true:=qH fun _ _=>rfl
theorem OM(s:cN)(V:t<4):fF (nI s) (144+t*9) (oV 9).toList=nI (s.quiet t):=by
 refine qS I fun j Y=>?_
 by_cases e:144+t*9<=j/\j<144+t*9+9
 .rw[iP e,XF _ I];have Z:(j-144)/9=t:=I;simp [cN.quiet,Z]
 rw[iN e];refine GT (fun _=>rfl) (fun _ _=>rfl) (fun X W=>?_) (fun _=>rfl) (fun _=>rfl);have:¬(j-144)/9=t:=I;simp only[cN.quiet,this,if_false]
def cN.none(s:cN):cN:={s with want:=fun _ _=>false}
theorem aBJ(s:cN):fF (nI s) 144 (oV 36).toList=nI s.none:=by
 refine qS I fun j Z=>?_
 by_cases e:144<=j/\j<144+36
 .rw[iP e,XF _ I];rfl
 rw[iN e];exact GT (fun _=>rfl) (fun _ _=>rfl) (fun Y X=>absurd (show 144<=j/\j<144+36 by omega) e) (fun _=>rfl) (fun _=>rfl)
theorem XC(s:cN)(k:Nat):(nI s).setIfInBounds 181 k=nI {s with fe:=k}:=dP fun j Z=>by
 by_cases e:j=181
 .subst e;rfl
 rw[iN e,uZ,uZ];by_cases c:j<180
 .simp [c]
 have:j=180:=I;subst this;rfl
theorem RL(s:cN)(m:Nat)(v:Int)(h:a<72):(kD s m).setIfInBounds a [v]=kD (s.save a v) m:=by
 refine dP fun j Z=>?_
 by_cases e:j=a
 .subst e;rw[iP rfl,xZ,iP h];simp [cN.save]
 rw[iN e,xZ,xZ];simp [cN.save,e]
theorem MB(s:cN)(m:Nat)(v:Int)(h:a<72):(kD s m).setIfInBounds (72+a) [v]=kD {s with good:=fun i=>if i=a then v else s.good i} m:=by
 refine dP fun j Y=>?_
 by_cases e:j=72+a
 .subst e;rw[iP rfl,xZ,iN I,iP I];simp
 rw[iN e,xZ,xZ];by_cases c:j<72
 .rw[iP c,iP c]
 rw[iN c,iN c];by_cases Z:j<144
 .rw[iP Z,iP Z];have:¬j-72=a:=I;simp [this]
 rw[iN Z,iN Z]
theorem WC(s:cN)(m k:Nat):(kD s m).setIfInBounds 145 k=kD {s with fl:=k} m:=dP fun j Z=>by
 by_cases e:j=145
 .subst e;rfl
 rw[iN e,xZ,xZ];simp [e]
theorem WZ(s:cN)(m k:Nat):(kD s m).setIfInBounds 146 k=kD {s with fe:=k} m:=dP fun j Y=>by
 by_cases e:j=146
 .subst e;rfl
 rw[iN e,xZ,xZ];by_cases c:j<145
 .by_cases c1:j<72
  .rw[iP c1,iP c1]
  rw[iN c1,iN c1];by_cases Z:j<144
  .rw[iP Z,iP Z]
  have:j=144:=I;subst this;rfl
 have:j=145:=I;subst this;rfl
theorem aAl(s:cN)(m Y:Nat):(kD s m).setIfInBounds 144 (.map (some Y))=kD s Y:=dP fun j X=>by
 by_cases e:j=144
 .subst e;rfl
 rw[iN e,xZ,xZ];by_cases c1:j<72
 .rw[iP c1,iP c1]
 rw[iN c1,iN c1];by_cases Z:j<144
 .rw[iP Z,iP Z]
 rw[iN Z,iN Z,iN e,iN e]
def jB(f:Nat->Int):Array Value:=jM 72 (fun i=>.int .u64 (f i))
theorem JG(f:Nat->Int):(jB f).all (·.oneCell')=true:=qH fun _ _=>rfl
theorem aCO(s:cN)(m:Nat):(kD s m).extract 72 (72+72)=jB s.good:=by
 rw[kD,pS I];exact jJ fun i Z=>by rw[xZ,iN I,iP I,Nat.add_sub_cancel_left]
theorem aAb(s:cN)(m:Nat)(f:Nat->Int):fF (kD s m) 0 (jB f).toList=kD {s with now:=f} m:=by
 refine qS I fun j Z=>?_
 by_cases e:0<=j/\j<0+72
 .rw[iP e,xZ,iP I];rfl
 rw[iN e,xZ,xZ];have c:¬j<72:=I;simp only[c,if_false]
namespace cN
variable(s:cN)
theorem lands_yes(h:s.want t k=true):(s.lands t k).land k=s.lands t (k+1):=by
 unfold cN.lands cN.land;congr 1
 funext i
 by_cases e:i/8=k
 .subst e;simp [h]
 by_cases Z:i/8<k
 .have:i/8<k+1:=I;simp [e,Z,this]
 have:¬i/8<k+1:=I;simp [e,Z,this]
theorem lands_no(h:s.want t k=false):s.lands t k=s.lands t (k+1):=by
 unfold cN.lands;congr 1
 funext i
 by_cases e:i/8=k
 .subst e;simp [h]
 by_cases Z:i/8<k
 .have:i/8<k+1:=I;simp [Z,this]
 have:¬i/8<k+1:=I;simp [Z,this]
theorem fallK_yes(h:x/2^k%2=1):((s.fallK x k).land k).back k=s.fallK x (k+1):=by
 unfold cN.fallK cN.land cN.back;congr 1
 iterate 2
  .funext i
   by_cases e:i/8=k
   .subst e;simp [h]
   by_cases Z:i/8<k
   .have:i/8<k+1:=I;simp [e,Z,this]
   have:¬i/8<k+1:=I;simp [e,Z,this]
theorem fallK_no(h:¬x/2^k%2=1):(s.fallK x k).back k=s.fallK x (k+1):=by
 unfold cN.fallK cN.back;congr 1
 .funext i
  by_cases e:i/8=k
  .subst e;simp [h]
  by_cases Z:i/8<k
  .have:i/8<k+1:=I;simp [e,Z,this]
  have:¬i/8<k+1:=I;simp [e,Z,this]
 funext i
 by_cases e:i/8=k
 .subst e;simp [h]
 by_cases Z:i/8<k
 .have:i/8<k+1:=I;simp [Z,this]
 have:¬i/8<k+1:=I;simp [Z,this]
theorem fallR_yes(h:x/2^k%2=1):(s.fallR x k).land k=s.fallR x (k+1):=by
 unfold cN.fallR cN.land;congr 1
 funext i
 by_cases e:i/8=k
 .subst e;simp [h]
 by_cases Z:i/8<k
 .have:i/8<k+1:=I;simp [e,Z,this]
 have:¬i/8<k+1:=I;simp [e,Z,this]
theorem fallR_no(h:¬x/2^k%2=1):s.fallR x k=s.fallR x (k+1):=by
 unfold cN.fallR;congr 1
 funext i
 by_cases e:i/8=k
 .subst e;simp [h]
 by_cases Z:i/8<k
 .have:i/8<k+1:=I;simp [Z,this]
 have:¬i/8<k+1:=I;simp [Z,this]
end cN
theorem aAZ(s:cN)(x:Nat):nI (s.fallK x 9).none=nI (s.crash x):=jJ fun j Z=>by
 refine GT (fun h=>?_) (fun Y X=>?_) (fun _ _=>rfl) (fun _=>rfl) (fun _=>rfl)
 .have:j/8<9:=I;by_cases b:x/2^(j/8)%2=1<;>simp [cN.none,cN.fallK,cN.crash,this,b]
 have:(j-72)/8<9:=I;by_cases b:x/2^((j-72)/8)%2=1<;>simp [cN.none,cN.fallK,cN.crash,this,b]
theorem aAN(s:cN)(x m:Nat):kD {s.fallR x 9 with now:=(s.fallR x 9).good} m=kD (s.crash x) m:=jJ fun j Y=>by
 rw[xZ,xZ];by_cases c1:j<72
 .rw[iP c1,iP c1];have:j/8<9:=I;by_cases b:x/2^(j/8)%2=1<;>simp [cN.fallR,cN.crash,this,b]
 rw[iN c1,iN c1];by_cases Z:j<144
 .rw[iP Z,iP Z];have:(j-72)/8<9:=I;by_cases b:x/2^((j-72)/8)%2=1<;>simp [cN.fallR,cN.crash,this,b]
 rw[iN Z,iN Z];rfl
def iI(A:Option Addr)(b:Nat):Prop:=∃a,A=some a/\a.block=b
structure FI (m:Nat) (w:World) (A:Option Addr) (n c:Nat) (rows:List (List Value)):Prop where
 len:rows.length=n
 each:∀r∈rows,r.length=m
 cap:n<=c
 cap63:c<=9223372036854775807
 at_:0<n->∃b off,A=some ⟨b,off,none⟩/\b<w/\∀(i:Nat) r,rows[i]? =some r->∀(j:Nat) v,r[j]? =some v->w.cell? (b,off+i*m+j)=v
theorem FI.kept{n c:Nat}(h:FI m w A n c rows)(X:aD S w w')(R:∀a,A=some a->¬S a.block):FI m w' A n c rows:=
 ⟨h.len,h.each,h.cap,h.cap63,fun W=>by
  obtain⟨b,Z,rfl,Y,V⟩:=h.at_ W;exact⟨b,Z,rfl,Nat.lt_of_lt_of_le Y X.size,fun i r U j v T=>(X.cell (p:=⟨b,Z+i*m+j,none⟩) Y (R ⟨b,Z,none⟩ rfl)).trans (V i r U j v T)⟩⟩
theorem FI.below{n c:Nat}(h:FI m w A n c rows)(Z:Below w w w'):FI m w' A n c rows:=
 h.kept (S:=bN) (aD.of_same Z) (fun _ _ h=>h)
theorem FI.slf{K:List IntKind}{n c:Nat}(h:FI K.length w A n c rows)(f:Nat->Nat->Int)(S:∀i,i<n->rows[i]? =some ((List.range K.length).map fun j=>.int (K.getD j .i64) (f i j)))
 (X:∀i j,i<n->j<K.length->(Lit.int (K.getD j .i64) (f i j)).wf=true):PQ K w A n c f:=
 ⟨h.cap,h.cap63,X,fun W=>by
  obtain⟨b,Z,rfl,Y,V⟩:=h.at_ W;exact⟨b,Z,rfl,Y,fun i j U T=>V i _ (S i U) j _ (by simp [T])⟩⟩
structure cU (w:World) (B:Nat) (e:TypeId) (m:Nat) (A:Option Addr) (n c:Nat) (rows:List (List Value)):Prop where
 own:w.ownsRow B e m (.slice A n c) n rows.flatten
 len:rows.length=n
 each:∀r∈rows,r.length=m
theorem fP{m:Nat}:∀{rows:List (List Value)},(∀r∈rows,r.length=m)->rows.flatten.length=rows.length*m
 |[],_=>by simp
 |r::l,h=>by
  have h1:=h r (by simp);have Z:=fP (rows:=l) (fun x Y=>h x (by simp [Y]));simp only[List.flatten_cons,List.length_append,List.length_cons,h1,Z,Nat.add_mul,Nat.one_mul];omega
theorem nH{m:Nat}:∀{rows:List (List Value)},(∀r∈rows,r.length=m)->∀{i:Nat} {r:List Value},rows[i]? =some r->∀{j:Nat},j<m->rows.flatten[i*m+j]? =r[j]?
 |[],_,_,_,hi,_,_=>by simp at hi
 |x::l,h,0,r,hi,j,hj=>by
  simp at hi;subst hi;have h1:=h x (by simp);rw[Nat.zero_mul,Nat.zero_add,List.flatten_cons,List.getElem?_append_left I]
 |x::l,h,i+1,r,hi,j,hj=>by
  have h1:=h x (by simp);have Z:=nH (rows:=l) (fun y Y=>h y (by simp [Y])) (i:=i) (r:=r) (by simpa using hi) hj;rw[List.flatten_cons,List.getElem?_append_right (by rw[h1,Nat.add_mul];omega),<-Z];congr 1;rw[h1,Nat.add_mul];omega
section
variable{w w':World}{B:Nat}{e:TypeId}{m:Nat}{A:Option Addr}{n c:Nat}{rows:List (List Value)}
theorem cU.nil(w:World)(B:Nat)(e:TypeId)(m:Nat):cU w B e m none 0 0 []:=⟨World.ownsRow_nil _ _ _ _,rfl,fun r Z=>by simp at Z⟩
theorem cU.kept(h:cU w B e m A n c rows)(P:aD S w w')(O:∀a,A=some a->¬S a.block):cU w' B e m A n c rows:=by
 refine⟨?_,h.len,h.each⟩;obtain⟨U,Y⟩:=h.own;refine⟨U,?_⟩;rcases Y with Y|⟨g,T,X,W,R,V,Q⟩
 .exact .inl Y
 simp only[Value.slice.injEq]at W;obtain⟨rfl,_,rfl⟩:=W;have Z:g<w:=(Array.getElem?_eq_some_iff.1 V).1;exact .inr ⟨g,c,X,rfl,R,(P.block g Z (O _ rfl)).trans V,Q⟩
theorem cU.below(h:cU w B e m A n c rows)(Z:Below w w w'):cU w' B e m A n c rows:=h.kept (S:=bN) (aD.of_same Z) (fun _ _ h=>h)
theorem cU.mono{B':Nat}(h:cU w B e m A n c rows)(S:B'<=B):cU w B' e m A n c rows:=⟨by
 obtain⟨W,Z⟩:=h.own;refine⟨W,?_⟩;rcases Z with Z|⟨g,Y,X,V,U,T⟩
 .exact .inl Z
 exact .inr ⟨g,Y,X,V,Nat.le_trans S U,T⟩,h.len,h.each⟩
theorem cU.lt(h:cU w B e m A n c rows):∀a,A=some a->B<=a.block/\a.block<w:=by
 rintro a rfl;obtain⟨_,Z⟩:=h.own;rcases Z with⟨Z,_⟩|⟨g,X,W,Y,V,U,T⟩
 .simp at Z
 simp only[Value.slice.injEq,Option.some.injEq]at Y;obtain⟨rfl,_,rfl⟩:=Y;exact⟨V,(Array.getElem?_eq_some_iff.1 U).1⟩
theorem cU.slr(h:cU w B e m A n c rows):FI m w A n c rows:=by
 have L:=fP h.each;obtain⟨K,Y⟩:=h.own;rcases Y with⟨Y,H⟩|⟨g,N,W,T,G,S,V,U,F,M⟩
 .simp only[Value.slice.injEq]at Y;obtain⟨rfl,_,rfl⟩:=Y;exact⟨h.len,h.each,I,I,fun R=>absurd R I⟩
 simp only[Value.slice.injEq]at T;obtain⟨rfl,_,rfl⟩:=T;refine⟨h.len,h.each,V,by unfold maxLen at U;omega,fun R=>⟨g,0,rfl,(Array.getElem?_eq_some_iff.1 S).1,fun i r Q j v P=>?_⟩⟩;have O:r∈rows:=List.mem_of_getElem? Q;have X:j<m:=by have:=(List.getElem?_eq_some_iff.1 P).1;rw[h.each r O]at this;exact this
 have Z:=nH h.each Q X;rw[P,<-M,List.getElem?_take]at Z;split at Z
 .rw[Nat.zero_add,cell_of_row w g (i*m+j) W e (0,0) S];simpa using Z
 cases Z
theorem cU.take(h:cU w B e m A n c rows)(k:Nat)(K:k<=n)(H:A≠none):cU w B e m A k c (rows.take k):=by
 have G:=fP h.each;obtain⟨F,Z⟩:=h.own;have Y:∀r∈rows.take k,r.length=m:=fun r R=>h.each r (List.mem_of_mem_take R)
 have X:(rows.take k).length=k:=by rw[List.length_take,h.len];omega
 refine⟨⟨by rw[fP Y,X],?_⟩,X,Y⟩;rcases Z with⟨Z,E⟩|⟨g,Q,W,U,P,O,N,V,M,L⟩
 .simp only[Value.slice.injEq]at Z;exact absurd Z.1 H
 simp only[Value.slice.injEq]at U;obtain⟨rfl,_,rfl⟩:=U;refine .inr ⟨g,c,W,rfl,P,O,I,V,M,?_⟩;have T:(rows.take k).flatten=rows.flatten.take (k*m):=by
  have S:rows.flatten=(rows.take k).flatten++(rows.drop k).flatten:=by rw[<-List.flatten_append,List.take_append_drop]
  rw[S,List.take_left' (by rw[fP Y,X])]
 rw[T,<-L,List.take_take];congr 1;have:k*m<=n*m:=Nat.mul_le_mul_right m K;omega
end
theorem cU.high{e:TypeId}{n c:Nat}(h:cU w B e m A n c rows){b:Nat}(Y:iI A b):B<=b:=by
 obtain⟨a,Z,rfl⟩:=Y;exact(h.lt a Z).1
theorem cA{c:Bool}(h:aD (fun b=>c=false/\S b) w w')(Y:c=true):Below w w w':=(h.mono (S':=bN) fun b Z=>by rw[Y]at Z;cases Z.1).same
theorem Aq{c:Bool}(h:aD (fun b=>c=false/\S b) w w')(Y:c=true):aD bN w w':=h.mono (S':=bN) fun b Z=>by rw[Y]at Z;cases Z.1
def cI(g b:Nat):Prop:=b=g
theorem jD(w:World)(g:Nat)(cs:Array Value):aD (cI g) w (w.setRow g cs):=⟨rfl,rfl,rfl,by simp [World.setRow],fun b _ Z=>setRow_other w g b cs Z⟩
theorem bP(w:World)(g i:Nat)(u:Value):aD (cI g) w (w.setCell (g,i) u):=(aD.refl (cI g) w).setCell (p:=⟨g,i,none⟩) (.inl rfl) u
theorem tM{b:Option Nat}(Z:w.grownBy w' b):aD (fun k=>b=some k) w w':=
 ⟨Z.os,Z.tape,Z.output,Z.size,fun k X Y=>Z.block k X (fun e=>Y e.symm)⟩
theorem EO{t e:TypeId}{W:TypeInfo}(K:P.underlying t=some (.slice e))(H:P.info? e=some W)(G:W.zero=some zv)(F:W.size=m)(T:W.bytes=bytes)
 (S:zv.cells.size=m) (E:0<m) (R:bytes<=1000) {A:Option Addr} {n c:Nat} {rows:List (List Value)} (Z:cU w B e m A n c rows) {g:Nat} {ys:List Value} (D:ys.length=m)
 (C:∀j,j<m->w.cell? (g,j)=ys[j]?) (z:∀u∈ys,u.oneCell'=true) (x:n<=1000000000) (y:B<=w) (ty:TypeId) (c':Nat):
 ∃X Y w',(Builtin.append_ #[t,t] ty #[.slice A n c,.slice (some ⟨g,0,none⟩) 1 c']).run P w=.ok (.slice (some ⟨X,0,none⟩) (n+1) Y) w'/\cU w' B e m (some ⟨X,0,none⟩) (n+1) Y (rows++[ys])/\aD (iI A) w w'/\
  ((∃a,A=some a/\a.block=X)\/X=w):=by
 obtain⟨X,Y,w',hr,N,M,U,L⟩:=run_append_lies (P:=P) w t ty B e W zv m bytes K H G F T S E (.slice A n c) n _ Z.own ⟨g,0,none⟩ 1 c' ys I
  (by intro j u Q
      have V:j<m:=by have:=(List.getElem?_eq_some_iff.1 Q).1;omega
      have:=C j V;rw[Q]at this;simpa [Addr.add_lit]using this) z aJ (by unfold maxLen;omega) (by
       have:(n+1)*bytes<=1000000001*1000:=Nat.mul_le_mul I R;omega) y _ rfl
 refine⟨X,Y,w',hr,⟨by rw[List.flatten_append];simpa using N,by simp [Z.len],fun r hr=>?_⟩,(tM M).mono fun b O=>?_,?_⟩
 .rcases List.mem_append.1 hr with hr|hr
  .exact Z.each r hr
  simp at hr;rw[hr];exact D
 .cases A with
  |none=>simp [Value.ownBlock]at O
  |some a=>exact⟨a,rfl,by simpa [Value.ownBlock]using O⟩
 rcases U with h|h
 .left;cases A with
  |none=>simp [Value.ownBlock]at h
  |some a=>exact⟨a,rfl,by simpa [Value.ownBlock]using h⟩
 exact .inr h
theorem vA{a:Act}(s x:Operand){t e:TypeId}{W:TypeInfo}
 (O:o.op=.call {callee:=.builtin .append,args:= #[s,x],argTypes:= #[t,t]}) (N:P.underlying t=some (.slice e)) (M:P.info? e=some W) (L:W.zero=some zv) (K:W.size=m) (V:W.bytes=bytes)
 (U:zv.cells.size=m) (H:0<m) (T:bytes<=1000) {A:Option Addr} {n c:Nat} {rows:List (List Value)} (S:a.eval s=.slice A n c) (X:cU w B e m A n c rows) {g c':Nat} (G:a.eval x=.slice (some ⟨g,0,none⟩) 1 c') {ys:List Value} (F:ys.length=m)
 (E:∀j,j<m->w.cell? (g,j)=ys[j]?) (D:∀u∈ys,u.oneCell'=true) (C:n<=1000000000) (z:B<=w):
 ∃Y Z w',(execOp a.eval o).run P w=.ok (.value (.slice (some ⟨Y,0,none⟩) (n+1) Z)) w'/\cU w' B e m (some ⟨Y,0,none⟩) (n+1) Z (rows++[ys])/\aD (iI A) w w'/\
  ((∃a,A=some a/\a.block=Y)\/Y=w):=by
 obtain⟨Y,Z,w',R,Q⟩:=EO N M L K V U H T X F E D C z o.type c';refine⟨Y,Z,w',?_,Q⟩;unfold execOp;simp only[O,resolve,invoke,builtin,Sem.run_bind,Sem.run_pure,Result.andThen_ok,List.map_toArray,List.map_cons,List.map_nil,S,G,R]
theorem iM{a:Act}{T:Value->World->Prop}(s x:Operand){t e:TypeId}{W:TypeInfo}
 (L:o.op=.call {callee:=.builtin .append,args:= #[s,x],argTypes:= #[t,t]}) (K:P.underlying t=some (.slice e)) (H:P.info? e=some W) (G:W.zero=some zv) (F:W.size=m) (V:W.bytes=bytes)
 (U:zv.cells.size=m) (E:0<m) (S:bytes<=1000) {A:Option Addr} {n c:Nat} {rows:List (List Value)} (R:a.eval s=.slice A n c) (X:cU w B e m A n c rows) {g c':Nat} (D:a.eval x=.slice (some ⟨g,0,none⟩) 1 c') {ys:List Value} (C:ys.length=m)
 (z:∀j,j<m->w.cell? (g,j)=ys[j]?) (y:∀u∈ys,u.oneCell'=true) (v:n<=1000000000) (r:B<=w)
 (q:∀Y Z w',cU w' B e m (some ⟨Y,0,none⟩) (n+1) Z (rows++[ys])->aD (iI A) w w'->((∃a,A=some a/\a.block=Y)\/Y=w)->T (.slice (some ⟨Y,0,none⟩) (n+1) Z) w'):eQ P o a w T:=by
 obtain⟨Y,Z,w',Q,O,N,M⟩:=vA s x L K H G F V U E S R X D C z y v r;exact yM Q (q Y Z w' O N M)
theorem qJ{ops:Array Oper}{Q:Exit->Act->World->Prop}{Y:List Oper}{a:Act}(s x:Operand){t e:TypeId}{V:TypeInfo}
 (F:o.op=.call {callee:=.builtin .append,args:= #[s,x],argTypes:= #[t,t]}) (T:o.guard=none) (E:P.underlying t=some (.slice e)) (D:P.info? e=some V) (C:V.zero=some zv) (z:V.size=m) (S:V.bytes=bytes)
 (R:zv.cells.size=m) (y:0<m) (O:bytes<=1000) {A:Option Addr} {n c:Nat} {rows:List (List Value)} (N:a.eval s=.slice A n c) (W:cU w B e m A n c rows) {g c':Nat} (v:a.eval x=.slice (some ⟨g,0,none⟩) 1 c') {ys:List Value} (r:ys.length=m)
 (q:∀j,j<m->w.cell? (g,j)=ys[j]?) (p:∀u∈ys,u.oneCell'=true) (l:n<=1000000000) (k:B<=w)
 (i:∀X Z w',cU w' B e m (some ⟨X,0,none⟩) (n+1) Z (rows++[ys])->aD (iI A) w w'->((∃a,A=some a/\a.block=X)\/X=w)->wpList P ops Q Y (a.put o.dst (.slice (some ⟨X,0,none⟩) (n+1) Z)) w'):wpList P ops Q (o::Y) a w:=by
 obtain⟨X,Z,w',M,L,H,G⟩:=vA s x F E D C z S R y O N W v r q p l k;refine wpList_step fun K U=>?_
 rw[iP (by unfold Region.wanted;rw[T])];unfold Oper.wp;rw[M];exact U _ _ (i X Z w' L H G)
def cR(g:Nat):Value:=.pointer (some ⟨g,0,none⟩)
def shV(gm gs:Nat)(pw:Nat->Value)(tg:Nat->Int)(st:Int)(H D:Value)(i:Nat):Value:=
 if i=0 then cR gm else if i=1 then cR gs else if i<6 then pw (i-2)else if i<10 then .int .i64 (tg (i-6))else if i=10 then .int .i64 st else if i=11 then H else D
def uL(gm gs:Nat)(pw:Nat->Value)(tg:Nat->Int)(st:Int)(H D:Value):Array Value:=jM 13 (shV gm gs pw tg st H D)
theorem aAe(Z Y:Nat):uL Z Y (fun _=>.pointer none) (fun _=>0) 0 (.slice none 0 0) (.slice none 0 0)=
 #[.pointer (some ⟨Z,0,none⟩),.pointer (some ⟨Y,0,none⟩),.pointer none,.pointer none,.pointer none,.pointer none,.int .i64 0,.int .i64 0,.int .i64 0,.int .i64 0,.int .i64 0,.slice none 0 0,.slice none 0 0]:=rfl
theorem aAQ(W V:Nat)(U:Nat->Value)(T:Nat->Int)(S:Int)(H D:Value)(Q:t<4)(v:Value):(uL W V U T S H D).setIfInBounds (2+t) v=uL W V (fun i=>if i=t then v else U i) T S H D:=
 dP fun j R=>by
  unfold shV;by_cases e:j=2+t
  .subst e;rw[iP rfl,iN I,iN I,iP I];dsimp only;rw[iP I]
  rw[iN e];by_cases Z:j=0
  .rw[iP Z,iP Z]
  rw[iN Z,iN Z];by_cases Y:j=1
  .rw[iP Y,iP Y]
  rw[iN Y,iN Y];by_cases X:j<6
  .rw[iP X,iP X];dsimp only;rw[iN I]
  rw[iN X,iN X]
def Db(z:Nat->Int)(k:Nat):cN:=⟨fun i=>if 8<=i/\i<8+k then z (i-8)else 0,fun _=>0,fun _ _=>false,0,0⟩
def YX(z:Nat->Int)(k:Nat):cN:=⟨fun i=>if 8<=i/\i<40 then z (i-8)else 0,fun i=>if 8<=i/\i<8+8*k/\i<40 then z (i-8)else 0,fun _ _=>false,0,0⟩
theorem Dh(z:Nat->Int):Db z 0=cN.new:=by
 unfold Db cN.new;congr 1
 funext i
 try dsimp only
 rw[iN I]
theorem Cq(z:Nat->Int)(k:Nat):(Db z k).save (8+k) (z k)=Db z (k+1):=by
 unfold Db cN.save;congr 1
 funext i
 try dsimp only
 by_cases e:i=8+k
 .rw[iP e,iP I,show i-8=k by omega]
 rw[iN e];by_cases h:8<=i/\i<8+k
 .rw[iP h,iP I]
 rw[iN h,iN I]
theorem aBR(z:Nat->Int):YX z 0=Db z 32:=by
 unfold YX Db;congr 1
 funext i
 try dsimp only
 rw[iN I]
theorem aBG(z:Nat->Int)(k:Nat)(Z:k<4):(YX z k).land (1+k)=YX z (k+1):=by
 unfold YX cN.land;congr 1
 funext i
 try dsimp only
 by_cases e:i/8=1+k
 .rw[iP e,iP I,iP I]
 rw[iN e];by_cases h:8<=i/\i<8+8*k/\i<40
 .rw[iP h,iP I]
 rw[iN h,iN I]
