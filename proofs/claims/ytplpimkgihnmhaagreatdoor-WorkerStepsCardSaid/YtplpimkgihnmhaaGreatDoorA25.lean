/-
  Part of a proof: ShY ShK ShB ShD ShDo. For all values.
-/
import Derived.Test.YtplpimkgihnmhaaGreatDoorA22
import Derived.Test.YtplpimkgihnmhaaGreatDoorA23
import Derived.Test.YtplpimkgihnmhaaGreatDoorA24
set_option maxRecDepth 100000
set_option maxHeartbeats 400000
set_option linter.all false
namespace Go.Proofs.YtplpimkgihnmhaaGreatDoor
open Go.Proofs.Tryz Go.RowKit
section
def fv(N:Nat)(caps:Array Value):Value:=.func (.func N) #[] caps
def td(k:Nat)(f:Value):List Value:=[.int .i64 (k:Int),f]
def vN(t:Nat)(θ:cQ)(last:Int)(R D:Value)(ended:Bool):Array Value:=
 #[t,R,θ.a,θ.k,θ.v,θ.tg,last,θ.said,θ.o1,θ.o2,θ.wn,D,ended]
def As(gs:Nat)(m:Nat->Int)(pt:Nat->Nat)(st:Int)(E O:Value)(i:Nat):Value:=
 if i=0 then cR gs else if i<17 then .int .u64 (m (i-1))else if i<21 then cR (pt (i-17))else if i=21 then .int .i64 st else if i=22 then E else O
def yJ(gs:Nat)(m:Nat->Int)(pt:Nat->Nat)(st:Int)(E O:Value):Array Value:=jM 24 (As gs m pt st E O)
section
variable(gs:Nat)(m:Nat->Int)(pt:Nat->Nat)(st:Int)(E O:Value)
theorem Dq:(yJ gs m pt st E O)[0]? =some (cR gs):=by rw[yJ,cW I];rfl
theorem YN{i:Nat}(h:i<16):(yJ gs m pt st E O)[1+i]? =some (.int .u64 (m i)):=by
 rw[yJ,cW I,As,iN I,iP I,show 1+i-1=i by omega]
theorem BN{t:Nat}(h:t<4):(yJ gs m pt st E O)[17+t]? =some (cR (pt t)):=by
 rw[yJ,cW I,As,iN I,iN I,iP I,show 17+t-17=t by omega]
theorem xD:(yJ gs m pt st E O)[21]? =some (.int .i64 st):=by rw[yJ,cW I];rfl
theorem QW:(yJ gs m pt st E O)[22]? =some E:=by rw[yJ,cW I];rfl
theorem Bl:(yJ gs m pt st E O)[23]? =some O:=by rw[yJ,cW I];rfl
theorem IC{k:Nat}(hk:k<16)(x:Int):(yJ gs m pt st E O).setIfInBounds (1+k) [x]=yJ gs (eI m k x) pt st E O:=dP fun j hj=>by
 unfold As eI
 by_cases e:j=1+k
 .subst e
  rw[iP rfl,iN I,iP I,iP I]
 rw[iN e]
 by_cases h0:j=0
 .rw[iP h0,iP h0]
 rw[iN h0,iN h0]
 by_cases h17:j<17
 .rw[iP h17,iP h17,iN I]
 rw[iN h17,iN h17]
theorem LW(x:Int):(yJ gs m pt st E O).setIfInBounds 21 x=yJ gs m pt x E O:=dP fun j hj=>by
 by_cases e:j=21
 .subst e;rfl
 rw[iN e];unfold As;simp only[e,if_false]
theorem ND(x:Value):(yJ gs m pt st E O).setIfInBounds 22 x=yJ gs m pt st x O:=dP fun j hj=>by
 by_cases e:j=22
 .subst e;rfl
 rw[iN e];unfold As;simp only[e,if_false]
end
structure mG where
 p:Nat
 q:Nat
 v:Nat
 l:Nat
 w:Nat
 g:Nat
 a:Nat
 n:Nat
def mG.W(e:mG):Value:=.slice (some ⟨e.w,0,none⟩) 32 32
inductive Cl where
 |says1|says2|lock|which|copy (i:Nat)|asks (i:Nat)|fetch (i:Nat) (g:Int)|write (V i:Nat)|wish (V i:Nat)|firm|index (V:Nat)|wish2|firm2|tell (V:Nat)|unlock|reply|look1|look2|look3|look4|look5
def RO(w:World)(tag:Nat->Nat)(b:Nat)(ty:TypeId)(v:Value):Prop:=tag b=106/\aY w b ty #[v]
section
variable(w:World)(tag:Nat->Nat)(e:mG)
def yK(b:Nat):Prop:=RO w tag b 47 (cR e.p)
def FH(b:Nat):Prop:=RO w tag b 63 (cR e.q)
def Eh(b i:Nat):Prop:=RO w tag b 3 i
def Ch(b:Nat)(x:Int):Prop:=RO w tag b 23 [x]
def Dp(b:Nat):Prop:=RO w tag b 91 e.W
def Fu(b:Nat):Prop:=RO w tag b 248 (cR e.l)
def Fx(b:Nat):Prop:=RO w tag b 249 (cR e.v)
def Cl.At:Cl->List Value->Prop
 |.says1,r=>∃bq bp,r=td 1 (fv 115 #[cR bq,cR bp])/\FH w tag e bq/\yK w tag e bp
 |.says2,r=>∃bq bp,r=td 2 (fv 117 #[cR bq,cR bp])/\FH w tag e bq/\yK w tag e bp
 |.lock,r=>∃bp bq,r=td 3 (fv 126 #[cR bp,cR bq])/\yK w tag e bp/\FH w tag e bq
 |.which,r=>∃bp,r=td 4 (fv 137 #[cR bp,cR e.v])/\yK w tag e bp
 |.copy i,r=>∃bp bi bw bq,r=td 5 (fv 138 #[cR bp,cR e.v,cR bi,cR bw,cR bq,cR e.l])/\yK w tag e bp/\Eh w tag bi i/\Dp w tag e bw/\FH w tag e bq
 |.asks i,r=>∃bp bi bw bq bl bv,r=td 6 (fv 152 #[cR bp,cR bi,cR bw,cR bq,cR bl,cR bv])/\yK w tag e bp/\Eh w tag bi i/\Dp w tag e bw/\FH w tag e bq/\Fu w tag e bl/\Fx w tag e bv
 |.fetch i g,r=>∃bp bi bl bg bq bw bv,r=td 7 (fv 153 #[cR bp,cR bi,cR bl,cR bg,cR bq,cR bw,cR bv])/\yK w tag e bp/\Eh w tag bi i/\Fu w tag e bl/\Ch w tag bg g/\FH w tag e bq/\Dp w tag e bw/\Fx w tag e bv
 |.write V i,r=>∃bw bi bp bv,r=td 8 (fv 171 #[cR bw,cR bi,cR bp,cR bv])/\Dp w tag e bw/\Eh w tag bi i/\yK w tag e bp/\Ch w tag bv V
 |.wish V i,r=>∃bp bq bv bi,r=td 9 (fv 172 #[cR bp,cR bq,cR bv,cR bi])/\yK w tag e bp/\FH w tag e bq/\Ch w tag bv V/\Eh w tag bi i
 |.firm,r=>∃bp bq,r=td 10 (fv 174 #[cR bp,cR bq])/\yK w tag e bp/\FH w tag e bq
 |.index V,r=>∃bv bp bq,r=td 11 (fv 176 #[cR bv,cR bp,cR bq])/\Ch w tag bv V/\yK w tag e bp/\FH w tag e bq
 |.wish2,r=>∃bp bq,r=td 12 (fv 177 #[cR bp,cR bq])/\yK w tag e bp/\FH w tag e bq
 |.firm2,r=>∃bp bq,r=td 13 (fv 178 #[cR bp,cR bq])/\yK w tag e bp/\FH w tag e bq
 |.tell V,r=>∃bv bp,r=td 14 (fv 179 #[cR bv,cR bp])/\Ch w tag bv V/\yK w tag e bp
 |.unlock,r=>∃bp,r=td 15 (fv 180 #[cR bp])/\yK w tag e bp
 |.reply,r=>∃bq,r=td 16 (fv 181 #[cR bq])/\FH w tag e bq
 |.look1,r=>∃bp,r=td 17 (fv 108 #[cR bp,cR e.v])/\yK w tag e bp
 |.look2,r=>∃bp,r=td 18 (fv 109 #[cR bp,cR e.v,cR e.g])/\yK w tag e bp
 |.look3,r=>∃bp bq,r=td 19 (fv 110 #[cR bp,cR e.v,cR bq,cR e.a])/\yK w tag e bp/\FH w tag e bq
 |.look4,r=>∃bp bq,r=td 20 (fv 111 #[cR bp,cR e.v,cR bq,cR e.n])/\yK w tag e bp/\FH w tag e bq
 |.look5,r=>∃bp bq,r=td 21 (fv 112 #[cR bp,cR e.v,cR e.g,cR bq,cR e.a,cR e.n])/\yK w tag e bp/\FH w tag e bq
end
def Cl.step:Cl->Nat
 |.says1=>1|.says2=>2|.lock=>3|.which=>4|.copy _=>5|.asks _=>6|.fetch _ _=>7|.write _ _=>8|.wish _ _=>9|.firm=>10|.index _=>11|.wish2=>12|.firm2=>13|.tell _=>14|.unlock=>15|.reply=>16|.look1=>17|.look2=>18|.look3=>19|.look4=>20|.look5=>21
theorem Cl.At.name{w:World}{tag:Nat->Nat}{e:mG}{c:Cl}{r:List Value}(h:c.At w tag e r):∃f caps,r=td c.step (fv f caps):=by
 cases c<;>unfold Cl.At at h
 case says1=>obtain⟨a,b,h,_⟩:=h;exact⟨_,_,h⟩
 case says2=>obtain⟨a,b,h,_⟩:=h;exact⟨_,_,h⟩
 case lock=>obtain⟨a,b,h,_⟩:=h;exact⟨_,_,h⟩
 case which=>obtain⟨a,h,_⟩:=h;exact⟨_,_,h⟩
 case copy=>obtain⟨a,b,c,d,h,_⟩:=h;exact⟨_,_,h⟩
 case asks=>obtain⟨a,b,c,d,x,y,h,_⟩:=h;exact⟨_,_,h⟩
 case fetch=>obtain⟨a,b,c,d,x,y,z,h,_⟩:=h;exact⟨_,_,h⟩
 case write=>obtain⟨a,b,c,d,h,_⟩:=h;exact⟨_,_,h⟩
 case wish=>obtain⟨a,b,c,d,h,_⟩:=h;exact⟨_,_,h⟩
 case firm=>obtain⟨a,b,h,_⟩:=h;exact⟨_,_,h⟩
 case index=>obtain⟨a,b,c,h,_⟩:=h;exact⟨_,_,h⟩
 case wish2=>obtain⟨a,b,h,_⟩:=h;exact⟨_,_,h⟩
 case firm2=>obtain⟨a,b,h,_⟩:=h;exact⟨_,_,h⟩
 case tell=>obtain⟨a,b,h,_⟩:=h;exact⟨_,_,h⟩
 case unlock=>obtain⟨a,h,_⟩:=h;exact⟨_,_,h⟩
 case reply=>obtain⟨a,h,_⟩:=h;exact⟨_,_,h⟩
 case look1=>obtain⟨a,h,_⟩:=h;exact⟨_,_,h⟩
 case look2=>obtain⟨a,h,_⟩:=h;exact⟨_,_,h⟩
 case look3=>obtain⟨a,b,h,_⟩:=h;exact⟨_,_,h⟩
 case look4=>obtain⟨a,b,h,_⟩:=h;exact⟨_,_,h⟩
 case look5=>obtain⟨a,b,h,_⟩:=h;exact⟨_,_,h⟩
section
variable{w w':World}{tag tag':Nat->Nat}{S:Nat->Prop}{e:mG}
theorem RO.kept{b:Nat}{ty:TypeId}{v:Value}(h:RO w tag b ty v)(hk:aD S w w')(ht:bI w tag tag')(hS:∀b,S b->tag b≠106):RO w' tag' b ty v:=
 ⟨(ht b h.2.lt).trans h.1,(hk.block b h.2.lt fun x=>hS b x h.1).trans h.2⟩
theorem RO.cell{b:Nat}{ty:TypeId}{v:Value}(h:RO w tag b ty v):w.cell? (b,0)=v:=by rw[h.2.cell];rfl
theorem Cl.At.kept{c:Cl}{r:List Value}(h:c.At w tag e r)(hk:aD S w w')(ht:bI w tag tag')(hS:∀b,S b->tag b≠106):c.At w' tag' e r:=by
 have K:∀{b ty v},RO w tag b ty v->RO w' tag' b ty v:=fun h=>h.kept hk ht hS
 cases c<;>unfold Cl.At at h⊢
 case says1=>obtain⟨a,b,h,h1,h2⟩:=h;exact⟨a,b,h,K h1,K h2⟩
 case says2=>obtain⟨a,b,h,h1,h2⟩:=h;exact⟨a,b,h,K h1,K h2⟩
 case lock=>obtain⟨a,b,h,h1,h2⟩:=h;exact⟨a,b,h,K h1,K h2⟩
 case which=>obtain⟨a,h,h1⟩:=h;exact⟨a,h,K h1⟩
 case copy=>obtain⟨a,b,c,d,h,h1,h2,h3,h4⟩:=h;exact⟨a,b,c,d,h,K h1,K h2,K h3,K h4⟩
 case asks=>obtain⟨a,b,c,d,x,y,h,h1,h2,h3,h4,h5,h6⟩:=h;exact⟨a,b,c,d,x,y,h,K h1,K h2,K h3,K h4,K h5,K h6⟩
 case fetch=>obtain⟨a,b,c,d,x,y,z,h,h1,h2,h3,h4,h5,h6,h7⟩:=h;exact⟨a,b,c,d,x,y,z,h,K h1,K h2,K h3,K h4,K h5,K h6,K h7⟩
 case write=>obtain⟨a,b,c,d,h,h1,h2,h3,h4⟩:=h;exact⟨a,b,c,d,h,K h1,K h2,K h3,K h4⟩
 case wish=>obtain⟨a,b,c,d,h,h1,h2,h3,h4⟩:=h;exact⟨a,b,c,d,h,K h1,K h2,K h3,K h4⟩
 case firm=>obtain⟨a,b,h,h1,h2⟩:=h;exact⟨a,b,h,K h1,K h2⟩
 case index=>obtain⟨a,b,c,h,h1,h2,h3⟩:=h;exact⟨a,b,c,h,K h1,K h2,K h3⟩
 case wish2=>obtain⟨a,b,h,h1,h2⟩:=h;exact⟨a,b,h,K h1,K h2⟩
 case firm2=>obtain⟨a,b,h,h1,h2⟩:=h;exact⟨a,b,h,K h1,K h2⟩
 case tell=>obtain⟨a,b,h,h1,h2⟩:=h;exact⟨a,b,h,K h1,K h2⟩
 case unlock=>obtain⟨a,h,h1⟩:=h;exact⟨a,h,K h1⟩
 case reply=>obtain⟨a,h,h1⟩:=h;exact⟨a,h,K h1⟩
 case look1=>obtain⟨a,h,h1⟩:=h;exact⟨a,h,K h1⟩
 case look2=>obtain⟨a,h,h1⟩:=h;exact⟨a,h,K h1⟩
 case look3=>obtain⟨a,b,h,h1,h2⟩:=h;exact⟨a,b,h,K h1,K h2⟩
 case look4=>obtain⟨a,b,h,h1,h2⟩:=h;exact⟨a,b,h,K h1,K h2⟩
 case look5=>obtain⟨a,b,h,h1,h2⟩:=h;exact⟨a,b,h,K h1,K h2⟩
end
def dD(w:World)(tag:Nat->Nat)(e:mG):List Cl->List (List Value)->Prop
 |[],[]=>True
 |c::cs,r::rs=>c.At w tag e r/\dD w tag e cs rs
 |_,_=>False
theorem dD.kept{w w':World}{tag tag':Nat->Nat}{S:Nat->Prop}{e:mG}:∀{cs:List Cl} {rs:List (List Value)},dD w tag e cs rs->aD S w w'->bI w tag tag'->(∀b,S b->tag b≠106)->dD w' tag' e cs rs
 |[],[],_,_,_,_=>trivial
 |_::_,_::_,h,hk,ht,hS=>⟨h.1.kept hk ht hS,dD.kept h.2 hk ht hS⟩
theorem dD.add{w:World}{tag:Nat->Nat}{e:mG}{c:Cl}{r:List Value}(h2:c.At w tag e r):∀{cs:List Cl} {rs:List (List Value)},dD w tag e cs rs->dD w tag e (cs++[c]) (rs++[r])
 |[],[],_=>⟨h2,trivial⟩
 |_::_,_::_,h=>⟨h.1,dD.add h2 h.2⟩
theorem dD.len{w:World}{tag:Nat->Nat}{e:mG}:∀{cs:List Cl} {rs:List (List Value)},dD w tag e cs rs->rs.length=cs.length
 |[],[],_=>rfl
 |_::_,_::_,h=>by simp [dD.len h.2]
def kG(i:Nat):List Cl:=(List.range (32-i)).map fun j=>.copy (i+j)
def qI(V:Nat):List Cl:=[.firm,.index V,.wish2,.firm2,.tell V,.unlock,.reply]
def jP(V i:Nat):List Cl:=(List.range (4-i)).map fun j=>.wish V (i+j)
def kB(V i:Nat):List Cl:=(List.range (32-i)).map fun j=>.write V (i+j)
theorem rH{α:Type}(f:Nat->α){i n:Nat}(h:i<n):(List.range (n-i)).map (fun j=>f (i+j))=f i::(List.range (n-(i+1))).map (fun j=>f (i+1+j)):=by
 rw[show n-i=n-(i+1)+1 by omega,List.range_succ_eq_map,List.map_cons,List.map_map]
 congr 1
 refine List.map_congr_left fun j _=>?_
 show f (i+(j+1))=f (i+1+j)
 congr 1;omega
theorem uT{i:Nat}(h:i<32):kG i=.copy i::kG (i+1):=rH Cl.copy h
theorem uV(V:Nat){i:Nat}(h:i<4):jP V i=.wish V i::jP V (i+1):=rH (Cl.wish V) h
theorem uR(V:Nat){i:Nat}(h:i<32):kB V i=.write V i::kB V (i+1):=rH (Cl.write V) h
def gF(θ:cQ):List Cl:=
 match θ.does with
 |1=>[.says1,.says2,.lock]
 |2=>[.says2,.lock]
 |3=>[.lock]
 |4=>.which::kG 0
 |5=>kG θ.i
 |6=>[.asks θ.i]
 |7=>[.fetch θ.i (θ.asks (θ.na-1) 1+1)]
 |8=>kB (θ.ver+1) θ.i++(jP (θ.ver+1) 0++qI (θ.ver+1))
 |9=>jP (θ.ver+1) θ.i++qI (θ.ver+1)
 |10=>qI (θ.ver+1)
 |11=>[.index (θ.ver+1),.wish2,.firm2,.tell (θ.ver+1),.unlock,.reply]
 |12=>[.wish2,.firm2,.tell (θ.ver+1),.unlock,.reply]
 |13=>[.firm2,.tell (θ.ver+1),.unlock,.reply]
 |14=>[.tell (θ.ver+1),.unlock,.reply]
 |15=>[.unlock,.reply]
 |16=>[.reply]
 |17=>[.look1,.look2,.look3,.look4,.look5]
 |18=>[.look2,.look3,.look4,.look5]
 |19=>[.look3,.look4,.look5]
 |20=>[.look4,.look5]
 |21=>[.look5]
 |_=>[]
def oM(w:World)(tag:Nat->Nat)(b k:Nat)(x:Int):Prop:=tag b=k/\aY w b 23 #[[x]]
def rN(w:World)(tag:Nat->Nat)(t b:Nat)(rows:List (List Value)):Prop:=tag b=140+t/\∃A c,aY w b 246 #[.slice A rows.length c]/\cU w 0 278 5 A rows.length c rows/\∀b,iI A b->tag b=160+t
def lF(w:World)(tag:Nat->Nat)(t b:Nat)(z:Nat->Int):Prop:=tag b=150+t/\∃E,aY w b 23 E/\cH E 32 z
def iF(w:World)(tag:Nat->Nat)(t:Nat)(θ:cQ)(e:mG):Prop:=
 match θ.does with
 |4=>oM w tag e.v (130+t) 0/\rN w tag t e.l []/\lF w tag t e.w fun _=>0
 |5=>oM w tag e.v (130+t) θ.ver/\rN w tag t e.l []/\∃z,lF w tag t e.w z/\∀j,j<θ.i->z j=θ.r j
 |6=>oM w tag e.v (130+t) θ.ver/\rN w tag t e.l (eH θ.asks θ.na)/\lF w tag t e.w θ.r
 |7=>oM w tag e.v (130+t) θ.ver/\rN w tag t e.l (eH θ.asks (θ.na-1))/\lF w tag t e.w θ.r
 |8=>lF w tag t e.w θ.r
 |17=>oM w tag e.v (130+t) 0/\oM w tag e.g (170+t) 0/\oM w tag e.a (180+t) 0/\oM w tag e.n (190+t) 0
 |18=>oM w tag e.v (130+t) θ.ver/\oM w tag e.g (170+t) 0/\oM w tag e.a (180+t) 0/\oM w tag e.n (190+t) 0
 |19=>oM w tag e.v (130+t) θ.ver/\oM w tag e.g (170+t) (θ.seen 0)/\oM w tag e.a (180+t) 0/\oM w tag e.n (190+t) 0
 |20=>oM w tag e.v (130+t) θ.ver/\oM w tag e.g (170+t) (θ.seen 0)/\oM w tag e.a (180+t) (θ.seen 1)/\oM w tag e.n (190+t) 0
 |21=>oM w tag e.v (130+t) θ.ver/\oM w tag e.g (170+t) (θ.seen 0)/\oM w tag e.a (180+t) (θ.seen 1)/\oM w tag e.n (190+t) (θ.seen 2)
 |_=>True
section
variable{w w':World}{tag tag':Nat->Nat}{S:Nat->Prop}
theorem oM.kept{b k:Nat}{x:Int}(h:oM w tag b k x)(hk:aD S w w')(ht:bI w tag tag')(hS:∀b,S b->tag b≠k):oM w' tag' b k x:=
 ⟨(ht b h.2.lt).trans h.1,(hk.block b h.2.lt fun z=>hS b z h.1).trans h.2⟩
theorem rN.kept{t b:Nat}{rows:List (List Value)}(h:rN w tag t b rows)(hk:aD S w w')(ht:bI w tag tag')(hS:∀b,S b->tag b≠140+t/\tag b≠160+t):rN w' tag' t b rows:=by
 obtain⟨h1,A,c,h2,h3,h4⟩:=h
 exact⟨(ht b h2.lt).trans h1,A,c,(hk.block b h2.lt fun z=>(hS b z).1 h1).trans h2,h3.keptT hk h4 (fun b z=>(hS b z).2),h3.tagT ht h4⟩
theorem lF.kept{t b:Nat}{z:Nat->Int}(h:lF w tag t b z)(hk:aD S w w')(ht:bI w tag tag')(hS:∀b,S b->tag b≠150+t):lF w' tag' t b z:=by
 obtain⟨h1,E,h2,h3⟩:=h
 exact⟨(ht b h2.lt).trans h1,E,(hk.block b h2.lt fun z=>hS b z h1).trans h2,h3⟩
def ZP(S:Nat->Prop)(tag:Nat->Nat)(t:Nat):Prop:=∀b,S b->tag b≠106/\tag b≠105/\tag b≠110+t/\tag b≠120+t/\tag b≠130+t/\tag b≠140+t/\tag b≠150+t/\tag b≠160+t/\tag b≠170+t/\tag b≠180+t/\tag b≠190+t
theorem iF.kept{t:Nat}{θ:cQ}{e:mG}(h:iF w tag t θ e)(hk:aD S w w')(ht:bI w tag tag')(hS:ZP S tag t):iF w' tag' t θ e:=by
 have Qc:∀b,S b->tag b≠130+t:=fun b z=>(hS b z).2.2.2.2.1
 have Ux:∀b,S b->tag b≠140+t/\tag b≠160+t:=fun b z=>⟨(hS b z).2.2.2.2.2.1,(hS b z).2.2.2.2.2.2.2.1⟩
 have Tb:∀b,S b->tag b≠150+t:=fun b z=>(hS b z).2.2.2.2.2.2.1
 have Ya:∀b,S b->tag b≠170+t:=fun b z=>(hS b z).2.2.2.2.2.2.2.2.1
 have Yb:∀b,S b->tag b≠180+t:=fun b z=>(hS b z).2.2.2.2.2.2.2.2.2.1
 have Yc:∀b,S b->tag b≠190+t:=fun b z=>(hS b z).2.2.2.2.2.2.2.2.2.2
 unfold iF at h⊢
 split at h
 .exact⟨h.1.kept hk ht Qc,h.2.1.kept hk ht Ux,h.2.2.kept hk ht Tb⟩
 .obtain⟨h1,h2,z,h3,h4⟩:=h
  exact⟨h1.kept hk ht Qc,h2.kept hk ht Ux,z,h3.kept hk ht Tb,h4⟩
 .exact⟨h.1.kept hk ht Qc,h.2.1.kept hk ht Ux,h.2.2.kept hk ht Tb⟩
 .exact⟨h.1.kept hk ht Qc,h.2.1.kept hk ht Ux,h.2.2.kept hk ht Tb⟩
 .exact h.kept hk ht Tb
 .exact⟨h.1.kept hk ht Qc,h.2.1.kept hk ht Ya,h.2.2.1.kept hk ht Yb,h.2.2.2.kept hk ht Yc⟩
 .exact⟨h.1.kept hk ht Qc,h.2.1.kept hk ht Ya,h.2.2.1.kept hk ht Yb,h.2.2.2.kept hk ht Yc⟩
 .exact⟨h.1.kept hk ht Qc,h.2.1.kept hk ht Ya,h.2.2.1.kept hk ht Yb,h.2.2.2.kept hk ht Yc⟩
 .exact⟨h.1.kept hk ht Qc,h.2.1.kept hk ht Ya,h.2.2.1.kept hk ht Yb,h.2.2.2.kept hk ht Yc⟩
 .exact⟨h.1.kept hk ht Qc,h.2.1.kept hk ht Ya,h.2.2.1.kept hk ht Yb,h.2.2.2.kept hk ht Yc⟩
 trivial
end
structure lT (w:World) (tag:Nat->Nat) (t:Nat) (θ:cQ) (last:Int) (q:Nat) (R:Option Addr) (cr:Nat) (D:Option Addr) (cd:Nat) (rows:List (List Value)) (ended:Bool):Prop where
 blk:aY w q 140 (vN t θ last (.slice R rows.length cr) (.slice D θ.deeds.length cd) ended)
 row:cU w 0 142 2 R rows.length cr rows
 deeds:cU w 0 159 6 D θ.deeds.length cd θ.deeds
 tg:tag q=110+t
 tR:∀b,iI R b->tag b=120+t
 tD:∀b,iI D b->tag b=105
theorem lT.kept{w w':World}{tag tag':Nat->Nat}{S:Nat->Prop}{t:Nat}{θ:cQ}{last:Int}{q:Nat}{R:Option Addr}{cr:Nat}{D:Option Addr}{cd:Nat}{rows:List (List Value)}{ended:Bool}(h:lT w tag t θ last q R cr D cd rows ended)
 (hk:aD S w w') (ht:bI w tag tag') (h1:∀b,S b->tag b≠110+t) (h2:∀b,S b->tag b≠120+t) (h3:∀b,S b->tag b≠105):lT w' tag' t θ last q R cr D cd rows ended:=
 ⟨(hk.block q h.blk.lt fun e=>h1 q e h.tg).trans h.blk,h.row.keptT hk h.tR h2,h.deeds.keptT hk h.tD h3,(ht q h.blk.lt).trans h.tg,h.row.tagT ht h.tR,h.deeds.tagT ht h.tD⟩
end
section
attribute [local go_sem↓] Go.wp_at_zero Go.wp_at_succ
theorem dE{x:Int}(h0: -9223372036854775808<=x)(h1:x<=9223372036854775807):IntKind.i64.wrap x=x:=by rw[IntKind.wrap_i64];omega
theorem sS{x:Int}(h0:0<=x)(h1:x<18446744073709551616):IntKind.u64.wrap x=x:=by rw[IntKind.wrap_u64];omega
theorem Cc(v:Nat)(w:World):Calls prog 92 #[[v]] w fun e w'=>e=.returned (dU v)/\w=w':=by
 rcases(by omega:v%2=0\/v%2=1)with h|h
 .have h2:(v:Int)%2=0:=I
  have hb:(dU v:Int)=8:=by unfold dU;omega
  rw[hb]
  go_enter func92,ntmps92
  go_wp2
  go_ret
  exact⟨rfl,rfl⟩
 have h2:(v:Int)%2=1:=I
 have hb:(dU v:Int)=40:=by unfold dU;omega
 rw[hb]
 go_enter func92,ntmps92
 go_wp2
 go_ret
 exact⟨rfl,rfl⟩
theorem qU(v:Nat)(v':Int)(e:v'=v)(B:Nat)(hB:B=dU v)(w:World):Calls prog 92 #[[v']] w fun e w'=>e=.returned B/\Below w w w':=by
 subst e hB
 refine(Cc v w).mono ?_
 rintro e w' ⟨rfl,rfl⟩
 exact⟨rfl,Below.refl _ _⟩
theorem Bs(gw t:Nat)(θ:cQ)(A D:Value)(n d:Nat)(w:World)(h:aY w gw 46 (kE t θ A D))(hi:θ.i<100):
 Calls prog 93 #[(gw,0),n,d] w fun e w'=>e=.returned (.tuple #[])/\aY w' gw 46 (kE t (θ.next n d) A D)/\aD (cI gw) w w':=by
 have c7:w.cell? (gw,7)=θ.i:=mS h 7 I
 have c1:w.cell? (gw,1)=θ.does:=mS h 1 I
 have f7:=h.frozen 7
 have f1:=h.frozen 1
 have HB:=aH h
 have hlt:=h.lt
 clear h
 by_cases e:θ.i+1=n
 .have HF:=aH ((((HB.set_ 7 ((θ.i+1:Nat):Int)).set_ 7 ((0:Nat):Int)).set_ 1 d))
  rw[LL,LL,wE]at HF
  have HK:=aH (((bP w gw 7 ((θ.i+1:Nat):Int)).setCell (p:=⟨gw,7,none⟩) (.inl rfl) ((0:Nat):Int)).setCell (p:=⟨gw,1,none⟩) (.inl rfl) d)
  have HN:=aH (show θ.next n d={θ with i:=0,does:=d}from sV e)
  have e2:(n:Int)=(θ.i:Int)+1:=I
  have hx:(θ.i:Int)<100:=I
  rw[show((θ.i+1:Nat):Int)=(θ.i:Int)+1 by omega]at HF HK
  rw[e2]
  clear HB e e2
  go_enter func93,ntmps93
  go_wp2
  refine bodyPost_end (v:=.tuple #[]) (by simp [results,results93,go_sem]) rfl ⟨rfl,?_,HK.out⟩
  rw[HN.out]
  exact HF
 have HF:=aH (HB.set_ 7 ((θ.i+1:Nat):Int))
 rw[LL]at HF
 have HK:=aH (bP w gw 7 ((θ.i+1:Nat):Int))
 have HN:=aH (show θ.next n d={θ with i:=θ.i+1}from vL e)
 have e2:¬(θ.i:Int)+1=n:=I
 rw[show((θ.i+1:Nat):Int)=(θ.i:Int)+1 by omega]at HF HK
 clear HB e
 go_enter func93,ntmps93
 go_wp2
 refine bodyPost_end (v:=.tuple #[]) (by simp [results,results93,go_sem]) rfl ⟨rfl,?_,HK.out⟩
 rw[HN.out]
 exact HF
section
variable{w0 w:World}{tag:Nat->Nat}{t:Nat}{θ:cQ}{gw:Nat}{A:Option Addr}{ca:Nat}{D:Option Addr}{cd:Nat}{m:Nat->Int}{gm:Nat}{s:cN}{gs:Nat}
theorem WS.rload(h:WS w0 w tag t θ gw A ca D cd m gm s gs){i:Nat}(hi:i<16)(i':Int)(e:i'=i):Calls prog 27 #[(gm,0),i'] w fun e w'=>e=.returned (.tuple #[[m i],.nilIface])/\w=w':=by
 obtain⟨_,E,h1,h2⟩:=h.ram
 subst e
 exact IQ gm i E m w h1 h2 hi
theorem WS.rsave(h:WS w0 w tag t θ gw A ca D cd m gm s gs){i:Nat}(hi:i<16){x:Int}(hx:0<=x/\x<18446744073709551616)(i':Int)(e:i'=i):Calls prog 78 #[(gm,0),i',[x]] w fun e w'=>e=.returned .nilIface/\WS w0 w' tag t θ gw A ca D cd (eI m i x) gm s gs/\aD (cI gm) w w':=by
 obtain⟨_,E,h1,h2⟩:=h.ram
 subst e
 refine(IH gm i x E m w h1 h2 hi).mono ?_
 rintro e w' ⟨rfl,rfl⟩
 exact⟨rfl,h.ram_ hi hx,bP w gm i _⟩
theorem WS.rswapN(h:WS w0 w tag t θ gw A ca D cd m gm s gs){x:Int}(hz:m 0≠0):Calls prog 91 #[(gm,0),(0:Int),.int .u64 0,[x]] w fun e w'=>e=.returned (.tuple #[false,.nilIface])/\w=w':=by
 obtain⟨_,E,h1,h2⟩:=h.ram
 exact KM gm 0 0 x E m w h1 h2 I (by simpa using hz)
theorem WS.rswapY(h:WS w0 w tag t θ gw A ca D cd m gm s gs){x:Int}(hx:0<=x/\x<18446744073709551616)(hz:m 0=0):Calls prog 91 #[(gm,0),(0:Int),.int .u64 0,[x]] w fun e w'=>e=.returned (.tuple #[true,.nilIface])/\WS w0 w' tag t θ gw A ca D cd (eI m 0 x) gm s gs:=by
 obtain⟨_,E,h1,h2⟩:=h.ram
 refine(CN gm 0 0 x E m w h1 h2 I (by simpa using hz)).mono ?_
 rintro e w' ⟨rfl,rfl⟩
 exact⟨rfl,h.ram_ I hx⟩
theorem WS.sload(h:WS w0 w tag t θ gw A ca D cd m gm s gs){a:Nat}(ha:a<72)(a':Int)(e:a'=a):Calls prog 26 #[(gs,0),a'] w fun e w'=>e=.returned (.tuple #[[s.now a],.nilIface])/\w=w':=by
 subst e
 exact PA gs a s w h.st.2 ha
theorem WS.ssave(h:WS w0 w tag t θ gw A ca D cd m gm s gs){a:Nat}(ha:a<72)(x:Int)(a':Int)(e:a'=a):Calls prog 18 #[(gs,0),a',[x]] w fun e w'=>e=.returned .nilIface/\WS w0 w' tag t θ gw A ca D cd m gm (s.save a x) gs/\aD (cI gs) w w':=by
 subst e
 refine(PN gs a x s w h.st.2 ha).mono ?_
 rintro e w' ⟨rfl,rfl⟩
 refine⟨rfl,h.store ?_ (bP w gs a _),bP w gs a _⟩
 rw[<-DE _ _ ha]
 exact h.st.2.set_ _ _
theorem WS.flush(h:WS w0 w tag t θ gw A ca D cd m gm s gs)(ht:t<4){l:Nat}(hl:l<9)(hf:s.fl<=1000000000)(l':Int)(e:l'=l):Calls prog 97 #[(gs,0),t,l'] w fun e w'=>e=.returned .nilIface/\WS w0 w' tag t θ gw A ca D cd m gm (s.flush t l) gs/\aD (cI gs) w w':=by
 subst e
 refine(KL gs t l s w h.st.2 ht hl hf).mono ?_
 rintro e w' ⟨rfl,h1,h2⟩
 exact⟨rfl,h.store h1 h2,h2⟩
theorem WS.fence(h:WS w0 w tag t θ gw A ca D cd m gm s gs)(ht:t<4)(hf:s.fe<=1000000000):Calls prog 98 #[(gs,0),t] w fun e w'=>e=.returned .nilIface/\WS w0 w' tag t θ gw A ca D cd m gm (s.fence t) gs:=by
 refine(FX gs t s w h.st.2 ht hf).mono ?_
 rintro e w' ⟨rfl,h1,h2⟩
 exact⟨rfl,h.store h1 h2⟩
theorem WS.next(h:WS w0 w tag t θ gw A ca D cd m gm s gs)(n d:Nat)(hi:θ.i<100)(n' d':Int)(hn':n'=n)(hd':d'=d):Calls prog 93 #[(gw,0),n',d'] w fun e w'=>e=.returned (.tuple #[])/\WS w0 w' tag t (θ.next n d) gw A ca D cd m gm s gs:=by
 subst hn' hd'
 refine(Bs gw t θ _ _ n d w h.wk.blk hi).mono ?_
 rintro e w' ⟨rfl,h1,h2⟩
 have h3:∀b,cI gw b->tag b=10+t:=fun b hb=>by rw[show b=gw from hb];exact h.wk.tg
 have e1:(θ.next n d).asks=θ.asks/\(θ.next n d).na=θ.na/\(θ.next n d).deeds=θ.deeds:=by unfold cQ.next;split<;>exact⟨rfl,rfl,rfl⟩
 refine⟨rfl,⟨?_,?_,?_,h.wk.tg,h.wk.tA,h.wk.tD⟩,h.ram.kept h2 (bI.refl _ _) (fun b hb=>by rw[h3 b hb];omega),h.st.kept h2 (bI.refl _ _) (fun b hb=>by rw[h3 b hb];omega),h.k.trans (h2.mono fun b hb=>.inr (.inr (.inl (h3 b hb))))⟩
 .rw[e1.2.1,e1.2.2];exact h1
 .rw[e1.2.1,e1.1];exact h.wk.asks.keptT h2 h.wk.tA (fun b hb=>by rw[h3 b hb];omega)
 rw[e1.2.2];exact h.wk.deeds.keptT h2 h.wk.tD (fun b hb=>by rw[h3 b hb];omega)
theorem WS.c1(h:WS w0 w tag t θ gw A ca D cd m gm s gs){k:Nat}(d:θ.does=k):w.cell? (gw,1)=k:=by
 rw[h.c 1 I,<-d];rfl
end
section
variable{w:World}{tag:Nat->Nat}{t gw gm gs:Nat}{θ:cQ}{A D:Option Addr}{ca cd:Nat}{m:Nat->Int}{s:cN}
theorem An(hW:gJ w tag t θ gw A ca D cd)(hR:fE w tag m gm)(hS:iQ w tag s gs)(ht:t<4)(d:θ.does=1)(ho:gQ θ.a θ.k θ.v):
 Calls prog 62 #[(gw,0),(gm,0)] w fun e w'=>e=.returned (.tuple #[])/\iZ w tag t gw gm gs (stp t m s θ) w':=by
 rw[show stp t m s θ=⟨eI m (2+2*t) (fN θ.a θ.k θ.v),s,θ.go 2,false⟩ by simp only[stp,d]]
 have H0:=aH (WS.start hW hR hS)
 have HO:=aH (fun W=>JT θ.a θ.k θ.v W)
 rw[show jI θ.a θ.k θ.v=fN θ.a θ.k θ.v from iP (eN.2 ho)]at HO
 have hbd:=CA ho
 have c1:w.cell? (gw,1)=(1:Int):=H0.c1 d
 have c2:w.cell? (gw,2)=θ.a:=H0.c 2 I
 have c3:w.cell? (gw,3)=θ.k:=H0.c 3 I
 have c4:w.cell? (gw,4)=θ.v:=H0.c 4 I
 have hlt:=H0.lt
 have HD:=aH d
 clear hW hR hS ho d
 generalize fN θ.a θ.k θ.v=x at*
 go_enter func62,ntmps62
 go_wp2_with fail
 with_reducible refine(HO.out _).mono ?_
 rintro e w1 ⟨rfl,Gs⟩
 have H1:=aH (H0.below Gs)
 clear Gs
 have c0:w1.cell? (gw,0)=t:=H1.c 0 I
 have HV:=aH (H1.rsave (i:=2+2*t) I hbd (2+2*(t:Int)) I)
 go_wp2_with fail
 with_reducible refine HV.out.mono ?_
 rintro e w2 ⟨rfl,h2,_⟩
 have H2:=aH h2
 clear h2 HV
 have c1':w2.cell? (gw,1)=(1:Int):=H2.c1 HD
 have f1:=H2.f 1
 have HF:=aH ((H2.does 2).out false)
 go_wp2
 refine bodyPost_end (v:=.tuple #[]) (by simp [results,results62,go_sem]) rfl ⟨rfl,HF.out⟩
end
theorem ZY(v:Nat)(v':Int)(e:v'=v)(B:Nat)(hB:B=dU v)(w:World):Calls prog 72 #[[v']] w fun e w'=>e=.returned B/\Below w w w':=by
 subst e hB
 rcases(by omega:v%2=0\/v%2=1)with h|h
 .have h2:(v:Int)%2=0:=I
  have hb:(dU v:Int)=8:=by unfold dU;omega
  rw[hb]
  go_enter func72,ntmps72
  go_wp2
  go_ret
  exact⟨rfl,Below.refl _ _⟩
 have h2:(v:Int)%2=1:=I
 have hb:(dU v:Int)=40:=by unfold dU;omega
 rw[hb]
 go_enter func72,ntmps72
 go_wp2
 go_ret
 exact⟨rfl,Below.refl _ _⟩
structure Kg (T:Nat->Prop) (w0:World) (Gu:Nat->Nat) (w:World) (tag:Nat->Nat):Prop where
 t:bI w0 Gu tag
 k:aD (fun b=>T (Gu b)) w0 w
theorem Kg.refl(T:Nat->Prop)(w:World)(tag:Nat->Nat):Kg T w tag w tag:=⟨bI.refl _ _,aD.refl _ _⟩
theorem Kg.go{T:Nat->Prop}{w0 w w':World}{Gu tag tag':Nat->Nat}{S:Nat->Prop}(h:Kg T w0 Gu w tag)(ht:bI w tag tag')(hk:aD S w w')(hS:∀b,S b->T (tag b)):Kg T w0 Gu w' tag':=by
 refine⟨h.t.trans ht h.k.size,⟨hk.os.trans h.k.os,hk.tape.trans h.k.tape,hk.output.trans h.k.output,Nat.le_trans h.k.size hk.size,fun b hb hn=>?_⟩⟩
 refine(hk.block b (Nat.lt_of_lt_of_le hb h.k.size) fun e=>hn ?_).trans (h.k.block b hb hn)
 have:=hS b e
 rw[h.t b hb]at this
 exact this
theorem Kg.trans{T:Nat->Prop}{w0 w w':World}{Gu tag tag':Nat->Nat}(h:Kg T w0 Gu w tag)(h2:Kg T w tag w' tag'):Kg T w0 Gu w' tag':=h.go h2.t h2.k (fun _ x=>x)
theorem Kg.mono{T T':Nat->Prop}{w0 w:World}{Gu tag:Nat->Nat}(h:Kg T w0 Gu w tag)(hT:∀k,T k->T' k):Kg T' w0 Gu w tag:=⟨h.t,h.k.mono fun b hb=>hT _ hb⟩
theorem Kg.below{T:Nat->Prop}{w0 w w':World}{Gu tag:Nat->Nat}(h:Kg T w0 Gu w tag)(hb:Below w w w'):Kg T w0 Gu w' tag:=h.go (S:=bN) (bI.refl _ _) (aD.of_same hb) (fun _ x=>x.elim)
def FG(w:World)(tag:Nat->Nat)(l:List (Nat×Nat×TypeId×Value)):Prop:=∀x∈l,tag x.1=x.2.1/\aY w x.1 x.2.2.1 #[x.2.2.2]
theorem FG.kept{w w':World}{tag tag':Nat->Nat}{S:Nat->Prop}{l:List (Nat×Nat×TypeId×Value)}(h:FG w tag l)(hk:aD S w w')(ht:bI w tag tag')(hS:∀b,S b->∀x∈l,tag b≠x.2.1):FG w' tag' l:=fun x hx=>by
 obtain⟨h1,h2⟩:=h x hx
 exact⟨(ht _ h2.lt).trans h1,(hk.block _ h2.lt fun e=>hS _ e x hx h1).trans h2⟩
theorem FG.cell{w:World}{tag:Nat->Nat}{l:List (Nat×Nat×TypeId×Value)}(h:FG w tag l){b k:Nat}{ty:TypeId}{v:Value}(hx:(b,k,ty,v)∈l):w.cell? (b,0)=v:=by rw[(h _ hx).2.cell];rfl
theorem FG.lt{w:World}{tag:Nat->Nat}{l:List (Nat×Nat×TypeId×Value)}(h:FG w tag l){b k:Nat}{ty:TypeId}{v:Value}(hx:(b,k,ty,v)∈l):b<w:=(h _ hx).2.lt
def fH(w:World)(tag:Nat->Nat)(l:List Nat)(b:Nat):Nat:=if b<w then tag b else l.getD (b-w) 0
theorem dX(w:World)(tag:Nat->Nat)(l:List Nat):bI w tag (fH w tag l):=fun b hb=>iP hb
theorem fB(w:World)(tag:Nat->Nat)(l:List Nat)(i:Nat):fH w tag l (w+i)=l.getD i 0:=by
 unfold fH
 rw[iN I,Nat.add_sub_cancel_left]
theorem WU:(prog.info? 142).map (fun i=>(i.zero,i.size,i.bytes))=some (some (.agg #[(0:Int),.nilFunc]),2,16):=J
theorem wL:∃i0,prog.info? 142=some i0/\i0.zero=some (.agg #[(0:Int),.nilFunc])/\i0.size=2/\i0.bytes=16:=by
 have h:=WU
 cases hq:prog.info? 142 with
 |none=>simp [hq]at h
 |some i=>simp [hq]at h;exact⟨i,rfl,h.1,h.2.1,h.2.2⟩
def eJ(t k:Nat):Prop:=k=110+t\/k=120+t
theorem jF{w:World}{tag:Nat->Nat}{t:Nat}{θ:cQ}{last:Int}{q:Nat}{RA:Option Addr}{cr:Nat}{D:Option Addr}{cd:Nat}{rows:List (List Value)}{ended:Bool}(h:lT w tag t θ last q RA cr D cd rows ended)(k:Nat)(N:Nat)(caps:Array Value)(k':Int)(hk':k'=k)(hl:rows.length<=1000):
 Calls prog 107 #[(q,0),k',.func (.func N) #[] caps] w fun e w'=>e=.returned (.tuple #[])/\∃tag' R' cr',Kg (eJ t) w tag w' tag'/\lT w' tag' t θ last q R' cr' D cd (rows++[td k (fv N caps)]) ended:=by
 subst hk'
 have HT:=aH h
 have c1:w.cell? (q,1)=some (.slice RA rows.length cr):=h.blk.cell 1
 have f1:=h.blk.frozen 1
 have hlt:=h.blk.lt
 have hnq:¬iI RA q:=fun e=>by have:=h.tR q e;have:=h.tg;omega
 obtain⟨i0,Is,Ib,Io,Hh⟩:=wL
 have HI:=aH Is
 have HZ:=aH Ib
 have HS:=aH Io
 have HY:=aH Hh
 clear h Is Ib Io Hh
 go_enter func107,ntmps107
 have HV:Hid (∀j,j<2->(w.alloc (.cells #[k,.func (.func N) #[] caps] 142)).cell? (w.heap.size,j)=[Value.int .i64 (k:Int),.func (.func N) #[] caps][j]?):=aH (fun j _=>by
  rw[(aY.new w 142 #[k,.func (.func N) #[] caps]).cell j]
  simp)
 have H1:Hid (∀u∈[Value.int .i64 (k:Int),.func (.func N) #[] caps],u.oneCell'=true):=aH (fun u hu=>by
  simp only[List.mem_cons,List.not_mem_nil,or_false]at hu
  rcases hu with rfl|rfl<;>rfl)
 have Hc:Hid (Below w w (w.alloc (.cells #[k,.func (.func N) #[] caps] 142))):=aH ((Below.refl _ _).alloc (Nat.le_refl _) _)
 have Ph:=aH (HT.row.below Hc)
 have HQ:Hid (aY (w.alloc (.cells #[k,.func (.func N) #[] caps] 142)) q 140 (vN t θ last (.slice RA rows.length cr) (.slice D θ.deeds.length cd) ended)):=aH (HT.blk.alloc _)
 have HCB:Hid (∀W,aY W q 140 (vN t θ last (.slice RA rows.length cr) (.slice D θ.deeds.length cd) ended)->W.cell? (q,1)=some (.slice RA rows.length cr)):=aH (fun W h=>h.cell 1)
 have HFB:Hid (∀W,aY W q 140 (vN t θ last (.slice RA rows.length cr) (.slice D θ.deeds.length cd) ended)->W.frozen? ⟨q,1,none⟩=false):=aH (fun W h=>h.frozen 1)
 have HLB:Hid (∀W,aY W q 140 (vN t θ last (.slice RA rows.length cr) (.slice D θ.deeds.length cd) ended)->q<W):=aH (fun W h=>h.lt)
 go_wp2_with (refine qJ (.tmp 10) (.tmp 14) rfl rfl underlying138 HI HZ HS HY rfl aJ aJ (A:=RA) (n:=rows.length) (c:=cr) (rows:=rows) rfl Ph (g:=w) (c':=1) rfl (ys:=[.int .i64 (k:Int),.func (.func N) #[] caps]) rfl HV H1 I (Nat.zero_le _) ?_;rintro g' c9 w9 how hk' hwh;have Ia:=(hk'.block q HQ.lt hnq).trans HQ;have Qd:=HCB.out w9 Ia;have Nq:=HFB.out w9 Ia;have Pg:=HLB.out w9 Ia;have Uy:=aH Ia;clear Ia)
 have Qq:=aH ((aD.of_same Hc).trans hk')
 have Qt:Hid (cU w9 0 142 2 (some ⟨g',0,none⟩) (rows.length+1) c9 (rows++[[.int .i64 (k:Int),.func (.func N) #[] caps]])):=aH how
 have Pu:Hid (∀b,iI (some ⟨g',0,none⟩) b->iI RA b\/w<=b):=aH (fun b hb=>by
  obtain⟨a,ha,rfl⟩:=hb
  cases ha
  rcases hwh with⟨a,ha,e⟩|e
  .exact .inl ⟨a,ha,e⟩
  exact .inr (by show w<=g';rw[e];simp))
 clear how hk' hwh
 have hR:=HT.tR
 have htl:=cO w tag (120+t)
 have hq9:=(htl q hlt).trans HT.tg
 have hqk:∀b,cI q b->cG w tag (120+t) b=110+t:=fun b hb=>by rw[show b=q from hb];exact hq9
 have tA:∀b,iI (some ⟨g',0,none⟩) b->cG w tag (120+t) b=120+t:=fun b hb=>by
  rcases Pu.out b hb with e|e
  .exact(htl b (by obtain⟨a,ha,rfl⟩:=e;exact(HT.row.lt a ha).2)).trans (hR b e)
  exact dT _ _ _ e
 have HF:Hid (Kg (eJ t) w tag (w9.setCell (q,1) (.slice (some ⟨g',0,none⟩) (rows.length+1) c9)) (cG w tag (120+t))/\lT (w9.setCell (q,1) (.slice (some ⟨g',0,none⟩) (rows.length+1) c9)) (cG w tag (120+t)) t θ last q (some ⟨g',0,none⟩) c9 D cd (rows++[td k (fv N caps)]) ended):=aH ⟨((Kg.refl (eJ t) w tag).go htl Qq (fun b hb=>.inr (hR b hb))).go (bI.refl _ _) (bP w9 q 1 _) (fun b hb=>.inl (hqk b hb)),by
  refine⟨?_,?_,?_,hq9,tA,HT.deeds.tagT htl HT.tD⟩
  .have hx:=aY.set_ Uy 1 (.slice (some ⟨g',0,none⟩) (rows.length+1) c9)
   show aY _ q _ (vN t θ last (.slice (some ⟨g',0,none⟩) (rows++[_]).length c9) _ ended)
   rw[show(rows++[td k (fv N caps)]).length=rows.length+1 by simp]
   exact hx
  .show cU _ 0 _ 2 (some ⟨g',0,none⟩) (rows++[_]).length c9 _
   rw[show(rows++[td k (fv N caps)]).length=rows.length+1 by simp]
   exact Qt.keptT (bP w9 q 1 _) tA (fun b hb=>by rw[hqk b hb];omega)
  exact(HT.deeds.keptT Qq HT.tD (fun b hb=>by rw[hR b hb];omega)).keptT (bP w9 q 1 _) (HT.deeds.tagT htl HT.tD) (fun b hb=>by rw[hqk b hb];omega)⟩
 refine bodyPost_end (v:=.tuple #[]) (by simp [results,results107,go_sem]) rfl ⟨rfl,_,_,_,HF.out.1,HF.out.2⟩
theorem KH:∀(fn:Fn) (first cap:Array Value) (w:World),(Instr.makeFunc fn first cap).run prog w=.ok (.func fn first cap) w:=fun _ _ _ _=>rfl
def yD(t:Nat)(l:List (Nat×Nat×TypeId×Value)):Prop:=∀x∈l,x.2.1≠110+t/\x.2.1≠120+t
theorem FG.then_{w w':World}{tag tag':Nat->Nat}{t:Nat}{l:List (Nat×Nat×TypeId×Value)}(h:FG w tag l)(hk:Kg (eJ t) w tag w' tag')(hl:yD t l):FG w' tag' l:=
 h.kept hk.k hk.t (fun b hb x hx e=>by have:=hl x hx;rcases hb with hb|hb<;>omega)
theorem dD.then_{w w':World}{tag tag':Nat->Nat}{t:Nat}(ht:t<4){e:mG}{cs:List Cl}{rs:List (List Value)}(h:dD w tag e cs rs)(hk:Kg (eJ t) w tag w' tag'):dD w' tag' e cs rs:=
 h.kept hk.k hk.t (fun b hb=>by rcases hb with hb|hb<;>omega)
theorem lT.below{w w':World}{tag tag':Nat->Nat}{t:Nat}{θ:cQ}{last:Int}{q:Nat}{RA:Option Addr}{cr:Nat}{D:Option Addr}{cd:Nat}{rows:List (List Value)}{ended:Bool}(h:lT w tag t θ last q RA cr D cd rows ended)(hb:Below w w w')(ht:bI w tag tag'):lT w' tag' t θ last q RA cr D cd rows ended:=
 h.kept (S:=bN) (aD.of_same hb) ht (fun _ x=>x.elim) (fun _ x=>x.elim) (fun _ x=>x.elim)
theorem dD.below{w w':World}{tag tag':Nat->Nat}{e:mG}{cs:List Cl}{rs:List (List Value)}(h:dD w tag e cs rs)(hb:Below w w w')(ht:bI w tag tag'):dD w' tag' e cs rs:=
 h.kept (S:=bN) (aD.of_same hb) ht (fun _ x=>x.elim)
theorem Kg.start{T:Nat->Prop}{w w':World}{tag tag':Nat->Nat}(hb:Below w w w')(ht:bI w tag tag'):Kg T w tag w' tag':=(Kg.refl T w tag).go (S:=bN) ht (aD.of_same hb) (fun _ x=>x.elim)
section
variable{w:World}{tag:Nat->Nat}{t:Nat}{θ:cQ}{last:Int}{q:Nat}{RA:Option Addr}{cr:Nat}{D:Option Addr}{cd:Nat}{Jh:List (List Value)}{ended:Bool}
theorem PW(h:lT w tag t θ last q RA cr D cd [] ended)(p:Nat)(ht:t<4):
 Calls prog 88 #[.pointer (some ⟨p,0,none⟩),.pointer (some ⟨q,0,none⟩)] w fun e w'=>e=.returned (.tuple #[])/\∃tag' env RA' cr' rows',Kg (eJ t) w tag w' tag'/\(env.p=p/\env.q=q)/\lT w' tag' t θ last q RA' cr' D cd rows' ended/\dD w' tag' env [.look1,.look2,.look3,.look4,.look5] rows'/\oM w' tag' env.v (130+t) 0/\oM w' tag' env.g (170+t) 0/\oM w' tag' env.a (180+t) 0/\oM w' tag' env.n (190+t) 0:=by
 have hbl:Below w.heap.size w ((((((w.alloc (.cells #[.pointer (some ⟨p,0,none⟩)] 47)).alloc (.cells #[.pointer (some ⟨q,0,none⟩)] 63)).alloc (.cells #[.int .u64 0] 23)).alloc (.cells #[.int .u64 0] 23)).alloc (.cells #[.int .u64 0] 23)).alloc (.cells #[.int .u64 0] 23)):=(((((((Below.refl w.heap.size w).alloc (Nat.le_refl _) (.cells #[.pointer (some ⟨p,0,none⟩)] 47)).alloc (by simp;try omega) (.cells #[.pointer (some ⟨q,0,none⟩)] 63)).alloc (by simp;try omega) (.cells #[.int .u64 0] 23)).alloc (by simp;try omega) (.cells #[.int .u64 0] 23)).alloc (by simp;try omega) (.cells #[.int .u64 0] 23)).alloc (by simp;try omega) (.cells #[.int .u64 0] 23))
 have Hd:Hid (FG ((((((w.alloc (.cells #[.pointer (some ⟨p,0,none⟩)] 47)).alloc (.cells #[.pointer (some ⟨q,0,none⟩)] 63)).alloc (.cells #[.int .u64 0] 23)).alloc (.cells #[.int .u64 0] 23)).alloc (.cells #[.int .u64 0] 23)).alloc (.cells #[.int .u64 0] 23)) (fH w tag [106,106,130+t,170+t,180+t,190+t]) [(w.heap.size,106,47,.pointer (some ⟨p,0,none⟩)),(w.heap.size+1,106,63,.pointer (some ⟨q,0,none⟩)),(w.heap.size+2,130+t,23,.int .u64 0),(w.heap.size+3,170+t,23,.int .u64 0),(w.heap.size+4,180+t,23,.int .u64 0),(w.heap.size+5,190+t,23,.int .u64 0)]):=Lib.hid (by
  intro x hx
  simp only[List.mem_cons,List.not_mem_nil,or_false]at hx
  rcases hx with rfl|rfl|rfl|rfl|rfl|rfl
  .exact⟨fB w tag [106,106,130+t,170+t,180+t,190+t] 0,(((((aY.newAt _ _ _ (by simp)).alloc _).alloc _).alloc _).alloc _).alloc _⟩
  .exact⟨fB w tag [106,106,130+t,170+t,180+t,190+t] 1,((((aY.newAt _ _ _ (by simp)).alloc _).alloc _).alloc _).alloc _⟩
  .exact⟨fB w tag [106,106,130+t,170+t,180+t,190+t] 2,(((aY.newAt _ _ _ (by simp)).alloc _).alloc _).alloc _⟩
  .exact⟨fB w tag [106,106,130+t,170+t,180+t,190+t] 3,((aY.newAt _ _ _ (by simp)).alloc _).alloc _⟩
  .exact⟨fB w tag [106,106,130+t,170+t,180+t,190+t] 4,(aY.newAt _ _ _ (by simp)).alloc _⟩
  .exact⟨fB w tag [106,106,130+t,170+t,180+t,190+t] 5,aY.newAt _ _ _ (by simp)⟩)
 have Pv:=Lib.hid (h.below hbl (dX w tag [106,106,130+t,170+t,180+t,190+t]))
 have Kz:Hid (Kg (eJ t) w tag ((((((w.alloc (.cells #[.pointer (some ⟨p,0,none⟩)] 47)).alloc (.cells #[.pointer (some ⟨q,0,none⟩)] 63)).alloc (.cells #[.int .u64 0] 23)).alloc (.cells #[.int .u64 0] 23)).alloc (.cells #[.int .u64 0] 23)).alloc (.cells #[.int .u64 0] 23)) (fH w tag [106,106,130+t,170+t,180+t,190+t])):=Lib.hid (Kg.start hbl (dX w tag [106,106,130+t,170+t,180+t,190+t]))
 have hn:yD t [(w.heap.size,106,47,.pointer (some ⟨p,0,none⟩)),(w.heap.size+1,106,63,.pointer (some ⟨q,0,none⟩)),(w.heap.size+2,130+t,23,.int .u64 0),(w.heap.size+3,170+t,23,.int .u64 0),(w.heap.size+4,180+t,23,.int .u64 0),(w.heap.size+5,190+t,23,.int .u64 0)]:=by
  intro x hx
  simp only[List.mem_cons,List.not_mem_nil,or_false]at hx
  rcases hx with rfl|rfl|rfl|rfl|rfl|rfl<;>(constructor<;>(try dsimp only)<;>omega)
 have HN:=Lib.hid hn
 clear h hbl hn
 have hmf:=KH
 go_enter func88,ntmps88
 go_upto_region 2 with(fail)
 show Code.wp _ _ _ _ ((((((w.alloc (.cells #[.pointer (some ⟨p,0,none⟩)] 47)).alloc (.cells #[.pointer (some ⟨q,0,none⟩)] 63)).alloc (.cells #[.int .u64 0] 23)).alloc (.cells #[.int .u64 0] 23)).alloc (.cells #[.int .u64 0] 23)).alloc (.cells #[.int .u64 0] 23))
 generalize((((((w.alloc (.cells #[.pointer (some ⟨p,0,none⟩)] 47)).alloc (.cells #[.pointer (some ⟨q,0,none⟩)] 63)).alloc (.cells #[.int .u64 0] 23)).alloc (.cells #[.int .u64 0] 23)).alloc (.cells #[.int .u64 0] 23)).alloc (.cells #[.int .u64 0] 23))=w0 at*
 generalize fH w tag [106,106,130+t,170+t,180+t,190+t]=Gu at*
 generalize w.heap.size=b0 at*
 have cq:w0.cell? ⟨b0+1,0,none⟩=some (.pointer (some ⟨q,0,none⟩)):=Hd.out.cell (k:=106) (ty:=63) (by simp [cR])
 have hlq:b0+1<w0.heap.size:=Hd.out.lt (k:=106) (ty:=63) (v:=cR q) (by simp [cR])
 have HC:=Lib.hid (jF Pv.out 17 108 #[.pointer (some ⟨b0,0,none⟩),.pointer (some ⟨b0+2,0,none⟩)] 17 rfl (by simp))
 go_wp2_with fail
 with_reducible refine HC.out.mono ?_
 rintro e w1 ⟨rfl,Ha,R1,Rn,hk,hth⟩
 have Ih:=Lib.hid hth
 have Hj:=Lib.hid (Kz.out.trans hk)
 have Hc:=Lib.hid (Hd.out.then_ hk HN.out)
 clear hk hth HC cq hlq Pv Kz Hd
 have cq:w1.cell? ⟨b0+1,0,none⟩=some (.pointer (some ⟨q,0,none⟩)):=Hc.out.cell (k:=106) (ty:=63) (by simp [cR])
 have hlq:b0+1<w1.heap.size:=Hc.out.lt (k:=106) (ty:=63) (v:=cR q) (by simp [cR])
 have HC:=Lib.hid (jF Ih.out 18 109 #[.pointer (some ⟨b0,0,none⟩),.pointer (some ⟨b0+2,0,none⟩),.pointer (some ⟨b0+3,0,none⟩)] 18 rfl (by simp))
 go_wp2_with fail
 with_reducible refine HC.out.mono ?_
 rintro e w2 ⟨rfl,Kb,R2,Sk,hk,hth⟩
 have Qr:=Lib.hid hth
 have Hy:=Lib.hid (Hj.out.trans hk)
 have Hf:=Lib.hid (Hc.out.then_ hk HN.out)
 clear hk hth HC cq hlq Ih Hj Hc
 have cq:w2.cell? ⟨b0+1,0,none⟩=some (.pointer (some ⟨q,0,none⟩)):=Hf.out.cell (k:=106) (ty:=63) (by simp [cR])
 have hlq:b0+1<w2.heap.size:=Hf.out.lt (k:=106) (ty:=63) (v:=cR q) (by simp [cR])
 have HC:=Lib.hid (jF Qr.out 19 110 #[.pointer (some ⟨b0,0,none⟩),.pointer (some ⟨b0+2,0,none⟩),.pointer (some ⟨b0+1,0,none⟩),.pointer (some ⟨b0+4,0,none⟩)] 19 rfl (by simp))
 go_wp2_with fail
 with_reducible refine HC.out.mono ?_
 rintro e w3 ⟨rfl,Kc,R3,Uj,hk,hth⟩
 have Ho:=Lib.hid hth
 have Mt:=Lib.hid (Hy.out.trans hk)
 have Hi:=Lib.hid (Hf.out.then_ hk HN.out)
 clear hk hth HC cq hlq Qr Hy Hf
 have cq:w3.cell? ⟨b0+1,0,none⟩=some (.pointer (some ⟨q,0,none⟩)):=Hi.out.cell (k:=106) (ty:=63) (by simp [cR])
 have hlq:b0+1<w3.heap.size:=Hi.out.lt (k:=106) (ty:=63) (v:=cR q) (by simp [cR])
 have HC:=Lib.hid (jF Ho.out 20 111 #[.pointer (some ⟨b0,0,none⟩),.pointer (some ⟨b0+2,0,none⟩),.pointer (some ⟨b0+1,0,none⟩),.pointer (some ⟨b0+5,0,none⟩)] 20 rfl (by simp))
 go_wp2_with fail
 with_reducible refine HC.out.mono ?_
 rintro e w4 ⟨rfl,tag4,R4,cr4,hk,hth⟩
 have Wa:=Lib.hid hth
 have Pi:=Lib.hid (Mt.out.trans hk)
 have Kj:=Lib.hid (Hi.out.then_ hk HN.out)
 clear hk hth HC cq hlq Ho Mt Hi
 have cq:w4.cell? ⟨b0+1,0,none⟩=some (.pointer (some ⟨q,0,none⟩)):=Kj.out.cell (k:=106) (ty:=63) (by simp [cR])
 have hlq:b0+1<w4.heap.size:=Kj.out.lt (k:=106) (ty:=63) (v:=cR q) (by simp [cR])
 have HC:=Lib.hid (jF Wa.out 21 112 #[.pointer (some ⟨b0,0,none⟩),.pointer (some ⟨b0+2,0,none⟩),.pointer (some ⟨b0+3,0,none⟩),.pointer (some ⟨b0+1,0,none⟩),.pointer (some ⟨b0+4,0,none⟩),.pointer (some ⟨b0+5,0,none⟩)] 21 rfl (by simp))
 go_wp2_with fail
 with_reducible refine HC.out.mono ?_
 rintro e w5 ⟨rfl,Kd,R5,cr5,hk,hth⟩
 have Xq:=Lib.hid hth
 have Ri:=Lib.hid (Pi.out.trans hk)
 have Ki:=Lib.hid (Kj.out.then_ hk HN.out)
 clear hk hth HC cq hlq Wa Pi Kj
 have hro:RO w5 Kd b0 47 (cR p)/\RO w5 Kd (b0+1) 63 (cR q):=⟨Ki.out (b0,106,47,.pointer (some ⟨p,0,none⟩)) (by simp),Ki.out (b0+1,106,63,.pointer (some ⟨q,0,none⟩)) (by simp)⟩
 have Px:=Lib.hid hro
 have HBX:Hid (oM w5 Kd (b0+2) (130+t) 0/\oM w5 Kd (b0+3) (170+t) 0/\oM w5 Kd (b0+4) (180+t) 0/\oM w5 Kd (b0+5) (190+t) 0):=Lib.hid ⟨Ki.out (b0+2,130+t,23,.int .u64 0) (by simp),Ki.out (b0+3,170+t,23,.int .u64 0) (by simp),Ki.out (b0+4,180+t,23,.int .u64 0) (by simp),Ki.out (b0+5,190+t,23,.int .u64 0) (by simp)⟩
 clear hro Ki
 go_wp2
 refine bodyPost_end (v:=.tuple #[]) (by simp [results,results88,go_sem]) rfl ⟨rfl,Kd,⟨p,q,b0+2,0,0,b0+3,b0+4,b0+5⟩,R5,cr5,_,Ri.out,⟨rfl,rfl⟩,Xq.out,⟨⟨b0,rfl,Px.out.1⟩,⟨b0,rfl,Px.out.1⟩,⟨b0,b0+1,rfl,Px.out.1,Px.out.2⟩,⟨b0,b0+1,rfl,Px.out.1,Px.out.2⟩,⟨b0,b0+1,rfl,Px.out.1,Px.out.2⟩,trivial⟩,HBX.out⟩
theorem GK(h:lT w tag t θ last q RA cr D cd Jh ended)(p:Nat)(ht:t<4){e0:mG}(he:e0.p=p/\e0.q=q){cls:List Cl}(hr:dD w tag e0 cls Jh)(hl:Jh.length<=900):
 Calls prog 114 #[(p,0),(q,0)] w fun e w'=>e=.returned (.tuple #[])/\∃tag' RA' cr' rows',Kg (eJ t) w tag w' tag'/\lT w' tag' t θ last q RA' cr' D cd rows' ended/\dD w' tag' e0 (cls++[.lock]) rows':=by
 have HE:=aH he
 clear he
 have hbl:Below w w ((w.alloc (.cells #[(p,0)] 47)).alloc (.cells #[(q,0)] 63)):=(((Below.refl w w).alloc (Nat.le_refl _) (.cells #[(p,0)] 47)).alloc (by simp;try omega) (.cells #[(q,0)] 63))
 have Hd:Hid (FG ((w.alloc (.cells #[(p,0)] 47)).alloc (.cells #[(q,0)] 63)) (fH w tag [106,106]) [(w.heap.size,106,47,(p,0)),(w+1,106,63,(q,0))]):=aH (by
  intro x hx
  simp only[List.mem_cons,List.not_mem_nil,or_false]at hx
  rcases hx with rfl|rfl
  .exact⟨fB w tag [106,106] 0,(aY.newAt _ _ _ (by simp)).alloc _⟩
  exact⟨fB w tag [106,106] 1,aY.newAt _ _ _ (by simp)⟩)
 have Pv:=aH (h.below hbl (dX w tag [106,106]))
 have Kz:Hid (Kg (eJ t) w tag ((w.alloc (.cells #[(p,0)] 47)).alloc (.cells #[(q,0)] 63)) (fH w tag [106,106])):=aH (Kg.start hbl (dX w tag [106,106]))
 have hn:yD t [(w.heap.size,106,47,(p,0)),(w+1,106,63,(q,0))]:=by
  intro x hx
  simp only[List.mem_cons,List.not_mem_nil,or_false]at hx
  rcases hx with rfl|rfl<;>(constructor<;>(try dsimp only)<;>omega)
 have HN:=aH hn
 have Me:=aH (hr.below hbl (dX w tag [106,106]))
 clear hr
 clear h hbl hn
 have hmf:=KH
 go_enter func114,ntmps114
 go_upto_region 1 with(fail)
 show Code.wp _ _ _ _ ((w.alloc (.cells #[(p,0)] 47)).alloc (.cells #[(q,0)] 63))
 generalize((w.alloc (.cells #[(p,0)] 47)).alloc (.cells #[(q,0)] 63))=w0 at*
 generalize fH w tag [106,106]=Gu at*
 generalize w.heap.size=b0 at*
 have cq:w0.cell? (b0+1,0)=(q,0):=Hd.cell (k:=106) (ty:=63) (by simp [cR])
 have hlq:b0+1<w0:=Hd.lt (k:=106) (ty:=63) (v:=cR q) (by simp [cR])
 have HC:=aH (jF Pv 3 126 #[(b0,0),(b0+1,0)] 3 rfl I)
 go_wp2_with fail
 with_reducible refine HC.out.mono ?_
 rintro e w1 ⟨rfl,Ha,R1,Rn,hk,hth⟩
 have Ih:=aH hth
 have Hj:=aH (Kz.trans hk)
 have Hc:=aH (Hd.then_ hk HN)
 have Kn:=aH (Me.then_ ht hk)
 clear hk hth HC cq hlq Pv Kz Hd
 have hro:RO w1 Ha b0 47 (cR e0.p)/\RO w1 Ha (b0+1) 63 (cR e0.q):=by
  rw[HE.out.1,HE.out.2]
  exact⟨Hc.out (b0,106,47,.pointer (some ⟨p,0,none⟩)) (by simp),Hc.out (b0+1,106,63,.pointer (some ⟨q,0,none⟩)) (by simp)⟩
 have HRF:=aH (Kn.add (c:=.lock) ⟨b0,b0+1,rfl,hro.1,hro.2⟩)
 clear hro Hc
 go_wp2
 refine bodyPost_end (v:=.tuple #[]) (by simp [results,results114,go_sem]) rfl ⟨rfl,Ha,R1,Rn,_,Hj.out,Ih.out,HRF.out⟩
theorem RQ(h:lT w tag t θ last q RA cr D cd [] ended)(p:Nat)(ht:t<4):
 Calls prog 89 #[(p,0),(q,0)] w fun e w'=>e=.returned (.tuple #[])/\∃tag' env RA' cr' rows',Kg (eJ t) w tag w' tag'/\(env.p=p/\env.q=q)/\lT w' tag' t θ last q RA' cr' D cd rows' ended/\dD w' tag' env [.says1,.says2,.lock] rows':=by
 have hbl:Below w w ((w.alloc (.cells #[(p,0)] 47)).alloc (.cells #[(q,0)] 63)):=(((Below.refl w w).alloc (Nat.le_refl _) (.cells #[(p,0)] 47)).alloc (by simp;try omega) (.cells #[(q,0)] 63))
 have Hd:Hid (FG ((w.alloc (.cells #[(p,0)] 47)).alloc (.cells #[(q,0)] 63)) (fH w tag [106,106]) [(w.heap.size,106,47,(p,0)),(w+1,106,63,(q,0))]):=aH (by
  intro x hx
  simp only[List.mem_cons,List.not_mem_nil,or_false]at hx
  rcases hx with rfl|rfl
  .exact⟨fB w tag [106,106] 0,(aY.newAt _ _ _ (by simp)).alloc _⟩
  exact⟨fB w tag [106,106] 1,aY.newAt _ _ _ (by simp)⟩)
 have Pv:=aH (h.below hbl (dX w tag [106,106]))
 have Kz:Hid (Kg (eJ t) w tag ((w.alloc (.cells #[(p,0)] 47)).alloc (.cells #[(q,0)] 63)) (fH w tag [106,106])):=aH (Kg.start hbl (dX w tag [106,106]))
 have hn:yD t [(w.heap.size,106,47,(p,0)),(w+1,106,63,(q,0))]:=by
  intro x hx
  simp only[List.mem_cons,List.not_mem_nil,or_false]at hx
  rcases hx with rfl|rfl<;>(constructor<;>(try dsimp only)<;>omega)
 have HN:=aH hn
 clear h hbl hn
 have hmf:=KH
 go_enter func89,ntmps89
 go_upto_region 1 with(fail)
 show Code.wp _ _ _ _ ((w.alloc (.cells #[(p,0)] 47)).alloc (.cells #[(q,0)] 63))
 generalize((w.alloc (.cells #[(p,0)] 47)).alloc (.cells #[(q,0)] 63))=w0 at*
 generalize fH w tag [106,106]=Gu at*
 generalize w.heap.size=b0 at*
 have cq:w0.cell? (b0+1,0)=(q,0):=Hd.cell (k:=106) (ty:=63) (by simp [cR])
 have hlq:b0+1<w0:=Hd.lt (k:=106) (ty:=63) (v:=cR q) (by simp [cR])
 have HC:=aH (jF Pv 1 115 #[(b0+1,0),(b0,0)] 1 rfl (by simp))
 go_wp2_with fail
 with_reducible refine HC.out.mono ?_
 rintro e w1 ⟨rfl,Ha,R1,Rn,hk,hth⟩
 have Ih:=aH hth
 have Hj:=aH (Kz.trans hk)
 have Hc:=aH (Hd.then_ hk HN)
 clear hk hth HC cq hlq Pv Kz Hd
 have cq:w1.cell? (b0+1,0)=(q,0):=Hc.cell (k:=106) (ty:=63) (by simp [cR])
 have hlq:b0+1<w1:=Hc.lt (k:=106) (ty:=63) (v:=cR q) (by simp [cR])
 have HC:=aH (jF Ih 2 117 #[(b0+1,0),(b0,0)] 2 rfl (by simp))
 go_wp2_with fail
 with_reducible refine HC.out.mono ?_
 rintro e w2 ⟨rfl,Kb,R2,Sk,hk,hth⟩
 have Qr:=aH hth
 have Hy:=aH (Hj.trans hk)
 have Hf:=aH (Hc.then_ hk HN)
 clear hk hth HC cq hlq Ih Hj Hc
 have hro:RO w2 Kb b0 47 (cR p)/\RO w2 Kb (b0+1) 63 (cR q):=⟨Hf.out (b0,106,47,.pointer (some ⟨p,0,none⟩)) (by simp),Hf.out (b0+1,106,63,.pointer (some ⟨q,0,none⟩)) (by simp)⟩
 have HLK:=aH (GK Qr p ht (e0:=⟨p,q,0,0,0,0,0,0⟩) ⟨rfl,rfl⟩ (cls:=[.says1,.says2]) ⟨⟨b0+1,b0,rfl,hro.2,hro.1⟩,⟨b0+1,b0,rfl,hro.2,hro.1⟩,trivial⟩ (by simp))
 have cp:w2.cell? (b0,0)=(p,0):=hro.1.cell
 have cq:w2.cell? (b0+1,0)=(q,0):=hro.2.cell
 have hlp:=hro.1.2.lt
 have hlq:=hro.2.2.lt
 clear hro Hf Qr
 go_wp2_with fail
 with_reducible refine HLK.out.mono ?_
 rintro e w3 ⟨rfl,Kc,R3,Uj,Lk,hk,hth,hrr⟩
 have HF3:=aH (Hy.trans hk)
 have Ho:=aH hth
 have Og:=aH hrr
 clear hk hth hrr HLK
 go_wp2
 refine bodyPost_end (v:=.tuple #[]) (by simp [results,results89,go_sem]) rfl ⟨rfl,Kc,⟨p,q,0,0,0,0,0,0⟩,R3,Uj,Lk,HF3.out,⟨rfl,rfl⟩,Ho.out,Og.out⟩
end
section
variable{w:World}{tag:Nat->Nat}{t:Nat}{θ:cQ}{last:Int}{q:Nat}{RA:Option Addr}{cr:Nat}{D:Option Addr}{cd:Nat}{Jh:List (List Value)}{ended:Bool}
def tS(t p q b:Nat):List (Nat×Nat×TypeId×Value):=[(b,106,47,cR p),(b+1,106,63,cR q),(b+2,130+t,23,.int .u64 0),(b+4,106,91,.slice (some ⟨b+3,0,none⟩) 32 32)]
def DS(p q b:Nat):mG:=⟨p,q,b+2,b+5,b+3,0,0,0⟩
theorem XO(t p q b:Nat)(ht:t<4):yD t (tS t p q b):=by
 intro x hx
 simp only[tS,List.mem_cons,List.not_mem_nil,or_false]at hx
 rcases hx with rfl|rfl|rfl|rfl<;>(constructor<;>(try dsimp only)<;>omega)
structure VY (w0:World) (Gu:Nat->Nat) (t:Nat) (θ:cQ) (last:Int) (p q b:Nat) (D:Option Addr) (cd:Nat) (ended:Bool) (cs:List Cl) (w:World) (tag:Nat->Nat) (R:Option Addr) (cr:Nat) (rows:List (List Value)):Prop where
 k:Kg (eJ t) w0 Gu w tag
 th:lT w tag t θ last q R cr D cd rows ended
 bx:FG w tag (tS t p q b)
 l:rN w tag t (b+5) []
 wd:lF w tag t (b+3) (fun _=>0)
 rs:dD w tag (DS p q b) cs rows
def By(w0:World)(Gu:Nat->Nat)(t:Nat)(θ:cQ)(last:Int)(p q b:Nat)(D:Option Addr)(cd:Nat)(ended:Bool)(cs:List Cl)(w:World):Prop:=∃tag R cr rows,VY w0 Gu t θ last p q b D cd ended cs w tag R cr rows
theorem VY.below{w0 w w':World}{Gu tag tag':Nat->Nat}{p b:Nat}{cs:List Cl}{R:Option Addr}{rows:List (List Value)}(h:VY w0 Gu t θ last p q b D cd ended cs w tag R cr rows)(hb:Below w w w')(ht:bI w tag tag'):VY w0 Gu t θ last p q b D cd ended cs w' tag' R cr rows:=
 ⟨h.k.go (S:=bN) ht (aD.of_same hb) (fun _ x=>x.elim),h.th.below hb ht,h.bx.kept (S:=bN) (aD.of_same hb) ht (fun _ x=>x.elim),h.l.kept (S:=bN) (aD.of_same hb) ht (fun _ x=>x.elim),h.wd.kept (S:=bN) (aD.of_same hb) ht (fun _ x=>x.elim),h.rs.below hb ht⟩
theorem VY.add{w0 w w':World}{Gu tag tag':Nat->Nat}{p b:Nat}{cs:List Cl}{R R':Option Addr}{cr':Nat}{rows:List (List Value)}(Js:t<4)(h:VY w0 Gu t θ last p q b D cd ended cs w tag R cr rows)(hk:Kg (eJ t) w tag w' tag'){r:List Value}(hth:lT w' tag' t θ last q R' cr' D cd (rows++[r]) ended){c:Cl}(hc:c.At w tag (DS p q b) r):VY w0 Gu t θ last p q b D cd ended (cs++[c]) w' tag' R' cr' (rows++[r]):=
 have hc':c.At w' tag' (DS p q b) r:=hc.kept hk.k hk.t (fun b hb=>by rcases hb with hb|hb<;>omega)
 ⟨h.k.trans hk,hth,h.bx.then_ hk (XO t p q b Js),h.l.kept hk.k hk.t (fun b hb=>by rcases hb with hb|hb<;>omega),h.wd.kept hk.k hk.t (fun b hb=>by rcases hb with hb|hb<;>omega),(h.rs.then_ Js hk).add hc'⟩
theorem VY.start(h:lT w tag t θ last q RA cr D cd [] ended)(p:Nat):VY w tag t θ last p q w D cd ended [] ((((((w.alloc (.cells #[(p,0)] 47)).alloc (.cells #[(q,0)] 63)).alloc (.cells #[.int .u64 0] 23)).alloc (.cells (32:Nat) 23)).alloc (.cells #[.slice (some ⟨w+1+1+1,0,none⟩) 32 32] 91)).alloc (.cells #[.slice none 0 0] 246)) (fH w tag [106,106,130+t,150+t,106,140+t]) RA cr []:=by
 have hb:Below w.heap.size w ((((((w.alloc (.cells #[.pointer (some ⟨p,0,none⟩)] 47)).alloc (.cells #[.pointer (some ⟨q,0,none⟩)] 63)).alloc (.cells #[.int .u64 0] 23)).alloc (.cells #[.int .u64 0,.int .u64 0,.int .u64 0,.int .u64 0,.int .u64 0,.int .u64 0,.int .u64 0,.int .u64 0,.int .u64 0,.int .u64 0,.int .u64 0,.int .u64 0,.int .u64 0,.int .u64 0,.int .u64 0,.int .u64 0,.int .u64 0,.int .u64 0,.int .u64 0,.int .u64 0,.int .u64 0,.int .u64 0,.int .u64 0,.int .u64 0,.int .u64 0,.int .u64 0,.int .u64 0,.int .u64 0,.int .u64 0,.int .u64 0,.int .u64 0,.int .u64 0] 23)).alloc (.cells #[.slice (some ⟨w.heap.size+1+1+1,0,none⟩) 32 32] 91)).alloc (.cells #[.slice none 0 0] 246)):=(((((((Below.refl w.heap.size w).alloc (Nat.le_refl _) (.cells #[.pointer (some ⟨p,0,none⟩)] 47)).alloc (by simp;try omega) (.cells #[.pointer (some ⟨q,0,none⟩)] 63)).alloc (by simp;try omega) (.cells #[.int .u64 0] 23)).alloc (by simp;try omega) (.cells #[.int .u64 0,.int .u64 0,.int .u64 0,.int .u64 0,.int .u64 0,.int .u64 0,.int .u64 0,.int .u64 0,.int .u64 0,.int .u64 0,.int .u64 0,.int .u64 0,.int .u64 0,.int .u64 0,.int .u64 0,.int .u64 0,.int .u64 0,.int .u64 0,.int .u64 0,.int .u64 0,.int .u64 0,.int .u64 0,.int .u64 0,.int .u64 0,.int .u64 0,.int .u64 0,.int .u64 0,.int .u64 0,.int .u64 0,.int .u64 0,.int .u64 0,.int .u64 0] 23)).alloc (by simp;try omega) (.cells #[.slice (some ⟨w.heap.size+1+1+1,0,none⟩) 32 32] 91)).alloc (by simp;try omega) (.cells #[.slice none 0 0] 246))
 have hN:∀i,fH w tag [106,106,130+t,150+t,106,140+t] (w+i)=_:=fB w tag [106,106,130+t,150+t,106,140+t]
 refine⟨Kg.start hb (dX _ _ _),h.below hb (dX _ _ _),?_,⟨hN 5,none,0,aY.newAt _ _ _ (by simp),cU.nil _ 0 _ 5,fun b hb=>by obtain⟨a,ha,_⟩:=hb;cases ha⟩,⟨hN 3,_,((aY.newAt _ _ _ (by simp)).alloc _).alloc _,cH.zero 32⟩,trivial⟩
 intro x hx
 simp only[tS,List.mem_cons,List.not_mem_nil,or_false]at hx
 rcases hx with rfl|rfl|rfl|rfl
 .exact⟨hN 0,(((((aY.newAt _ _ _ rfl).alloc _).alloc _).alloc _).alloc _).alloc _⟩
 .exact⟨hN 1,((((aY.newAt _ _ _ (by simp)).alloc _).alloc _).alloc _).alloc _⟩
 .exact⟨hN 2,(((aY.newAt _ _ _ (by simp)).alloc _).alloc _).alloc _⟩
 exact⟨hN 4,(aY.newAt _ _ _ (by simp)).alloc _⟩
theorem Do(h:lT w tag t θ last q RA cr D cd [] ended)(p:Nat)(ht:t<4):
 Calls prog 127 #[.pointer (some ⟨p,0,none⟩),.pointer (some ⟨q,0,none⟩)] w fun e w'=>e=.returned (.tuple #[])/\∃tag' env RA' cr' rows',Kg (eJ t) w tag w' tag'/\(env.p=p/\env.q=q)/\lT w' tag' t θ last q RA' cr' D cd rows' ended/\dD w' tag' env (.which::kG 0) rows'/\oM w' tag' env.v (130+t) 0/\rN w' tag' t env.l []/\lF w' tag' t env.w fun _=>0:=by
 have hmf:=KH
 have hmk:∀w:World,(Instr.makeSlice 91 (.int .i64 32) (.int .i64 32)).run prog w=.ok (.slice (some ⟨w.heap.size,0,none⟩) 32 32) (w.alloc (.cells #[.int .u64 0,.int .u64 0,.int .u64 0,.int .u64 0,.int .u64 0,.int .u64 0,.int .u64 0,.int .u64 0,.int .u64 0,.int .u64 0,.int .u64 0,.int .u64 0,.int .u64 0,.int .u64 0,.int .u64 0,.int .u64 0,.int .u64 0,.int .u64 0,.int .u64 0,.int .u64 0,.int .u64 0,.int .u64 0,.int .u64 0,.int .u64 0,.int .u64 0,.int .u64 0,.int .u64 0,.int .u64 0,.int .u64 0,.int .u64 0,.int .u64 0,.int .u64 0] 23)):=fun w=>by kernel_rfl
 have Pj:=Lib.hid (VY.start h p)
 clear h
 go_enter func127,ntmps127
 go_upto_region 4 with(fail)
 show Code.wp _ _ _ _ ((((((w.alloc (.cells #[.pointer (some ⟨p,0,none⟩)] 47)).alloc (.cells #[.pointer (some ⟨q,0,none⟩)] 63)).alloc (.cells #[.int .u64 0] 23)).alloc (.cells #[.int .u64 0,.int .u64 0,.int .u64 0,.int .u64 0,.int .u64 0,.int .u64 0,.int .u64 0,.int .u64 0,.int .u64 0,.int .u64 0,.int .u64 0,.int .u64 0,.int .u64 0,.int .u64 0,.int .u64 0,.int .u64 0,.int .u64 0,.int .u64 0,.int .u64 0,.int .u64 0,.int .u64 0,.int .u64 0,.int .u64 0,.int .u64 0,.int .u64 0,.int .u64 0,.int .u64 0,.int .u64 0,.int .u64 0,.int .u64 0,.int .u64 0,.int .u64 0] 23)).alloc (.cells #[.slice (some ⟨w.heap.size+1+1+1,0,none⟩) 32 32] 91)).alloc (.cells #[.slice none 0 0] 246))
 generalize((((((w.alloc (.cells #[.pointer (some ⟨p,0,none⟩)] 47)).alloc (.cells #[.pointer (some ⟨q,0,none⟩)] 63)).alloc (.cells #[.int .u64 0] 23)).alloc (.cells #[.int .u64 0,.int .u64 0,.int .u64 0,.int .u64 0,.int .u64 0,.int .u64 0,.int .u64 0,.int .u64 0,.int .u64 0,.int .u64 0,.int .u64 0,.int .u64 0,.int .u64 0,.int .u64 0,.int .u64 0,.int .u64 0,.int .u64 0,.int .u64 0,.int .u64 0,.int .u64 0,.int .u64 0,.int .u64 0,.int .u64 0,.int .u64 0,.int .u64 0,.int .u64 0,.int .u64 0,.int .u64 0,.int .u64 0,.int .u64 0,.int .u64 0,.int .u64 0] 23)).alloc (.cells #[.slice (some ⟨w.heap.size+1+1+1,0,none⟩) 32 32] 91)).alloc (.cells #[.slice none 0 0] 246))=w0 at*
 generalize fH w tag [106,106,130+t,150+t,106,140+t]=Gu at*
 generalize w.heap.size=b0 at*
 have cq:w0.cell? ⟨b0+1,0,none⟩=some (.pointer (some ⟨q,0,none⟩)):=Pj.out.bx.cell (k:=106) (ty:=63) (by simp [tS,cR])
 have hlq:b0+1<w0.heap.size:=Pj.out.bx.lt (k:=106) (ty:=63) (v:=cR q) (by simp [tS])
 have HC:=Lib.hid (jF Pj.out.th 4 137 #[.pointer (some ⟨b0,0,none⟩),.pointer (some ⟨b0+1+1,0,none⟩)] 4 rfl (by simp))
 go_wp2_with fail
 with_reducible refine HC.out.mono ?_
 rintro e w1 ⟨rfl,Ha,R1,Rn,hk,hth⟩
 have Uf:=Lib.hid (Pj.out.add (c:=.which) ht hk hth ⟨b0,rfl,Pj.out.bx (b0,106,47,cR p) (by simp [tS])⟩)
 have cw:w1.cell? ⟨b0+1+1+1+1,0,none⟩=some (.slice (some ⟨b0+3,0,none⟩) 32 32):=Uf.out.bx.cell (b:=b0+4) (k:=106) (ty:=91) (by simp [tS])
 have Qo:Hid (By w tag t θ last p q b0 D cd ended (.which::(List.range 0).map Cl.copy) w1):=Lib.hid ⟨_,_,_,_,Uf.out⟩
 clear hk hth HC cq hlq Pj
 go_wp2_with fail
 go_loopw [14] (fun i wr=>∃k:Nat,k<=32/\i=.int .i64 k/\Hid (By w tag t θ last p q b0 D cd ended (.which::(List.range k).map Cl.copy) wr)) (fun i _=>32-(intOf i).toNat)
 case atStart=>exact⟨0,by omega,rfl,Qo⟩
 case round=>
  clear Qo Uf cw
  obtain⟨k,hk,rfl,hS⟩:=hrel
  by_cases hkn:k<32
  .have q1:(k:Int)<32:=by omega
   obtain⟨Ha,R1,Rn,Mo,hI⟩:=hS.out
   have hlen:=hI.rs.len
   simp only[List.length_cons,List.length_map,List.length_range]at hlen
   have La:=Lib.hid (hI.below ((Below.refl wr.heap.size wr).alloc (Nat.le_refl _) (.cells #[.int .i64 (k:Int)] 3)) (cO wr Ha 106))
   have cq:wr.cell? ⟨b0+1,0,none⟩=some (.pointer (some ⟨q,0,none⟩)):=hI.bx.cell (k:=106) (ty:=63) (by simp [tS,cR])
   have hlq:b0+1<wr.heap.size:=hI.bx.lt (k:=106) (ty:=63) (v:=cR q) (by simp [tS])
   have HX:Hid ((cG wr Ha 106) wr.heap.size=106/\aY (wr.alloc (.cells #[.int .i64 (k:Int)] 3)) wr.heap.size 3 #[.int .i64 (k:Int)]):=Lib.hid ⟨dT _ _ _ (Nat.le_refl _),aY.new _ _ _⟩
   have HC:=Lib.hid (jF La.out.th 5 138 #[.pointer (some ⟨b0,0,none⟩),.pointer (some ⟨b0+1+1,0,none⟩),.pointer (some ⟨wr.heap.size,0,none⟩),.pointer (some ⟨b0+1+1+1+1,0,none⟩),.pointer (some ⟨b0+1,0,none⟩),.pointer (some ⟨b0+1+1+1+1+1,0,none⟩)] 5 rfl (by omega))
   have hR:=La.out.bx
   have Kq:=Lib.hid (show(Cl.copy k).At (wr.alloc (.cells #[.int .i64 (k:Int)] 3)) (cG wr Ha 106) (DS p q b0) (td 5 (fv 138 #[.pointer (some ⟨b0,0,none⟩),.pointer (some ⟨b0+1+1,0,none⟩),.pointer (some ⟨wr.heap.size,0,none⟩),.pointer (some ⟨b0+1+1+1+1,0,none⟩),.pointer (some ⟨b0+1,0,none⟩),.pointer (some ⟨b0+1+1+1+1+1,0,none⟩)]))from⟨b0,wr.heap.size,b0+4,b0+1,rfl,hR (b0,106,47,cR p) (by simp [tS]),HX.out,hR (b0+4,106,91,.slice (some ⟨b0+3,0,none⟩) 32 32) (by simp [tS]),hR (b0+1,106,63,cR q) (by simp [tS])⟩)
   clear hI hS hR HX
   go_wp2_with fail
   with_reducible refine HC.out.mono ?_
   rintro e w2 ⟨rfl,Kb,R2,Sk,Hp,Nd⟩
   have Mu:=Lib.hid (La.out.add (c:=.copy k) ht Hp Nd Kq.out)
   have Sz:Hid (By w tag t θ last p q b0 D cd ended (.which::(List.range (k+1)).map Cl.copy) w2):=Lib.hid ⟨_,_,_,_,by
    have:=Mu.out
    rw[show(.which::(List.range k).map Cl.copy)++[Cl.copy k]=.which::(List.range (k+1)).map Cl.copy by rw[List.range_succ,List.map_append];rfl]at this
    exact this⟩
   clear HC Kq La Mu Hp Nd
   go_wp2
   go_roundw
   case rel=>exact⟨k+1,by omega,by go_num,Sz⟩
   case measure=>simp [intOf];omega
  .obtain rfl:k=32:=by omega
   have q1:¬((32:Nat):Int)<32:=by omega
   have HF:Hid (∃tag' env RA' cr' rows',Kg (eJ t) w tag wr tag'/\(env.p=p/\env.q=q)/\lT wr tag' t θ last q RA' cr' D cd rows' ended/\dD wr tag' env (.which::kG 0) rows'/\oM wr tag' env.v (130+t) 0/\rN wr tag' t env.l []/\lF wr tag' t env.w fun _=>0):=Lib.hid (by
    obtain⟨Ha,R1,Rn,Mo,hI⟩:=hS.out
    refine⟨Ha,DS p q b0,R1,Rn,Mo,hI.k,⟨rfl,rfl⟩,hI.th,?_,hI.bx (b0+2,130+t,23,.int .u64 0) (by simp [tS]),hI.l,hI.wd⟩
    have:=hI.rs
    rw[show(List.range 32).map Cl.copy=kG 0 by unfold kG;simp]at this
    exact this)
   clear hS
   go_wp2
   refine bodyPost_end (v:=.tuple #[]) (by simp [results,results127,go_sem]) rfl ?_
   obtain⟨t',en,ra,c',rs,h1,h2,h3,h4,h5,h6,h7⟩:=HF.out
   exact⟨rfl,t',h1,en,h2,ra,c',rs,h3,h4,h5,h6,h7⟩
end
end
end Go.Proofs.YtplpimkgihnmhaaGreatDoor
