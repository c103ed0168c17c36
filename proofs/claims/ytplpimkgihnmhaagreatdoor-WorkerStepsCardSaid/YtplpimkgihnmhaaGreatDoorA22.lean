/-
  Part of a proof: ShM ShW ShS ShX. For all values.
-/
import Derived.Test.YtplpimkgihnmhaaGreatDoorA19
import Derived.Test.YtplpimkgihnmhaaGreatDoorA21
set_option maxRecDepth 100000
set_option maxHeartbeats 400000
set_option linter.all false
namespace Go.Proofs.YtplpimkgihnmhaaGreatDoor
open Go.Proofs.Tryz Go.RowKit
section
structure cQ where
 does:Nat
 a:Int
 k:Int
 v:Int
 tg:Int
 said:Bool
 i:Nat
 ver:Nat
 r:Nat->Int
 asks:Nat->Nat->Int
 na:Nat
 deeds:List (List Value)
 seen:Nat->Int
 o1:Int
 o2:Int
 wn:Int
def cQ.new:cQ:=⟨0,0,0,0,0,false,0,0,fun _=>0,fun _ _=>0,0,[],fun _=>0,0,0,0⟩
def cQ.call(a k v tg:Int)(again:Bool):cQ:=⟨if again then 17 else 1,a,k,v,tg,false,0,0,fun _=>0,fun _ _=>0,0,[],fun _=>0,0,0,0⟩
def dU(v:Nat):Nat:=8+v%2*32
def eI(m:Nat->Int)(a:Nat)(x:Int)(i:Nat):Int:=if i=a then x else m i
def fN(a k v:Int):Int:=(a*65536+k)*4294967296+v
def IV(x:Int):Int:=if cB (x/4294967296/65536) (x/4294967296%65536) (x%4294967296)=true then x/4294967296/65536 else 0
def KE(x:Int):Int:=if cB (x/4294967296/65536) (x/4294967296%65536) (x%4294967296)=true then x/4294967296%65536 else 0
def ID(x:Int):Int:=if cB (x/4294967296/65536) (x/4294967296%65536) (x%4294967296)=true then x%4294967296 else 0
def PS(x:Int):Int:=if x<=9223372036854775807 then x else x-18446744073709551616
namespace cQ
variable(θ:cQ)
def go(d:Nat):cQ:={θ with does:=d}
def next(n d:Nat):cQ:=if θ.i+1=n then{θ with i:=0,does:=d}else{θ with i:=θ.i+1}
noncomputable def all (t:Nat):cQ:=
 if θ.does=8 then{θ with r:=dW (bz θ.asks θ.r θ.na),deeds:=bd θ.asks θ.r θ.na,o1:=nV (dW (bz θ.asks θ.r θ.na)) t,o2:=nW (dW (bz θ.asks θ.r θ.na)) t,wn:=nL (dW (bz θ.asks θ.r θ.na)) t}else θ
def ask(g:Int):cQ:={θ with asks:=fun j c=>if j=θ.na then(if c=0 then(θ.i:Int)else if c=1 then g else 0)else θ.asks j c,na:=θ.na+1,does:=7}
def fill(x:Int):cQ:={θ with asks:=fun j c=>if j+1=θ.na/\2<=c then(if c=2 then IV x else if c=3 then KE x else ID x)else θ.asks j c,does:=6}
end cQ
structure ZV where
 m:Nat->Int
 s:cN
 t:cQ
 fin:Bool
noncomputable def stp (t:Nat) (m:Nat->Int) (s:cN) (θ:cQ):ZV:=
 match θ.does with
 |1=>⟨eI m (2+2*t) (fN θ.a θ.k θ.v),s,θ.go 2,false⟩
 |2=>⟨eI m (3+2*t) (θ.tg+1),s,{θ with said:=true,does:=3},false⟩
 |3=>if m 0=0 then⟨eI m 0 (t+1),s,θ.go 4,false⟩else⟨m,s,θ.go 17,false⟩
 |4=>⟨m,s,{θ with ver:=(m 1).toNat,i:=0,does:=5,na:=0,asks:=fun _ _=>0},false⟩
 |5=>⟨m,s,{θ with r:=fun j=>if j=θ.i then s.now (dU θ.ver+θ.i)else θ.r j}.next 32 6,false⟩
 |6=>if m (3+2*θ.i)≠0/\m (3+2*θ.i)-1≠jA θ.r θ.i then⟨m,s,θ.ask (m (3+2*θ.i)-1),false⟩else⟨m,s,(θ.next 4 8).all t,false⟩
 |7=>⟨m,s,((θ.fill (m (2+2*θ.i))).next 4 8).all t,false⟩
 |8=>⟨m,s.save (dU (θ.ver+1)+θ.i) (θ.r θ.i),θ.next 32 9,false⟩
 |9=>⟨m,s.flush t (dU (θ.ver+1)/8+θ.i),θ.next 4 10,false⟩
 |10=>⟨m,s.fence t,θ.go 11,false⟩
 |11=>⟨m,s.save 0 (θ.ver+1:Nat),θ.go 12,false⟩
 |12=>⟨m,s.flush t 0,θ.go 13,false⟩
 |13=>⟨m,s.fence t,θ.go 14,false⟩
 |14=>⟨eI m 1 (θ.ver+1:Nat),s,θ.go 15,false⟩
 |15=>⟨eI m 0 0,s,θ.go 16,false⟩
 |16=>⟨m,s,θ.go 0,true⟩
 |17=>⟨m,s,{θ with ver:=(m 1).toNat,does:=18},false⟩
 |18=>⟨m,s,{θ with seen:=fun j=>if j=0 then s.now (dU θ.ver+26)else θ.seen j,does:=19},false⟩
 |19=>⟨m,s,{θ with seen:=fun j=>if j=1 then s.now (dU θ.ver+18+t)else θ.seen j,does:=20},false⟩
 |20=>⟨m,s,{θ with seen:=fun j=>if j=2 then s.now (dU θ.ver+22+t)else θ.seen j,does:=21},false⟩
 |21=>if m 1=θ.ver/\(if gO (θ.seen 0).toNat t=true then 1 else 0)=θ.tg then⟨m,s,{θ with o1:=rZ (θ.seen 1),o2:=tU (θ.seen 1),wn:=PS (θ.seen 2),does:=0},true⟩
      else⟨m,s,θ.go (if θ.said=true then 3 else 1),false⟩
 |_=>⟨m,s,θ,false⟩
structure pW (now:Nat->Int) (u:Nat):Prop where
 ok:eE fun i=>now (dU u+i)
 ver:now (dU u+27)=u
 cnt:now (dU u+28)<=4*u
def Am(s:cN)(u:Nat):Prop:=∀i,i<32->s.good (dU u+i)=s.now (dU u+i)
def bO(d:Nat):Prop:=4<=d/\d<=15
def jL(f:Nat->Nat->Int)(n:Nat):Prop:=∀j,j<n->0<=f j 0/\f j 0<4/\(f j 1=0\/f j 1=1)/\gQ (f j 2) (f j 3) (f j 4)
structure GQ (r:Nat->Int) (u:Nat):Prop where
 ok:eE r
 ver:r 27=u
 cnt:r 28<=4*u
 bd:∀i,i<32->0<=r i/\r i<18446744073709551616
def LR(r:List Value):Prop:=∃x0 x1 x2 x3 x4 x5:Int,r=[.int .i64 x0,.int .i64 x1,.int .i64 x2,.int .i64 x3,.int .i64 x4,.int .i64 x5]
def oS(l:List (List Value)):Prop:=l.length<=4/\∀r∈l,LR r
theorem wK(f:Nat->Nat->Int)(z:Nat->Int):∀k,(bd f z k).length<=k/\∀r∈bd f z k,LR r
 |0=>⟨Nat.le_refl _,fun r h=>by simp [bd]at h⟩
 |k+1=>by
  obtain⟨h1,h2⟩:=wK f z k
  rw[bd]
  split
  .refine⟨by simp;omega,fun r h=>?_⟩
   rcases List.mem_append.1 h with h|h
   .exact h2 r h
   simp only[List.mem_cons,List.not_mem_nil,or_false]at h
   subst h
   exact⟨_,_,_,_,_,_,rfl⟩
  .exact⟨I,h2⟩
def fO(m:Nat->Int)(s:cN)(V:Nat)(t:Nat)(θ:cQ):Prop:=
 match θ.does with
 |4=>True
 |5=>θ.ver=V/\θ.na=0/\θ.i<32/\∀j,j<θ.i->θ.r j=s.now (dU V+j)
 |6=>θ.ver=V/\θ.i<4/\θ.na<=θ.i/\(∀j,j<32->θ.r j=s.now (dU V+j))/\jL θ.asks θ.na
 |7=>θ.ver=V/\θ.i<4/\θ.na=θ.na-1+1/\θ.na-1<=θ.i/\(∀j,j<32->θ.r j=s.now (dU V+j))/\jL θ.asks (θ.na-1)/\θ.asks (θ.na-1) 0=θ.i/\(θ.asks (θ.na-1) 1=0\/θ.asks (θ.na-1) 1=1)/\m (3+2*θ.i)≠0
 |8=>oS θ.deeds/\θ.ver=V/\θ.i<32/\GQ θ.r (V+1)/\∀j,j<θ.i->s.now (dU (V+1)+j)=θ.r j
 |9=>oS θ.deeds/\θ.ver=V/\θ.i<4/\GQ θ.r (V+1)/\(∀j,j<32->s.now (dU (V+1)+j)=θ.r j)/\∀j,j<θ.i->s.want t (dU (V+1)/8+j)=true
 |10=>oS θ.deeds/\θ.ver=V/\GQ θ.r (V+1)/\(∀j,j<32->s.now (dU (V+1)+j)=θ.r j)/\∀j,j<4->s.want t (dU (V+1)/8+j)=true
 |11=>oS θ.deeds/\θ.ver=V/\GQ θ.r (V+1)/\(∀j,j<32->s.now (dU (V+1)+j)=θ.r j)/\Am s (V+1)
 |12=>θ.ver+1=V
 |13=>θ.ver+1=V/\s.want t 0=true
 |14=>θ.ver+1=V/\s.good 0=V
 |15=>s.good 0=V
 |_=>False
structure eX (m:Nat->Int) (s:cN) (th:Nat->cQ) (V:Nat):Prop where
 ok:s.Ok
 ram:∀i,i<16->0<=m i/\m i<18446744073709551616
 ver:s.now 0=V
 rec_:pW s.now V
 dur:Am s V
 good:s.good 0=V\/((∃t,t<4/\((th t).does=12\/(th t).does=13))/\s.good 0+1=V/\1<=V/\pW s.now (V-1)/\Am s (V-1))
 does:∀t,t<4->(th t).does<=21
 op:∀t,t<4->(th t).does≠0->gQ (th t).a (th t).k (th t).v/\((th t).tg=0\/(th t).tg=1)
 lock:(m 0=0/\∀t:Nat,t<4->¬bO (th t).does)\/∃t:Nat,t<4/\m 0=(t:Int)+1/\bO (th t).does/\fO m s V t (th t)/\∀u,u<4->u≠t->¬bO (th u).does
 done:(m 1=V/\∀t,t<4->¬(12<=(th t).does/\(th t).does<=14))\/((∃t,t<4/\12<=(th t).does/\(th t).does<=14)/\m 1+1=V)
 asks:∀i,i<4->(m (3+2*i)=0\/m (3+2*i)=1\/m (3+2*i)=2)/\(m (3+2*i)≠0->∃a k v,gQ a k v/\m (2+2*i)=fN a k v)
 said:∀t,t<4->(th t).does=2->∃a k v,gQ a k v/\m (2+2*t)=fN a k v
def jG(th:Nat->cQ)(t:Nat)(θ:cQ)(u:Nat):cQ:=if u=t then θ else th u
theorem cD(th:Nat->cQ)(t:Nat)(θ:cQ):jG th t θ t=θ:=iP rfl
theorem dK(th:Nat->cQ){t u:Nat}(θ:cQ)(h:u≠t):jG th t θ u=th u:=iN h
section
variable{m:Nat->Int}{s:cN}{th:Nat->cQ}{V:Nat}
theorem fY(h:eX m s th V){t:Nat}(ht:t<4)(h0:¬bO (th t).does){θ:cQ}(h1:¬bO θ.does)(Ta:θ.does<=21)(hop:θ.does≠0->gQ θ.a θ.k θ.v/\(θ.tg=0\/θ.tg=1))
 (hs:θ.does=2->∃a k v,gQ a k v/\m (2+2*t)=fN a k v):eX m s (jG th t θ) V:=by
 have hx:∀u,bO (jG th t θ u).does->u≠t/\bO (th u).does:=fun u hu=>by
  by_cases e:u=t
  .subst e;rw[cD]at hu;exact absurd hu h1
  rw[dK _ _ e]at hu;exact⟨e,hu⟩
 have hy:∀u,bO (th u).does->u≠t:=fun u hu e=>h0 (e▸hu)
 refine⟨h.ok,h.ram,h.ver,h.rec_,h.dur,?_,fun u hu=>?_,fun u hu hne=>?_,?_,?_,h.asks,fun u hu h2=>?_⟩
 .rcases h.good with g|⟨⟨u,hu,hd⟩,g⟩
  .exact .inl g
  refine .inr ⟨⟨u,hu,?_⟩,g⟩
  rw[dK _ _ (hy u (by unfold bO;omega))]
  exact hd
 .by_cases e:u=t
  .subst e;rw[cD];exact Ta
  rw[dK _ _ e];exact h.does u hu
 .by_cases e:u=t
  .subst e;rw[cD]at hne⊢;exact hop hne
  rw[dK _ _ e]at hne⊢;exact h.op u hu hne
 .rcases h.lock with⟨hm,hn⟩|⟨u,hu,hm,hin,hh,hn⟩
  .exact .inl ⟨hm,fun u hu Zk=>hn u hu (hx u Zk).2⟩
  have e:=hy u hin
  refine .inr ⟨u,hu,hm,by rw[dK _ _ e];exact hin,by rw[dK _ _ e];exact hh,fun x Iy hx2 hx3=>hn x Iy hx2 (hx x hx3).2⟩
 .rcases h.done with⟨hm,hn⟩|⟨⟨u,hu,hd⟩,hm⟩
  .refine .inl ⟨hm,fun u hu hd=>?_⟩
   have:=hx u (by unfold bO;omega)
   rw[dK _ _ this.1]at hd
   exact hn u hu hd
  refine .inr ⟨⟨u,hu,?_⟩,hm⟩
  rw[dK _ _ (hy u (by unfold bO;omega))]
  exact hd
 by_cases e:u=t
 .subst e;rw[cD]at h2;exact hs h2
 rw[dK _ _ e]at h2;exact h.said u hu h2
theorem PF{i:Nat}{x:Int}{t:Nat}{θ:cQ}(hk:∀j,j<4->m (3+2*j)≠0->eI m i x (3+2*j)≠0)(h:fO m s V t θ):fO (eI m i x) s V t θ:=by
 unfold fO at h⊢
 split at h<;>try exact h
 obtain⟨h1,h2,h3,h4,h5,h6,h7,h8,h9⟩:=h
 exact⟨h1,h2,h3,h4,h5,h6,h7,h8,hk _ h2 h9⟩
theorem CF(h:eX m s th V){i:Nat}{x:Int}(h2:2<=i)(hk:∀j,j<4->m (3+2*j)≠0->eI m i x (3+2*j)≠0)(hx:0<=x/\x<18446744073709551616)(ha:∀j,j<4->(eI m i x (3+2*j)=0\/eI m i x (3+2*j)=1\/eI m i x (3+2*j)=2)/\(eI m i x (3+2*j)≠0->∃a k v,gQ a k v/\eI m i x (2+2*j)=fN a k v))
 (hs:∀t,t<4->(th t).does=2->∃a k v,gQ a k v/\eI m i x (2+2*t)=fN a k v):eX (eI m i x) s th V:=by
 have e0:eI m i x 0=m 0:=iN I
 have e1:eI m i x 1=m 1:=iN I
 refine⟨h.ok,fun j hj=>?_,h.ver,h.rec_,h.dur,h.good,h.does,h.op,by rw[e0];exact h.lock.imp id (fun⟨u,a,b,c,d,e⟩=>⟨u,a,b,c,PF hk d,e⟩),by rw[e1];exact h.done,ha,hs⟩
 unfold eI
 split
 .exact hx
 exact h.ram j hj
theorem CA{a k v:Int}(h:gQ a k v):0<=fN a k v/\fN a k v<18446744073709551616:=by
 obtain⟨h1,h2,h3,h4,h5,h6⟩:=h
 unfold fN
 omega
theorem EZ{a k v:Int}(h:gQ a k v):IV (fN a k v)=a/\KE (fN a k v)=k/\ID (fN a k v)=v:=by
 have ho:=eN.2 h
 obtain⟨h1,h2,h3,h4,h5,h6⟩:=h
 have e1:fN a k v/4294967296/65536=a:=by unfold fN;omega
 have e2:fN a k v/4294967296%65536=k:=by unfold fN;omega
 have e3:fN a k v%4294967296=v:=by unfold fN;omega
 unfold IV KE ID
 rw[e1,e2,e3,iP ho,iP ho,iP ho]
 exact⟨rfl,rfl,rfl⟩
theorem RT(h:eX m s th V){t:Nat}(ht:t<4)(h0:bO (th t).does)(Ub:¬(12<=(th t).does/\(th t).does<=14)){θ:cQ}(h1:bO θ.does)(Xc:¬(12<=θ.does/\θ.does<=14))(hop:gQ θ.a θ.k θ.v/\(θ.tg=0\/θ.tg=1))
 (hh:fO m s V t (th t)->fO m s V t θ):eX m s (jG th t θ) V:=by
 have h2:∃u:Nat,u<4/\m 0=(u:Int)+1/\bO (th u).does/\fO m s V u (th u)/\∀x,x<4->x≠u->¬bO (th x).does:=by
  rcases h.lock with⟨hm,hn⟩|h3
  .exact absurd h0 (hn t ht)
  exact h3
 obtain⟨u,hu,hm,hin,hheld,hn⟩:=h2
 have hut:u=t:=by
  by_cases e:t=u
  .exact e.symm
  exact absurd h0 (hn t ht e)
 subst hut
 refine⟨h.ok,h.ram,h.ver,h.rec_,h.dur,?_,fun x hx=>?_,fun x hx hne=>?_,?_,?_,h.asks,fun x hx h2=>?_⟩
 .rcases h.good with g|⟨⟨x,hx,hd⟩,g⟩
  .exact .inl g
  by_cases e:x=u
  .subst e;omega
  exact absurd (show bO (th x).does by unfold bO;omega) (hn x hx e)
 .by_cases e:x=u
  .subst e;rw[cD];have:=h1.2;omega
  rw[dK _ _ e];exact h.does x hx
 .by_cases e:x=u
  .subst e;rw[cD];exact hop
  rw[dK _ _ e]at hne⊢;exact h.op x hx hne
 .refine .inr ⟨u,hu,hm,by rw[cD];exact h1,by rw[cD];exact hh hheld,fun x hx hxe=>by rw[dK _ _ hxe];exact hn x hx hxe⟩
 .rcases h.done with⟨Vz,hd⟩|⟨⟨x,hx,hd⟩,Vz⟩
  .refine .inl ⟨Vz,fun x hx hd2=>?_⟩
   by_cases e:x=u
   .subst e;rw[cD]at hd2;exact Xc hd2
   rw[dK _ _ e]at hd2;exact hd x hx hd2
  by_cases e:x=u
  .subst e;exact absurd hd Ub
  exact absurd (show bO (th x).does by unfold bO;omega) (hn x hx e)
 by_cases e:x=u
 .subst e;rw[cD]at h2;have:=h1.1;omega
 rw[dK _ _ e]at h2;exact h.said x hx h2
end
theorem nF{z z':Nat->Int}(h:∀i,i<32->z' i=z i)(hr:eE z):eE z':=by
 obtain⟨⟨h1,h2,h3,h4⟩,h5,h6,h7,h8⟩:=hr
 have hk:dH z'=dH z:=by unfold dH;rw[h 0 I]
 refine⟨⟨by rw[hk];exact kO (fun i hi=>h (1+i) I) h1,by rw[h 26 I];exact h2,by rw[h 28 I];exact h3,by rw[h 27 I];exact h4⟩,fun t ht=>?_,by rw[h 29 I];exact h6,by rw[h 30 I];exact h7,by rw[h 31 I];exact h8⟩
 obtain⟨⟨a1,a2,a3⟩,a4⟩:=h5 t ht
 unfold pV BL
 rw[h (18+t) I,h (22+t) I,h 28 I]
 exact⟨⟨a1,a2,a3⟩,fun u hu hne=>by rw[h (22+u) I];exact a4 u hu hne⟩
theorem YH{z r:Nat->Int}(h0:0<=r 0/\r 0<4)(h1:r 1=0\/r 1=1)(ho:gQ (r 2) (r 3) (r 4))(hc:z 28<=1099511627776):gR z r=0:=by
 unfold gR
 rw[iN I,iN I]
 split
 .rfl
 rw[iN (fun h=>h.elim (fun h=>by rw[eN.2 ho]at h;cases h) (fun h=>by omega))]
theorem WD{z r:Nat->Int}(h:gR z r=0):sD z r 27=z 27/\sD z r 28<=z 28+1:=by
 unfold sD
 split
 .rename_i ho
  obtain⟨h4,_⟩:=uO h ho
  unfold dZ
  rw[wR _ _ _ _ h4,sU _ _ _ _ h4]
  exact⟨rfl,Int.le_refl _⟩
 exact⟨rfl,I⟩
theorem tZ{f:Nat->Nat->Int}{z:Nat->Int}{n:Nat}(hr:eE z)(hb:∀i,i<32->0<=z i/\z i<18446744073709551616)(ha:jL f n)(hc:z 28+n<=1099511627776):∀k,k<=n->
 rT (bz f z k)/\(∀i,i<32->0<=bz f z k i/\bz f z k i<18446744073709551616)/\bz f z k 27=z 27/\bz f z k 28<=z 28+k/\∀j,j<k->gR (bz f z j) (f j)=0
 |0,_=>⟨(iD.1 hr).1,hb,rfl,by show z 28<=_;omega,fun j hj=>absurd hj I⟩
 |k+1,hk=>by
  obtain⟨h1,h2,h3,h4,h5⟩:=tZ hr hb ha hc k I
  obtain⟨a0,a1,a2,a3⟩:=ha k I
  have he:gR (bz f z k) (f k)=0:=YH ⟨a0,a1⟩ a2 a3 I
  obtain⟨b1,b2⟩:=WD he
  refine⟨by rw[bz];exact wV h1 h2 he,?_,by rw[bz,b1,h3],by rw[bz];omega,fun j hj=>?_⟩
  .rw[bz]
   unfold sD
   split
   .rename_i ho
    obtain⟨q1,q2,q3,q4,q5⟩:=uO he ho
    exact fun i hi=>ZT (iD.2 ⟨h1,q5⟩) h2 q4 i hi
   exact h2
  .rcases Nat.lt_or_ge j k with q|q
   .exact h5 j q
   obtain rfl:j=k:=I
   exact he
theorem rK{z:Nat->Int}(h:rT z)(Xz:z 28<=1099511627776)(Qx:z 27+1<=1099511627776):eE (dW z):=by
 have e:∀i,i≠27->dW z i=z i:=fun i hi=>iN hi
 have Ul:dW z 27=z 27+1:=iP rfl
 obtain⟨h1,h2,h3,h4,h5,h6⟩:=h
 have hk:dH (dW z)=dH z:=by unfold dH;rw[e 0 I]
 refine⟨⟨by rw[hk];exact kO (fun i hi=>e (1+i) I) h1,by rw[e 26 I];exact h2,by rw[e 28 I];exact Xz,by rw[Ul];exact Qx⟩,fun t ht=>?_,by rw[e 29 I];exact h6.1,by rw[e 30 I];exact h6.2.1,by rw[e 31 I];exact h6.2.2⟩
 obtain⟨⟨a1,a2,a3⟩,a4⟩:=h5 t ht
 unfold pV BL
 rw[e (18+t) I,e (22+t) I,e 28 I]
 exact⟨⟨a1,a2,a3⟩,fun u hu hne=>by rw[e (22+u) I];exact a4 u hu hne⟩
theorem RP{f:Nat->Nat->Int}{z:Nat->Int}{n V:Nat}(h:GQ z V)(ha:jL f n)(hn:n<=4)(hV:4*V+4<=1099511627776):GQ (dW (bz f z n)) (V+1):=by
 have hc:=h.cnt
 obtain⟨h1,h2,h3,h4,_⟩:=tZ h.ok h.bd ha I n (Nat.le_refl _)
 have hv:=h.ver
 have Ul:dW (bz f z n) 27=bz f z n 27+1:=iP rfl
 have e28:dW (bz f z n) 28=bz f z n 28:=iN I
 refine⟨rK h1 I I,by rw[Ul,h3,hv];omega,by rw[e28];omega,sZ h1 h2⟩
theorem tK{s:cN}{r:Nat->Int}{V:Nat}(ho:s.Ok)(h:pW s.now V)(hr:∀j,j<32->r j=s.now (dU V+j)):GQ r V:=
 ⟨nF hr h.ok,by rw[hr 27 I];exact h.ver,by rw[hr 28 I];exact h.cnt,fun i hi=>by rw[hr i hi];exact ho.now _ (by unfold dU;omega)⟩
section
variable{m:Nat->Int}{s:cN}{V t:Nat}{θ:cQ}
theorem sV{n d:Nat}(h:θ.i+1=n):θ.next n d={θ with i:=0,does:=d}:=iP h
theorem vL{n d:Nat}(h:θ.i+1≠n):θ.next n d={θ with i:=θ.i+1}:=iN h
theorem CH(ho:s.Ok)(hr:pW s.now V)(hV:4*V+4<=1099511627776)(hi:θ.i<4)(hv:θ.ver=V)(hn:θ.na<=θ.i+1)(hq:∀j,j<32->θ.r j=s.now (dU V+j))(hk:jL θ.asks θ.na)(hd:θ.does=6):
 fO m s V t ((θ.next 4 8).all t)/\(6<=((θ.next 4 8).all t).does/\((θ.next 4 8).all t).does<=8)/\((θ.next 4 8).all t).a=θ.a/\((θ.next 4 8).all t).k=θ.k/\((θ.next 4 8).all t).v=θ.v/\((θ.next 4 8).all t).tg=θ.tg:=by
 by_cases e:θ.i+1=4
 .rw[sV e]
  have e2:({θ with i:=0,does:=8}:cQ).all t={θ with i:=0,does:=8,r:=dW (bz θ.asks θ.r θ.na),deeds:=bd θ.asks θ.r θ.na,o1:=nV (dW (bz θ.asks θ.r θ.na)) t,o2:=nW (dW (bz θ.asks θ.r θ.na)) t,wn:=nL (dW (bz θ.asks θ.r θ.na)) t}:=by
   simp [cQ.all]
  rw[e2]
  refine⟨⟨⟨Nat.le_trans (wK _ _ _).1 I,(wK _ _ _).2⟩,hv,by show(0:Nat)<32;decide,?_,fun j hj=>absurd hj (Nat.not_lt_zero _)⟩,⟨(by decide:6<=8),(by decide:8<=8)⟩,rfl,rfl,rfl,rfl⟩
  exact RP (tK ho hr hq) hk I hV
 rw[vL e]
 have e2:({θ with i:=θ.i+1}:cQ).all t={θ with i:=θ.i+1}:=by
  simp [cQ.all,hd]
 rw[e2]
 refine⟨?_,⟨by show 6<=θ.does;omega,by show θ.does<=8;omega⟩,rfl,rfl,rfl,rfl⟩
 unfold fO
 simp only[hd]
 exact⟨hv,I,I,hq,hk⟩
theorem MX(ho:s.Ok)(hr:pW s.now V)(h1:m 1=V)(ha:∀i,i<4->(m (3+2*i)=0\/m (3+2*i)=1\/m (3+2*i)=2)/\(m (3+2*i)≠0->∃a k v,gQ a k v/\m (2+2*i)=fN a k v))
 (hV:4*V+4<=1099511627776) (hd:4<=θ.does/\θ.does<=7) (h:fO m s V t θ):
 (stp t m s θ).m=m/\(stp t m s θ).s=s/\(stp t m s θ).fin=false/\fO m s V t (stp t m s θ).t/\(4<=(stp t m s θ).t.does/\(stp t m s θ).t.does<=8)/\(stp t m s θ).t.a=θ.a/\(stp t m s θ).t.k=θ.k/\(stp t m s θ).t.v=θ.v/\(stp t m s θ).t.tg=θ.tg:=by
 rcases(by omega:θ.does=4\/θ.does=5\/θ.does=6\/θ.does=7)with d|d|d|d
 .have e:stp t m s θ=⟨m,s,{θ with ver:=(m 1).toNat,i:=0,does:=5,na:=0,asks:=fun _ _=>0},false⟩:=by simp only[stp,d]
  rw[e]
  refine⟨rfl,rfl,rfl,?_,⟨(by decide:4<=5),(by decide:5<=8)⟩,rfl,rfl,rfl,rfl⟩
  exact⟨by show(m 1).toNat=V;rw[h1];omega,rfl,by show 0<32;omega,fun j hj=>absurd hj (Nat.not_lt_zero _)⟩
 .have e:stp t m s θ=⟨m,s,{θ with r:=fun j=>if j=θ.i then s.now (dU θ.ver+θ.i)else θ.r j}.next 32 6,false⟩:=by simp only[stp,d]
  rw[e]
  unfold fO at h
  simp only[d]at h
  obtain⟨hv,hn,hi,hq⟩:=h
  by_cases ei:θ.i+1=32
  .rw[show({θ with r:=fun j=>if j=θ.i then s.now (dU θ.ver+θ.i)else θ.r j}:cQ).next 32 6={θ with r:=fun j=>if j=θ.i then s.now (dU θ.ver+θ.i)else θ.r j,i:=0,does:=6}from iP ei]
   refine⟨rfl,rfl,rfl,⟨hv,(by decide:0<4),by show θ.na<=0;omega,fun j hj=>?_,fun j hj=>?_⟩,⟨(by decide:4<=6),(by decide:6<=8)⟩,rfl,rfl,rfl,rfl⟩
   .show(if j=θ.i then s.now (dU θ.ver+θ.i)else θ.r j)=_
    by_cases q:j=θ.i
    .rw[iP q,hv,q]
    rw[iN q];exact hq j I
   have hj':j<θ.na:=hj
   omega
  rw[show({θ with r:=fun j=>if j=θ.i then s.now (dU θ.ver+θ.i)else θ.r j}:cQ).next 32 6={θ with r:=fun j=>if j=θ.i then s.now (dU θ.ver+θ.i)else θ.r j,i:=θ.i+1}from iN ei]
  refine⟨rfl,rfl,rfl,?_,⟨by show 4<=θ.does;omega,by show θ.does<=8;omega⟩,rfl,rfl,rfl,rfl⟩
  unfold fO
  simp only[d]
  refine⟨hv,hn,I,fun j hj=>?_⟩
  by_cases q:j=θ.i
  .rw[iP q,hv,q]
  rw[iN q];exact hq j I
 .unfold fO at h
  simp only[d]at h
  obtain⟨hv,hi,hn,hq,hk⟩:=h
  by_cases c:m (3+2*θ.i)≠0/\m (3+2*θ.i)-1≠jA θ.r θ.i
  .have e:stp t m s θ=⟨m,s,θ.ask (m (3+2*θ.i)-1),false⟩:=by simp only[stp,d];rw[iP c]
   rw[e]
   have hg:=(ha θ.i hi).1
   refine⟨rfl,rfl,rfl,?_,⟨(by decide:4<=7),(by decide:7<=8)⟩,rfl,rfl,rfl,rfl⟩
   refine⟨hv,hi,rfl,by show θ.na+1-1<=θ.i;omega,hq,fun j hj=>?_,?_,?_,c.1⟩
   .have hj':j<θ.na:=by have:j<θ.na+1-1:=hj;omega
    have hne:j≠θ.na:=I
    show 0<=(if j=θ.na then _ else θ.asks j 0)/\(if j=θ.na then _ else θ.asks j 0)<4/\((if j=θ.na then _ else θ.asks j 1)=0\/(if j=θ.na then _ else θ.asks j 1)=1)/\gQ (if j=θ.na then _ else θ.asks j 2) (if j=θ.na then _ else θ.asks j 3) (if j=θ.na then _ else θ.asks j 4)
    simp only[iN hne]
    exact hk j hj'
   .show(if θ.na+1-1=θ.na then _ else _)=_
    rw[iP I]
    rfl
   show(if θ.na+1-1=θ.na then _ else _)=(0:Int)\/(if θ.na+1-1=θ.na then _ else _)=(1:Int)
   rw[iP I]
   simp
   omega
  have e:stp t m s θ=⟨m,s,(θ.next 4 8).all t,false⟩:=by simp only[stp,d];rw[iN c]
  rw[e]
  obtain⟨h1,h2,h3⟩:=CH (m:=m) (t:=t) ho hr hV hi hv I hq hk d
  exact⟨rfl,rfl,rfl,h1,⟨Nat.le_trans aJ h2.1,h2.2⟩,h3⟩
 unfold fO at h
 simp only[d]at h
 obtain⟨hv,hi,Lj,hn,hq,hk,h0,hg,hw⟩:=h
 have e:stp t m s θ=⟨m,s,((θ.fill (m (2+2*θ.i))).next 4 8).all t,false⟩:=by simp only[stp,d]
 rw[e]
 obtain⟨a,k,v,hop,hx⟩:=(ha θ.i hi).2 hw
 obtain⟨x1,x2,x3⟩:=EZ hop
 have Hp:jL (θ.fill (m (2+2*θ.i))).asks (θ.fill (m (2+2*θ.i))).na:=by
  intro j hj
  have hj':j<θ.na:=hj
  have f0:∀j,(θ.fill (m (2+2*θ.i))).asks j 0=θ.asks j 0:=fun j=>iN I
  have f1:∀j,(θ.fill (m (2+2*θ.i))).asks j 1=θ.asks j 1:=fun j=>iN I
  have f2:∀j,j+1≠θ.na->∀c,(θ.fill (m (2+2*θ.i))).asks j c=θ.asks j c:=fun j h c=>iN (fun q=>h q.1)
  have g2:∀j,j+1=θ.na->(θ.fill (m (2+2*θ.i))).asks j 2=IV (m (2+2*θ.i)):=fun j h=>(iP ⟨h,I⟩).trans (iP rfl)
  have g3:∀j,j+1=θ.na->(θ.fill (m (2+2*θ.i))).asks j 3=KE (m (2+2*θ.i)):=fun j h=>(iP ⟨h,I⟩).trans ((iN aJ).trans (iP rfl))
  have g4:∀j,j+1=θ.na->(θ.fill (m (2+2*θ.i))).asks j 4=ID (m (2+2*θ.i)):=fun j h=>(iP ⟨h,I⟩).trans ((iN aJ).trans (iN aJ))
  rw[f0,f1]
  by_cases q:j+1=θ.na
  .rw[g2 j q,g3 j q,g4 j q]
   have ej:j=θ.na-1:=I
   rw[ej,h0,hx,x1,x2,x3]
   exact⟨I,I,hg,hop⟩
  rw[f2 j q,f2 j q,f2 j q]
  exact hk j I
 obtain⟨h1,h2,h3⟩:=CH (m:=m) (t:=t) (θ:=θ.fill (m (2+2*θ.i))) ho hr hV hi hv (by show θ.na<=θ.i+1;omega) hq Hp rfl
 exact⟨rfl,rfl,rfl,h1,⟨Nat.le_trans aJ h2.1,h2.2⟩,h3⟩
end
section
variable{m:Nat->Int}{s:cN}{th:Nat->cQ}{V:Nat}
theorem eX.holder(h:eX m s th V){t:Nat}(ht:t<4)(h0:bO (th t).does):m 0=(t:Int)+1/\fO m s V t (th t)/\∀x,x<4->x≠t->¬bO (th x).does:=by
 rcases h.lock with⟨hm,hn⟩|⟨u,hu,hm,hin,hheld,hn⟩
 .exact absurd h0 (hn t ht)
 have hut:u=t:=by
  by_cases e:t=u
  .exact e.symm
  exact absurd h0 (hn t ht e)
 subst hut
 exact⟨hm,hheld,hn⟩
theorem eX.good_of(h:eX m s th V){t:Nat}(ht:t<4)(h0:bO (th t).does)(Ze:(th t).does≠12)(h13:(th t).does≠13):s.good 0=V:=by
 obtain⟨_,_,hn⟩:=h.holder ht h0
 rcases h.good with g|⟨⟨x,hx,hd⟩,_⟩
 .exact g
 by_cases e:x=t
 .subst e;omega
 exact absurd (show bO (th x).does by unfold bO;omega) (hn x hx e)
theorem eX.done_of(h:eX m s th V){t:Nat}(ht:t<4)(h0:bO (th t).does)(Ze:¬(12<=(th t).does/\(th t).does<=14)):m 1=V:=by
 obtain⟨_,_,hn⟩:=h.holder ht h0
 rcases h.done with g|⟨⟨x,hx,hd⟩,_⟩
 .exact g.1
 by_cases e:x=t
 .subst e;omega
 exact absurd (show bO (th x).does by unfold bO;omega) (hn x hx e)
theorem eX.done_in(h:eX m s th V){t:Nat}(ht:t<4)(Ze:12<=(th t).does/\(th t).does<=14):m 1+1=V:=by
 rcases h.done with g|⟨_,g⟩
 .exact absurd Ze (g.2 t ht)
 exact g
theorem qF(h:eX m s th V){t:Nat}(ht:t<4)(h0:bO (th t).does){θ:cQ}{m':Nat->Int}{s':cN}{V':Nat}
 (ok:s'.Ok) (ram:∀i,i<16->0<=m' i/\m' i<18446744073709551616) (ver:s'.now 0=V') (rec_:pW s'.now V') (dur:Am s' V')
 (good:s'.good 0=V'\/((θ.does=12\/θ.does=13)/\s'.good 0+1=V'/\1<=V'/\pW s'.now (V'-1)/\Am s' (V'-1)))
 (Ta:θ.does<=21) (hop:θ.does≠0->gQ θ.a θ.k θ.v/\(θ.tg=0\/θ.tg=1))
 (lock:(m' 0=m 0/\bO θ.does/\fO m' s' V' t θ)\/(m' 0=0/\¬bO θ.does))
 (done:(m' 1=V'/\¬(12<=θ.does/\θ.does<=14))\/((12<=θ.does/\θ.does<=14)/\m' 1+1=V')) (hw:∀i,2<=i->m' i=m i) (h2:θ.does≠2):eX m' s' (jG th t θ) V':=by
 obtain⟨hm,_,hn⟩:=h.holder ht h0
 refine⟨ok,ram,ver,rec_,dur,?_,fun x hx=>?_,fun x hx hne=>?_,?_,?_,fun i hi=>?_,fun x hx hd=>?_⟩
 .rcases good with g|⟨g1,g2⟩
  .exact .inl g
  exact .inr ⟨⟨t,ht,by rw[cD];exact g1⟩,g2⟩
 .by_cases e:x=t
  .subst e;rw[cD];exact Ta
  rw[dK _ _ e];exact h.does x hx
 .by_cases e:x=t
  .subst e;rw[cD]at hne⊢;exact hop hne
  rw[dK _ _ e]at hne⊢;exact h.op x hx hne
 .rcases lock with⟨l1,l2,l3⟩|⟨l1,l2⟩
  .exact .inr ⟨t,ht,by rw[l1];exact hm,by rw[cD];exact l2,by rw[cD];exact l3,fun x hx hxe=>by rw[dK _ _ hxe];exact hn x hx hxe⟩
  refine .inl ⟨l1,fun x hx=>?_⟩
  by_cases e:x=t
  .subst e;rw[cD];exact l2
  rw[dK _ _ e];exact hn x hx e
 .rcases done with⟨d1,d2⟩|⟨d1,d2⟩
  .refine .inl ⟨d1,fun x hx hd=>?_⟩
   by_cases e:x=t
   .subst e;rw[cD]at hd;exact d2 hd
   rw[dK _ _ e]at hd;exact hn x hx e (by unfold bO;omega)
  exact .inr ⟨⟨t,ht,by rw[cD];exact d1⟩,d2⟩
 .rw[hw _ I,hw _ I];exact h.asks i hi
 by_cases e:x=t
 .subst e;rw[cD]at hd;exact absurd hd h2
 rw[dK _ _ e]at hd;rw[hw _ I];exact h.said x hx hd
theorem XD(V:Nat){i j:Nat}(hi:i<32)(hj:j<32):dU (V+1)+i≠dU V+j:=by unfold dU;omega
theorem pW.congr{f g:Nat->Int}{u:Nat}(h:pW f u)(e:∀i,i<32->g (dU u+i)=f (dU u+i)):pW g u:=
 ⟨nF e h.ok,by rw[e 27 I];exact h.ver,by rw[e 28 I];exact h.cnt⟩
theorem LV(h:eX m s th V){t:Nat}(ht:t<4)(d:(th t).does=8):eX (stp t m s (th t)).m (stp t m s (th t)).s (jG th t (stp t m s (th t)).t) V:=by
 have hin:bO (th t).does:=by unfold bO;omega
 obtain⟨_,hh,_⟩:=h.holder ht hin
 unfold fO at hh
 simp only[d]at hh
 obtain⟨hdd,hv,hi,hr,hq⟩:=hh
 have e:stp t m s (th t)=⟨m,s.save (dU ((th t).ver+1)+(th t).i) ((th t).r (th t).i),(th t).next 32 9,false⟩:=by simp only[stp,d]
 rw[e,hv]
 have hg:=h.good_of ht hin I I
 have hd:=h.done_of ht hin I
 have hnow:∀a,(s.save (dU (V+1)+(th t).i) ((th t).r (th t).i)).now a=if a=dU (V+1)+(th t).i then(th t).r (th t).i else s.now a:=fun a=>rfl
 have hN0:(s.save (dU (V+1)+(th t).i) ((th t).r (th t).i)).now 0=s.now 0:=by rw[hnow,iN (by unfold dU;omega)]
 have hNV:∀i,i<32->(s.save (dU (V+1)+(th t).i) ((th t).r (th t).i)).now (dU V+i)=s.now (dU V+i):=fun i hi2=>by rw[hnow,iN (fun e=>XD V hi hi2 e.symm)]
 have hop:=h.op t ht I
 refine qF h ht hin (h.ok.save _ (hr.bd _ hi)) h.ram (by show(s.save _ _).now 0=_;rw[hN0];exact h.ver) (h.rec_.congr hNV) (fun i hi2=>by show s.good _=_;rw[hNV i hi2];exact h.dur i hi2) (.inl hg) ?_ (fun _=>?_) (.inl ⟨rfl,?_,?_⟩) (.inl ⟨hd,?_⟩) (fun _ _=>rfl) ?_
 all_goals
  by_cases ei:(th t).i+1=32
  .rw[sV ei]
   first
   |(show(9:Nat)<=21;decide)
   |exact hop
   |(show bO 9;unfold bO;decide)
   |(show¬(12<=9/\9<=14);decide)
   |(show(9:Nat)≠2;decide)
   |(refine⟨hdd,hv,(by show(0:Nat)<4;decide),hr,fun j hj=>?_,fun j hj=>absurd hj (Nat.not_lt_zero _)⟩
     show(s.save _ _).now _=(th t).r j
     rw[hnow]
     by_cases q:j=(th t).i
     .rw[iP I,q]
     .rw[iN I];exact hq j I)
  .rw[vL ei]
   first
   |(show(th t).does<=21;omega)
   |exact hop
   |(show bO (th t).does;exact hin)
   |(show¬(12<=(th t).does/\(th t).does<=14);omega)
   |(show(th t).does≠2;omega)
   |(unfold fO
     simp only[d]
     refine⟨hdd,hv,I,hr,fun j hj=>?_⟩
     show(s.save _ _).now _=(th t).r j
     rw[hnow]
     by_cases q:j=(th t).i
     .rw[iP I,q]
     .rw[iN I];exact hq j I)
theorem oF(m:Nat->Int)(a:Nat)(x:Int):eI m a x a=x:=iP rfl
theorem lN(m:Nat->Int){a i:Nat}(x:Int)(h:i≠a):eI m a x i=m i:=iN h
theorem BE{m:Nat->Int}(h:∀i,i<16->0<=m i/\m i<18446744073709551616)(a:Nat){x:Int}(hx:0<=x/\x<18446744073709551616):∀i,i<16->0<=eI m a x i/\eI m a x i<18446744073709551616:=fun i hi=>by
 unfold eI
 split
 .exact hx
 exact h i hi
theorem TG(h:eX m s th V){t:Nat}(ht:t<4)(d:(th t).does=9):eX (stp t m s (th t)).m (stp t m s (th t)).s (jG th t (stp t m s (th t)).t) V:=by
 have hin:bO (th t).does:=by unfold bO;omega
 obtain⟨_,hh,_⟩:=h.holder ht hin
 unfold fO at hh
 simp only[d]at hh
 obtain⟨hdd,hv,hi,hr,hn,hq⟩:=hh
 have e:stp t m s (th t)=⟨m,s.flush t (dU ((th t).ver+1)/8+(th t).i),(th t).next 4 10,false⟩:=by simp only[stp,d]
 rw[e,hv]
 have hg:=h.good_of ht hin I I
 have hd:=h.done_of ht hin I
 have hwant:∀l,(s.flush t (dU (V+1)/8+(th t).i)).want t l=if l=dU (V+1)/8+(th t).i then true else s.want t l:=fun l=>by
  show(if t=t/\l=_ then true else s.want t l)=_
  by_cases e:l=dU (V+1)/8+(th t).i
  .rw[iP ⟨rfl,e⟩,iP e]
  rw[iN (fun q=>e q.2),iN e]
 have hop:=h.op t ht I
 refine qF h ht hin (h.ok.flush _ _) h.ram h.ver h.rec_ h.dur (.inl hg) ?_ (fun _=>?_) (.inl ⟨rfl,?_,?_⟩) (.inl ⟨hd,?_⟩) (fun _ _=>rfl) ?_
 all_goals
  by_cases ei:(th t).i+1=4
  .rw[sV ei]
   first
   |(show(10:Nat)<=21;decide)
   |exact hop
   |(show bO 10;unfold bO;decide)
   |(show¬(12<=10/\10<=14);decide)
   |(show(10:Nat)≠2;decide)
   |(refine⟨hdd,hv,hr,hn,fun j hj=>?_⟩
     show(s.flush _ _).want t _=true
     rw[hwant]
     by_cases q:j=(th t).i
     .rw[iP I]
     .rw[iN I];exact hq j I)
  .rw[vL ei]
   first
   |(show(th t).does<=21;omega)
   |exact hop
   |(show bO (th t).does;exact hin)
   |(show¬(12<=(th t).does/\(th t).does<=14);omega)
   |(show(th t).does≠2;omega)
   |(unfold fO
     simp only[d]
     refine⟨hdd,hv,I,hr,hn,fun j hj=>?_⟩
     show(s.flush _ _).want t _=true
     rw[hwant]
     by_cases q:j=(th t).i
     .rw[iP I]
     .rw[iN I];exact hq j I)
theorem oX(s:cN)(t i:Nat):(s.fence t).good i=if i/8<9/\s.want t (i/8)=true then s.now i else s.good i:=rfl
theorem zA(s:cN)(t i:Nat):(s.fence t).now i=s.now i:=rfl
theorem zF{s:cN}{u:Nat}(h:Am s u)(t:Nat):Am (s.fence t) u:=fun i hi=>by
 rw[oX,zA]
 split
 .rfl
 exact h i hi
theorem UC(h:eX m s th V){t:Nat}(ht:t<4)(d:(th t).does=10):eX (stp t m s (th t)).m (stp t m s (th t)).s (jG th t (stp t m s (th t)).t) V:=by
 have hin:bO (th t).does:=by unfold bO;omega
 obtain⟨_,hh,_⟩:=h.holder ht hin
 unfold fO at hh
 simp only[d]at hh
 obtain⟨hdd,hv,hr,hn,hq⟩:=hh
 have e:stp t m s (th t)=⟨m,s.fence t,(th t).go 11,false⟩:=by simp only[stp,d]
 rw[e]
 have hg:=h.good_of ht hin I I
 have hd:=h.done_of ht hin I
 have hop:=h.op t ht I
 refine qF h ht hin (h.ok.fence _) h.ram h.ver h.rec_ (zF h.dur t) (.inl ?_) (by show(11:Nat)<=21;decide) (fun _=>hop) (.inl ⟨rfl,by show bO 11;unfold bO;decide,⟨hdd,hv,hr,hn,fun i hi=>?_⟩⟩) (.inl ⟨hd,by show¬(12<=11/\11<=14);decide⟩) (fun _ _=>rfl) (by show(11:Nat)≠2;decide)
 .rw[oX]
  split
  .exact h.ver
  exact hg
 rw[oX,zA,iP]
 refine⟨by unfold dU;omega,?_⟩
 rw[show(dU (V+1)+i)/8=dU (V+1)/8+i/8 by unfold dU;omega]
 exact hq (i/8) I
theorem MG(h:eX m s th V){t:Nat}(ht:t<4)(d:(th t).does=11)(hV:V<1099511627776):eX (stp t m s (th t)).m (stp t m s (th t)).s (jG th t (stp t m s (th t)).t) (V+1):=by
 have hin:bO (th t).does:=by unfold bO;omega
 obtain⟨_,hh,_⟩:=h.holder ht hin
 unfold fO at hh
 simp only[d]at hh
 obtain⟨hdd,hv,hr,hn,hq⟩:=hh
 have e:stp t m s (th t)=⟨m,s.save 0 ((th t).ver+1:Nat),(th t).go 12,false⟩:=by simp only[stp,d]
 rw[e,hv]
 have hg:=h.good_of ht hin I I
 have hd:=h.done_of ht hin I
 have hop:=h.op t ht I
 have hN:∀u i,(s.save 0 ((V+1:Nat):Int)).now (dU u+i)=s.now (dU u+i):=fun u i=>by
  show(if dU u+i=0 then _ else _)=_
  rw[iN (by unfold dU;omega)]
 have hR:pW (s.save 0 ((V+1:Nat):Int)).now (V+1):=⟨nF (fun i hi=>by rw[hN];exact hn i hi) hr.ok,by rw[hN,hn 27 I];exact hr.ver,by rw[hN,hn 28 I];exact hr.cnt⟩
 refine qF h ht hin (h.ok.save 0 I) h.ram rfl hR (fun i hi=>by rw[hN];exact hq i hi) (.inr ⟨.inl rfl,by show s.good 0+1=_;rw[hg];omega,I,?_,fun i hi=>?_⟩) (by show(12:Nat)<=21;decide) (fun _=>hop) (.inl ⟨rfl,by show bO 12;unfold bO;decide,?_⟩) (.inr ⟨by show 12<=12/\12<=14;decide,by show m 1+1=_;rw[hd];omega⟩) (fun _ _=>rfl) (by show(12:Nat)≠2;decide)
 .rw[show V+1-1=V by omega]
  exact h.rec_.congr fun i hi=>hN V i
 .rw[show V+1-1=V by omega,hN]
  exact h.dur i hi
 show(th t).ver+1=V+1
 omega
theorem MR(h:eX m s th V){t:Nat}(ht:t<4)(d:(th t).does=12):eX (stp t m s (th t)).m (stp t m s (th t)).s (jG th t (stp t m s (th t)).t) V:=by
 have hin:bO (th t).does:=by unfold bO;omega
 obtain⟨_,hh,_⟩:=h.holder ht hin
 unfold fO at hh
 simp only[d]at hh
 have e:stp t m s (th t)=⟨m,s.flush t 0,(th t).go 13,false⟩:=by simp only[stp,d]
 rw[e]
 have hop:=h.op t ht I
 have hd:=h.done_in ht I
 refine qF h ht hin (h.ok.flush _ _) h.ram h.ver h.rec_ h.dur ?_ (by show(13:Nat)<=21;decide) (fun _=>hop) (.inl ⟨rfl,by show bO 13;unfold bO;decide,hh,iP ⟨rfl,rfl⟩⟩) (.inr ⟨by show 12<=13/\13<=14;decide,hd⟩) (fun _ _=>rfl) (by show(13:Nat)≠2;decide)
 rcases h.good with g|⟨_,g⟩
 .exact .inl g
 exact .inr ⟨.inr rfl,g⟩
theorem NG(h:eX m s th V){t:Nat}(ht:t<4)(d:(th t).does=13):eX (stp t m s (th t)).m (stp t m s (th t)).s (jG th t (stp t m s (th t)).t) V:=by
 have hin:bO (th t).does:=by unfold bO;omega
 obtain⟨_,hh,_⟩:=h.holder ht hin
 unfold fO at hh
 simp only[d]at hh
 have e:stp t m s (th t)=⟨m,s.fence t,(th t).go 14,false⟩:=by simp only[stp,d]
 rw[e]
 have hop:=h.op t ht I
 have hd:=h.done_in ht I
 have hg:(s.fence t).good 0=V:=by
  rw[oX,iP ⟨aJ,hh.2⟩]
  exact h.ver
 exact qF h ht hin (h.ok.fence _) h.ram h.ver h.rec_ (zF h.dur t) (.inl hg) (by show(14:Nat)<=21;decide) (fun _=>hop) (.inl ⟨rfl,by show bO 14;unfold bO;decide,hh.1,hg⟩) (.inr ⟨by show 12<=14/\14<=14;decide,hd⟩) (fun _ _=>rfl) (by show(14:Nat)≠2;decide)
theorem SY(h:eX m s th V){t:Nat}(ht:t<4)(d:(th t).does=14)(hV:V<=1099511627776):eX (stp t m s (th t)).m (stp t m s (th t)).s (jG th t (stp t m s (th t)).t) V:=by
 have hin:bO (th t).does:=by unfold bO;omega
 obtain⟨_,hh,_⟩:=h.holder ht hin
 unfold fO at hh
 simp only[d]at hh
 have e:stp t m s (th t)=⟨eI m 1 ((th t).ver+1:Nat),s,(th t).go 15,false⟩:=by simp only[stp,d]
 rw[e,hh.1]
 have hop:=h.op t ht I
 exact qF h ht hin h.ok (BE h.ram 1 I) h.ver h.rec_ h.dur (.inl hh.2) (by show(15:Nat)<=21;decide) (fun _=>hop) (.inl ⟨lN m (a:=1) (i:=0) (V:Int) aJ,by show bO 15;unfold bO;decide,hh.2⟩) (.inl ⟨oF m 1 (V:Int),by show¬(12<=15/\15<=14);decide⟩) (fun i hi=>lN _ _ I) (by show(15:Nat)≠2;decide)
theorem FW(h:eX m s th V){t:Nat}(ht:t<4)(d:(th t).does=15):eX (stp t m s (th t)).m (stp t m s (th t)).s (jG th t (stp t m s (th t)).t) V:=by
 have hin:bO (th t).does:=by unfold bO;omega
 obtain⟨_,hh,_⟩:=h.holder ht hin
 unfold fO at hh
 simp only[d]at hh
 have e:stp t m s (th t)=⟨eI m 0 0,s,(th t).go 16,false⟩:=by simp only[stp,d]
 rw[e]
 have hop:=h.op t ht I
 have hd:=h.done_of ht hin I
 exact qF h ht hin h.ok (BE h.ram 0 I) h.ver h.rec_ h.dur (.inl hh) (by show(16:Nat)<=21;decide) (fun _=>hop) (.inr ⟨oF m 0 (0:Int),by show¬bO 16;unfold bO;decide⟩) (.inl ⟨(lN m (a:=0) (i:=1) 0 aJ).trans hd,by show¬(12<=16/\16<=14);decide⟩) (fun i hi=>lN _ _ I) (by show(16:Nat)≠2;decide)
theorem ML(h:eX m s th V){t:Nat}(ht:t<4)(d:4<=(th t).does/\(th t).does<=7)(hV:4*V+4<=1099511627776):eX (stp t m s (th t)).m (stp t m s (th t)).s (jG th t (stp t m s (th t)).t) V:=by
 have hin:bO (th t).does:=by unfold bO;omega
 obtain⟨_,hh,_⟩:=h.holder ht hin
 obtain⟨e1,e2,_,e4,e5,ea,ek,ev,eg⟩:=MX (t:=t) h.ok h.rec_ (h.done_of ht hin I) h.asks hV d hh
 rw[e1,e2]
 have hop:=h.op t ht I
 exact RT h ht hin I (by unfold bO;omega) I (by rw[ea,ek,ev,eg];exact hop) (fun _=>e4)
theorem PO(h:eX m s th V){t:Nat}(ht:t<4)(d:16<=(th t).does):eX (stp t m s (th t)).m (stp t m s (th t)).s (jG th t (stp t m s (th t)).t) V:=by
 have Ta:=h.does t ht
 have hn:¬bO (th t).does:=by unfold bO;omega
 have hop:=h.op t ht I
 rcases(by omega:(th t).does=16\/(th t).does=17\/(th t).does=18\/(th t).does=19\/(th t).does=20\/(th t).does=21)with e|e|e|e|e|e
 .rw[show stp t m s (th t)=⟨m,s,(th t).go 0,true⟩ by simp only[stp,e]]
  exact fY h ht hn (by show¬bO 0;unfold bO;decide) (by show 0<=21;decide) (fun h=>absurd rfl h) (fun h=>by have h':(0:Nat)=2:=h;omega)
 .rw[show stp t m s (th t)=⟨m,s,{th t with ver:=(m 1).toNat,does:=18},false⟩ by simp only[stp,e]]
  exact fY h ht hn (by show¬bO 18;unfold bO;decide) (by show 18<=21;decide) (fun _=>hop) (fun h=>by have h':(18:Nat)=2:=h;omega)
 .rw[show stp t m s (th t)=⟨m,s,{th t with seen:=fun j=>if j=0 then s.now (dU (th t).ver+26)else(th t).seen j,does:=19},false⟩ by simp only[stp,e]]
  exact fY h ht hn (by show¬bO 19;unfold bO;decide) (by show 19<=21;decide) (fun _=>hop) (fun h=>by have h':(19:Nat)=2:=h;omega)
 .rw[show stp t m s (th t)=⟨m,s,{th t with seen:=fun j=>if j=1 then s.now (dU (th t).ver+18+t)else(th t).seen j,does:=20},false⟩ by simp only[stp,e]]
  exact fY h ht hn (by show¬bO 20;unfold bO;decide) (by show 20<=21;decide) (fun _=>hop) (fun h=>by have h':(20:Nat)=2:=h;omega)
 .rw[show stp t m s (th t)=⟨m,s,{th t with seen:=fun j=>if j=2 then s.now (dU (th t).ver+22+t)else(th t).seen j,does:=21},false⟩ by simp only[stp,e]]
  exact fY h ht hn (by show¬bO 21;unfold bO;decide) (by show 21<=21;decide) (fun _=>hop) (fun h=>by have h':(21:Nat)=2:=h;omega)
 by_cases c:m 1=(th t).ver/\(if gO ((th t).seen 0).toNat t=true then(1:Int)else 0)=(th t).tg
 .rw[show stp t m s (th t)=⟨m,s,{th t with o1:=rZ ((th t).seen 1),o2:=tU ((th t).seen 1),wn:=PS ((th t).seen 2),does:=0},true⟩ by simp only[stp,e];rw[iP c]]
  exact fY h ht hn (by show¬bO 0;unfold bO;decide) (by show 0<=21;decide) (fun h=>absurd rfl h) (fun h=>by have h':(0:Nat)=2:=h;omega)
 rw[show stp t m s (th t)=⟨m,s,(th t).go (if(th t).said=true then 3 else 1),false⟩ by simp only[stp,e];rw[iN c]]
 cases(th t).said
 .exact fY h ht hn (by show¬bO 1;unfold bO;decide) (by show 1<=21;decide) (fun _=>hop) (fun h=>by have h':(1:Nat)=2:=h;omega)
 exact fY h ht hn (by show¬bO 3;unfold bO;decide) (by show 3<=21;decide) (fun _=>hop) (fun h=>by have h':(3:Nat)=2:=h;omega)
theorem NN(h:eX m s th V){t:Nat}(ht:t<4)(d:(th t).does=1):eX (stp t m s (th t)).m (stp t m s (th t)).s (jG th t (stp t m s (th t)).t) V:=by
 have hop:=h.op t ht I
 rw[show stp t m s (th t)=⟨eI m (2+2*t) (fN (th t).a (th t).k (th t).v),s,(th t).go 2,false⟩ by simp only[stp,d]]
 have e3:∀j,eI m (2+2*t) (fN (th t).a (th t).k (th t).v) (3+2*j)=m (3+2*j):=fun j=>lN _ _ I
 have e2:∀j,j≠t->eI m (2+2*t) (fN (th t).a (th t).k (th t).v) (2+2*j)=m (2+2*j):=fun j hj=>lN _ _ I
 have e22:eI m (2+2*t) (fN (th t).a (th t).k (th t).v) (2+2*t)=fN (th t).a (th t).k (th t).v:=oF _ _ _
 have h1:eX (eI m (2+2*t) (fN (th t).a (th t).k (th t).v)) s th V:=CF h I (fun j _ hj=>by rw[e3];exact hj) (CA hop.1) (fun j hj=>by
  rw[e3]
  refine⟨(h.asks j hj).1,fun hne=>?_⟩
  by_cases e:j=t
  .rw[e,e22];exact⟨_,_,_,hop.1,rfl⟩
  .rw[e2 j e];exact(h.asks j hj).2 hne) (fun u hu h2=>by
  by_cases e:u=t
  .rw[e,e22];exact⟨_,_,_,hop.1,rfl⟩
  rw[e2 u e];exact h.said u hu h2)
 exact fY h1 ht (by unfold bO;omega) (by show¬bO 2;unfold bO;decide) (by show 2<=21;decide) (fun _=>hop) (fun _=>⟨_,_,_,hop.1,e22⟩)
theorem XM(h:eX m s th V){t:Nat}(ht:t<4)(d:(th t).does=2):eX (stp t m s (th t)).m (stp t m s (th t)).s (jG th t (stp t m s (th t)).t) V:=by
 have hop:=h.op t ht I
 have hsd:=h.said t ht d
 rw[show stp t m s (th t)=⟨eI m (3+2*t) ((th t).tg+1),s,{th t with said:=true,does:=3},false⟩ by simp only[stp,d]]
 have e2:∀j,eI m (3+2*t) ((th t).tg+1) (2+2*j)=m (2+2*j):=fun j=>lN _ _ I
 have e3:∀j,j≠t->eI m (3+2*t) ((th t).tg+1) (3+2*j)=m (3+2*j):=fun j hj=>lN _ _ I
 have e33:eI m (3+2*t) ((th t).tg+1) (3+2*t)=(th t).tg+1:=oF _ _ _
 have hg:=hop.2
 have h1:eX (eI m (3+2*t) ((th t).tg+1)) s th V:=CF h I (fun j _ hj=>by
  by_cases e:j=t
  .rw[e,e33];omega
  .rw[e3 j e];exact hj) I (fun j hj=>by
  rw[e2]
  by_cases e:j=t
  .rw[e,e33];exact⟨I,fun _=>hsd⟩
  rw[e3 j e];exact h.asks j hj) (fun u hu h2=>by rw[e2];exact h.said u hu h2)
 exact fY h1 ht (by unfold bO;omega) (by show¬bO 3;unfold bO;decide) (by show 3<=21;decide) (fun _=>hop) (fun h=>by have h':(3:Nat)=2:=h;omega)
theorem QR(h:eX m s th V){t:Nat}(ht:t<4)(d:(th t).does=3):eX (stp t m s (th t)).m (stp t m s (th t)).s (jG th t (stp t m s (th t)).t) V:=by
 have hop:=h.op t ht I
 by_cases c:m 0=0
 .rw[show stp t m s (th t)=⟨eI m 0 (t+1),s,(th t).go 4,false⟩ by simp only[stp,d];rw[iP c]]
  have hn:∀u,u<4->¬bO (th u).does:=by
   rcases h.lock with⟨_,hn⟩|⟨u,_,hm,_⟩
   .exact hn
   omega
  have hw:∀i,1<=i->eI m 0 ((t:Int)+1) i=m i:=fun i hi=>lN _ _ I
  show eX (eI m 0 ((t:Int)+1)) s (jG th t ((th t).go 4)) V
  refine⟨h.ok,BE h.ram 0 I,h.ver,h.rec_,h.dur,?_,fun x hx=>?_,fun x hx hne=>?_,?_,?_,fun i hi=>?_,fun x hx h2=>?_⟩
  .rcases h.good with g|⟨⟨x,hx,hd⟩,_⟩
   .exact .inl g
   exact absurd (show bO (th x).does by unfold bO;omega) (hn x hx)
  .by_cases e:x=t
   .subst e;rw[cD];show(4:Nat)<=21;decide
   rw[dK _ _ e];exact h.does x hx
  .by_cases e:x=t
   .subst e;rw[cD];exact hop
   rw[dK _ _ e]at hne⊢;exact h.op x hx hne
  .exact .inr ⟨t,ht,oF m 0 _,by rw[cD];show bO 4;unfold bO;decide,by rw[cD];exact trivial,fun x hx hxe=>by rw[dK _ _ hxe];exact hn x hx⟩
  .rcases h.done with⟨Vz,_⟩|⟨⟨x,hx,hd⟩,_⟩
   .refine .inl ⟨by rw[hw 1 aJ];exact Vz,fun x hx hd=>?_⟩
    by_cases e:x=t
    .subst e;rw[cD]at hd;have hd':12<=4/\4<=14:=hd;omega
    rw[dK _ _ e]at hd;exact hn x hx (by unfold bO;omega)
   exact absurd (show bO (th x).does by unfold bO;omega) (hn x hx)
  .rw[hw _ I,hw _ I]
   exact h.asks i hi
  rw[hw _ I]
  by_cases e:x=t
  .subst e;rw[cD]at h2;have h2':(4:Nat)=2:=h2;omega
  rw[dK _ _ e]at h2;exact h.said x hx h2
 rw[show stp t m s (th t)=⟨m,s,(th t).go 17,false⟩ by simp only[stp,d];rw[iN c]]
 exact fY h ht (by unfold bO;omega) (by show¬bO 17;unfold bO;decide) (by show 17<=21;decide) (fun _=>hop) (fun h=>by have h':(17:Nat)=2:=h;omega)
theorem UB(h:eX m s th V){t:Nat}(ht:t<4)(d:(th t).does≠0)(hV:4*V+4<=1099511627776):eX (stp t m s (th t)).m (stp t m s (th t)).s (jG th t (stp t m s (th t)).t) (if(th t).does=11 then V+1 else V):=by
 have Ta:=h.does t ht
 by_cases Yk:(th t).does=11
 .rw[iP Yk]
  exact MG h ht Yk I
 rw[iN Yk]
 rcases(by omega:(th t).does=1\/(th t).does=2\/(th t).does=3\/(4<=(th t).does/\(th t).does<=7)\/(th t).does=8\/(th t).does=9\/(th t).does=10\/(th t).does=12\/(th t).does=13\/(th t).does=14\/(th t).does=15\/16<=(th t).does)with e|e|e|e|e|e|e|e|e|e|e|e
 .exact NN h ht e
 .exact XM h ht e
 .exact QR h ht e
 .exact ML h ht e hV
 .exact LV h ht e
 .exact TG h ht e
 .exact UC h ht e
 .exact MR h ht e
 .exact NG h ht e
 .exact SY h ht e I
 .exact FW h ht e
 exact PO h ht e
theorem TX(h:eX m s th V){t:Nat}(ht:t<4)(d:(th t).does=0){a k v tg:Int}(ho:gQ a k v)(hg:tg=0\/tg=1):eX m s (jG th t (cQ.call a k v tg false)) V:=
 fY h ht (by unfold bO;omega) (by show¬bO 1;unfold bO;decide) (by show 1<=21;decide) (fun _=>⟨ho,hg⟩) (fun h=>by have h':(1:Nat)=2:=h;omega)
end
def pL(kind:Int)(i:Nat):Int:=if i=0 then kind else 0
theorem Aa(k:Int)(h1:1<=k)(h2:k<=6):cK k (fun _=>0):=by
 unfold cK
 have hl:gW (fun _=>(0:Int)):=⟨aJ,fun i hi=>by unfold tY;simp⟩
 split
 .exact⟨fun i hi=>⟨by show(0:Int)<=1000;decide,by show(0:Int)<=4294967295;decide⟩,rfl,aJ⟩
 split
 .exact⟨aJ,fun i hi=>by simp⟩
 split
 .exact⟨hl,aJ⟩
 exact⟨h1,I,hl⟩
theorem MC(k:Int)(h1:1<=k)(h2:k<=6):eE (pL k):=by
 have e:∀i,i≠0->pL k i=0:=fun i hi=>iN hi
 have e0:pL k 0=k:=iP rfl
 have hk:dH (pL k)=k:=by unfold dH;rw[e0,iP I]
 refine⟨⟨by rw[hk];exact kO (fun i hi=>e (1+i) I) (Aa k h1 h2),by rw[e 26 I];decide,by rw[e 28 I];decide,by rw[e 27 I];decide⟩,fun t ht=>?_,e 29 I,e 30 I,e 31 I⟩
 unfold pV BL
 rw[e (18+t) I,e (22+t) I,e 28 I]
 exact⟨⟨.inr rfl,aJ,by simp⟩,fun u hu hne=>absurd rfl hne⟩
theorem ZC(k:Int)(h1:1<=k)(h2:k<=6):eX (fun _=>0) (YX (pL k) 4) (fun _=>cQ.new) 0:=by
 have hz:∀i,0<=pL k i/\pL k i<18446744073709551616:=fun i=>by unfold pL;split<;>omega
 have hN:∀i,i<32->(YX (pL k) 4).now (dU 0+i)=pL k i:=fun i hi=>by
  show(if 8<=dU 0+i/\dU 0+i<40 then pL k (dU 0+i-8)else 0)=_
  have e:dU 0=8:=rfl
  rw[e,iP I,show 8+i-8=i by omega]
 have h0:∀i:Nat,i≠0->pL k i=0:=fun i hi=>iN hi
 refine⟨⟨fun i _=>?_,fun i _=>?_⟩,fun i _=>by decide,rfl,⟨nF hN (MC k h1 h2),by rw[hN 27 I,h0 27 I];rfl,by rw[hN 28 I,h0 28 I];decide⟩,fun i hi=>?_,.inl rfl,fun t _=>by show 0<=21;decide,fun t _ hne=>absurd rfl hne,.inl ⟨rfl,fun t _=>by show¬bO 0;unfold bO;decide⟩,.inl ⟨rfl,fun t _ hd=>by have hd':12<=0/\0<=14:=hd;omega⟩,fun i _=>⟨.inl rfl,fun hne=>absurd rfl hne⟩,fun t _ hd=>by have hd':(0:Nat)=2:=hd;omega⟩
 .show 0<=(if 8<=i/\i<40 then pL k (i-8)else 0)/\(if 8<=i/\i<40 then pL k (i-8)else 0)<_
  split
  .exact hz _
  omega
 .show 0<=(if 8<=i/\i<8+8*4/\i<40 then pL k (i-8)else 0)/\(if 8<=i/\i<8+8*4/\i<40 then pL k (i-8)else 0)<_
  split
  .exact hz _
  omega
 show(if 8<=dU 0+i/\dU 0+i<8+8*4/\dU 0+i<40 then pL k (dU 0+i-8)else 0)=(if 8<=dU 0+i/\dU 0+i<40 then pL k (dU 0+i-8)else 0)
 have e:dU 0=8:=rfl
 rw[e,iP I,iP I]
def AL(of:Nat->List (List Value))(V:Nat)(l:List (List Value))(u:Nat):List (List Value):=if u=V then l else of u
theorem eX.deeds{m:Nat->Int}{s:cN}{th:Nat->cQ}{V:Nat}(h:eX m s th V){t:Nat}(ht:t<4)(d:(th t).does=11):oS (th t).deeds/\(th t).ver=V:=by
 obtain⟨_,hh,_⟩:=h.holder ht (by unfold bO;omega)
 unfold fO at hh
 simp only[d]at hh
 exact⟨hh.1,hh.2.1⟩
def zI(t:Nat)(θ:cQ)(A D:Value)(i:Nat):Value:=
 if i=0 then .int .i64 t else if i=1 then .int .i64 (θ.does:Int)else if i=2 then .int .i64 θ.a else if i=3 then .int .i64 θ.k else if i=4 then .int .i64 θ.v else if i=5 then .int .i64 θ.tg
 else if i=6 then .bool θ.said else if i=7 then .int .i64 (θ.i:Int)else if i=8 then .int .u64 (θ.ver:Int)else if i<41 then .int .u64 (θ.r (i-9))else if i=41 then A else if i=42 then D
 else if i<46 then .int .u64 (θ.seen (i-43))else if i=46 then .int .i64 θ.o1 else if i=47 then .int .i64 θ.o2 else .int .i64 θ.wn
def kE(t:Nat)(θ:cQ)(A D:Value):Array Value:=jM 49 (zI t θ A D)
theorem sL(t:Nat)(θ:cQ)(A D:Value):(kE t θ A D).size=49:=dJ
theorem LJ(t:Nat)(θ:cQ)(A D:Value){i:Nat}(h:i<49):(kE t θ A D)[i]? =some (zI t θ A D i):=cW h
theorem ZR(t:Nat)(θ:cQ)(A D:Value){j:Nat}(h:j<32):(kE t θ A D)[9+j]? =some (.int .u64 (θ.r j)):=by
 rw[LJ _ _ _ _ I]
 unfold zI
 rw[iN I,iN I,iN I,iN I,iN I,iN I,iN I,iN I,iN I,iP I,show 9+j-9=j by omega]
theorem mV(t:Nat)(θ:cQ)(A D:Value){j:Nat}(h:j<3):(kE t θ A D)[43+j]? =some (.int .u64 (θ.seen j)):=by
 rcases(by omega:j=0\/j=1\/j=2)with rfl|rfl|rfl<;>rfl
theorem wE(t:Nat)(θ:cQ)(A D:Value)(d:Nat):(kE t θ A D).setIfInBounds 1 d=kE t {θ with does:=d} A D:=dP fun j hj=>by
 by_cases e:j=1
 .subst e;rfl
 rw[iN e]
 unfold zI
 simp only[e,if_false]
theorem SH(t:Nat)(θ:cQ)(A D:Value)(b:Bool):(kE t θ A D).setIfInBounds 6 b=kE t {θ with said:=b} A D:=dP fun j hj=>by
 by_cases e:j=6
 .subst e;rfl
 rw[iN e]
 unfold zI
 simp only[e,if_false]
theorem LL(t:Nat)(θ:cQ)(A D:Value)(n:Nat):(kE t θ A D).setIfInBounds 7 n=kE t {θ with i:=n} A D:=dP fun j hj=>by
 by_cases e:j=7
 .subst e;rfl
 rw[iN e]
 unfold zI
 simp only[e,if_false]
theorem LP(t:Nat)(θ:cQ)(A D:Value)(n:Nat):(kE t θ A D).setIfInBounds 8 [n]=kE t {θ with ver:=n} A D:=dP fun j hj=>by
 by_cases e:j=8
 .subst e;rfl
 rw[iN e]
 unfold zI
 simp only[e,if_false]
theorem CQ(t:Nat)(θ:cQ)(A D:Value)(A2:Value):(kE t θ A D).setIfInBounds 41 (A2)=kE t θ A2 D:=dP fun j hj=>by
 by_cases e:j=41
 .subst e;rfl
 rw[iN e]
 unfold zI
 simp only[e,if_false]
theorem OW(t:Nat)(θ:cQ)(A D:Value)(D2:Value):(kE t θ A D).setIfInBounds 42 (D2)=kE t θ A D2:=dP fun j hj=>by
 by_cases e:j=42
 .subst e;rfl
 rw[iN e]
 unfold zI
 simp only[e,if_false]
theorem RB(t:Nat)(θ:cQ)(A D:Value)(x:Int):(kE t θ A D).setIfInBounds 48 x=kE t {θ with wn:=x} A D:=dP fun j hj=>by
 by_cases e:j=48
 .subst e;rfl
 rw[iN e]
 unfold zI
 by_cases h47:j=47
 .subst h47;rfl
 by_cases h46:j=46
 .subst h46;rfl
 have h:j<46:=I
 simp only[h,if_true]
theorem QN(t:Nat)(θ:cQ)(A D:Value){n:Nat}(hn:n<32)(x:Int):(kE t θ A D).setIfInBounds (9+n) [x]=kE t {θ with r:=fun j=>if j=n then x else θ.r j} A D:=dP fun j hj=>by
 unfold zI
 by_cases e:j=9+n
 .subst e
  rw[iP rfl,iN I,iN I,iN I,iN I,iN I,iN I,iN I,iN I,iN I,iP I]
  dsimp only
  rw[iP I]
 rw[iN e]
 by_cases h:9<=j/\j<41
 .have e2:¬(j-9=n):=I
  simp only[e2,if_false]
 dsimp only
 by_cases h9:j<9
 .rcases(by omega:j=0\/j=1\/j=2\/j=3\/j=4\/j=5\/j=6\/j=7\/j=8)with rfl|rfl|rfl|rfl|rfl|rfl|rfl|rfl|rfl<;>rfl
 have h41:¬j<41:=I
 simp only[h41,if_false]
theorem pM(t:Nat)(θ:cQ)(A D:Value){n:Nat}(hn:n<3)(x:Int):(kE t θ A D).setIfInBounds (43+n) [x]=kE t {θ with seen:=fun j=>if j=n then x else θ.seen j} A D:=dP fun j hj=>by
 unfold zI
 by_cases e:j=43+n
 .rcases(by omega:n=0\/n=1\/n=2)with rfl|rfl|rfl<;>(subst e;rfl)
 rw[iN e]
 by_cases h:43<=j/\j<46
 .have e2:¬(j-43=n):=I
  simp only[e2,if_false]
 by_cases h9:j<43
 .have h1:(if j=41 then A else if j=42 then D else .nilIface)=(if j=41 then A else if j=42 then D else(.nilIface:Value)):=rfl
  by_cases h41:j<41
  .simp only[h41,if_true]
  rcases(by omega:j=41\/j=42)with rfl|rfl<;>rfl
 have h46:¬j<46:=I
 simp only[h46,if_false]
theorem Cw(t:Nat):kE t cQ.new (.slice none 0 0) (.slice none 0 0)= #[.int .i64 t,.int .i64 0,.int .i64 0,.int .i64 0,.int .i64 0,.int .i64 0,.bool false,.int .i64 0,.int .u64 0,.int .u64 0,.int .u64 0,.int .u64 0,.int .u64 0,.int .u64 0,.int .u64 0,.int .u64 0,.int .u64 0,.int .u64 0,.int .u64 0,.int .u64 0,.int .u64 0,.int .u64 0,.int .u64 0,.int .u64 0,.int .u64 0,.int .u64 0,.int .u64 0,.int .u64 0,.int .u64 0,.int .u64 0,.int .u64 0,.int .u64 0,.int .u64 0,.int .u64 0,.int .u64 0,.int .u64 0,.int .u64 0,.int .u64 0,.int .u64 0,.int .u64 0,.int .u64 0,.slice none 0 0,.slice none 0 0,.int .u64 0,.int .u64 0,.int .u64 0,.int .i64 0,.int .i64 0,.int .i64 0]:=rfl
structure pH where
 m:Nat->Int
 s:cN
 th:Nat->cQ
 tgl:Nat->Int
 steps:Nat
 hist:List (List Value)
 of:Nat->List (List Value)
 V:Nat
def yE(kind t a k v o1 o2 wn st:Int):List Value:=[.int .i64 kind,.int .i64 t,.int .i64 a,.int .i64 k,.int .i64 v,.int .i64 o1,.int .i64 o2,.int .i64 wn,.int .i64 st]
namespace pH
variable(σ:pH)
def new(k:Int):pH:=⟨fun _=>0,YX (pL k) 4,fun _=>cQ.new,fun _=>0,0,[],fun _=>[],0⟩
def call(t:Nat)(a k v:Int):pH:={σ with th:=jG σ.th t (cQ.call a k v (1-σ.tgl t) false),steps:=σ.steps+1,hist:=σ.hist++[yE 1 t a k v 0 0 0 (σ.steps+1:Nat)]}
noncomputable def loc (t:Nat):ZV:=stp t σ.m σ.s (σ.th t)
noncomputable def step (t:Nat):pH where
 m:=(σ.loc t).m
 s:=(σ.loc t).s
 th:=jG σ.th t (σ.loc t).t
 tgl:=if(σ.loc t).fin=true then fun u=>if u=t then(σ.th t).tg else σ.tgl u else σ.tgl
 steps:=σ.steps+1
 hist:=if(σ.loc t).fin=true then σ.hist++[yE 2 t (σ.th t).a (σ.th t).k (σ.th t).v (σ.loc t).t.o1 (σ.loc t).t.o2 (σ.loc t).t.wn (σ.steps+1:Nat)]else σ.hist
 of:=if(σ.th t).does=11 then AL σ.of (σ.V+1) (σ.th t).deeds else σ.of
 V:=if(σ.th t).does=11 then σ.V+1 else σ.V
end pH
structure lM (N:Nat) (σ:pH):Prop where
 inv:eX σ.m σ.s σ.th σ.V
 stp:σ.steps<=N
 ver:σ.V<=σ.steps
 fl:σ.s.fl<=σ.steps
 fe:σ.s.fe<=σ.steps
 hl:σ.hist.length<=σ.steps
 tg:∀t,t<4->σ.tgl t=0\/σ.tgl t=1
 of_:∀u,1<=u->u<=σ.V->oS (σ.of u)
theorem Ci{k:Int}(h1:1<=k)(h2:k<=6):lM 0 (pH.new k):=⟨ZC k h1 h2,Nat.le_refl _,Nat.le_refl _,Nat.le_refl _,Nat.le_refl _,Nat.le_refl _,fun _ _=>.inl rfl,fun u h3 h4=>by have h4':u<=0:=h4;omega⟩
theorem KI{N:Nat}{σ:pH}(h:lM N σ){t:Nat}(ht:t<4)(d:(σ.th t).does=0){a k v:Int}(ho:gQ a k v):lM (N+1) (σ.call t a k v):=by
 have hg:=h.tg t ht
 have hs:=h.stp
 have hv:=h.ver
 refine⟨TX h.inv ht d ho I,by show σ.steps+1<=_;omega,by show σ.V<=σ.steps+1;omega,by show σ.s.fl<=σ.steps+1;have:=h.fl;omega,by show σ.s.fe<=σ.steps+1;have:=h.fe;omega,?_,h.tg,h.of_⟩
 show(σ.hist++[_]).length<=σ.steps+1
 have:=h.hl
 simp;omega
theorem zS(t:Nat)(m:Nat->Int)(s:cN)(θ:cQ):(stp t m s θ).s.fl<=s.fl+1/\(stp t m s θ).s.fe<=s.fe+1:=by
 unfold stp
 split<;>(try split)<;>(try split)<;>first|(exact⟨Nat.le_succ _,Nat.le_succ _⟩)|(exact⟨Nat.le_refl _,Nat.le_succ _⟩)|(exact⟨Nat.le_succ _,Nat.le_refl _⟩)
theorem FY{N:Nat}{σ:pH}(h:lM N σ){t:Nat}(ht:t<4)(d:(σ.th t).does≠0)(hN:N<=100000000):lM (N+1) (σ.step t):=by
 have hs:=h.stp
 have hv:=h.ver
 obtain⟨c1,c2⟩:=zS t σ.m σ.s (σ.th t)
 have hfl:=h.fl
 have hfe:=h.fe
 have hop:=h.inv.op t ht d
 refine⟨UB h.inv ht d I,by show σ.steps+1<=_;omega,?_,?_,?_,?_,fun u hu=>?_,fun u h1 h2=>?_⟩
 .show(if(σ.th t).does=11 then σ.V+1 else σ.V)<=σ.steps+1
  split<;>omega
 .show(stp t σ.m σ.s (σ.th t)).s.fl<=σ.steps+1
  omega
 .show(stp t σ.m σ.s (σ.th t)).s.fe<=σ.steps+1
  omega
 .show(if _ then _ else _:List (List Value)).length<=σ.steps+1
  have:=h.hl
  split
  .simp;omega
  omega
 .show(if _ then _ else _:Nat->Int) u=0\/(if _ then _ else _:Nat->Int) u=1
  split
  .dsimp only
   by_cases e:u=t
   .rw[iP e];exact hop.2
   rw[iN e];exact h.tg u hu
  exact h.tg u hu
 show oS ((if(σ.th t).does=11 then AL σ.of (σ.V+1) (σ.th t).deeds else σ.of) u)
 have h2':u<=(if(σ.th t).does=11 then σ.V+1 else σ.V):=h2
 by_cases e:(σ.th t).does=11
 .rw[iP e]at h2'⊢
  unfold AL
  split
  .exact(h.inv.deeds ht e).1
  exact h.of_ u h1 I
 rw[iN e]at h2'⊢
 exact h.of_ u h1 h2'
def pH.callE(σ:pH)(t a k v:Int):Int:=if¬(0<=t/\t<4)then 2 else if(σ.th t.toNat).does≠0 then 6 else if cB a k v=false then 1 else 0
def DJ(f:Nat->Nat->Int)(j:Nat):List Value:=(List.range LG.length).map fun c=>.int (LG.getD c .i64) (f j c)
def eH(f:Nat->Nat->Int)(n:Nat):List (List Value):=(List.range n).map (DJ f)
theorem pX(f:Nat->Nat->Int)(j:Nat):DJ f j=[.int .i64 (f j 0),.int .i64 (f j 1),.int .i64 (f j 2),.int .i64 (f j 3),.int .i64 (f j 4)]:=rfl
theorem oE(f:Nat->Nat->Int)(n:Nat):(eH f n).length=n:=by simp [eH]
theorem xO(f:Nat->Nat->Int)(n:Nat):∀r∈eH f n,r.length=5:=by
 intro r hr
 simp only[eH,List.mem_map]at hr
 obtain⟨j,_,rfl⟩:=hr
 rfl
theorem AB(f:Nat->Nat->Int){n i:Nat}(h:i<n):(eH f n)[i]? =some (DJ f i):=by simp [eH,h]
theorem pQ{f g:Nat->Nat->Int}{n:Nat}(h:∀j,j<n->∀c,c<5->g j c=f j c):eH g n=eH f n:=by
 unfold eH
 refine List.map_congr_left fun j hj=>?_
 have hj':j<n:=by simpa using hj
 rw[pX,pX,h j hj' 0 I,h j hj' 1 I,h j hj' 2 I,h j hj' 3 I,h j hj' 4 I]
theorem xL(f:Nat->Nat->Int)(n:Nat):eH f (n+1)=eH f n++[DJ f n]:=by simp [eH,List.range_succ]
theorem xJ(f:Nat->Nat->Int)(n i:Nat)(h:i<n*5):(eH f n).flatten[i]? =some (.int .i64 (f (i/5) (i%5))):=by
 have h1:i/5<n:=I
 have h2:=nH (xO f n) (AB f h1) (j:=i%5) I
 rw[show i/5*5+i%5=i by omega]at h2
 rw[h2,pX]
 rcases(by omega:i%5=0\/i%5=1\/i%5=2\/i%5=3\/i%5=4)with e|e|e|e|e<;>rw[e]<;>rfl
theorem cU.sets{w:World}{B:Nat}{e:TypeId}{m g n c o:Nat}{rows rows':List (List Value)}(h:cU w B e m (some ⟨g,0,none⟩) n c rows){vs:List Value}(hl:rows'.length=n)(he:∀r∈rows',r.length=m)
 (hf:∀i,i<n*m->rows'.flatten[i]? =if o<=i/\i<o+vs.length then vs[i-o]? else rows.flatten[i]?):cU (w.setCells g o vs) B e m (some ⟨g,0,none⟩) n c rows':=by
 have hF:=fP h.each
 obtain⟨h1,h2⟩:=h.own
 rcases h2 with⟨h2,_⟩|⟨g',cap,cur,hv,hb,hg,Iz,Hk,hs,ht⟩
 .simp at h2
 simp only[Value.slice.injEq,Option.some.injEq,Addr.mk.injEq]at hv
 obtain⟨⟨rfl,_,_⟩,_,rfl⟩:=hv
 have Gt:=aY.setCells (vs:=vs) (o:=o) (show aY w g e cur from hg)
 refine⟨⟨by rw[fP he,hl],.inr ⟨g,c,_,rfl,hb,Gt,Iz,Hk,by rw[fA];exact hs,?_⟩⟩,hl,he⟩
 have hlen:rows.flatten.length=n*m:=by rw[hF,h.len]
 have hsz:n*m<=cur.size:=by
  have:=congrArg List.length ht
  rw[hlen,List.length_take,Array.length_toList]at this
  omega
 refine List.ext_getElem? fun i=>?_
 rw[List.getElem?_take]
 by_cases hi:i<n*m
 .rw[iP hi,hf i hi,Array.getElem?_toList,iR _ _ _ _ I,<-ht,List.getElem?_take,iP hi]
  simp
 rw[iN hi,List.getElem?_eq_none (by rw[fP he,hl];omega)]
def bI(w:World)(tag tag':Nat->Nat):Prop:=∀b,b<w.heap.size->tag' b=tag b
theorem bI.refl(w:World)(tag:Nat->Nat):bI w tag tag:=fun _ _=>rfl
theorem bI.trans{w w':World}{tag tag' tag'':Nat->Nat}(h:bI w tag tag')(h':bI w' tag' tag'')(hs:w.heap.size<=w'):bI w tag tag'':=fun b hb=>(h' b (Nat.lt_of_lt_of_le hb hs)).trans (h b hb)
def cG(w:World)(tag:Nat->Nat)(k:Nat)(b:Nat):Nat:=if b<w then tag b else k
theorem cO(w:World)(tag:Nat->Nat)(k:Nat):bI w tag (cG w tag k):=fun b hb=>iP hb
theorem dT(w:World)(tag:Nat->Nat)(k:Nat){b:Nat}(h:w<=b):cG w tag k b=k:=iN I
def fE(w:World)(tag:Nat->Nat)(m:Nat->Int)(gm:Nat):Prop:=tag gm=1/\∃E,aY w gm 34 E/\cH E 16 m
def iQ(w:World)(tag:Nat->Nat)(s:cN)(gs:Nat):Prop:=tag gs=2/\aY w gs 123 (nI s)
structure gJ (w:World) (tag:Nat->Nat) (t:Nat) (θ:cQ) (gw:Nat) (A:Option Addr) (ca:Nat) (D:Option Addr) (cd:Nat):Prop where
 blk:aY w gw 46 (kE t θ (.slice A θ.na ca) (.slice D θ.deeds.length cd))
 asks:cU w 0 181 5 A θ.na ca (eH θ.asks θ.na)
 deeds:cU w 0 159 6 D θ.deeds.length cd θ.deeds
 tg:tag gw=10+t
 tA:∀b,iI A b->tag b=20+t
 tD:∀b,iI D b->tag b=30+t
section
variable{w w':World}{tag tag':Nat->Nat}{S:Nat->Prop}
theorem fE.kept{m:Nat->Int}{gm:Nat}(h:fE w tag m gm)(hk:aD S w w')(ht:bI w tag tag')(hS:∀b,S b->tag b≠1):fE w' tag' m gm:=by
 obtain⟨h1,E,hb,hu⟩:=h
 exact⟨(ht gm hb.lt).trans h1,E,(hk.block gm hb.lt fun e=>hS gm e h1).trans hb,hu⟩
theorem iQ.kept{s:cN}{gs:Nat}(h:iQ w tag s gs)(hk:aD S w w')(ht:bI w tag tag')(hS:∀b,S b->tag b≠2):iQ w' tag' s gs:=by
 obtain⟨h1,hb⟩:=h
 exact⟨(ht gs hb.lt).trans h1,(hk.block gs hb.lt fun e=>hS gs e h1).trans hb⟩
theorem cU.keptT{B:Nat}{e:TypeId}{m:Nat}{A:Option Addr}{n c k:Nat}{rows:List (List Value)}(h:cU w B e m A n c rows)(hk:aD S w w')(hA:∀b,iI A b->tag b=k)(hS:∀b,S b->tag b≠k):cU w' B e m A n c rows:=
 h.kept hk fun a ha e=>hS a.block e (hA a.block ⟨a,ha,rfl⟩)
theorem cU.tagT{B:Nat}{e:TypeId}{m:Nat}{A:Option Addr}{n c k:Nat}{rows:List (List Value)}(h:cU w B e m A n c rows)(ht:bI w tag tag')(hA:∀b,iI A b->tag b=k):∀b,iI A b->tag' b=k:=by
 rintro b ⟨a,ha,rfl⟩
 exact(ht _ (h.lt a ha).2).trans (hA _ ⟨a,ha,rfl⟩)
variable{t:Nat}{θ:cQ}{gw:Nat}{A:Option Addr}{ca:Nat}{D:Option Addr}{cd:Nat}
theorem gJ.kept(h:gJ w tag t θ gw A ca D cd)(hk:aD S w w')(ht:bI w tag tag')(h1:∀b,S b->tag b≠10+t)(h2:∀b,S b->tag b≠20+t)(h3:∀b,S b->tag b≠30+t):gJ w' tag' t θ gw A ca D cd:=
 ⟨(hk.block gw h.blk.lt fun e=>h1 gw e h.tg).trans h.blk,h.asks.keptT hk h.tA h2,h.deeds.keptT hk h.tD h3,(ht gw h.blk.lt).trans h.tg,h.asks.tagT ht h.tA,h.deeds.tagT ht h.tD⟩
theorem gJ.neA(h:gJ w tag t θ gw A ca D cd):¬iI A gw:=fun e=>by have:=h.tA gw e;rw[h.tg]at this;omega
end
def rW(tag:Nat->Nat)(t:Nat)(b:Nat):Prop:=tag b=1\/tag b=2\/tag b=10+t\/tag b=20+t
def iZ(w:World)(tag:Nat->Nat)(t gw gm gs:Nat)(L:ZV)(w':World):Prop:=
 ∃tag' A ca D cd,bI w tag tag'/\aD (rW tag t) w w'/\fE w' tag' L.m gm/\iQ w' tag' L.s gs/\gJ w' tag' t L.t gw A ca D cd
theorem mS{w:World}{gw t:Nat}{θ:cQ}{A D:Value}(h:aY w gw 46 (kE t θ A D))(i:Nat)(hi:i<49):w.cell? (gw,i)=(zI t θ A D i):=by rw[h.cell,LJ _ _ _ _ hi]
structure WS (w0 w:World) (tag:Nat->Nat) (t:Nat) (θ:cQ) (gw:Nat) (A:Option Addr) (ca:Nat) (D:Option Addr) (cd:Nat) (m:Nat->Int) (gm:Nat) (s:cN) (gs:Nat):Prop where
 wk:gJ w tag t θ gw A ca D cd
 ram:fE w tag m gm
 st:iQ w tag s gs
 k:aD (rW tag t) w0 w
section
variable{w0 w w':World}{tag:Nat->Nat}{t:Nat}{θ:cQ}{gw:Nat}{A:Option Addr}{ca:Nat}{D:Option Addr}{cd:Nat}{m:Nat->Int}{gm:Nat}{s:cN}{gs:Nat}
theorem WS.start(hW:gJ w tag t θ gw A ca D cd)(hR:fE w tag m gm)(hS:iQ w tag s gs):WS w w tag t θ gw A ca D cd m gm s gs:=⟨hW,hR,hS,aD.refl _ _⟩
theorem WS.below(h:WS w0 w tag t θ gw A ca D cd m gm s gs)(hb:Below w w w'):WS w0 w' tag t θ gw A ca D cd m gm s gs:=
 have hk:aD bN w w':=aD.of_same hb
 ⟨h.wk.kept hk (bI.refl _ _) (fun _ x=>x.elim) (fun _ x=>x.elim) (fun _ x=>x.elim),h.ram.kept hk (bI.refl _ _) (fun _ x=>x.elim),h.st.kept hk (bI.refl _ _) (fun _ x=>x.elim),h.k.trans (aD.of_same hb)⟩
theorem WS.c(h:WS w0 w tag t θ gw A ca D cd m gm s gs)(i:Nat)(hi:i<49):w.cell? (gw,i)=(zI t θ (.slice A θ.na ca) (.slice D θ.deeds.length cd) i):=mS h.wk.blk i hi
theorem WS.f(h:WS w0 w tag t θ gw A ca D cd m gm s gs)(i:Nat):w.frozen? ⟨gw,i,none⟩=false:=h.wk.blk.frozen i
theorem WS.lt(h:WS w0 w tag t θ gw A ca D cd m gm s gs):gw<w:=h.wk.blk.lt
theorem WS.own(h:WS w0 w tag t θ gw A ca D cd m gm s gs){θ':cQ}{i:Nat}{v:Value}(e:(kE t θ (.slice A θ.na ca) (.slice D θ.deeds.length cd)).setIfInBounds i v=kE t θ' (.slice A θ.na ca) (.slice D θ.deeds.length cd))
 (ha:θ'.asks=θ.asks) (hn:θ'.na=θ.na) (hd:θ'.deeds=θ.deeds):WS w0 (w.setCell (gw,i) v) tag t θ' gw A ca D cd m gm s gs:=by
 have hk:=bP w gw i v
 have h1:∀b,cI gw b->tag b=10+t:=fun b hb=>by rw[show b=gw from hb];exact h.wk.tg
 refine⟨⟨?_,?_,?_,h.wk.tg,h.wk.tA,h.wk.tD⟩,h.ram.kept hk (bI.refl _ _) (fun b hb=>by rw[h1 b hb];omega),h.st.kept hk (bI.refl _ _) (fun b hb=>by rw[h1 b hb];omega),h.k.setCell (p:=⟨gw,i,none⟩) (.inl (.inr (.inr (.inl h.wk.tg)))) v⟩
 .rw[hn,hd,<-e];exact h.wk.blk.set_ i v
 .rw[hn,ha];exact h.wk.asks.keptT hk h.wk.tA (fun b hb=>by rw[h1 b hb];omega)
 rw[hd];exact h.wk.deeds.keptT hk h.wk.tD (fun b hb=>by rw[h1 b hb];omega)
theorem WS.owns(h:WS w0 w tag t θ gw A ca D cd m gm s gs){θ':cQ}{i:Nat}{vs:List Value}(e:fF (kE t θ (.slice A θ.na ca) (.slice D θ.deeds.length cd)) i vs=kE t θ' (.slice A θ.na ca) (.slice D θ.deeds.length cd))
 (ha:θ'.asks=θ.asks) (hn:θ'.na=θ.na) (hd:θ'.deeds=θ.deeds):WS w0 (w.setCells gw i vs) tag t θ' gw A ca D cd m gm s gs:=by
 have hk:aD (cI gw) w (w.setCells gw i vs):=cE (S:=cI gw) (.inl rfl) i vs
 have h1:∀b,cI gw b->tag b=10+t:=fun b hb=>by rw[show b=gw from hb];exact h.wk.tg
 refine⟨⟨?_,?_,?_,h.wk.tg,h.wk.tA,h.wk.tD⟩,h.ram.kept hk (bI.refl _ _) (fun b hb=>by rw[h1 b hb];omega),h.st.kept hk (bI.refl _ _) (fun b hb=>by rw[h1 b hb];omega),h.k.trans (hk.mono fun b hb=>.inr (.inr (.inl (h1 b hb))))⟩
 .rw[hn,hd,<-e];exact aY.setCells h.wk.blk
 .rw[hn,ha];exact h.wk.asks.keptT hk h.wk.tA (fun b hb=>by rw[h1 b hb];omega)
 rw[hd];exact h.wk.deeds.keptT hk h.wk.tD (fun b hb=>by rw[h1 b hb];omega)
theorem WS.does(h:WS w0 w tag t θ gw A ca D cd m gm s gs)(d:Nat):WS w0 (w.setCell (gw,1) d) tag t (θ.go d) gw A ca D cd m gm s gs:=h.own (wE _ _ _ _ d) rfl rfl rfl
theorem WS.ram_(h:WS w0 w tag t θ gw A ca D cd m gm s gs){i:Nat}(hi:i<16){x:Int}(hx:0<=x/\x<18446744073709551616):WS w0 (w.setCell (gm,i) [x]) tag t θ gw A ca D cd (eI m i x) gm s gs:=by
 obtain⟨r1,E,r2,r3⟩:=h.ram
 have hk:=bP w gm i [x]
 have h1:∀b,cI gm b->tag b=1:=fun b hb=>by rw[show b=gm from hb];exact r1
 exact⟨h.wk.kept hk (bI.refl _ _) (fun b hb=>by rw[h1 b hb];omega) (fun b hb=>by rw[h1 b hb];omega) (fun b hb=>by rw[h1 b hb];omega),⟨r1,_,r2.set_ i _,r3.set_ hx⟩,h.st.kept hk (bI.refl _ _) (fun b hb=>by rw[h1 b hb];omega),h.k.setCell (p:=⟨gm,i,none⟩) (.inl (.inl r1)) _⟩
theorem WS.store(h:WS w0 w tag t θ gw A ca D cd m gm s gs){s':cN}(hb:aY w' gs 123 (nI s'))(hk:aD (nQ gs) w w'):WS w0 w' tag t θ gw A ca D cd m gm s' gs:=by
 have h2:=h.st.1
 have h1:∀b,nQ gs b->tag b=2:=fun b hb=>by rw[show b=gs from hb];exact h2
 exact⟨h.wk.kept hk (bI.refl _ _) (fun b hb=>by rw[h1 b hb];omega) (fun b hb=>by rw[h1 b hb];omega) (fun b hb=>by rw[h1 b hb];omega),h.ram.kept hk (bI.refl _ _) (fun b hb=>by rw[h1 b hb];omega),⟨h2,hb⟩,h.k.trans (hk.mono fun b hb=>.inr (.inl (h1 b hb)))⟩
theorem aD.retag{k:Nat}{tag':Nat->Nat}(ht:bI w0 tag tag')(h:aD (rW tag k) w0 w):aD (rW tag' k) w0 w:=
 ⟨h.os,h.tape,h.output,h.size,fun b hb hn=>h.block b hb fun x=>hn (by unfold rW at x⊢;rw[ht b hb];exact x)⟩
theorem bI.symm_{tag':Nat->Nat}(ht:bI w0 tag tag'):bI w0 tag' tag:=fun b hb=>(ht b hb).symm
theorem WS.outT(h:WS w0 w tag t θ gw A ca D cd m gm s gs){Gu:Nat->Nat}(ht:bI w0 Gu tag)(fin:Bool):iZ w0 Gu t gw gm gs ⟨m,s,θ,fin⟩ w:=
 ⟨tag,A,ca,D,cd,ht,h.k.retag ht.symm_,h.ram,h.st,h.wk⟩
theorem WS.out(h:WS w0 w tag t θ gw A ca D cd m gm s gs)(fin:Bool):iZ w0 tag t gw gm gs ⟨m,s,θ,fin⟩ w:=
 ⟨tag,A,ca,D,cd,bI.refl _ _,h.k,h.ram,h.st,h.wk⟩
end
end
end Go.Proofs.YtplpimkgihnmhaaGreatDoor
