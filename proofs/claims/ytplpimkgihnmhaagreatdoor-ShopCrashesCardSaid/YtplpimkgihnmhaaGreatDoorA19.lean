/-
  Part of a proof: ShS ShX ShY ShK ShB ShD ShDo ShWr ShRd. For all values.
-/
import Derived.Test.YtplpimkgihnmhaaGreatDoorA15
import Derived.Test.YtplpimkgihnmhaaGreatDoorA17
import Derived.Test.YtplpimkgihnmhaaGreatDoorA18
set_option maxRecDepth 100000
set_option maxHeartbeats 400000
set_option linter.all false
namespace Go.Proofs.YtplpimkgihnmhaaGreatDoor
open Go.Proofs.Tryz Go.RowKit
variable{w w' w0:World}{tag tag' tag0:Nat->Nat}{b t i k N n p g B q cr cd V:Nat}{rows:List (List Value)}{x last:Int}{R D:Option Addr}{v:Value}{r:List Value}{T S:Nat->Prop}{ty e:TypeId}
section
structure pH where
 m:Nat->Int
 s:cN
 th:Nat->cQ
 tgl:Nat->Int
 steps:Nat
 hist:List (List Value)
 of:Nat->List (List Value)
 V:Nat
def yE(kind t a k v o1 o2 wn st:Int):List Value:=[.int .i64 kind,.int .i64 t,.int .i64 a,.int .i64 k,.int .i64 v,.int .i64 o1,.int .i64 o2,.int .i64 wn,.int .i64 st]
namespace pH
variable(F:pH)
def new(k:Int):pH:=⟨fun _=>0,YX (pL k) 4,fun _=>cQ.new,fun _=>0,0,[],fun _=>[],0⟩
def call(t:Nat)(a k v:Int):pH:={F with th:=jG F.th t (cQ.call a k v (1-F.tgl t) false),steps:=F.steps+1,hist:=F.hist++[yE 1 t a k v 0 0 0 (F.steps+1:Nat)]}
noncomputable def loc (t:Nat):ZV:=stp t F.m F.s (F.th t)
noncomputable def step (t:Nat):pH where
 m:=(F.loc t).m
 s:=(F.loc t).s
 th:=jG F.th t (F.loc t).t
 tgl:=if(F.loc t).fin=true then fun u=>if u=t then(F.th t).tg else F.tgl u else F.tgl
 steps:=F.steps+1
 hist:=if(F.loc t).fin=true then F.hist++[yE 2 t (F.th t).a (F.th t).k (F.th t).v (F.loc t).t.o1 (F.loc t).t.o2 (F.loc t).t.wn (F.steps+1:Nat)]else F.hist
 of:=if(F.th t).does=11 then AL F.of (F.V+1) (F.th t).deeds else F.of
 V:=if(F.th t).does=11 then F.V+1 else F.V
noncomputable def run (t:Nat):Nat->pH->pH×Nat
 |0,F=>(F,0)
 |n+1,F=>if(F.th t).does=0 then(F,0)else((run t n (F.step t)).1,(run t n (F.step t)).2+1)
def land(l:Nat):pH:={F with s:=F.s.land l}
def crash(x:Nat):pH where
 m:=kA ((F.s.crash x).now 0)
 s:=F.s.crash x
 th:=fun t=>(F.th t).fall
 tgl:=F.tgl
 steps:=F.steps+1
 hist:=F.hist++[yE 3 0 0 0 0 0 0 0 (F.steps+1:Nat)]
 of:=F.of
 V:=((F.s.crash x).now 0).toNat
end pH
structure lM (N:Nat) (F:pH):Prop where
 inv:eX F.m F.s F.th F.V
 stp:F.steps<=N
 ver:F.V<=F.steps
 fl:F.s.fl<=F.steps
 fe:F.s.fe<=F.steps
 hl:F.hist.length<=F.steps
 tg:∀t,t<4->F.tgl t=0\/F.tgl t=1
 of_:∀u,1<=u->u<=F.V->oS (F.of u)
theorem lM.mono{Z:Nat}{F:pH}(h:lM N F)(Y:N<=Z):lM Z F:=⟨h.inv,Nat.le_trans h.stp Y,h.ver,h.fl,h.fe,h.hl,h.tg,h.of_⟩
theorem Ci{k:Int}(X:1<=k)(W:k<=6):lM 0 (pH.new k):=⟨ZC k X W,Nat.le_refl _,Nat.le_refl _,Nat.le_refl _,Nat.le_refl _,Nat.le_refl _,fun _ _=>.inl rfl,fun u V Y=>by have Z:u<=0:=Y;omega⟩
theorem KI{F:pH}(h:lM N F)(Z:t<4)(d:(F.th t).does=0){a k v:Int}(Y:gQ a k v):lM (N+1) (F.call t a k v):=by
 have X:=h.tg t Z;have W:=h.stp;have U:=h.ver;refine⟨TX h.inv Z d Y I,by show F.steps+1<=_;omega,by show F.V<=F.steps+1;omega,by show F.s.fl<=F.steps+1;have:=h.fl;omega,by show F.s.fe<=F.steps+1;have:=h.fe;omega,?_,h.tg,h.of_⟩;show(F.hist++[_]).length<=F.steps+1;have:=h.hl;simp;omega
theorem aAR{F:pH}(h:lM N F)(l:Nat):lM N (F.land l):=⟨aBI h.inv l,h.stp,h.ver,h.fl,h.fe,h.hl,h.tg,h.of_⟩
theorem BH{F:pH}(h:lM N F)(x:Nat):lM (N+1) (F.crash x)/\((F.crash x).V=F.V\/(F.crash x).V+1=F.V):=by
 obtain⟨Z,Y,X⟩:=aAo h.inv x;have e:(F.crash x).V=Z:=by
  show((F.s.crash x).now 0).toNat=Z;rw[Y.ver];rfl
 have T:=h.stp;have S:=h.ver;refine⟨⟨by rw[e];exact Y,by show F.steps+1<=_;omega,by rw[e];show Z<=F.steps+1;omega,by show F.s.fl<=F.steps+1;have:=h.fl;omega,by show F.s.fe<=F.steps+1;have:=h.fe;omega,?_,h.tg,fun u W U=>h.of_ u W (by rw[e]at U;omega)⟩,by rw[e];exact X⟩;show(F.hist++[_]).length<=F.steps+1;have:=h.hl;simp;omega
theorem zS(t:Nat)(m:Nat->Int)(s:cN)(Z:cQ):(stp t m s Z).s.fl<=s.fl+1/\(stp t m s Z).s.fe<=s.fe+1:=by
 unfold stp;split<;>(try split)<;>(try split)<;>first|(exact⟨Nat.le_succ _,Nat.le_succ _⟩)|(exact⟨Nat.le_refl _,Nat.le_succ _⟩)|(exact⟨Nat.le_succ _,Nat.le_refl _⟩)
theorem FY{F:pH}(h:lM N F)(X:t<4)(d:(F.th t).does≠0)(M:N<=100000000):lM (N+1) (F.step t):=by
 have Q:=h.stp;have P:=h.ver;obtain⟨c1,O⟩:=zS t F.m F.s (F.th t);have T:=h.fl;have S:=h.fe;have Y:=h.inv.op t X d;refine⟨UB h.inv X d I,by show F.steps+1<=_;omega,?_,?_,?_,?_,fun u W=>?_,fun u U R=>?_⟩
 .show(if(F.th t).does=11 then F.V+1 else F.V)<=F.steps+1;split<;>omega
 .show(stp t F.m F.s (F.th t)).s.fl<=F.steps+1;omega
 .show(stp t F.m F.s (F.th t)).s.fe<=F.steps+1;omega
 .show(if _ then _ else _:List (List Value)).length<=F.steps+1;have:=h.hl;split
  .simp;omega
  omega
 .show(if _ then _ else _:Nat->Int) u=0\/(if _ then _ else _:Nat->Int) u=1;split
  .dsimp only;by_cases e:u=t
   .rw[iP e];exact Y.2
   rw[iN e];exact h.tg u W
  exact h.tg u W
 show oS ((if(F.th t).does=11 then AL F.of (F.V+1) (F.th t).deeds else F.of) u);have Z:u<=(if(F.th t).does=11 then F.V+1 else F.V):=R;by_cases e:(F.th t).does=11
 .rw[iP e]at Z⊢;unfold AL;split
  .exact(h.inv.deeds X e).1
  exact h.of_ u U I
 rw[iN e]at Z⊢;exact h.of_ u U Z
theorem JN{t:Nat}(Z:t<4):∀(n:Nat) {N:Nat} {F:pH},lM N F->N+n<=100000000->lM (N+n) (pH.run t n F).1/\(pH.run t n F).2<=n
 |0,N,F,h,_=>⟨h,Nat.le_refl _⟩
 |n+1,N,F,h,hN=>by
  unfold pH.run;by_cases d:(F.th t).does=0
  .rw[iP d];exact⟨h.mono I,Nat.zero_le _⟩
  .rw[iN d];have h1:=JN Z n (FY h Z d I) I;exact⟨h1.1.mono I,by show _+1<=n+1;omega⟩
structure Mv where
 kind:Int
 t:Int
 a:Int
 k:Int
 v:Int
 n:Int
 lands:Nat
def pH.callE(F:pH)(t a k v:Int):Int:=if¬(0<=t/\t<4)then 2 else if(F.th t.toNat).does≠0 then 6 else if cB a k v=false then 1 else 0
noncomputable def pH.move (F:pH) (x:Mv):pH:=
 if x.kind=1 then(if F.callE x.t x.a x.k x.v=0 then F.call x.t.toNat x.a x.k x.v else F)
 else if x.kind=2 then(if(0<=x.t/\x.t<4)/\0<=x.n/\x.n<=1000 then(pH.run x.t.toNat x.n.toNat F).1 else F)
 else if x.kind=3 then(if 0<=x.n/\x.n<9 then F.land x.n.toNat else F)
 else if x.kind=4 then F.crash x.lands else F
noncomputable def pH.play (F:pH) (l:Nat->Mv):Nat->pH
 |0=>F
 |n+1=>(F.play l n).move (l n)
theorem Ot{F:pH}{t a k v:Int}(h:F.callE t a k v=0):0<=t/\t.toNat<4/\(F.th t.toNat).does=0/\gQ a k v:=by
 unfold pH.callE at h;split at h
 .omega
 split at h
 .omega
 split at h
 .omega
 rename_i h1 h2 h3;refine⟨I,I,I,eN.1 ?_⟩;cases hx:cB a k v
 .exact absurd hx h3
 rfl
theorem EG{F:pH}(h:lM N F)(x:Mv)(W:N+1001<=100000000):lM (N+1001) (F.move x):=by
 unfold pH.move;split
 .split
  .rename_i he;obtain⟨_,Z,Y,X⟩:=Ot he;exact(KI h Z Y X).mono I
  exact h.mono I
 split
 .split
  .rename_i he;exact(JN I _ h I).1.mono I
  exact h.mono I
 split
 .split
  .exact(aAR h _).mono I
  exact h.mono I
 split
 .exact(BH h _).1.mono I
 exact h.mono I
theorem Bw(F:pH)(t:Nat):aB (F.step t).of (F.step t).V=if(F.th t).does=11 then aB F.of F.V++(F.th t).deeds.map (fun d=>(F.V+1,d))else aB F.of F.V:=by
 show aB (if(F.th t).does=11 then AL F.of (F.V+1) (F.th t).deeds else F.of) (if(F.th t).does=11 then F.V+1 else F.V)=_;by_cases e:(F.th t).does=11
 .rw[iP e,iP e,iP e,Jz]
 rw[iN e,iN e,iN e]
theorem qK{N:Nat}{F:pH}(h:lM N F):∀V,V<=F.V->(aB F.of V).length<=4*V
 |0,_=>Nat.le_refl _
 |V+1,hV=>by
  have h1:=qK h V I;have Z:=(h.of_ (V+1) I hV).1;rw[aB,List.length_append,List.length_map];omega
def DJ(f:Nat->Nat->Int)(j:Nat):List Value:=(List.range LG.length).map fun c=>.int (LG.getD c .i64) (f j c)
def eH(f:Nat->Nat->Int)(n:Nat):List (List Value):=(List.range n).map (DJ f)
theorem pX(f:Nat->Nat->Int)(j:Nat):DJ f j=[.int .i64 (f j 0),.int .i64 (f j 1),.int .i64 (f j 2),.int .i64 (f j 3),.int .i64 (f j 4)]:=rfl
theorem oE(f:Nat->Nat->Int)(n:Nat):(eH f n).length=n:=by simp [eH]
theorem xO(f:Nat->Nat->Int)(n:Nat):∀r∈eH f n,r.length=5:=by
 intro r Z;simp only[eH,List.mem_map]at Z;obtain⟨j,_,rfl⟩:=Z;rfl
theorem AB(f:Nat->Nat->Int)(h:i<n):(eH f n)[i]? =some (DJ f i):=by simp [eH,h]
theorem pQ{f g:Nat->Nat->Int}(h:∀j,j<n->∀c,c<5->g j c=f j c):eH g n=eH f n:=by
 unfold eH;refine List.map_congr_left fun j Y=>?_
 have Z:j<n:=by simpa using Y
 rw[pX,pX,h j Z 0 I,h j Z 1 I,h j Z 2 I,h j Z 3 I,h j Z 4 I]
theorem xL(f:Nat->Nat->Int)(n:Nat):eH f (n+1)=eH f n++[DJ f n]:=by simp [eH,List.range_succ]
theorem xJ(f:Nat->Nat->Int)(n i:Nat)(h:i<n*5):(eH f n).flatten[i]? =some (.int .i64 (f (i/5) (i%5))):=by
 have Y:i/5<n:=I;have Z:=nH (xO f n) (AB f Y) (j:=i%5) I;rw[show i/5*5+i%5=i by omega]at Z;rw[Z,pX];rcases(by omega:i%5=0\/i%5=1\/i%5=2\/i%5=3\/i%5=4)with e|e|e|e|e<;>rw[e]<;>rfl
theorem cU.sets{m c o:Nat}{Z:List (List Value)}(h:cU w B e m (some ⟨g,0,none⟩) n c rows){vs:List Value}(R:Z.length=n)(Q:∀r∈Z,r.length=m)
 (F:∀i,i<n*m->Z.flatten[i]? =if o<=i/\i<o+vs.length then vs[i-o]? else rows.flatten[i]?):cU (w.setCells g o vs) B e m (some ⟨g,0,none⟩) n c Z:=by
 have N:=fP h.each;obtain⟨E,U⟩:=h.own;rcases U with⟨U,_⟩|⟨D,L,X,P,K,H,T,S,G,O⟩
 .simp at U
 simp only[Value.slice.injEq,Option.some.injEq,Addr.mk.injEq]at P;obtain⟨⟨rfl,_,_⟩,_,rfl⟩:=P;have V:=aY.setCells (vs:=vs) (o:=o) (show aY w g e X from H);refine⟨⟨by rw[fP Q,R],.inr ⟨g,c,_,rfl,K,V,T,S,by rw[fA];exact G,?_⟩⟩,R,Q⟩;have Y:rows.flatten.length=n*m:=by rw[N,h.len]
 have M:n*m<=X.size:=by
  have:=congrArg List.length O;rw[Y,List.length_take,Array.length_toList]at this;omega
 refine List.ext_getElem? fun i=>?_
 rw[List.getElem?_take];by_cases W:i<n*m
 .rw[iP W,F i W,Array.getElem?_toList,iR _ _ _ _ I,<-O,List.getElem?_take,iP W];simp
 rw[iN W,List.getElem?_eq_none (by rw[fP Q,R];omega)]
def bI(w:World)(tag tag':Nat->Nat):Prop:=∀b,b<w.heap.size->tag' b=tag b
theorem bI.refl(w:World)(tag:Nat->Nat):bI w tag tag:=fun _ _=>rfl
theorem bI.trans{Z:Nat->Nat}(h:bI w tag tag')(X:bI w' tag' Z)(W:w.heap.size<=w'):bI w tag Z:=fun b Y=>(X b (Nat.lt_of_lt_of_le Y W)).trans (h b Y)
def cG(w:World)(tag:Nat->Nat)(k:Nat)(b:Nat):Nat:=if b<w then tag b else k
theorem cO(w:World)(tag:Nat->Nat)(k:Nat):bI w tag (cG w tag k):=fun b Z=>iP Z
theorem dT(w:World)(tag:Nat->Nat)(k:Nat)(h:w<=b):cG w tag k b=k:=iN I
def fE(w:World)(tag:Nat->Nat)(m:Nat->Int)(gm:Nat):Prop:=tag gm=1/\∃E,aY w gm 34 E/\cH E 16 m
def iQ(w:World)(tag:Nat->Nat)(s:cN)(gs:Nat):Prop:=tag gs=2/\aY w gs 123 (nI s)
structure gJ (w:World) (tag:Nat->Nat) (t:Nat) (Z:cQ) (gw:Nat) (A:Option Addr) (ca:Nat) (D:Option Addr) (cd:Nat):Prop where
 blk:aY w gw 46 (kE t Z (.slice A Z.na ca) (.slice D Z.deeds.length cd))
 asks:cU w 0 181 5 A Z.na ca (eH Z.asks Z.na)
 deeds:cU w 0 159 6 D Z.deeds.length cd Z.deeds
 tg:tag gw=10+t
 tA:∀b,iI A b->tag b=20+t
 tD:∀b,iI D b->tag b=30+t
section
variable{w w':World}{tag tag':Nat->Nat}{S:Nat->Prop}
theorem fE.kept{m:Nat->Int}{Z:Nat}(h:fE w tag m Z)(V:aD S w w')(U:bI w tag tag')(T:∀b,S b->tag b≠1):fE w' tag' m Z:=by
 obtain⟨X,E,Y,W⟩:=h;exact⟨(U Z Y.lt).trans X,E,(V.block Z Y.lt fun e=>T Z e X).trans Y,W⟩
theorem iQ.kept{s:cN}{Z:Nat}(h:iQ w tag s Z)(W:aD S w w')(V:bI w tag tag')(U:∀b,S b->tag b≠2):iQ w' tag' s Z:=by
 obtain⟨X,Y⟩:=h;exact⟨(V Z Y.lt).trans X,(W.block Z Y.lt fun e=>U Z e X).trans Y⟩
theorem cU.keptT{m:Nat}{A:Option Addr}{c:Nat}(h:cU w B e m A n c rows)(Y:aD S w w')(X:∀b,iI A b->tag b=k)(W:∀b,S b->tag b≠k):cU w' B e m A n c rows:=
 h.kept Y fun a Z e=>W a.block e (X a.block ⟨a,Z,rfl⟩)
theorem cU.tagT{m:Nat}{A:Option Addr}{c:Nat}(h:cU w B e m A n c rows)(Y:bI w tag tag')(X:∀b,iI A b->tag b=k):∀b,iI A b->tag' b=k:=by
 rintro b ⟨a,Z,rfl⟩;exact(Y _ (h.lt a Z).2).trans (X _ ⟨a,Z,rfl⟩)
variable{t:Nat}{Z:cQ}{gw:Nat}{A:Option Addr}{ca:Nat}{D:Option Addr}{cd:Nat}
theorem gJ.kept(h:gJ w tag t Z gw A ca D cd)(Y:aD S w w')(X:bI w tag tag')(W:∀b,S b->tag b≠10+t)(V:∀b,S b->tag b≠20+t)(U:∀b,S b->tag b≠30+t):gJ w' tag' t Z gw A ca D cd:=
 ⟨(Y.block gw h.blk.lt fun e=>W gw e h.tg).trans h.blk,h.asks.keptT Y h.tA V,h.deeds.keptT Y h.tD U,(X gw h.blk.lt).trans h.tg,h.asks.tagT X h.tA,h.deeds.tagT X h.tD⟩
theorem gJ.neA(h:gJ w tag t Z gw A ca D cd):¬iI A gw:=fun e=>by have:=h.tA gw e;rw[h.tg]at this;omega
end
def rW(tag:Nat->Nat)(t:Nat)(b:Nat):Prop:=tag b=1\/tag b=2\/tag b=10+t\/tag b=20+t
def iZ(w:World)(tag:Nat->Nat)(t gw gm gs:Nat)(L:ZV)(w':World):Prop:=
 ∃tag' A ca D cd,bI w tag tag'/\aD (rW tag t) w w'/\fE w' tag' L.m gm/\iQ w' tag' L.s gs/\gJ w' tag' t L.t gw A ca D cd
theorem mS{Y:Nat}{Z:cQ}{A D:Value}(h:aY w Y 46 (kE t Z A D))(i:Nat)(X:i<49):w.cell? (Y,i)=(zI t Z A D i):=by rw[h.cell,LJ _ _ _ _ X]
structure WS (w0 w:World) (tag:Nat->Nat) (t:Nat) (Z:cQ) (gw:Nat) (A:Option Addr) (ca:Nat) (D:Option Addr) (cd:Nat) (m:Nat->Int) (gm:Nat) (s:cN) (gs:Nat):Prop where
 wk:gJ w tag t Z gw A ca D cd
 ram:fE w tag m gm
 st:iQ w tag s gs
 k:aD (rW tag t) w0 w
section
variable{w0 w w':World}{tag:Nat->Nat}{t:Nat}{Z:cQ}{gw:Nat}{A:Option Addr}{ca:Nat}{D:Option Addr}{cd:Nat}{m:Nat->Int}{gm:Nat}{s:cN}{gs:Nat}
theorem WS.start(Y:gJ w tag t Z gw A ca D cd)(X:fE w tag m gm)(W:iQ w tag s gs):WS w w tag t Z gw A ca D cd m gm s gs:=⟨Y,X,W,aD.refl _ _⟩
theorem WS.below(h:WS w0 w tag t Z gw A ca D cd m gm s gs)(X:Below w w w'):WS w0 w' tag t Z gw A ca D cd m gm s gs:=
 have Y:aD bN w w':=aD.of_same X
 ⟨h.wk.kept Y (bI.refl _ _) (fun _ x=>x.elim) (fun _ x=>x.elim) (fun _ x=>x.elim),h.ram.kept Y (bI.refl _ _) (fun _ x=>x.elim),h.st.kept Y (bI.refl _ _) (fun _ x=>x.elim),h.k.trans (aD.of_same X)⟩
theorem WS.c(h:WS w0 w tag t Z gw A ca D cd m gm s gs)(i:Nat)(Y:i<49):w.cell? (gw,i)=(zI t Z (.slice A Z.na ca) (.slice D Z.deeds.length cd) i):=mS h.wk.blk i Y
theorem WS.f(h:WS w0 w tag t Z gw A ca D cd m gm s gs)(i:Nat):w.frozen? ⟨gw,i,none⟩=false:=h.wk.blk.frozen i
theorem WS.lt(h:WS w0 w tag t Z gw A ca D cd m gm s gs):gw<w:=h.wk.blk.lt
theorem WS.own(h:WS w0 w tag t Z gw A ca D cd m gm s gs){Z':cQ}(e:(kE t Z (.slice A Z.na ca) (.slice D Z.deeds.length cd)).setIfInBounds i v=kE t Z' (.slice A Z.na ca) (.slice D Z.deeds.length cd))
 (T:Z'.asks=Z.asks) (V:Z'.na=Z.na) (U:Z'.deeds=Z.deeds):WS w0 (w.setCell (gw,i) v) tag t Z' gw A ca D cd m gm s gs:=by
 have X:=bP w gw i v;have W:∀b,cI gw b->tag b=10+t:=fun b Y=>by rw[show b=gw from Y];exact h.wk.tg
 refine⟨⟨?_,?_,?_,h.wk.tg,h.wk.tA,h.wk.tD⟩,h.ram.kept X (bI.refl _ _) (fun b Y=>by rw[W b Y];omega),h.st.kept X (bI.refl _ _) (fun b Y=>by rw[W b Y];omega),h.k.setCell (p:=⟨gw,i,none⟩) (.inl (.inr (.inr (.inl h.wk.tg)))) v⟩
 .rw[V,U,<-e];exact h.wk.blk.set_ i v
 .rw[V,T];exact h.wk.asks.keptT X h.wk.tA (fun b Y=>by rw[W b Y];omega)
 rw[U];exact h.wk.deeds.keptT X h.wk.tD (fun b Y=>by rw[W b Y];omega)
theorem WS.owns(h:WS w0 w tag t Z gw A ca D cd m gm s gs){Z':cQ}{vs:List Value}(e:fF (kE t Z (.slice A Z.na ca) (.slice D Z.deeds.length cd)) i vs=kE t Z' (.slice A Z.na ca) (.slice D Z.deeds.length cd))
 (T:Z'.asks=Z.asks) (V:Z'.na=Z.na) (U:Z'.deeds=Z.deeds):WS w0 (w.setCells gw i vs) tag t Z' gw A ca D cd m gm s gs:=by
 have X:aD (cI gw) w (w.setCells gw i vs):=cE (S:=cI gw) (.inl rfl) i vs;have W:∀b,cI gw b->tag b=10+t:=fun b Y=>by rw[show b=gw from Y];exact h.wk.tg
 refine⟨⟨?_,?_,?_,h.wk.tg,h.wk.tA,h.wk.tD⟩,h.ram.kept X (bI.refl _ _) (fun b Y=>by rw[W b Y];omega),h.st.kept X (bI.refl _ _) (fun b Y=>by rw[W b Y];omega),h.k.trans (X.mono fun b Y=>.inr (.inr (.inl (W b Y))))⟩
 .rw[V,U,<-e];exact aY.setCells h.wk.blk
 .rw[V,T];exact h.wk.asks.keptT X h.wk.tA (fun b Y=>by rw[W b Y];omega)
 rw[U];exact h.wk.deeds.keptT X h.wk.tD (fun b Y=>by rw[W b Y];omega)
theorem WS.does(h:WS w0 w tag t Z gw A ca D cd m gm s gs)(d:Nat):WS w0 (w.setCell (gw,1) d) tag t (Z.go d) gw A ca D cd m gm s gs:=h.own (wE _ _ _ _ d) rfl rfl rfl
theorem WS.ram_(h:WS w0 w tag t Z gw A ca D cd m gm s gs)(R:i<16)(S:0<=x/\x<18446744073709551616):WS w0 (w.setCell (gm,i) [x]) tag t Z gw A ca D cd (eI m i x) gm s gs:=by
 obtain⟨W,E,U,T⟩:=h.ram;have V:=bP w gm i [x];have X:∀b,cI gm b->tag b=1:=fun b Y=>by rw[show b=gm from Y];exact W
 exact⟨h.wk.kept V (bI.refl _ _) (fun b Y=>by rw[X b Y];omega) (fun b Y=>by rw[X b Y];omega) (fun b Y=>by rw[X b Y];omega),⟨W,_,U.set_ i _,T.set_ S⟩,h.st.kept V (bI.refl _ _) (fun b Y=>by rw[X b Y];omega),h.k.setCell (p:=⟨gm,i,none⟩) (.inl (.inl W)) _⟩
theorem WS.store(h:WS w0 w tag t Z gw A ca D cd m gm s gs){s':cN}(Y:aY w' gs 123 (nI s'))(W:aD (nQ gs) w w'):WS w0 w' tag t Z gw A ca D cd m gm s' gs:=by
 have V:=h.st.1;have X:∀b,nQ gs b->tag b=2:=fun b Y=>by rw[show b=gs from Y];exact V
 exact⟨h.wk.kept W (bI.refl _ _) (fun b Y=>by rw[X b Y];omega) (fun b Y=>by rw[X b Y];omega) (fun b Y=>by rw[X b Y];omega),h.ram.kept W (bI.refl _ _) (fun b Y=>by rw[X b Y];omega),⟨V,Y⟩,h.k.trans (W.mono fun b Y=>.inr (.inl (X b Y)))⟩
theorem aD.retag(X:bI w0 tag tag')(h:aD (rW tag k) w0 w):aD (rW tag' k) w0 w:=
 ⟨h.os,h.tape,h.output,h.size,fun b Z Y=>h.block b Z fun x=>Y (by unfold rW at x⊢;rw[X b Z];exact x)⟩
theorem bI.symm_(Y:bI w0 tag tag'):bI w0 tag' tag:=fun b Z=>(Y b Z).symm
theorem WS.outT(h:WS w0 w tag t Z gw A ca D cd m gm s gs)(Y:bI w0 tag0 tag)(fin:Bool):iZ w0 tag0 t gw gm gs ⟨m,s,Z,fin⟩ w:=
 ⟨tag,A,ca,D,cd,Y,h.k.retag Y.symm_,h.ram,h.st,h.wk⟩
theorem WS.out(h:WS w0 w tag t Z gw A ca D cd m gm s gs)(fin:Bool):iZ w0 tag t gw gm gs ⟨m,s,Z,fin⟩ w:=
 ⟨tag,A,ca,D,cd,bI.refl _ _,h.k,h.ram,h.st,h.wk⟩
end
def fv(N:Nat)(caps:Array Value):Value:=.func (.func N) #[] caps
def td(k:Nat)(f:Value):List Value:=[.int .i64 (k:Int),f]
def vN(t:Nat)(Z:cQ)(last:Int)(R D:Value)(ended:Bool):Array Value:=
 #[t,R,Z.a,Z.k,Z.v,Z.tg,last,Z.said,Z.o1,Z.o2,Z.wn,D,ended]
def As(gs:Nat)(m:Nat->Int)(pt:Nat->Nat)(st:Int)(E O:Value)(i:Nat):Value:=
 if i=0 then cR gs else if i<17 then .int .u64 (m (i-1))else if i<21 then cR (pt (i-17))else if i=21 then .int .i64 st else if i=22 then E else O
def yJ(gs:Nat)(m:Nat->Int)(pt:Nat->Nat)(st:Int)(E O:Value):Array Value:=jM 24 (As gs m pt st E O)
theorem Cv(Z:Nat)(m:Nat->Int)(Y:Nat->Nat)(X:Int)(E O:Value):(yJ Z m Y X E O).size=24:=dJ
section
variable(gs:Nat)(m:Nat->Int)(pt:Nat->Nat)(st:Int)(E O:Value)
theorem Dq:(yJ gs m pt st E O)[0]? =some (cR gs):=by rw[yJ,cW I];rfl
theorem YN(h:i<16):(yJ gs m pt st E O)[1+i]? =some (.int .u64 (m i)):=by
 rw[yJ,cW I,As,iN I,iP I,show 1+i-1=i by omega]
theorem BN(h:t<4):(yJ gs m pt st E O)[17+t]? =some (cR (pt t)):=by
 rw[yJ,cW I,As,iN I,iN I,iP I,show 17+t-17=t by omega]
theorem xD:(yJ gs m pt st E O)[21]? =some (.int .i64 st):=by rw[yJ,cW I];rfl
theorem QW:(yJ gs m pt st E O)[22]? =some E:=by rw[yJ,cW I];rfl
theorem Bl:(yJ gs m pt st E O)[23]? =some O:=by rw[yJ,cW I];rfl
theorem IC(W:k<16)(x:Int):(yJ gs m pt st E O).setIfInBounds (1+k) [x]=yJ gs (eI m k x) pt st E O:=dP fun j X=>by
 unfold As eI;by_cases e:j=1+k
 .subst e;rw[iP rfl,iN I,iP I,iP I]
 rw[iN e];by_cases Y:j=0
 .rw[iP Y,iP Y]
 rw[iN Y,iN Y];by_cases Z:j<17
 .rw[iP Z,iP Z,iN I]
 rw[iN Z,iN Z]
theorem LW(x:Int):(yJ gs m pt st E O).setIfInBounds 21 x=yJ gs m pt x E O:=dP fun j Z=>by
 by_cases e:j=21
 .subst e;rfl
 rw[iN e];unfold As;simp only[e,if_false]
theorem ND(x:Value):(yJ gs m pt st E O).setIfInBounds 22 x=yJ gs m pt st x O:=dP fun j Z=>by
 by_cases e:j=22
 .subst e;rfl
 rw[iN e];unfold As;simp only[e,if_false]
end
structure mG where
 p:Nat
 q:Nat
 v:Nat
 l:Nat
 w:Nat
 g:Nat
 a:Nat
 n:Nat
def mG.W(e:mG):Value:=.slice (some ⟨e.w,0,none⟩) 32 32
inductive Cl where
 |says1|says2|lock|which|copy (i:Nat)|asks (i:Nat)|fetch (i:Nat) (g:Int)|write (V i:Nat)|wish (V i:Nat)|firm|index (V:Nat)|wish2|firm2|tell (V:Nat)|unlock|reply|look1|look2|look3|look4|look5
def RO(w:World)(tag:Nat->Nat)(b:Nat)(ty:TypeId)(v:Value):Prop:=tag b=106/\aY w b ty #[v]
section
variable(w:World)(tag:Nat->Nat)(e:mG)
def yK(b:Nat):Prop:=RO w tag b 47 (cR e.p)
def FH(b:Nat):Prop:=RO w tag b 63 (cR e.q)
def Eh(b i:Nat):Prop:=RO w tag b 3 i
def Ch(b:Nat)(x:Int):Prop:=RO w tag b 23 [x]
def Dp(b:Nat):Prop:=RO w tag b 91 e.W
def Fu(b:Nat):Prop:=RO w tag b 248 (cR e.l)
def Fx(b:Nat):Prop:=RO w tag b 249 (cR e.v)
def Cl.At:Cl->List Value->Prop
 |.says1,r=>∃bq bp,r=td 1 (fv 115 #[cR bq,cR bp])/\FH w tag e bq/\yK w tag e bp
 |.says2,r=>∃bq bp,r=td 2 (fv 117 #[cR bq,cR bp])/\FH w tag e bq/\yK w tag e bp
 |.lock,r=>∃bp bq,r=td 3 (fv 126 #[cR bp,cR bq])/\yK w tag e bp/\FH w tag e bq
 |.which,r=>∃bp,r=td 4 (fv 137 #[cR bp,cR e.v])/\yK w tag e bp
 |.copy i,r=>∃bp bi bw bq,r=td 5 (fv 138 #[cR bp,cR e.v,cR bi,cR bw,cR bq,cR e.l])/\yK w tag e bp/\Eh w tag bi i/\Dp w tag e bw/\FH w tag e bq
 |.asks i,r=>∃bp bi bw bq bl bv,r=td 6 (fv 152 #[cR bp,cR bi,cR bw,cR bq,cR bl,cR bv])/\yK w tag e bp/\Eh w tag bi i/\Dp w tag e bw/\FH w tag e bq/\Fu w tag e bl/\Fx w tag e bv
 |.fetch i g,r=>∃bp bi bl bg bq bw bv,r=td 7 (fv 153 #[cR bp,cR bi,cR bl,cR bg,cR bq,cR bw,cR bv])/\yK w tag e bp/\Eh w tag bi i/\Fu w tag e bl/\Ch w tag bg g/\FH w tag e bq/\Dp w tag e bw/\Fx w tag e bv
 |.write V i,r=>∃bw bi bp bv,r=td 8 (fv 171 #[cR bw,cR bi,cR bp,cR bv])/\Dp w tag e bw/\Eh w tag bi i/\yK w tag e bp/\Ch w tag bv V
 |.wish V i,r=>∃bp bq bv bi,r=td 9 (fv 172 #[cR bp,cR bq,cR bv,cR bi])/\yK w tag e bp/\FH w tag e bq/\Ch w tag bv V/\Eh w tag bi i
 |.firm,r=>∃bp bq,r=td 10 (fv 174 #[cR bp,cR bq])/\yK w tag e bp/\FH w tag e bq
 |.index V,r=>∃bv bp bq,r=td 11 (fv 176 #[cR bv,cR bp,cR bq])/\Ch w tag bv V/\yK w tag e bp/\FH w tag e bq
 |.wish2,r=>∃bp bq,r=td 12 (fv 177 #[cR bp,cR bq])/\yK w tag e bp/\FH w tag e bq
 |.firm2,r=>∃bp bq,r=td 13 (fv 178 #[cR bp,cR bq])/\yK w tag e bp/\FH w tag e bq
 |.tell V,r=>∃bv bp,r=td 14 (fv 179 #[cR bv,cR bp])/\Ch w tag bv V/\yK w tag e bp
 |.unlock,r=>∃bp,r=td 15 (fv 180 #[cR bp])/\yK w tag e bp
 |.reply,r=>∃bq,r=td 16 (fv 181 #[cR bq])/\FH w tag e bq
 |.look1,r=>∃bp,r=td 17 (fv 108 #[cR bp,cR e.v])/\yK w tag e bp
 |.look2,r=>∃bp,r=td 18 (fv 109 #[cR bp,cR e.v,cR e.g])/\yK w tag e bp
 |.look3,r=>∃bp bq,r=td 19 (fv 110 #[cR bp,cR e.v,cR bq,cR e.a])/\yK w tag e bp/\FH w tag e bq
 |.look4,r=>∃bp bq,r=td 20 (fv 111 #[cR bp,cR e.v,cR bq,cR e.n])/\yK w tag e bp/\FH w tag e bq
 |.look5,r=>∃bp bq,r=td 21 (fv 112 #[cR bp,cR e.v,cR e.g,cR bq,cR e.a,cR e.n])/\yK w tag e bp/\FH w tag e bq
end
def Cl.step:Cl->Nat
 |.says1=>1|.says2=>2|.lock=>3|.which=>4|.copy _=>5|.asks _=>6|.fetch _ _=>7|.write _ _=>8|.wish _ _=>9|.firm=>10|.index _=>11|.wish2=>12|.firm2=>13|.tell _=>14|.unlock=>15|.reply=>16|.look1=>17|.look2=>18|.look3=>19|.look4=>20|.look5=>21
theorem Cl.At.name{e:mG}{c:Cl}(h:c.At w tag e r):∃f Z,r=td c.step (fv f Z):=by
 cases c<;>unfold Cl.At at h
 case says1=>obtain⟨a,b,h,_⟩:=h;exact⟨_,_,h⟩
 case says2=>obtain⟨a,b,h,_⟩:=h;exact⟨_,_,h⟩
 case lock=>obtain⟨a,b,h,_⟩:=h;exact⟨_,_,h⟩
 case which=>obtain⟨a,h,_⟩:=h;exact⟨_,_,h⟩
 case copy=>obtain⟨a,b,c,d,h,_⟩:=h;exact⟨_,_,h⟩
 case asks=>obtain⟨a,b,c,d,x,y,h,_⟩:=h;exact⟨_,_,h⟩
 case fetch=>obtain⟨a,b,c,d,x,y,z,h,_⟩:=h;exact⟨_,_,h⟩
 case write=>obtain⟨a,b,c,d,h,_⟩:=h;exact⟨_,_,h⟩
 case wish=>obtain⟨a,b,c,d,h,_⟩:=h;exact⟨_,_,h⟩
 case firm=>obtain⟨a,b,h,_⟩:=h;exact⟨_,_,h⟩
 case index=>obtain⟨a,b,c,h,_⟩:=h;exact⟨_,_,h⟩
 case wish2=>obtain⟨a,b,h,_⟩:=h;exact⟨_,_,h⟩
 case firm2=>obtain⟨a,b,h,_⟩:=h;exact⟨_,_,h⟩
 case tell=>obtain⟨a,b,h,_⟩:=h;exact⟨_,_,h⟩
 case unlock=>obtain⟨a,h,_⟩:=h;exact⟨_,_,h⟩
 case reply=>obtain⟨a,h,_⟩:=h;exact⟨_,_,h⟩
 case look1=>obtain⟨a,h,_⟩:=h;exact⟨_,_,h⟩
 case look2=>obtain⟨a,h,_⟩:=h;exact⟨_,_,h⟩
 case look3=>obtain⟨a,b,h,_⟩:=h;exact⟨_,_,h⟩
 case look4=>obtain⟨a,b,h,_⟩:=h;exact⟨_,_,h⟩
 case look5=>obtain⟨a,b,h,_⟩:=h;exact⟨_,_,h⟩
section
variable{w w':World}{tag tag':Nat->Nat}{S:Nat->Prop}{e:mG}
theorem RO.kept(h:RO w tag b ty v)(Z:aD S w w')(Y:bI w tag tag')(X:∀b,S b->tag b≠106):RO w' tag' b ty v:=
 ⟨(Y b h.2.lt).trans h.1,(Z.block b h.2.lt fun x=>X b x h.1).trans h.2⟩
theorem RO.cell(h:RO w tag b ty v):w.cell? (b,0)=v:=by rw[h.2.cell];rfl
theorem Cl.At.kept{c:Cl}(h:c.At w tag e r)(R:aD S w w')(Q:bI w tag tag')(P:∀b,S b->tag b≠106):c.At w' tag' e r:=by
 have K:∀{b ty v},RO w tag b ty v->RO w' tag' b ty v:=fun h=>h.kept R Q P
 cases c<;>unfold Cl.At at h⊢
 case says1=>obtain⟨a,b,h,Z,Y⟩:=h;exact⟨a,b,h,K Z,K Y⟩
 case says2=>obtain⟨a,b,h,Z,Y⟩:=h;exact⟨a,b,h,K Z,K Y⟩
 case lock=>obtain⟨a,b,h,Z,Y⟩:=h;exact⟨a,b,h,K Z,K Y⟩
 case which=>obtain⟨a,h,Z⟩:=h;exact⟨a,h,K Z⟩
 case copy=>obtain⟨a,b,c,d,h,Z,Y,X,W⟩:=h;exact⟨a,b,c,d,h,K Z,K Y,K X,K W⟩
 case asks=>obtain⟨a,b,c,d,x,y,h,Z,Y,X,W,V,U⟩:=h;exact⟨a,b,c,d,x,y,h,K Z,K Y,K X,K W,K V,K U⟩
 case fetch=>obtain⟨a,b,c,d,x,y,z,h,Z,Y,X,W,V,U,T⟩:=h;exact⟨a,b,c,d,x,y,z,h,K Z,K Y,K X,K W,K V,K U,K T⟩
 case write=>obtain⟨a,b,c,d,h,Z,Y,X,W⟩:=h;exact⟨a,b,c,d,h,K Z,K Y,K X,K W⟩
 case wish=>obtain⟨a,b,c,d,h,Z,Y,X,W⟩:=h;exact⟨a,b,c,d,h,K Z,K Y,K X,K W⟩
 case firm=>obtain⟨a,b,h,Z,Y⟩:=h;exact⟨a,b,h,K Z,K Y⟩
 case index=>obtain⟨a,b,c,h,Z,Y,X⟩:=h;exact⟨a,b,c,h,K Z,K Y,K X⟩
 case wish2=>obtain⟨a,b,h,Z,Y⟩:=h;exact⟨a,b,h,K Z,K Y⟩
 case firm2=>obtain⟨a,b,h,Z,Y⟩:=h;exact⟨a,b,h,K Z,K Y⟩
 case tell=>obtain⟨a,b,h,Z,Y⟩:=h;exact⟨a,b,h,K Z,K Y⟩
 case unlock=>obtain⟨a,h,Z⟩:=h;exact⟨a,h,K Z⟩
 case reply=>obtain⟨a,h,Z⟩:=h;exact⟨a,h,K Z⟩
 case look1=>obtain⟨a,h,Z⟩:=h;exact⟨a,h,K Z⟩
 case look2=>obtain⟨a,h,Z⟩:=h;exact⟨a,h,K Z⟩
 case look3=>obtain⟨a,b,h,Z,Y⟩:=h;exact⟨a,b,h,K Z,K Y⟩
 case look4=>obtain⟨a,b,h,Z,Y⟩:=h;exact⟨a,b,h,K Z,K Y⟩
 case look5=>obtain⟨a,b,h,Z,Y⟩:=h;exact⟨a,b,h,K Z,K Y⟩
end
def dD(w:World)(tag:Nat->Nat)(e:mG):List Cl->List (List Value)->Prop
 |[],[]=>True
 |c::cs,r::rs=>c.At w tag e r/\dD w tag e cs rs
 |_,_=>False
theorem dD.kept{e:mG}:∀{cs:List Cl} {rs:List (List Value)},dD w tag e cs rs->aD S w w'->bI w tag tag'->(∀b,S b->tag b≠106)->dD w' tag' e cs rs
 |[],[],_,_,_,_=>trivial
 |_::_,_::_,h,hk,ht,hS=>⟨h.1.kept hk ht hS,dD.kept h.2 hk ht hS⟩
theorem dD.add{e:mG}{c:Cl}(h2:c.At w tag e r):∀{cs:List Cl} {rs:List (List Value)},dD w tag e cs rs->dD w tag e (cs++[c]) (rs++[r])
 |[],[],_=>⟨h2,trivial⟩
 |_::_,_::_,h=>⟨h.1,dD.add h2 h.2⟩
theorem dD.len{e:mG}:∀{cs:List Cl} {rs:List (List Value)},dD w tag e cs rs->rs.length=cs.length
 |[],[],_=>rfl
 |_::_,_::_,h=>by simp [dD.len h.2]
def kG(i:Nat):List Cl:=(List.range (32-i)).map fun j=>.copy (i+j)
def qI(V:Nat):List Cl:=[.firm,.index V,.wish2,.firm2,.tell V,.unlock,.reply]
def jP(V i:Nat):List Cl:=(List.range (4-i)).map fun j=>.wish V (i+j)
def kB(V i:Nat):List Cl:=(List.range (32-i)).map fun j=>.write V (i+j)
theorem rH{α:Type}(f:Nat->α)(h:i<n):(List.range (n-i)).map (fun j=>f (i+j))=f i::(List.range (n-(i+1))).map (fun j=>f (i+1+j)):=by
 rw[show n-i=n-(i+1)+1 by omega,List.range_succ_eq_map,List.map_cons,List.map_map];congr 1;refine List.map_congr_left fun j _=>?_
 show f (i+(j+1))=f (i+1+j);congr 1;omega
theorem uT(h:i<32):kG i=.copy i::kG (i+1):=rH Cl.copy h
theorem uV(V:Nat)(h:i<4):jP V i=.wish V i::jP V (i+1):=rH (Cl.wish V) h
theorem uR(V:Nat)(h:i<32):kB V i=.write V i::kB V (i+1):=rH (Cl.write V) h
def gF(Z:cQ):List Cl:=
 match Z.does with
 |1=>[.says1,.says2,.lock]
 |2=>[.says2,.lock]
 |3=>[.lock]
 |4=>.which::kG 0
 |5=>kG Z.i
 |6=>[.asks Z.i]
 |7=>[.fetch Z.i (Z.asks (Z.na-1) 1+1)]
 |8=>kB (Z.ver+1) Z.i++(jP (Z.ver+1) 0++qI (Z.ver+1))
 |9=>jP (Z.ver+1) Z.i++qI (Z.ver+1)
 |10=>qI (Z.ver+1)
 |11=>[.index (Z.ver+1),.wish2,.firm2,.tell (Z.ver+1),.unlock,.reply]
 |12=>[.wish2,.firm2,.tell (Z.ver+1),.unlock,.reply]
 |13=>[.firm2,.tell (Z.ver+1),.unlock,.reply]
 |14=>[.tell (Z.ver+1),.unlock,.reply]
 |15=>[.unlock,.reply]
 |16=>[.reply]
 |17=>[.look1,.look2,.look3,.look4,.look5]
 |18=>[.look2,.look3,.look4,.look5]
 |19=>[.look3,.look4,.look5]
 |20=>[.look4,.look5]
 |21=>[.look5]
 |_=>[]
def oM(w:World)(tag:Nat->Nat)(b k:Nat)(x:Int):Prop:=tag b=k/\aY w b 23 #[[x]]
def rN(w:World)(tag:Nat->Nat)(t b:Nat)(rows:List (List Value)):Prop:=tag b=140+t/\∃A c,aY w b 246 #[.slice A rows.length c]/\cU w 0 278 5 A rows.length c rows/\∀b,iI A b->tag b=160+t
def lF(w:World)(tag:Nat->Nat)(t b:Nat)(z:Nat->Int):Prop:=tag b=150+t/\∃E,aY w b 23 E/\cH E 32 z
def iF(w:World)(tag:Nat->Nat)(t:Nat)(Z:cQ)(e:mG):Prop:=
 match Z.does with
 |4=>oM w tag e.v (130+t) 0/\rN w tag t e.l []/\lF w tag t e.w fun _=>0
 |5=>oM w tag e.v (130+t) Z.ver/\rN w tag t e.l []/\∃z,lF w tag t e.w z/\∀j,j<Z.i->z j=Z.r j
 |6=>oM w tag e.v (130+t) Z.ver/\rN w tag t e.l (eH Z.asks Z.na)/\lF w tag t e.w Z.r
 |7=>oM w tag e.v (130+t) Z.ver/\rN w tag t e.l (eH Z.asks (Z.na-1))/\lF w tag t e.w Z.r
 |8=>lF w tag t e.w Z.r
 |17=>oM w tag e.v (130+t) 0/\oM w tag e.g (170+t) 0/\oM w tag e.a (180+t) 0/\oM w tag e.n (190+t) 0
 |18=>oM w tag e.v (130+t) Z.ver/\oM w tag e.g (170+t) 0/\oM w tag e.a (180+t) 0/\oM w tag e.n (190+t) 0
 |19=>oM w tag e.v (130+t) Z.ver/\oM w tag e.g (170+t) (Z.seen 0)/\oM w tag e.a (180+t) 0/\oM w tag e.n (190+t) 0
 |20=>oM w tag e.v (130+t) Z.ver/\oM w tag e.g (170+t) (Z.seen 0)/\oM w tag e.a (180+t) (Z.seen 1)/\oM w tag e.n (190+t) 0
 |21=>oM w tag e.v (130+t) Z.ver/\oM w tag e.g (170+t) (Z.seen 0)/\oM w tag e.a (180+t) (Z.seen 1)/\oM w tag e.n (190+t) (Z.seen 2)
 |_=>True
section
variable{w w':World}{tag tag':Nat->Nat}{S:Nat->Prop}
theorem oM.kept(h:oM w tag b k x)(Z:aD S w w')(Y:bI w tag tag')(X:∀b,S b->tag b≠k):oM w' tag' b k x:=
 ⟨(Y b h.2.lt).trans h.1,(Z.block b h.2.lt fun z=>X b z h.1).trans h.2⟩
theorem rN.kept(h:rN w tag t b rows)(V:aD S w w')(U:bI w tag tag')(T:∀b,S b->tag b≠140+t/\tag b≠160+t):rN w' tag' t b rows:=by
 obtain⟨Y,A,c,Z,X,W⟩:=h;exact⟨(U b Z.lt).trans Y,A,c,(V.block b Z.lt fun z=>(T b z).1 Y).trans Z,X.keptT V W (fun b z=>(T b z).2),X.tagT U W⟩
theorem lF.kept{z:Nat->Int}(h:lF w tag t b z)(W:aD S w w')(V:bI w tag tag')(U:∀b,S b->tag b≠150+t):lF w' tag' t b z:=by
 obtain⟨Y,E,Z,X⟩:=h;exact⟨(V b Z.lt).trans Y,E,(W.block b Z.lt fun z=>U b z Y).trans Z,X⟩
def ZP(S:Nat->Prop)(tag:Nat->Nat)(t:Nat):Prop:=∀b,S b->tag b≠106/\tag b≠105/\tag b≠110+t/\tag b≠120+t/\tag b≠130+t/\tag b≠140+t/\tag b≠150+t/\tag b≠160+t/\tag b≠170+t/\tag b≠180+t/\tag b≠190+t
theorem iF.kept{Z:cQ}{e:mG}(h:iF w tag t Z e)(Y:aD S w w')(X:bI w tag tag')(P:ZP S tag t):iF w' tag' t Z e:=by
 have W:∀b,S b->tag b≠130+t:=fun b z=>(P b z).2.2.2.2.1
 have Q:∀b,S b->tag b≠140+t/\tag b≠160+t:=fun b z=>⟨(P b z).2.2.2.2.2.1,(P b z).2.2.2.2.2.2.2.1⟩
 have V:∀b,S b->tag b≠150+t:=fun b z=>(P b z).2.2.2.2.2.2.1
 have U:∀b,S b->tag b≠170+t:=fun b z=>(P b z).2.2.2.2.2.2.2.2.1
 have T:∀b,S b->tag b≠180+t:=fun b z=>(P b z).2.2.2.2.2.2.2.2.2.1
 have R:∀b,S b->tag b≠190+t:=fun b z=>(P b z).2.2.2.2.2.2.2.2.2.2
 unfold iF at h⊢;split at h
 .exact⟨h.1.kept Y X W,h.2.1.kept Y X Q,h.2.2.kept Y X V⟩
 .obtain⟨h1,h2,z,h3,h4⟩:=h;exact⟨h1.kept Y X W,h2.kept Y X Q,z,h3.kept Y X V,h4⟩
 .exact⟨h.1.kept Y X W,h.2.1.kept Y X Q,h.2.2.kept Y X V⟩
 .exact⟨h.1.kept Y X W,h.2.1.kept Y X Q,h.2.2.kept Y X V⟩
 .exact h.kept Y X V
 .exact⟨h.1.kept Y X W,h.2.1.kept Y X U,h.2.2.1.kept Y X T,h.2.2.2.kept Y X R⟩
 .exact⟨h.1.kept Y X W,h.2.1.kept Y X U,h.2.2.1.kept Y X T,h.2.2.2.kept Y X R⟩
 .exact⟨h.1.kept Y X W,h.2.1.kept Y X U,h.2.2.1.kept Y X T,h.2.2.2.kept Y X R⟩
 .exact⟨h.1.kept Y X W,h.2.1.kept Y X U,h.2.2.1.kept Y X T,h.2.2.2.kept Y X R⟩
 .exact⟨h.1.kept Y X W,h.2.1.kept Y X U,h.2.2.1.kept Y X T,h.2.2.2.kept Y X R⟩
 trivial
end
structure lT (w:World) (tag:Nat->Nat) (t:Nat) (Z:cQ) (last:Int) (q:Nat) (R:Option Addr) (cr:Nat) (D:Option Addr) (cd:Nat) (rows:List (List Value)) (ended:Bool):Prop where
 blk:aY w q 140 (vN t Z last (.slice R rows.length cr) (.slice D Z.deeds.length cd) ended)
 row:cU w 0 142 2 R rows.length cr rows
 deeds:cU w 0 159 6 D Z.deeds.length cd Z.deeds
 tg:tag q=110+t
 tR:∀b,iI R b->tag b=120+t
 tD:∀b,iI D b->tag b=105
theorem lT.kept{Z:cQ}{ended:Bool}(h:lT w tag t Z last q R cr D cd rows ended)
 (Y:aD S w w') (X:bI w tag tag') (W:∀b,S b->tag b≠110+t) (V:∀b,S b->tag b≠120+t) (U:∀b,S b->tag b≠105):lT w' tag' t Z last q R cr D cd rows ended:=
 ⟨(Y.block q h.blk.lt fun e=>W q e h.tg).trans h.blk,h.row.keptT Y h.tR V,h.deeds.keptT Y h.tD U,(X q h.blk.lt).trans h.tg,h.row.tagT X h.tR,h.deeds.tagT X h.tD⟩
end
section
attribute [local go_sem↓] Go.wp_at_zero Go.wp_at_succ
theorem dE(Z: -9223372036854775808<=x)(Y:x<=9223372036854775807):IntKind.i64.wrap x=x:=by rw[IntKind.wrap_i64];omega
theorem sS(Z:0<=x)(Y:x<18446744073709551616):IntKind.u64.wrap x=x:=by rw[IntKind.wrap_u64];omega
theorem Cc(v:Nat)(w:World):Calls prog 92 #[[v]] w fun e w'=>e=.returned (dU v)/\w=w':=by
 rcases(by omega:v%2=0\/v%2=1)with h|h
 .have Y:(v:Int)%2=0:=I;have Z:(dU v:Int)=8:=by unfold dU;omega
  rw[Z]
  go_enter func92,ntmps92
  go_wp2;go_ret;exact⟨rfl,rfl⟩
 have Y:(v:Int)%2=1:=I;have Z:(dU v:Int)=40:=by unfold dU;omega
 rw[Z]
 go_enter func92,ntmps92
 go_wp2;go_ret;exact⟨rfl,rfl⟩
theorem qU(v:Nat)(Z:Int)(e:Z=v)(B:Nat)(Y:B=dU v)(w:World):Calls prog 92 #[[Z]] w fun e w'=>e=.returned B/\Below w w w':=by
 subst e Y;refine(Cc v w).mono ?_;rintro e w' ⟨rfl,rfl⟩;exact⟨rfl,Below.refl _ _⟩
theorem Bs(Y t:Nat)(Z:cQ)(A D:Value)(n d:Nat)(w:World)(h:aY w Y 46 (kE t Z A D))(N:Z.i<100):
 Calls prog 93 #[(Y,0),n,d] w fun e w'=>e=.returned (.tuple #[])/\aY w' Y 46 (kE t (Z.next n d) A D)/\aD (cI Y) w w':=by
 have R:w.cell? (Y,7)=Z.i:=mS h 7 I;have c1:w.cell? (Y,1)=Z.does:=mS h 1 I;have Q:=h.frozen 7;have P:=h.frozen 1;have V:=aH h;have S:=h.lt;clear h;by_cases e:Z.i+1=n
 .have X:=aH ((((V.set_ 7 ((Z.i+1:Nat):Int)).set_ 7 ((0:Nat):Int)).set_ 1 d));rw[LL,LL,wE]at X;have W:=aH (((bP w Y 7 ((Z.i+1:Nat):Int)).setCell (p:=⟨Y,7,none⟩) (.inl rfl) ((0:Nat):Int)).setCell (p:=⟨Y,1,none⟩) (.inl rfl) d);have U:=aH (show Z.next n d={Z with i:=0,does:=d}from sV e);have T:(n:Int)=(Z.i:Int)+1:=I;have O:(Z.i:Int)<100:=I;rw[show((Z.i+1:Nat):Int)=(Z.i:Int)+1 by omega]at X W;rw[T];clear V e T
  go_enter func93,ntmps93
  go_wp2;refine bodyPost_end (v:=.tuple #[]) (by simp [results,results93,go_sem]) rfl ⟨rfl,?_,W.out⟩;rw[U.out];exact X
 have X:=aH (V.set_ 7 ((Z.i+1:Nat):Int));rw[LL]at X;have W:=aH (bP w Y 7 ((Z.i+1:Nat):Int));have U:=aH (show Z.next n d={Z with i:=Z.i+1}from vL e);have T:¬(Z.i:Int)+1=n:=I;rw[show((Z.i+1:Nat):Int)=(Z.i:Int)+1 by omega]at X W;clear V e
 go_enter func93,ntmps93
 go_wp2;refine bodyPost_end (v:=.tuple #[]) (by simp [results,results93,go_sem]) rfl ⟨rfl,?_,W.out⟩;rw[U.out];exact X
section
variable{w0 w:World}{tag:Nat->Nat}{t:Nat}{Z:cQ}{gw:Nat}{A:Option Addr}{ca:Nat}{D:Option Addr}{cd:Nat}{m:Nat->Int}{gm:Nat}{s:cN}{gs:Nat}
theorem WS.rload(h:WS w0 w tag t Z gw A ca D cd m gm s gs)(V:i<16)(Y:Int)(e:Y=i):Calls prog 27 #[(gm,0),Y] w fun e w'=>e=.returned (.tuple #[[m i],.nilIface])/\w=w':=by
 obtain⟨_,E,X,W⟩:=h.ram;subst e;exact IQ gm i E m w X W V
theorem WS.rsave(h:WS w0 w tag t Z gw A ca D cd m gm s gs)(Y:i<16)(U:0<=x/\x<18446744073709551616)(X:Int)(e:X=i):Calls prog 78 #[(gm,0),X,[x]] w fun e w'=>e=.returned .nilIface/\WS w0 w' tag t Z gw A ca D cd (eI m i x) gm s gs/\aD (cI gm) w w':=by
 obtain⟨_,E,W,V⟩:=h.ram;subst e;refine(IH gm i x E m w W V Y).mono ?_;rintro e w' ⟨rfl,rfl⟩;exact⟨rfl,h.ram_ Y U,bP w gm i _⟩
theorem WS.rswapN(h:WS w0 w tag t Z gw A ca D cd m gm s gs)(W:m 0≠0):Calls prog 91 #[(gm,0),(0:Int),.int .u64 0,[x]] w fun e w'=>e=.returned (.tuple #[false,.nilIface])/\w=w':=by
 obtain⟨_,E,Y,X⟩:=h.ram;exact KM gm 0 0 x E m w Y X I (by simpa using W)
theorem WS.rswapY(h:WS w0 w tag t Z gw A ca D cd m gm s gs)(W:0<=x/\x<18446744073709551616)(V:m 0=0):Calls prog 91 #[(gm,0),(0:Int),.int .u64 0,[x]] w fun e w'=>e=.returned (.tuple #[true,.nilIface])/\WS w0 w' tag t Z gw A ca D cd (eI m 0 x) gm s gs:=by
 obtain⟨_,E,Y,X⟩:=h.ram;refine(CN gm 0 0 x E m w Y X I (by simpa using V)).mono ?_;rintro e w' ⟨rfl,rfl⟩;exact⟨rfl,h.ram_ I W⟩
theorem WS.sload(h:WS w0 w tag t Z gw A ca D cd m gm s gs){a:Nat}(Y:a<72)(a':Int)(e:a'=a):Calls prog 26 #[(gs,0),a'] w fun e w'=>e=.returned (.tuple #[[s.now a],.nilIface])/\w=w':=by
 subst e;exact PA gs a s w h.st.2 Y
theorem WS.ssave(h:WS w0 w tag t Z gw A ca D cd m gm s gs){a:Nat}(Y:a<72)(x:Int)(a':Int)(e:a'=a):Calls prog 18 #[(gs,0),a',[x]] w fun e w'=>e=.returned .nilIface/\WS w0 w' tag t Z gw A ca D cd m gm (s.save a x) gs/\aD (cI gs) w w':=by
 subst e;refine(PN gs a x s w h.st.2 Y).mono ?_;rintro e w' ⟨rfl,rfl⟩;refine⟨rfl,h.store ?_ (bP w gs a _),bP w gs a _⟩;rw[<-DE _ _ Y];exact h.st.2.set_ _ _
theorem WS.flush(h:WS w0 w tag t Z gw A ca D cd m gm s gs)(V:t<4){l:Nat}(U:l<9)(T:s.fl<=1000000000)(X:Int)(e:X=l):Calls prog 97 #[(gs,0),t,X] w fun e w'=>e=.returned .nilIface/\WS w0 w' tag t Z gw A ca D cd m gm (s.flush t l) gs/\aD (cI gs) w w':=by
 subst e;refine(KL gs t l s w h.st.2 V U T).mono ?_;rintro e w' ⟨rfl,W,Y⟩;exact⟨rfl,h.store W Y,Y⟩
theorem WS.fence(h:WS w0 w tag t Z gw A ca D cd m gm s gs)(W:t<4)(V:s.fe<=1000000000):Calls prog 98 #[(gs,0),t] w fun e w'=>e=.returned .nilIface/\WS w0 w' tag t Z gw A ca D cd m gm (s.fence t) gs:=by
 refine(FX gs t s w h.st.2 W V).mono ?_;rintro e w' ⟨rfl,Y,X⟩;exact⟨rfl,h.store Y X⟩
theorem WS.next(h:WS w0 w tag t Z gw A ca D cd m gm s gs)(n d:Nat)(P:Z.i<100)(S R:Int)(U:S=n)(T:R=d):Calls prog 93 #[(gw,0),S,R] w fun e w'=>e=.returned (.tuple #[])/\WS w0 w' tag t (Z.next n d) gw A ca D cd m gm s gs:=by
 subst U T;refine(Bs gw t Z _ _ n d w h.wk.blk P).mono ?_;rintro e w' ⟨rfl,Q,V⟩;have X:∀b,cI gw b->tag b=10+t:=fun b Y=>by rw[show b=gw from Y];exact h.wk.tg
 have W:(Z.next n d).asks=Z.asks/\(Z.next n d).na=Z.na/\(Z.next n d).deeds=Z.deeds:=by unfold cQ.next;split<;>exact⟨rfl,rfl,rfl⟩
 refine⟨rfl,⟨?_,?_,?_,h.wk.tg,h.wk.tA,h.wk.tD⟩,h.ram.kept V (bI.refl _ _) (fun b Y=>by rw[X b Y];omega),h.st.kept V (bI.refl _ _) (fun b Y=>by rw[X b Y];omega),h.k.trans (V.mono fun b Y=>.inr (.inr (.inl (X b Y))))⟩
 .rw[W.2.1,W.2.2];exact Q
 .rw[W.2.1,W.1];exact h.wk.asks.keptT V h.wk.tA (fun b Y=>by rw[X b Y];omega)
 rw[W.2.2];exact h.wk.deeds.keptT V h.wk.tD (fun b Y=>by rw[X b Y];omega)
theorem WS.c1(h:WS w0 w tag t Z gw A ca D cd m gm s gs)(d:Z.does=k):w.cell? (gw,1)=k:=by
 rw[h.c 1 I,<-d];rfl
end
section
variable{w:World}{tag:Nat->Nat}{t gw gm gs:Nat}{Z:cQ}{A D:Option Addr}{ca cd:Nat}{m:Nat->Int}{s:cN}
theorem An(O:gJ w tag t Z gw A ca D cd)(N:fE w tag m gm)(M:iQ w tag s gs)(r:t<4)(d:Z.does=1)(T:gQ Z.a Z.k Z.v):
 Calls prog 62 #[(gw,0),(gm,0)] w fun e w'=>e=.returned (.tuple #[])/\iZ w tag t gw gm gs (stp t m s Z) w':=by
 rw[show stp t m s Z=⟨eI m (2+2*t) (fN Z.a Z.k Z.v),s,Z.go 2,false⟩ by simp only[stp,d]];have Y:=aH (WS.start O N M);have S:=aH (fun W=>JT Z.a Z.k Z.v W);rw[show jI Z.a Z.k Z.v=fN Z.a Z.k Z.v from iP (eN.2 T)]at S;have V:=CA T;have c1:w.cell? (gw,1)=(1:Int):=Y.c1 d;have C:w.cell? (gw,2)=Z.a:=Y.c 2 I;have B:w.cell? (gw,3)=Z.k:=Y.c 3 I;have z:w.cell? (gw,4)=Z.v:=Y.c 4 I;have L:=Y.lt;have K:=aH d;clear O N M T d;generalize fN Z.a Z.k Z.v=x at*
 go_enter func62,ntmps62
 go_wp2_with fail
 with_reducible refine(S.out _).mono ?_
 rintro e F ⟨rfl,X⟩;have R:=aH (Y.below X);clear X;have y:F.cell? (gw,0)=t:=R.c 0 I;have Q:=aH (R.rsave (i:=2+2*t) I V (2+2*(t:Int)) I);go_wp2_with fail
 with_reducible refine Q.out.mono ?_
 rintro e E ⟨rfl,P,_⟩;have U:=aH P;clear P Q;have H:E.cell? (gw,1)=(1:Int):=U.c1 K;have u:=U.f 1;have G:=aH ((U.does 2).out false);go_wp2;refine bodyPost_end (v:=.tuple #[]) (by simp [results,results62,go_sem]) rfl ⟨rfl,G.out⟩
end
theorem ZY(v:Nat)(Y:Int)(e:Y=v)(B:Nat)(W:B=dU v)(w:World):Calls prog 72 #[[Y]] w fun e w'=>e=.returned B/\Below w w w':=by
 subst e W;rcases(by omega:v%2=0\/v%2=1)with h|h
 .have X:(v:Int)%2=0:=I;have Z:(dU v:Int)=8:=by unfold dU;omega
  rw[Z]
  go_enter func72,ntmps72
  go_wp2;go_ret;exact⟨rfl,Below.refl _ _⟩
 have X:(v:Int)%2=1:=I;have Z:(dU v:Int)=40:=by unfold dU;omega
 rw[Z]
 go_enter func72,ntmps72
 go_wp2;go_ret;exact⟨rfl,Below.refl _ _⟩
structure Kg (T:Nat->Prop) (w0:World) (tag0:Nat->Nat) (w:World) (tag:Nat->Nat):Prop where
 t:bI w0 tag0 tag
 k:aD (fun b=>T (tag0 b)) w0 w
theorem Kg.refl(T:Nat->Prop)(w:World)(tag:Nat->Nat):Kg T w tag w tag:=⟨bI.refl _ _,aD.refl _ _⟩
theorem Kg.go(h:Kg T w0 tag0 w tag)(W:bI w tag tag')(Z:aD S w w')(V:∀b,S b->T (tag b)):Kg T w0 tag0 w' tag':=by
 refine⟨h.t.trans W h.k.size,⟨Z.os.trans h.k.os,Z.tape.trans h.k.tape,Z.output.trans h.k.output,Nat.le_trans h.k.size Z.size,fun b Y X=>?_⟩⟩;refine(Z.block b (Nat.lt_of_lt_of_le Y h.k.size) fun e=>X ?_).trans (h.k.block b Y X);have:=V b e;rw[h.t b Y]at this;exact this
theorem Kg.trans(h:Kg T w0 tag0 w tag)(Z:Kg T w tag w' tag'):Kg T w0 tag0 w' tag':=h.go Z.t Z.k (fun _ x=>x)
theorem Kg.mono{Z:Nat->Prop}(h:Kg T w0 tag0 w tag)(X:∀k,T k->Z k):Kg Z w0 tag0 w tag:=⟨h.t,h.k.mono fun b Y=>X _ Y⟩
theorem Kg.below(h:Kg T w0 tag0 w tag)(Z:Below w w w'):Kg T w0 tag0 w' tag:=h.go (S:=bN) (bI.refl _ _) (aD.of_same Z) (fun _ x=>x.elim)
def FG(w:World)(tag:Nat->Nat)(l:List (Nat×Nat×TypeId×Value)):Prop:=∀x∈l,tag x.1=x.2.1/\aY w x.1 x.2.2.1 #[x.2.2.2]
theorem FG.kept{l:List (Nat×Nat×TypeId×Value)}(h:FG w tag l)(W:aD S w w')(V:bI w tag tag')(U:∀b,S b->∀x∈l,tag b≠x.2.1):FG w' tag' l:=fun x Y=>by
 obtain⟨X,Z⟩:=h x Y;exact⟨(V _ Z.lt).trans X,(W.block _ Z.lt fun e=>U _ e x Y X).trans Z⟩
theorem FG.cell{l:List (Nat×Nat×TypeId×Value)}(h:FG w tag l)(Z:(b,k,ty,v)∈l):w.cell? (b,0)=v:=by rw[(h _ Z).2.cell];rfl
theorem FG.lt{l:List (Nat×Nat×TypeId×Value)}(h:FG w tag l)(Z:(b,k,ty,v)∈l):b<w:=(h _ Z).2.lt
def fH(w:World)(tag:Nat->Nat)(l:List Nat)(b:Nat):Nat:=if b<w then tag b else l.getD (b-w) 0
theorem dX(w:World)(tag:Nat->Nat)(l:List Nat):bI w tag (fH w tag l):=fun b Z=>iP Z
theorem fB(w:World)(tag:Nat->Nat)(l:List Nat)(i:Nat):fH w tag l (w+i)=l.getD i 0:=by
 unfold fH;rw[iN I,Nat.add_sub_cancel_left]
theorem WU:(prog.info? 142).map (fun i=>(i.zero,i.size,i.bytes))=some (some (.agg #[(0:Int),.nilFunc]),2,16):=J
theorem wL:∃Z,prog.info? 142=some Z/\Z.zero=some (.agg #[(0:Int),.nilFunc])/\Z.size=2/\Z.bytes=16:=by
 have h:=WU;cases hq:prog.info? 142 with
 |none=>simp [hq]at h
 |some i=>simp [hq]at h;exact⟨i,rfl,h.1,h.2.1,h.2.2⟩
def eJ(t k:Nat):Prop:=k=110+t\/k=120+t
theorem jF{Z:cQ}{Q:Option Addr}{ended:Bool}(h:lT w tag t Z last q Q cr D cd rows ended)(k:Nat)(N:Nat)(Y:Array Value)(k':Int)(S:k'=k)(hl:rows.length<=1000):
 Calls prog 107 #[(q,0),k',.func (.func N) #[] Y] w fun e w'=>e=.returned (.tuple #[])/\∃P R' zz,Kg (eJ t) w tag w' P/\lT w' P t Z last q R' zz D cd (rows++[td k (fv N Y)]) ended:=by
 subst S;have V:=aH h;have c1:w.cell? (q,1)=some (.slice Q rows.length cr):=h.blk.cell 1;have f1:=h.blk.frozen 1;have x:=h.blk.lt;have s:¬iI Q q:=fun e=>by have:=h.tR q e;have:=h.tg;omega
 obtain⟨i0,G,F,E,C⟩:=wL;have HI:=aH G;have HZ:=aH F;have HS:=aH E;have HY:=aH C;clear h G F E C
 go_enter func107,ntmps107
 have HV:Hid (∀j,j<2->(w.alloc (.cells #[k,.func (.func N) #[] Y] 142)).cell? (w.heap.size,j)=[Value.int .i64 (k:Int),.func (.func N) #[] Y][j]?):=aH (fun j _=>by
  rw[(aY.new w 142 #[k,.func (.func N) #[] Y]).cell j];simp)
 have H1:Hid (∀u∈[Value.int .i64 (k:Int),.func (.func N) #[] Y],u.oneCell'=true):=aH (fun u hu=>by
  simp only[List.mem_cons,List.not_mem_nil,or_false]at hu;rcases hu with rfl|rfl<;>rfl)
 have L:Hid (Below w w (w.alloc (.cells #[k,.func (.func N) #[] Y] 142))):=aH ((Below.refl _ _).alloc (Nat.le_refl _) _);have r:=aH (V.row.below L);have HQ:Hid (aY (w.alloc (.cells #[k,.func (.func N) #[] Y] 142)) q 140 (vN t Z last (.slice Q rows.length cr) (.slice D Z.deeds.length cd) ended)):=aH (V.blk.alloc _);have p:Hid (∀W,aY W q 140 (vN t Z last (.slice Q rows.length cr) (.slice D Z.deeds.length cd) ended)->W.cell? (q,1)=some (.slice Q rows.length cr)):=aH (fun W h=>h.cell 1);have o:Hid (∀W,aY W q 140 (vN t Z last (.slice Q rows.length cr) (.slice D Z.deeds.length cd) ended)->W.frozen? ⟨q,1,none⟩=false):=aH (fun W h=>h.frozen 1);have m:Hid (∀W,aY W q 140 (vN t Z last (.slice Q rows.length cr) (.slice D Z.deeds.length cd) ended)->q<W):=aH (fun W h=>h.lt)
 go_wp2_with (refine qJ (.tmp 10) (.tmp 14) rfl rfl underlying138 HI HZ HS HY rfl aJ aJ (A:=Q) (n:=rows.length) (c:=cr) (rows:=rows) rfl r (g:=w) (c':=1) rfl (ys:=[.int .i64 (k:Int),.func (.func N) #[] Y]) rfl HV H1 I (Nat.zero_le _) ?_;rintro R M w9 B S z;have U:=(S.block q HQ.lt s).trans HQ;have zy:=p.out w9 U;have zx:=o.out w9 U;have zw:=m.out w9 U;have l:=aH U;clear U)
 have K:=aH ((aD.of_same L).trans S);have i:Hid (cU w9 0 142 2 (some ⟨R,0,none⟩) (rows.length+1) M (rows++[[.int .i64 (k:Int),.func (.func N) #[] Y]])):=aH B;have f:Hid (∀b,iI (some ⟨R,0,none⟩) b->iI Q b\/w<=b):=aH (fun b X=>by
  obtain⟨a,y,rfl⟩:=X;cases y;rcases z with⟨a,y,e⟩|e
  .exact .inl ⟨a,y,e⟩
  exact .inr (by show w<=R;rw[e];simp))
 clear B S z;have d:=V.tR;have T:=cO w tag (120+t);have H:=(T q x).trans V.tg;have O:∀b,cI q b->cG w tag (120+t) b=110+t:=fun b X=>by rw[show b=q from X];exact H
 have tA:∀b,iI (some ⟨R,0,none⟩) b->cG w tag (120+t) b=120+t:=fun b X=>by
  rcases f.out b X with e|e
  .exact(T b (by obtain⟨a,y,rfl⟩:=e;exact(V.row.lt a y).2)).trans (d b e)
  exact dT _ _ _ e
 have HF:Hid (Kg (eJ t) w tag (w9.setCell (q,1) (.slice (some ⟨R,0,none⟩) (rows.length+1) M)) (cG w tag (120+t))/\lT (w9.setCell (q,1) (.slice (some ⟨R,0,none⟩) (rows.length+1) M)) (cG w tag (120+t)) t Z last q (some ⟨R,0,none⟩) M D cd (rows++[td k (fv N Y)]) ended):=aH ⟨((Kg.refl (eJ t) w tag).go T K (fun b X=>.inr (d b X))).go (bI.refl _ _) (bP w9 q 1 _) (fun b X=>.inl (O b X)),by
  refine⟨?_,?_,?_,H,tA,V.deeds.tagT T V.tD⟩
  .have hx:=aY.set_ l 1 (.slice (some ⟨R,0,none⟩) (rows.length+1) M);show aY _ q _ (vN t Z last (.slice (some ⟨R,0,none⟩) (rows++[_]).length M) _ ended);rw[show(rows++[td k (fv N Y)]).length=rows.length+1 by simp];exact hx
  .show cU _ 0 _ 2 (some ⟨R,0,none⟩) (rows++[_]).length M _;rw[show(rows++[td k (fv N Y)]).length=rows.length+1 by simp];exact i.keptT (bP w9 q 1 _) tA (fun b X=>by rw[O b X];omega)
  exact(V.deeds.keptT K V.tD (fun b X=>by rw[d b X];omega)).keptT (bP w9 q 1 _) (V.deeds.tagT T V.tD) (fun b X=>by rw[O b X];omega)⟩
 refine bodyPost_end (v:=.tuple #[]) (by simp [results,results107,go_sem]) rfl ⟨rfl,_,_,_,HF.out.1,HF.out.2⟩
theorem KH:∀(fn:Fn) (first cap:Array Value) (w:World),(Instr.makeFunc fn first cap).run prog w=.ok (.func fn first cap) w:=fun _ _ _ _=>rfl
def yD(t:Nat)(l:List (Nat×Nat×TypeId×Value)):Prop:=∀x∈l,x.2.1≠110+t/\x.2.1≠120+t
theorem FG.then_{l:List (Nat×Nat×TypeId×Value)}(h:FG w tag l)(Z:Kg (eJ t) w tag w' tag')(X:yD t l):FG w' tag' l:=
 h.kept Z.k Z.t (fun b hb x Y e=>by have:=X x Y;rcases hb with hb|hb<;>omega)
theorem dD.then_(X:t<4){e:mG}{cs:List Cl}{Z:List (List Value)}(h:dD w tag e cs Z)(Y:Kg (eJ t) w tag w' tag'):dD w' tag' e cs Z:=
 h.kept Y.k Y.t (fun b hb=>by rcases hb with hb|hb<;>omega)
theorem lT.below{Z:cQ}{Y:Option Addr}{ended:Bool}(h:lT w tag t Z last q Y cr D cd rows ended)(X:Below w w w')(W:bI w tag tag'):lT w' tag' t Z last q Y cr D cd rows ended:=
 h.kept (S:=bN) (aD.of_same X) W (fun _ x=>x.elim) (fun _ x=>x.elim) (fun _ x=>x.elim)
theorem dD.below{e:mG}{cs:List Cl}{Z:List (List Value)}(h:dD w tag e cs Z)(Y:Below w w w')(X:bI w tag tag'):dD w' tag' e cs Z:=
 h.kept (S:=bN) (aD.of_same Y) X (fun _ x=>x.elim)
theorem Kg.start(Z:Below w w w')(Y:bI w tag tag'):Kg T w tag w' tag':=(Kg.refl T w tag).go (S:=bN) Y (aD.of_same Z) (fun _ x=>x.elim)
section
variable{w:World}{tag:Nat->Nat}{t:Nat}{Z:cQ}{last:Int}{q:Nat}{RA:Option Addr}{cr:Nat}{D:Option Addr}{cd:Nat}{rows0:List (List Value)}{ended:Bool}
theorem PW(h:lT w tag t Z last q RA cr D cd [] ended)(p:Nat)(ht:t<4):
 Calls prog 88 #[.pointer (some ⟨p,0,none⟩),.pointer (some ⟨q,0,none⟩)] w fun e w'=>e=.returned (.tuple #[])/\∃V Q zz zy O,Kg (eJ t) w tag w' V/\(Q.p=p/\Q.q=q)/\lT w' V t Z last q zz zy D cd O ended/\dD w' V Q [.look1,.look2,.look3,.look4,.look5] O/\oM w' V Q.v (130+t) 0/\oM w' V Q.g (170+t) 0/\oM w' V Q.a (180+t) 0/\oM w' V Q.n (190+t) 0:=by
 have F:Below w.heap.size w ((((((w.alloc (.cells #[.pointer (some ⟨p,0,none⟩)] 47)).alloc (.cells #[.pointer (some ⟨q,0,none⟩)] 63)).alloc (.cells #[.int .u64 0] 23)).alloc (.cells #[.int .u64 0] 23)).alloc (.cells #[.int .u64 0] 23)).alloc (.cells #[.int .u64 0] 23)):=(((((((Below.refl w.heap.size w).alloc (Nat.le_refl _) (.cells #[.pointer (some ⟨p,0,none⟩)] 47)).alloc (by simp;try omega) (.cells #[.pointer (some ⟨q,0,none⟩)] 63)).alloc (by simp;try omega) (.cells #[.int .u64 0] 23)).alloc (by simp;try omega) (.cells #[.int .u64 0] 23)).alloc (by simp;try omega) (.cells #[.int .u64 0] 23)).alloc (by simp;try omega) (.cells #[.int .u64 0] 23));have N:Hid (FG ((((((w.alloc (.cells #[.pointer (some ⟨p,0,none⟩)] 47)).alloc (.cells #[.pointer (some ⟨q,0,none⟩)] 63)).alloc (.cells #[.int .u64 0] 23)).alloc (.cells #[.int .u64 0] 23)).alloc (.cells #[.int .u64 0] 23)).alloc (.cells #[.int .u64 0] 23)) (fH w tag [106,106,130+t,170+t,180+t,190+t]) [(w.heap.size,106,47,.pointer (some ⟨p,0,none⟩)),(w.heap.size+1,106,63,.pointer (some ⟨q,0,none⟩)),(w.heap.size+2,130+t,23,.int .u64 0),(w.heap.size+3,170+t,23,.int .u64 0),(w.heap.size+4,180+t,23,.int .u64 0),(w.heap.size+5,190+t,23,.int .u64 0)]):=Lib.hid (by
  intro x i;simp only[List.mem_cons,List.not_mem_nil,or_false]at i;rcases i with rfl|rfl|rfl|rfl|rfl|rfl
  .exact⟨fB w tag [106,106,130+t,170+t,180+t,190+t] 0,(((((aY.newAt _ _ _ (by simp)).alloc _).alloc _).alloc _).alloc _).alloc _⟩
  .exact⟨fB w tag [106,106,130+t,170+t,180+t,190+t] 1,((((aY.newAt _ _ _ (by simp)).alloc _).alloc _).alloc _).alloc _⟩
  .exact⟨fB w tag [106,106,130+t,170+t,180+t,190+t] 2,(((aY.newAt _ _ _ (by simp)).alloc _).alloc _).alloc _⟩
  .exact⟨fB w tag [106,106,130+t,170+t,180+t,190+t] 3,((aY.newAt _ _ _ (by simp)).alloc _).alloc _⟩
  .exact⟨fB w tag [106,106,130+t,170+t,180+t,190+t] 4,(aY.newAt _ _ _ (by simp)).alloc _⟩
  .exact⟨fB w tag [106,106,130+t,170+t,180+t,190+t] 5,aY.newAt _ _ _ (by simp)⟩)
 have C:=Lib.hid (h.below F (dX w tag [106,106,130+t,170+t,180+t,190+t]));have B:Hid (Kg (eJ t) w tag ((((((w.alloc (.cells #[.pointer (some ⟨p,0,none⟩)] 47)).alloc (.cells #[.pointer (some ⟨q,0,none⟩)] 63)).alloc (.cells #[.int .u64 0] 23)).alloc (.cells #[.int .u64 0] 23)).alloc (.cells #[.int .u64 0] 23)).alloc (.cells #[.int .u64 0] 23)) (fH w tag [106,106,130+t,170+t,180+t,190+t])):=Lib.hid (Kg.start F (dX w tag [106,106,130+t,170+t,180+t,190+t]));have hn:yD t [(w.heap.size,106,47,.pointer (some ⟨p,0,none⟩)),(w.heap.size+1,106,63,.pointer (some ⟨q,0,none⟩)),(w.heap.size+2,130+t,23,.int .u64 0),(w.heap.size+3,170+t,23,.int .u64 0),(w.heap.size+4,180+t,23,.int .u64 0),(w.heap.size+5,190+t,23,.int .u64 0)]:=by
  intro x i;simp only[List.mem_cons,List.not_mem_nil,or_false]at i;rcases i with rfl|rfl|rfl|rfl|rfl|rfl<;>(constructor<;>(try dsimp only)<;>omega)
 have A:=Lib.hid hn;clear h F hn;have zs:=KH
 go_enter func88,ntmps88
 go_upto_region 2 with(fail)
 show Code.wp _ _ _ _ ((((((w.alloc (.cells #[.pointer (some ⟨p,0,none⟩)] 47)).alloc (.cells #[.pointer (some ⟨q,0,none⟩)] 63)).alloc (.cells #[.int .u64 0] 23)).alloc (.cells #[.int .u64 0] 23)).alloc (.cells #[.int .u64 0] 23)).alloc (.cells #[.int .u64 0] 23));generalize((((((w.alloc (.cells #[.pointer (some ⟨p,0,none⟩)] 47)).alloc (.cells #[.pointer (some ⟨q,0,none⟩)] 63)).alloc (.cells #[.int .u64 0] 23)).alloc (.cells #[.int .u64 0] 23)).alloc (.cells #[.int .u64 0] 23)).alloc (.cells #[.int .u64 0] 23))=w0 at*;generalize fH w tag [106,106,130+t,170+t,180+t,190+t]=zt at*;generalize w.heap.size=Y at*;have M:w0.cell? ⟨Y+1,0,none⟩=some (.pointer (some ⟨q,0,none⟩)):=N.out.cell (k:=106) (ty:=63) (by simp [cR]);have U:Y+1<w0.heap.size:=N.out.lt (k:=106) (ty:=63) (v:=cR q) (by simp [cR]);have P:=Lib.hid (jF C.out 17 108 #[.pointer (some ⟨Y,0,none⟩),.pointer (some ⟨Y+2,0,none⟩)] 17 rfl (by simp));go_wp2_with fail
 with_reducible refine P.out.mono ?_
 rintro e w1 ⟨rfl,zx,R1,zr,T,X⟩;have z:=Lib.hid X;have y:=Lib.hid (B.out.trans T);have L:=Lib.hid (N.out.then_ T A.out);clear T X P M U C B N;have M:w1.cell? ⟨Y+1,0,none⟩=some (.pointer (some ⟨q,0,none⟩)):=L.out.cell (k:=106) (ty:=63) (by simp [cR]);have U:Y+1<w1.heap.size:=L.out.lt (k:=106) (ty:=63) (v:=cR q) (by simp [cR]);have P:=Lib.hid (jF z.out 18 109 #[.pointer (some ⟨Y,0,none⟩),.pointer (some ⟨Y+2,0,none⟩),.pointer (some ⟨Y+3,0,none⟩)] 18 rfl (by simp));go_wp2_with fail
 with_reducible refine P.out.mono ?_
 rintro e w2 ⟨rfl,zw,R2,zq,T,X⟩;have u:=Lib.hid X;have s:=Lib.hid (y.out.trans T);have K:=Lib.hid (L.out.then_ T A.out);clear T X P M U z y L;have M:w2.cell? ⟨Y+1,0,none⟩=some (.pointer (some ⟨q,0,none⟩)):=K.out.cell (k:=106) (ty:=63) (by simp [cR]);have U:Y+1<w2.heap.size:=K.out.lt (k:=106) (ty:=63) (v:=cR q) (by simp [cR]);have P:=Lib.hid (jF u.out 19 110 #[.pointer (some ⟨Y,0,none⟩),.pointer (some ⟨Y+2,0,none⟩),.pointer (some ⟨Y+1,0,none⟩),.pointer (some ⟨Y+4,0,none⟩)] 19 rfl (by simp));go_wp2_with fail
 with_reducible refine P.out.mono ?_
 rintro e w3 ⟨rfl,zv,R3,zp,T,X⟩;have r:=Lib.hid X;have o:=Lib.hid (s.out.trans T);have H:=Lib.hid (K.out.then_ T A.out);clear T X P M U u s K;have M:w3.cell? ⟨Y+1,0,none⟩=some (.pointer (some ⟨q,0,none⟩)):=H.out.cell (k:=106) (ty:=63) (by simp [cR]);have U:Y+1<w3.heap.size:=H.out.lt (k:=106) (ty:=63) (v:=cR q) (by simp [cR]);have P:=Lib.hid (jF r.out 20 111 #[.pointer (some ⟨Y,0,none⟩),.pointer (some ⟨Y+2,0,none⟩),.pointer (some ⟨Y+1,0,none⟩),.pointer (some ⟨Y+5,0,none⟩)] 20 rfl (by simp));go_wp2_with fail
 with_reducible refine P.out.mono ?_
 rintro e w4 ⟨rfl,zu,R4,zo,T,X⟩;have m:=Lib.hid X;have l:=Lib.hid (o.out.trans T);have G:=Lib.hid (H.out.then_ T A.out);clear T X P M U r o H;have M:w4.cell? ⟨Y+1,0,none⟩=some (.pointer (some ⟨q,0,none⟩)):=G.out.cell (k:=106) (ty:=63) (by simp [cR]);have U:Y+1<w4.heap.size:=G.out.lt (k:=106) (ty:=63) (v:=cR q) (by simp [cR]);have P:=Lib.hid (jF m.out 21 112 #[.pointer (some ⟨Y,0,none⟩),.pointer (some ⟨Y+2,0,none⟩),.pointer (some ⟨Y+3,0,none⟩),.pointer (some ⟨Y+1,0,none⟩),.pointer (some ⟨Y+4,0,none⟩),.pointer (some ⟨Y+5,0,none⟩)] 21 rfl (by simp));go_wp2_with fail
 with_reducible refine P.out.mono ?_
 rintro e E ⟨rfl,W,R5,b,T,X⟩;have f:=Lib.hid X;have d:=Lib.hid (l.out.trans T);have R:=Lib.hid (G.out.then_ T A.out);clear T X P M U m l G;have j:RO E W Y 47 (cR p)/\RO E W (Y+1) 63 (cR q):=⟨R.out (Y,106,47,.pointer (some ⟨p,0,none⟩)) (by simp),R.out (Y+1,106,63,.pointer (some ⟨q,0,none⟩)) (by simp)⟩;have S:=Lib.hid j;have c:Hid (oM E W (Y+2) (130+t) 0/\oM E W (Y+3) (170+t) 0/\oM E W (Y+4) (180+t) 0/\oM E W (Y+5) (190+t) 0):=Lib.hid ⟨R.out (Y+2,130+t,23,.int .u64 0) (by simp),R.out (Y+3,170+t,23,.int .u64 0) (by simp),R.out (Y+4,180+t,23,.int .u64 0) (by simp),R.out (Y+5,190+t,23,.int .u64 0) (by simp)⟩;clear j R;go_wp2;refine bodyPost_end (v:=.tuple #[]) (by simp [results,results88,go_sem]) rfl ⟨rfl,W,⟨p,q,Y+2,0,0,Y+3,Y+4,Y+5⟩,R5,b,_,d.out,⟨rfl,rfl⟩,f.out,⟨⟨Y,rfl,S.out.1⟩,⟨Y,rfl,S.out.1⟩,⟨Y,Y+1,rfl,S.out.1,S.out.2⟩,⟨Y,Y+1,rfl,S.out.1,S.out.2⟩,⟨Y,Y+1,rfl,S.out.1,S.out.2⟩,trivial⟩,c.out⟩
theorem GK(h:lT w tag t Z last q RA cr D cd rows0 ended)(p:Nat)(f:t<4){e0:mG}(n:e0.p=p/\e0.q=q){cls:List Cl}(m:dD w tag e0 cls rows0)(d:rows0.length<=900):
 Calls prog 114 #[(p,0),(q,0)] w fun e w'=>e=.returned (.tuple #[])/\∃X B A W,Kg (eJ t) w tag w' X/\lT w' X t Z last q B A D cd W ended/\dD w' X e0 (cls++[.lock]) W:=by
 have z:=aH n;clear n;have U:Below w w ((w.alloc (.cells #[(p,0)] 47)).alloc (.cells #[(q,0)] 63)):=(((Below.refl w w).alloc (Nat.le_refl _) (.cells #[(p,0)] 47)).alloc (by simp;try omega) (.cells #[(q,0)] 63));have T:Hid (FG ((w.alloc (.cells #[(p,0)] 47)).alloc (.cells #[(q,0)] 63)) (fH w tag [106,106]) [(w.heap.size,106,47,(p,0)),(w+1,106,63,(q,0))]):=aH (by
  intro x O;simp only[List.mem_cons,List.not_mem_nil,or_false]at O;rcases O with rfl|rfl
  .exact⟨fB w tag [106,106] 0,(aY.newAt _ _ _ (by simp)).alloc _⟩
  exact⟨fB w tag [106,106] 1,aY.newAt _ _ _ (by simp)⟩)
 have Q:=aH (h.below U (dX w tag [106,106]));have P:Hid (Kg (eJ t) w tag ((w.alloc (.cells #[(p,0)] 47)).alloc (.cells #[(q,0)] 63)) (fH w tag [106,106])):=aH (Kg.start U (dX w tag [106,106]));have y:yD t [(w.heap.size,106,47,(p,0)),(w+1,106,63,(q,0))]:=by
  intro x O;simp only[List.mem_cons,List.not_mem_nil,or_false]at O;rcases O with rfl|rfl<;>(constructor<;>(try dsimp only)<;>omega)
 have l:=aH y;have L:=aH (m.below U (dX w tag [106,106]));clear m;clear h U y;have j:=KH
 go_enter func114,ntmps114
 go_upto_region 1 with(fail)
 show Code.wp _ _ _ _ ((w.alloc (.cells #[(p,0)] 47)).alloc (.cells #[(q,0)] 63));generalize((w.alloc (.cells #[(p,0)] 47)).alloc (.cells #[(q,0)] 63))=r at*;generalize fH w tag [106,106]=o at*;generalize w.heap.size=V at*;have i:r.cell? (V+1,0)=(q,0):=T.cell (k:=106) (ty:=63) (by simp [cR]);have K:V+1<r:=T.lt (k:=106) (ty:=63) (v:=cR q) (by simp [cR]);have u:=aH (jF Q 3 126 #[(V,0),(V+1,0)] 3 rfl I);go_wp2_with fail
 with_reducible refine u.out.mono ?_
 rintro e s ⟨rfl,Y,g,C,M,N⟩;have H:=aH N;have G:=aH (P.trans M);have S:=aH (T.then_ M l);have F:=aH (L.then_ f M);clear M N u i K Q P T;have R:RO s Y V 47 (cR e0.p)/\RO s Y (V+1) 63 (cR e0.q):=by
  rw[z.out.1,z.out.2];exact⟨S.out (V,106,47,.pointer (some ⟨p,0,none⟩)) (by simp),S.out (V+1,106,63,.pointer (some ⟨q,0,none⟩)) (by simp)⟩
 have E:=aH (F.add (c:=.lock) ⟨V,V+1,rfl,R.1,R.2⟩);clear R S;go_wp2;refine bodyPost_end (v:=.tuple #[]) (by simp [results,results114,go_sem]) rfl ⟨rfl,Y,g,C,_,G.out,H.out,E.out⟩
theorem RQ(h:lT w tag t Z last q RA cr D cd [] ended)(p:Nat)(ht:t<4):
 Calls prog 89 #[(p,0),(q,0)] w fun e w'=>e=.returned (.tuple #[])/\∃V L j i U,Kg (eJ t) w tag w' V/\(L.p=p/\L.q=q)/\lT w' V t Z last q j i D cd U ended/\dD w' V L [.says1,.says2,.lock] U:=by
 have O:Below w w ((w.alloc (.cells #[(p,0)] 47)).alloc (.cells #[(q,0)] 63)):=(((Below.refl w w).alloc (Nat.le_refl _) (.cells #[(p,0)] 47)).alloc (by simp;try omega) (.cells #[(q,0)] 63));have S:Hid (FG ((w.alloc (.cells #[(p,0)] 47)).alloc (.cells #[(q,0)] 63)) (fH w tag [106,106]) [(w.heap.size,106,47,(p,0)),(w+1,106,63,(q,0))]):=aH (by
  intro x A;simp only[List.mem_cons,List.not_mem_nil,or_false]at A;rcases A with rfl|rfl
  .exact⟨fB w tag [106,106] 0,(aY.newAt _ _ _ (by simp)).alloc _⟩
  exact⟨fB w tag [106,106] 1,aY.newAt _ _ _ (by simp)⟩)
 have K:=aH (h.below O (dX w tag [106,106]));have H:Hid (Kg (eJ t) w tag ((w.alloc (.cells #[(p,0)] 47)).alloc (.cells #[(q,0)] 63)) (fH w tag [106,106])):=aH (Kg.start O (dX w tag [106,106]));have g:yD t [(w.heap.size,106,47,(p,0)),(w+1,106,63,(q,0))]:=by
  intro x A;simp only[List.mem_cons,List.not_mem_nil,or_false]at A;rcases A with rfl|rfl<;>(constructor<;>(try dsimp only)<;>omega)
 have f:=aH g;clear h O g;have zz:=KH
 go_enter func89,ntmps89
 go_upto_region 1 with(fail)
 show Code.wp _ _ _ _ ((w.alloc (.cells #[(p,0)] 47)).alloc (.cells #[(q,0)] 63));generalize((w.alloc (.cells #[(p,0)] 47)).alloc (.cells #[(q,0)] 63))=b at*;generalize fH w tag [106,106]=a at*;generalize w.heap.size=X at*;have u:b.cell? (X+1,0)=(q,0):=S.cell (k:=106) (ty:=63) (by simp [cR]);have R:X+1<b:=S.lt (k:=106) (ty:=63) (v:=cR q) (by simp [cR]);have G:=aH (jF K 1 115 #[(X+1,0),(X,0)] 1 rfl (by simp));go_wp2_with fail
 with_reducible refine G.out.mono ?_
 rintro e d ⟨rfl,c,R1,zx,T,W⟩;have F:=aH W;have E:=aH (H.trans T);have Q:=aH (S.then_ T f);clear T W G u R K H S;have u:d.cell? (X+1,0)=(q,0):=Q.cell (k:=106) (ty:=63) (by simp [cR]);have R:X+1<d:=Q.lt (k:=106) (ty:=63) (v:=cR q) (by simp [cR]);have G:=aH (jF F 2 117 #[(X+1,0),(X,0)] 2 rfl (by simp));go_wp2_with fail
 with_reducible refine G.out.mono ?_
 rintro e s ⟨rfl,P,R2,zw,T,W⟩;have C:=aH W;have r:=aH (E.trans T);have N:=aH (Q.then_ T f);clear T W G u R F E Q;have Y:RO s P X 47 (cR p)/\RO s P (X+1) 63 (cR q):=⟨N.out (X,106,47,.pointer (some ⟨p,0,none⟩)) (by simp),N.out (X+1,106,63,.pointer (some ⟨q,0,none⟩)) (by simp)⟩;have B:=aH (GK C p ht (e0:=⟨p,q,0,0,0,0,0,0⟩) ⟨rfl,rfl⟩ (cls:=[.says1,.says2]) ⟨⟨X+1,X,rfl,Y.2,Y.1⟩,⟨X+1,X,rfl,Y.2,Y.1⟩,trivial⟩ (by simp));have cp:s.cell? (X,0)=(p,0):=Y.1.cell;have u:s.cell? (X+1,0)=(q,0):=Y.2.cell;have zy:=Y.1.2.lt;have R:=Y.2.2.lt;clear Y N C;go_wp2_with fail
 with_reducible refine B.out.mono ?_
 rintro e w3 ⟨rfl,z,R3,l,M,T,W,y⟩;have o:=aH (r.trans T);have n:=aH W;have m:=aH y;clear T W y B;go_wp2;refine bodyPost_end (v:=.tuple #[]) (by simp [results,results89,go_sem]) rfl ⟨rfl,z,⟨p,q,0,0,0,0,0,0⟩,R3,l,M,o.out,⟨rfl,rfl⟩,n.out,m.out⟩
end
section
variable{w:World}{tag:Nat->Nat}{t:Nat}{Z:cQ}{last:Int}{q:Nat}{RA:Option Addr}{cr:Nat}{D:Option Addr}{cd:Nat}{rows0:List (List Value)}{ended:Bool}
def tS(t p q b:Nat):List (Nat×Nat×TypeId×Value):=[(b,106,47,cR p),(b+1,106,63,cR q),(b+2,130+t,23,.int .u64 0),(b+4,106,91,.slice (some ⟨b+3,0,none⟩) 32 32)]
def DS(p q b:Nat):mG:=⟨p,q,b+2,b+5,b+3,0,0,0⟩
theorem XO(t p q b:Nat)(Y:t<4):yD t (tS t p q b):=by
 intro x Z;simp only[tS,List.mem_cons,List.not_mem_nil,or_false]at Z;rcases Z with rfl|rfl|rfl|rfl<;>(constructor<;>(try dsimp only)<;>omega)
structure VY (w0:World) (tag0:Nat->Nat) (t:Nat) (Z:cQ) (last:Int) (p q b:Nat) (D:Option Addr) (cd:Nat) (ended:Bool) (cs:List Cl) (w:World) (tag:Nat->Nat) (R:Option Addr) (cr:Nat) (rows:List (List Value)):Prop where
 k:Kg (eJ t) w0 tag0 w tag
 th:lT w tag t Z last q R cr D cd rows ended
 bx:FG w tag (tS t p q b)
 l:rN w tag t (b+5) []
 wd:lF w tag t (b+3) (fun _=>0)
 rs:dD w tag (DS p q b) cs rows
def By(w0:World)(tag0:Nat->Nat)(t:Nat)(Z:cQ)(last:Int)(p q b:Nat)(D:Option Addr)(cd:Nat)(ended:Bool)(cs:List Cl)(w:World):Prop:=∃tag R cr rows,VY w0 tag0 t Z last p q b D cd ended cs w tag R cr rows
theorem VY.below{cs:List Cl}(h:VY w0 tag0 t Z last p q b D cd ended cs w tag R cr rows)(Y:Below w w w')(X:bI w tag tag'):VY w0 tag0 t Z last p q b D cd ended cs w' tag' R cr rows:=
 ⟨h.k.go (S:=bN) X (aD.of_same Y) (fun _ x=>x.elim),h.th.below Y X,h.bx.kept (S:=bN) (aD.of_same Y) X (fun _ x=>x.elim),h.l.kept (S:=bN) (aD.of_same Y) X (fun _ x=>x.elim),h.wd.kept (S:=bN) (aD.of_same Y) X (fun _ x=>x.elim),h.rs.below Y X⟩
theorem VY.add{cs:List Cl}{T:Option Addr}{X:Nat}(W:t<4)(h:VY w0 tag0 t Z last p q b D cd ended cs w tag R cr rows)(Y:Kg (eJ t) w tag w' tag')(U:lT w' tag' t Z last q T X D cd (rows++[r]) ended){c:Cl}(S:c.At w tag (DS p q b) r):VY w0 tag0 t Z last p q b D cd ended (cs++[c]) w' tag' T X (rows++[r]):=
 have V:c.At w' tag' (DS p q b) r:=S.kept Y.k Y.t (fun b hb=>by rcases hb with hb|hb<;>omega)
 ⟨h.k.trans Y,U,h.bx.then_ Y (XO t p q b W),h.l.kept Y.k Y.t (fun b hb=>by rcases hb with hb|hb<;>omega),h.wd.kept Y.k Y.t (fun b hb=>by rcases hb with hb|hb<;>omega),(h.rs.then_ W Y).add V⟩
theorem VY.start(h:lT w tag t Z last q RA cr D cd [] ended)(p:Nat):VY w tag t Z last p q w D cd ended [] ((((((w.alloc (.cells #[(p,0)] 47)).alloc (.cells #[(q,0)] 63)).alloc (.cells #[.int .u64 0] 23)).alloc (.cells (32:Nat) 23)).alloc (.cells #[.slice (some ⟨w+1+1+1,0,none⟩) 32 32] 91)).alloc (.cells #[.slice none 0 0] 246)) (fH w tag [106,106,130+t,150+t,106,140+t]) RA cr []:=by
 have X:Below w.heap.size w ((((((w.alloc (.cells #[.pointer (some ⟨p,0,none⟩)] 47)).alloc (.cells #[.pointer (some ⟨q,0,none⟩)] 63)).alloc (.cells #[.int .u64 0] 23)).alloc (.cells #[.int .u64 0,.int .u64 0,.int .u64 0,.int .u64 0,.int .u64 0,.int .u64 0,.int .u64 0,.int .u64 0,.int .u64 0,.int .u64 0,.int .u64 0,.int .u64 0,.int .u64 0,.int .u64 0,.int .u64 0,.int .u64 0,.int .u64 0,.int .u64 0,.int .u64 0,.int .u64 0,.int .u64 0,.int .u64 0,.int .u64 0,.int .u64 0,.int .u64 0,.int .u64 0,.int .u64 0,.int .u64 0,.int .u64 0,.int .u64 0,.int .u64 0,.int .u64 0] 23)).alloc (.cells #[.slice (some ⟨w.heap.size+1+1+1,0,none⟩) 32 32] 91)).alloc (.cells #[.slice none 0 0] 246)):=(((((((Below.refl w.heap.size w).alloc (Nat.le_refl _) (.cells #[.pointer (some ⟨p,0,none⟩)] 47)).alloc (by simp;try omega) (.cells #[.pointer (some ⟨q,0,none⟩)] 63)).alloc (by simp;try omega) (.cells #[.int .u64 0] 23)).alloc (by simp;try omega) (.cells #[.int .u64 0,.int .u64 0,.int .u64 0,.int .u64 0,.int .u64 0,.int .u64 0,.int .u64 0,.int .u64 0,.int .u64 0,.int .u64 0,.int .u64 0,.int .u64 0,.int .u64 0,.int .u64 0,.int .u64 0,.int .u64 0,.int .u64 0,.int .u64 0,.int .u64 0,.int .u64 0,.int .u64 0,.int .u64 0,.int .u64 0,.int .u64 0,.int .u64 0,.int .u64 0,.int .u64 0,.int .u64 0,.int .u64 0,.int .u64 0,.int .u64 0,.int .u64 0] 23)).alloc (by simp;try omega) (.cells #[.slice (some ⟨w.heap.size+1+1+1,0,none⟩) 32 32] 91)).alloc (by simp;try omega) (.cells #[.slice none 0 0] 246));have Y:∀i,fH w tag [106,106,130+t,150+t,106,140+t] (w+i)=_:=fB w tag [106,106,130+t,150+t,106,140+t];refine⟨Kg.start X (dX _ _ _),h.below X (dX _ _ _),?_,⟨Y 5,none,0,aY.newAt _ _ _ (by simp),cU.nil _ 0 _ 5,fun b X=>by obtain⟨a,V,_⟩:=X;cases V⟩,⟨Y 3,_,((aY.newAt _ _ _ (by simp)).alloc _).alloc _,cH.zero 32⟩,trivial⟩;intro x W;simp only[tS,List.mem_cons,List.not_mem_nil,or_false]at W;rcases W with rfl|rfl|rfl|rfl
 .exact⟨Y 0,(((((aY.newAt _ _ _ rfl).alloc _).alloc _).alloc _).alloc _).alloc _⟩
 .exact⟨Y 1,((((aY.newAt _ _ _ (by simp)).alloc _).alloc _).alloc _).alloc _⟩
 .exact⟨Y 2,(((aY.newAt _ _ _ (by simp)).alloc _).alloc _).alloc _⟩
 exact⟨Y 4,(aY.newAt _ _ _ (by simp)).alloc _⟩
theorem Do(h:lT w tag t Z last q RA cr D cd [] ended)(p:Nat)(f:t<4):
 Calls prog 127 #[.pointer (some ⟨p,0,none⟩),.pointer (some ⟨q,0,none⟩)] w fun e w'=>e=.returned (.tuple #[])/\∃Y W M L V,Kg (eJ t) w tag w' Y/\(W.p=p/\W.q=q)/\lT w' Y t Z last q M L D cd V ended/\dD w' Y W (.which::kG 0) V/\oM w' Y W.v (130+t) 0/\rN w' Y t W.l []/\lF w' Y t W.w fun _=>0:=by
 have d:=KH;have a:∀w:World,(Instr.makeSlice 91 (.int .i64 32) (.int .i64 32)).run prog w=.ok (.slice (some ⟨w.heap.size,0,none⟩) 32 32) (w.alloc (.cells #[.int .u64 0,.int .u64 0,.int .u64 0,.int .u64 0,.int .u64 0,.int .u64 0,.int .u64 0,.int .u64 0,.int .u64 0,.int .u64 0,.int .u64 0,.int .u64 0,.int .u64 0,.int .u64 0,.int .u64 0,.int .u64 0,.int .u64 0,.int .u64 0,.int .u64 0,.int .u64 0,.int .u64 0,.int .u64 0,.int .u64 0,.int .u64 0,.int .u64 0,.int .u64 0,.int .u64 0,.int .u64 0,.int .u64 0,.int .u64 0,.int .u64 0,.int .u64 0] 23)):=fun w=>by kernel_rfl
 have T:=Lib.hid (VY.start h p);clear h
 go_enter func127,ntmps127
 go_upto_region 4 with(fail)
 show Code.wp _ _ _ _ ((((((w.alloc (.cells #[.pointer (some ⟨p,0,none⟩)] 47)).alloc (.cells #[.pointer (some ⟨q,0,none⟩)] 63)).alloc (.cells #[.int .u64 0] 23)).alloc (.cells #[.int .u64 0,.int .u64 0,.int .u64 0,.int .u64 0,.int .u64 0,.int .u64 0,.int .u64 0,.int .u64 0,.int .u64 0,.int .u64 0,.int .u64 0,.int .u64 0,.int .u64 0,.int .u64 0,.int .u64 0,.int .u64 0,.int .u64 0,.int .u64 0,.int .u64 0,.int .u64 0,.int .u64 0,.int .u64 0,.int .u64 0,.int .u64 0,.int .u64 0,.int .u64 0,.int .u64 0,.int .u64 0,.int .u64 0,.int .u64 0,.int .u64 0,.int .u64 0] 23)).alloc (.cells #[.slice (some ⟨w.heap.size+1+1+1,0,none⟩) 32 32] 91)).alloc (.cells #[.slice none 0 0] 246));generalize((((((w.alloc (.cells #[.pointer (some ⟨p,0,none⟩)] 47)).alloc (.cells #[.pointer (some ⟨q,0,none⟩)] 63)).alloc (.cells #[.int .u64 0] 23)).alloc (.cells #[.int .u64 0,.int .u64 0,.int .u64 0,.int .u64 0,.int .u64 0,.int .u64 0,.int .u64 0,.int .u64 0,.int .u64 0,.int .u64 0,.int .u64 0,.int .u64 0,.int .u64 0,.int .u64 0,.int .u64 0,.int .u64 0,.int .u64 0,.int .u64 0,.int .u64 0,.int .u64 0,.int .u64 0,.int .u64 0,.int .u64 0,.int .u64 0,.int .u64 0,.int .u64 0,.int .u64 0,.int .u64 0,.int .u64 0,.int .u64 0,.int .u64 0,.int .u64 0] 23)).alloc (.cells #[.slice (some ⟨w.heap.size+1+1+1,0,none⟩) 32 32] 91)).alloc (.cells #[.slice none 0 0] 246))=j at*;generalize fH w tag [106,106,130+t,150+t,106,140+t]=g at*;generalize w.heap.size=X at*;have r:j.cell? ⟨X+1,0,none⟩=some (.pointer (some ⟨q,0,none⟩)):=T.out.bx.cell (k:=106) (ty:=63) (by simp [tS,cR]);have K:X+1<j.heap.size:=T.out.bx.lt (k:=106) (ty:=63) (v:=cR q) (by simp [tS]);have H:=Lib.hid (jF T.out.th 4 137 #[.pointer (some ⟨X,0,none⟩),.pointer (some ⟨X+1+1,0,none⟩)] 4 rfl (by simp));go_wp2_with fail
 with_reducible refine H.out.mono ?_
 rintro e n ⟨rfl,U,u,N,s,B⟩;have O:=Lib.hid (T.out.add (c:=.which) f s B ⟨X,rfl,T.out.bx (X,106,47,cR p) (by simp [tS])⟩);have cw:n.cell? ⟨X+1+1+1+1,0,none⟩=some (.slice (some ⟨X+3,0,none⟩) 32 32):=O.out.bx.cell (b:=X+4) (k:=106) (ty:=91) (by simp [tS]);have G:Hid (By w tag t Z last p q X D cd ended (.which::(List.range 0).map Cl.copy) n):=Lib.hid ⟨_,_,_,_,O.out⟩;clear s B H r K T;go_wp2_with fail
 go_loopw [14] (fun i wr=>∃k:Nat,k<=32/\i=.int .i64 k/\Hid (By w tag t Z last p q X D cd ended (.which::(List.range k).map Cl.copy) wr)) (fun i _=>32-(intOf i).toNat)
 case atStart=>exact⟨0,by omega,rfl,G⟩
 case round=>
  clear G O cw;obtain⟨k,s,rfl,y⟩:=hrel;by_cases zy:k<32
  .have q1:(k:Int)<32:=by omega
   obtain⟨U,u,N,R,S⟩:=y.out;have F:=S.rs.len;simp only[List.length_cons,List.length_map,List.length_range]at F;have Q:=Lib.hid (S.below ((Below.refl wr.heap.size wr).alloc (Nat.le_refl _) (.cells #[.int .i64 (k:Int)] 3)) (cO wr U 106));have r:wr.cell? ⟨X+1,0,none⟩=some (.pointer (some ⟨q,0,none⟩)):=S.bx.cell (k:=106) (ty:=63) (by simp [tS,cR]);have K:X+1<wr.heap.size:=S.bx.lt (k:=106) (ty:=63) (v:=cR q) (by simp [tS]);have o:Hid ((cG wr U 106) wr.heap.size=106/\aY (wr.alloc (.cells #[.int .i64 (k:Int)] 3)) wr.heap.size 3 #[.int .i64 (k:Int)]):=Lib.hid ⟨dT _ _ _ (Nat.le_refl _),aY.new _ _ _⟩;have H:=Lib.hid (jF Q.out.th 5 138 #[.pointer (some ⟨X,0,none⟩),.pointer (some ⟨X+1+1,0,none⟩),.pointer (some ⟨wr.heap.size,0,none⟩),.pointer (some ⟨X+1+1+1+1,0,none⟩),.pointer (some ⟨X+1,0,none⟩),.pointer (some ⟨X+1+1+1+1+1,0,none⟩)] 5 rfl (by omega));have z:=Q.out.bx;have E:=Lib.hid (show(Cl.copy k).At (wr.alloc (.cells #[.int .i64 (k:Int)] 3)) (cG wr U 106) (DS p q X) (td 5 (fv 138 #[.pointer (some ⟨X,0,none⟩),.pointer (some ⟨X+1+1,0,none⟩),.pointer (some ⟨wr.heap.size,0,none⟩),.pointer (some ⟨X+1+1+1+1,0,none⟩),.pointer (some ⟨X+1,0,none⟩),.pointer (some ⟨X+1+1+1+1+1,0,none⟩)]))from⟨X,wr.heap.size,X+4,X+1,rfl,z (X,106,47,cR p) (by simp [tS]),o.out,z (X+4,106,91,.slice (some ⟨X+3,0,none⟩) 32 32) (by simp [tS]),z (X+1,106,63,cR q) (by simp [tS])⟩);clear S y z o;go_wp2_with fail
   with_reducible refine H.out.mono ?_
   rintro e w2 ⟨rfl,m,R2,zz,A,P⟩;have C:=Lib.hid (Q.out.add (c:=.copy k) f A P E.out);have x:Hid (By w tag t Z last p q X D cd ended (.which::(List.range (k+1)).map Cl.copy) w2):=Lib.hid ⟨_,_,_,_,by
    have:=C.out;rw[show(.which::(List.range k).map Cl.copy)++[Cl.copy k]=.which::(List.range (k+1)).map Cl.copy by rw[List.range_succ,List.map_append];rfl]at this;exact this⟩
   clear H E Q C A P;go_wp2;go_roundw
   case rel=>exact⟨k+1,by omega,by go_num,x⟩
   case measure=>simp [intOf];omega
  .obtain rfl:k=32:=by omega
   have q1:¬((32:Nat):Int)<32:=by omega
   have HF:Hid (∃Y W M L V,Kg (eJ t) w tag wr Y/\(W.p=p/\W.q=q)/\lT wr Y t Z last q M L D cd V ended/\dD wr Y W (.which::kG 0) V/\oM wr Y W.v (130+t) 0/\rN wr Y t W.l []/\lF wr Y t W.w fun _=>0):=Lib.hid (by
    obtain⟨U,u,N,R,S⟩:=y.out;refine⟨U,DS p q X,u,N,R,S.k,⟨rfl,rfl⟩,S.th,?_,S.bx (X+2,130+t,23,.int .u64 0) (by simp [tS]),S.l,S.wd⟩;have:=S.rs;rw[show(List.range 32).map Cl.copy=kG 0 by unfold kG;simp]at this;exact this)
   clear y;go_wp2;refine bodyPost_end (v:=.tuple #[]) (by simp [results,results127,go_sem]) rfl ?_;obtain⟨t',en,ra,c',rs,h1,h2,h3,h4,h5,h6,h7⟩:=HF.out;exact⟨rfl,t',h1,en,h2,ra,c',rs,h3,h4,h5,h6,h7⟩
end
section
variable{w:World}{tag:Nat->Nat}{t:Nat}{Z:cQ}{last:Int}{q:Nat}{RA:Option Addr}{cr:Nat}{D:Option Addr}{cd:Nat}{rows0:List (List Value)}{ended:Bool}
theorem yZ{α:Type}(L:List α)(f:Nat->α)(k:Nat):(L++(List.range k).map f)++[f k]=L++(List.range (k+1)).map f:=by
 rw[List.range_succ,List.map_append,List.append_assoc];rfl
def kL(p q g V b:Nat):List (Nat×Nat×TypeId×Value):=[(b,106,47,cR p),(b+1,106,63,cR q),(b+2,106,91,.slice (some ⟨g,0,none⟩) 32 32),(b+3,106,23,[V])]
def lJ(p q g:Nat):mG:=⟨p,q,0,0,g,0,0,0⟩
theorem XW(t p q g V b:Nat)(Y:t<4):yD t (kL p q g V b):=by
 intro x Z;simp only[kL,List.mem_cons,List.not_mem_nil,or_false]at Z;rcases Z with rfl|rfl|rfl|rfl<;>(constructor<;>(try dsimp only)<;>omega)
structure PR (w0:World) (tag0:Nat->Nat) (t:Nat) (Z:cQ) (last:Int) (p q g V b:Nat) (D:Option Addr) (cd:Nat) (ended:Bool) (cs:List Cl) (w:World) (tag:Nat->Nat) (R:Option Addr) (cr:Nat) (rows:List (List Value)):Prop where
 k:Kg (eJ t) w0 tag0 w tag
 th:lT w tag t Z last q R cr D cd rows ended
 bx:FG w tag (kL p q g V b)
 rs:dD w tag (lJ p q g) cs rows
def NW(w0:World)(tag0:Nat->Nat)(t:Nat)(Z:cQ)(last:Int)(p q g V b:Nat)(D:Option Addr)(cd:Nat)(ended:Bool)(cs:List Cl)(w:World):Prop:=∃tag R cr rows,PR w0 tag0 t Z last p q g V b D cd ended cs w tag R cr rows
theorem PR.below{cs:List Cl}(h:PR w0 tag0 t Z last p q g V b D cd ended cs w tag R cr rows)(Y:Below w w w')(X:bI w tag tag'):PR w0 tag0 t Z last p q g V b D cd ended cs w' tag' R cr rows:=
 ⟨h.k.go (S:=bN) X (aD.of_same Y) (fun _ x=>x.elim),h.th.below Y X,h.bx.kept (S:=bN) (aD.of_same Y) X (fun _ x=>x.elim),h.rs.below Y X⟩
theorem PR.add{cs:List Cl}{S:Option Addr}{Y:Nat}(X:t<4)(h:PR w0 tag0 t Z last p q g V b D cd ended cs w tag R cr rows)(W:Kg (eJ t) w tag w' tag')(T:lT w' tag' t Z last q S Y D cd (rows++[r]) ended){c:Cl}(Q:c.At w tag (lJ p q g) r):PR w0 tag0 t Z last p q g V b D cd ended (cs++[c]) w' tag' S Y (rows++[r]):=
 have U:c.At w' tag' (lJ p q g) r:=Q.kept W.k W.t (fun b hb=>by rcases hb with hb|hb<;>omega)
 ⟨h.k.trans W,T,h.bx.then_ W (XW t p q g V b X),(h.rs.then_ X W).add U⟩
theorem PR.ro{cs:List Cl}(h:PR w0 tag0 t Z last p q g V b D cd ended cs w tag R cr rows):
 yK w tag (lJ p q g) b/\FH w tag (lJ p q g) (b+1)/\Dp w tag (lJ p q g) (b+2)/\Ch w tag (b+3) V:=
 ⟨h.bx (b,106,47,cR p) (by simp [kL]),h.bx (b+1,106,63,cR q) (by simp [kL]),h.bx (b+2,106,91,.slice (some ⟨g,0,none⟩) 32 32) (by simp [kL]),h.bx (b+3,106,23,[V]) (by simp [kL])⟩
theorem PR.start(h:lT w tag t Z last q RA cr D cd [] ended)(p g V:Nat):PR w tag t Z last p q g V w D cd ended [] ((((w.alloc (.cells #[(p,0)] 47)).alloc (.cells #[(q,0)] 63)).alloc (.cells #[.slice (some ⟨g,0,none⟩) 32 32] 91)).alloc (.cells #[[V]] 23)) (fH w tag [106,106,106,106]) RA cr []:=by
 have X:Below w w ((((w.alloc (.cells #[(p,0)] 47)).alloc (.cells #[(q,0)] 63)).alloc (.cells #[.slice (some ⟨g,0,none⟩) 32 32] 91)).alloc (.cells #[[V]] 23)):=(((((Below.refl w w).alloc (Nat.le_refl _) (.cells #[(p,0)] 47)).alloc (by simp;try omega) (.cells #[(q,0)] 63)).alloc (by simp;try omega) (.cells #[.slice (some ⟨g,0,none⟩) 32 32] 91)).alloc (by simp;try omega) (.cells #[[V]] 23));have Y:∀i,fH w tag [106,106,106,106] (w+i)=_:=fB w tag [106,106,106,106];refine⟨Kg.start X (dX _ _ _),h.below X (dX _ _ _),?_,trivial⟩;intro x W;simp only[kL,List.mem_cons,List.not_mem_nil,or_false]at W;rcases W with rfl|rfl|rfl|rfl
 .exact⟨Y 0,(((aY.newAt _ _ _ rfl).alloc _).alloc _).alloc _⟩
 .exact⟨Y 1,((aY.newAt _ _ _ (by simp)).alloc _).alloc _⟩
 .exact⟨Y 2,(aY.newAt _ _ _ (by simp)).alloc _⟩
 exact⟨Y 3,aY.newAt _ _ _ (by simp)⟩
theorem WR(h:lT w tag t Z last q RA cr D cd [] ended)(p g V:Nat)(f:t<4):
 Calls prog 151 #[(p,0),(q,0),.slice (some ⟨g,0,none⟩) 32 32,[V]] w fun e w'=>e=.returned (.tuple #[])/\∃m d ze zd l,Kg (eJ t) w tag w' m/\(d.p=p/\d.q=q/\d.w=g)/\lT w' m t Z last q ze zd D cd l ended/\dD w' m d (kB V 0++(jP V 0++qI V)) l:=by
 have zc:=KH;have N:=aH (PR.start h p g V);clear h
 go_enter func151,ntmps151
 go_upto_region 1 with(fail)
 show Code.wp _ _ _ _ ((((w.alloc (.cells #[(p,0)] 47)).alloc (.cells #[(q,0)] 63)).alloc (.cells #[.slice (some ⟨g,0,none⟩) 32 32] 91)).alloc (.cells #[[V]] 23));generalize((((w.alloc (.cells #[(p,0)] 47)).alloc (.cells #[(q,0)] 63)).alloc (.cells #[.slice (some ⟨g,0,none⟩) 32 32] 91)).alloc (.cells #[[V]] 23))=w0 at*;generalize fH w tag [106,106,106,106]=a at*;generalize w.heap.size=Y at*;have cw:w0.cell? (Y+1+1,0)=some (.slice (some ⟨g,0,none⟩) 32 32):=N.bx.cell (b:=Y+2) (k:=106) (ty:=91) (by simp [kL]);have A:Hid (NW w tag t Z last p q g V Y D cd ended ((List.range 0).map (Cl.write V)) w0):=aH ⟨_,_,_,_,N.out⟩;clear N;go_wp2_with fail
 go_loopw [12] (fun i wr=>∃k:Nat,k<=32/\i=.int .i64 k/\Hid (NW w tag t Z last p q g V Y D cd ended ((List.range k).map (Cl.write V)) wr)) (fun i _=>32-(intOf i).toNat)
 case atStart=>exact⟨0,I,rfl,A⟩
 case round=>
  clear A;obtain⟨k,O,rfl,j⟩:=hrel;by_cases zf:k<32
  .have q1:(k:Int)<32:=I;obtain⟨R,R1,zp,M,H⟩:=j.out;have z:=H.rs.len;simp only[List.length_append,List.length_cons,List.length_map,List.length_range]at z;have T:=aH (H.below ((Below.refl wr wr).alloc (Nat.le_refl _) (.cells #[k] 3)) (cO wr R 106));have K:wr.cell? (Y+1,0)=(q,0):=H.bx.cell (k:=106) (ty:=63) (by simp [kL,cR]);have S:Y+1<wr:=H.bx.lt (k:=106) (ty:=63) (v:=cR q) (by simp [kL]);have HX:Hid ((cG wr R 106) wr=106/\aY (wr.alloc (.cells #[k] 3)) wr 3 #[k]):=aH ⟨dT _ _ _ (Nat.le_refl _),aY.new _ _ _⟩;have Q:=aH (jF T.th 8 171 #[(Y+1+1,0),wr,(Y,0),(Y+1+1+1,0)] 8 rfl I);have U:=T.ro;have X:=aH (show(Cl.write V k).At (wr.alloc (.cells #[k] 3)) (cG wr R 106) (lJ p q g) (td 8 (fv 171 #[(Y+1+1,0),wr,(Y,0),(Y+1+1+1,0)]))from⟨Y+2,wr.heap.size,Y,Y+3,rfl,U.2.2.1,HX.out,U.1,U.2.2.2⟩);clear H j U HX;go_wp2_with fail
   with_reducible refine Q.out.mono ?_
   rintro e w2 ⟨rfl,y,R2,zo,x,L⟩;have P:=aH (T.add (c:=.write V k) f x L X);have zz:Hid (NW w tag t Z last p q g V Y D cd ended ((List.range (k+1)).map (Cl.write V)) w2):=aH ⟨_,_,_,_,by
    have:=P.out;rw[show((List.range k).map (Cl.write V))++[Cl.write V k]=(List.range (k+1)).map (Cl.write V)from yZ [] _ k]at this;exact this⟩
   clear Q X T P x L;go_wp2;go_roundw
   case rel=>exact⟨k+1,I,aG,zz⟩
   case measure=>simp [intOf];omega
  obtain rfl:k=32:=I;have q1:¬((32:Nat):Int)<32:=I;have A:Hid (NW w tag t Z last p q g V Y D cd ended ((List.range 32).map (Cl.write V)++(List.range 0).map (Cl.wish V)) wr):=aH (by rw[show(List.range 0).map (Cl.wish V)=[]from rfl,List.append_nil];exact j);clear j;obtain⟨wo,zi⟩:=aO (wr:World);subst zi;go_wp2_with fail
  go_loopw [19] (fun i wr=>∃k:Nat,k<=4/\i=.int .i64 k/\Hid (NW w tag t Z last p q g V Y D cd ended ((List.range 32).map (Cl.write V)++(List.range k).map (Cl.wish V)) wr)) (fun i _=>4-(intOf i).toNat)
  case atStart=>exact⟨0,I,rfl,A⟩
  case round=>
   clear A;obtain⟨k,O,rfl,j⟩:=hrel;by_cases zf:k<4
   .have q1:(k:Int)<4:=I;obtain⟨R,R1,zp,M,H⟩:=j.out;have z:=H.rs.len;simp only[List.length_append,List.length_cons,List.length_map,List.length_range]at z;have T:=aH (H.below ((Below.refl wr wr).alloc (Nat.le_refl _) (.cells #[k] 3)) (cO wr R 106));have K:wr.cell? (Y+1,0)=(q,0):=H.bx.cell (k:=106) (ty:=63) (by simp [kL,cR]);have S:Y+1<wr:=H.bx.lt (k:=106) (ty:=63) (v:=cR q) (by simp [kL]);have HX:Hid ((cG wr R 106) wr=106/\aY (wr.alloc (.cells #[k] 3)) wr 3 #[k]):=aH ⟨dT _ _ _ (Nat.le_refl _),aY.new _ _ _⟩;have Q:=aH (jF T.th 9 172 #[(Y,0),(Y+1,0),(Y+1+1+1,0),wr] 9 rfl I);have U:=T.ro;have X:=aH (show(Cl.wish V k).At (wr.alloc (.cells #[k] 3)) (cG wr R 106) (lJ p q g) (td 9 (fv 172 #[(Y,0),(Y+1,0),(Y+1+1+1,0),wr]))from⟨Y,Y+1,Y+3,wr.heap.size,rfl,U.1,U.2.1,U.2.2.2,HX.out⟩);clear H j U HX;go_wp2_with fail
    with_reducible refine Q.out.mono ?_
    rintro e w2 ⟨rfl,y,R2,zo,x,L⟩;have P:=aH (T.add (c:=.wish V k) f x L X);have zz:Hid (NW w tag t Z last p q g V Y D cd ended ((List.range 32).map (Cl.write V)++(List.range (k+1)).map (Cl.wish V)) w2):=aH ⟨_,_,_,_,by
     have:=P.out;rw[show((List.range 32).map (Cl.write V)++(List.range k).map (Cl.wish V))++[Cl.wish V k]=(List.range 32).map (Cl.write V)++(List.range (k+1)).map (Cl.wish V)from yZ _ _ k]at this;exact this⟩
    clear Q X T P x L;go_wp2;go_roundw
    case rel=>exact⟨k+1,I,aG,zz⟩
    case measure=>simp [intOf];omega
   obtain rfl:k=4:=I;have q1:¬((4:Nat):Int)<4:=I;obtain⟨a,R0,za,G,H⟩:=j.out;have N:=aH H;have zy:Hid (G.length=36):=aH (by have:=H.rs.len;simpa using this);clear H j;obtain⟨w0,zh⟩:=aO (wr:World);subst zh;have K:w0.cell? (Y+1,0)=(q,0):=N.bx.cell (k:=106) (ty:=63) (by simp [kL,cR]);have S:Y+1<w0:=N.bx.lt (k:=106) (ty:=63) (v:=cR q) (by simp [kL]);have U:=N.ro;have Q:=aH (jF N.th 10 174 #[(Y,0),(Y+1,0)] 10 rfl (by have:=zy.out;omega));have X:=aH (show(Cl.firm).At w0 a (lJ p q g) (td 10 (fv 174 #[(Y,0),(Y+1,0)]))from⟨Y,Y+1,rfl,U.1,U.2.1⟩);clear U;go_wp2_with fail
   with_reducible refine Q.out.mono ?_
   rintro e w1 ⟨rfl,R,R1,zp,O,W⟩;have F:=aH (N.add (c:=.firm) f O W X);have zx:=aH (show(G++[td 10 (fv 174 #[(Y,0),(Y+1,0)])]:List (List Value)).length=37 by rw[List.length_append,zy.out];rfl);clear O W Q X K S N zy;generalize G++[td 10 (fv 174 #[(Y,0),(Y+1,0)])]=M at*;have K:w1.cell? (Y+1,0)=(q,0):=F.bx.cell (k:=106) (ty:=63) (by simp [kL,cR]);have S:Y+1<w1:=F.bx.lt (k:=106) (ty:=63) (v:=cR q) (by simp [kL]);have U:=F.ro;have Q:=aH (jF F.th 11 176 #[(Y+1+1+1,0),(Y,0),(Y+1,0)] 11 rfl (by have:=zx.out;omega));have X:=aH (show(Cl.index V).At w1 R (lJ p q g) (td 11 (fv 176 #[(Y+1+1+1,0),(Y,0),(Y+1,0)]))from⟨Y+3,Y,Y+1,rfl,U.2.2.2,U.1,U.2.1⟩);clear U;go_wp2_with fail
   with_reducible refine Q.out.mono ?_
   rintro e w2 ⟨rfl,y,R2,zo,O,W⟩;have T:=aH (F.add (c:=.index V) f O W X);have zw:=aH (show(M++[td 11 (fv 176 #[(Y+1+1+1,0),(Y,0),(Y+1,0)])]:List (List Value)).length=38 by rw[List.length_append,zx.out];rfl);clear O W Q X K S F zx;generalize M++[td 11 (fv 176 #[(Y+1+1+1,0),(Y,0),(Y+1,0)])]=u at*;have K:w2.cell? (Y+1,0)=(q,0):=T.bx.cell (k:=106) (ty:=63) (by simp [kL,cR]);have S:Y+1<w2:=T.bx.lt (k:=106) (ty:=63) (v:=cR q) (by simp [kL]);have U:=T.ro;have Q:=aH (jF T.th 12 177 #[(Y,0),(Y+1,0)] 12 rfl (by have:=zw.out;omega));have X:=aH (show(Cl.wish2).At w2 y (lJ p q g) (td 12 (fv 177 #[(Y,0),(Y+1,0)]))from⟨Y,Y+1,rfl,U.1,U.2.1⟩);clear U;go_wp2_with fail
   with_reducible refine Q.out.mono ?_
   rintro e w3 ⟨rfl,zn,R3,yz,O,W⟩;have P:=aH (T.add (c:=.wish2) f O W X);have zv:=aH (show(u++[td 12 (fv 177 #[(Y,0),(Y+1,0)])]:List (List Value)).length=39 by rw[List.length_append,zw.out];rfl);clear O W Q X K S T zw;generalize u++[td 12 (fv 177 #[(Y,0),(Y+1,0)])]=s at*;have K:w3.cell? (Y+1,0)=(q,0):=P.bx.cell (k:=106) (ty:=63) (by simp [kL,cR]);have S:Y+1<w3:=P.bx.lt (k:=106) (ty:=63) (v:=cR q) (by simp [kL]);have U:=P.ro;have Q:=aH (jF P.th 13 178 #[(Y,0),(Y+1,0)] 13 rfl (by have:=zv.out;omega));have X:=aH (show(Cl.firm2).At w3 zn (lJ p q g) (td 13 (fv 178 #[(Y,0),(Y+1,0)]))from⟨Y,Y+1,rfl,U.1,U.2.1⟩);clear U;go_wp2_with fail
   with_reducible refine Q.out.mono ?_
   rintro e w4 ⟨rfl,zm,R4,yy,O,W⟩;have E:=aH (P.add (c:=.firm2) f O W X);have zu:=aH (show(s++[td 13 (fv 178 #[(Y,0),(Y+1,0)])]:List (List Value)).length=40 by rw[List.length_append,zv.out];rfl);clear O W Q X K S P zv;generalize s++[td 13 (fv 178 #[(Y,0),(Y+1,0)])]=r at*;have K:w4.cell? (Y+1,0)=(q,0):=E.bx.cell (k:=106) (ty:=63) (by simp [kL,cR]);have S:Y+1<w4:=E.bx.lt (k:=106) (ty:=63) (v:=cR q) (by simp [kL]);have U:=E.ro;have Q:=aH (jF E.th 14 179 #[(Y+1+1+1,0),(Y,0)] 14 rfl (by have:=zu.out;omega));have X:=aH (show(Cl.tell V).At w4 zm (lJ p q g) (td 14 (fv 179 #[(Y+1+1+1,0),(Y,0)]))from⟨Y+3,Y,rfl,U.2.2.2,U.1⟩);clear U;go_wp2_with fail
   with_reducible refine Q.out.mono ?_
   rintro e w5 ⟨rfl,zl,R5,yx,O,W⟩;have C:=aH (E.add (c:=.tell V) f O W X);have zt:=aH (show(r++[td 14 (fv 179 #[(Y+1+1+1,0),(Y,0)])]:List (List Value)).length=41 by rw[List.length_append,zu.out];rfl);clear O W Q X K S E zu;generalize r++[td 14 (fv 179 #[(Y+1+1+1,0),(Y,0)])]=o at*;have K:w5.cell? (Y+1,0)=(q,0):=C.bx.cell (k:=106) (ty:=63) (by simp [kL,cR]);have S:Y+1<w5:=C.bx.lt (k:=106) (ty:=63) (v:=cR q) (by simp [kL]);have U:=C.ro;have Q:=aH (jF C.th 15 180 #[(Y,0)] 15 rfl (by have:=zt.out;omega));have X:=aH (show(Cl.unlock).At w5 zl (lJ p q g) (td 15 (fv 180 #[(Y,0)]))from⟨Y,rfl,U.1⟩);clear U;go_wp2_with fail
   with_reducible refine Q.out.mono ?_
   rintro e w6 ⟨rfl,zk,R6,yw,O,W⟩;have B:=aH (C.add (c:=.unlock) f O W X);have zs:=aH (show(o++[td 15 (fv 180 #[(Y,0)])]:List (List Value)).length=42 by rw[List.length_append,zt.out];rfl);clear O W Q X K S C zt;generalize o++[td 15 (fv 180 #[(Y,0)])]=n at*;have K:w6.cell? (Y+1,0)=(q,0):=B.bx.cell (k:=106) (ty:=63) (by simp [kL,cR]);have S:Y+1<w6:=B.bx.lt (k:=106) (ty:=63) (v:=cR q) (by simp [kL]);have U:=B.ro;have Q:=aH (jF B.th 16 181 #[(Y+1,0)] 16 rfl (by have:=zs.out;omega));have X:=aH (show(Cl.reply).At w6 zk (lJ p q g) (td 16 (fv 181 #[(Y+1,0)]))from⟨Y+1,rfl,U.2.1⟩);clear U;go_wp2_with fail
   with_reducible refine Q.out.mono ?_
   rintro e w7 ⟨rfl,zj,R7,zg,O,W⟩;have zr:=aH (B.add (c:=.reply) f O W X);have zb:=aH (show(n++[td 16 (fv 181 #[(Y+1,0)])]:List (List Value)).length=43 by rw[List.length_append,zs.out];rfl);clear O W Q X K S B zs;generalize n++[td 16 (fv 181 #[(Y+1,0)])]=zq at*;go_wp2;refine bodyPost_end (v:=.tuple #[]) (by simp [results,results151,go_sem]) rfl ?_;refine⟨rfl,zj,lJ p q g,R7,zg,zq,zr.k,⟨rfl,rfl,rfl⟩,zr.th,?_⟩;have:=zr.rs;simp only[List.append_assoc]at this;have e1:kB V 0=(List.range 32).map (Cl.write V):=by unfold kB;simp
   have e2:jP V 0=(List.range 4).map (Cl.wish V):=by unfold jP;simp
   rw[e1,e2];exact this
end
section
variable{w:World}{tag:Nat->Nat}{t:Nat}{Z:cQ}{last:Int}{q:Nat}{RA:Option Addr}{cr:Nat}{D:Option Addr}{cd:Nat}{rows0:List (List Value)}{ended:Bool}
def lB(e0:mG)(i:Nat)(b:Nat):List (Nat×Nat×TypeId×Value):=[(b,106,47,cR e0.p),(b+1,106,63,cR e0.q),(b+2,106,3,i),(b+3,106,248,cR e0.l),(b+4,106,91,e0.W),(b+5,106,249,cR e0.v)]
theorem YW(t:Nat)(e0:mG)(i b:Nat)(Y:t<4):yD t (lB e0 i b):=by
 intro x Z;simp only[lB,List.mem_cons,List.not_mem_nil,or_false]at Z;rcases Z with rfl|rfl|rfl|rfl|rfl|rfl<;>(constructor<;>(try dsimp only)<;>omega)
theorem KV(e0:mG)(i:Nat)(w:World)(tag:Nat->Nat):FG ((((((w.alloc (.cells #[(e0.p,0)] 47)).alloc (.cells #[(e0.q,0)] 63)).alloc (.cells #[i] 3)).alloc (.cells #[(e0.l,0)] 248)).alloc (.cells #[.slice (some ⟨e0.w,0,none⟩) 32 32] 91)).alloc (.cells #[(e0.v,0)] 249)) (fH w tag [106,106,106,106,106,106]) (lB e0 i w):=by
 have Z:∀i,fH w tag [106,106,106,106,106,106] (w+i)=_:=fB w tag [106,106,106,106,106,106];intro x Y;simp only[lB,List.mem_cons,List.not_mem_nil,or_false]at Y;rcases Y with rfl|rfl|rfl|rfl|rfl|rfl
 .exact⟨Z 0,(((((aY.newAt _ _ _ rfl).alloc _).alloc _).alloc _).alloc _).alloc _⟩
 .exact⟨Z 1,((((aY.newAt _ _ _ (by simp)).alloc _).alloc _).alloc _).alloc _⟩
 .exact⟨Z 2,(((aY.newAt _ _ _ (by simp)).alloc _).alloc _).alloc _⟩
 .exact⟨Z 3,((aY.newAt _ _ _ (by simp)).alloc _).alloc _⟩
 .exact⟨Z 4,(aY.newAt _ _ _ (by simp)).alloc _⟩
 exact⟨Z 5,aY.newAt _ _ _ (by simp)⟩
theorem GD(e0:mG)(i:Nat)(w:World):Below w.heap.size w ((((((w.alloc (.cells #[.pointer (some ⟨e0.p,0,none⟩)] 47)).alloc (.cells #[.pointer (some ⟨e0.q,0,none⟩)] 63)).alloc (.cells #[.int .i64 (i:Int)] 3)).alloc (.cells #[.pointer (some ⟨e0.l,0,none⟩)] 248)).alloc (.cells #[.slice (some ⟨e0.w,0,none⟩) 32 32] 91)).alloc (.cells #[.pointer (some ⟨e0.v,0,none⟩)] 249)):=(((((((Below.refl w.heap.size w).alloc (Nat.le_refl _) (.cells #[.pointer (some ⟨e0.p,0,none⟩)] 47)).alloc (by simp;try omega) (.cells #[.pointer (some ⟨e0.q,0,none⟩)] 63)).alloc (by simp;try omega) (.cells #[.int .i64 (i:Int)] 3)).alloc (by simp;try omega) (.cells #[.pointer (some ⟨e0.l,0,none⟩)] 248)).alloc (by simp;try omega) (.cells #[.slice (some ⟨e0.w,0,none⟩) 32 32] 91)).alloc (by simp;try omega) (.cells #[.pointer (some ⟨e0.v,0,none⟩)] 249))
theorem zP(e0:mG)(h:lT w tag t Z last e0.q RA cr D cd [] ended)(i:Nat)(A:Int)(G:A=i)(o:i<4)(n:t<4):
 Calls prog 139 #[.pointer (some ⟨e0.p,0,none⟩),.pointer (some ⟨e0.q,0,none⟩),.int .i64 A,.pointer (some ⟨e0.l,0,none⟩),.slice (some ⟨e0.w,0,none⟩) 32 32,.pointer (some ⟨e0.v,0,none⟩)] w fun e w'=>e=.returned (.tuple #[])/\∃V F E U,Kg (eJ t) w tag w' V/\lT w' V t Z last e0.q F E D cd U ended/\dD w' V e0 [.asks i] U:=by
 subst G;have z:=KH;have r:¬(i:Int)=4:=by omega
 have X:=Lib.hid (KV e0 i w tag);have S:=Lib.hid (h.below (GD e0 i w) (dX w tag [106,106,106,106,106,106]));have R:Hid (Kg (eJ t) w tag ((((((w.alloc (.cells #[.pointer (some ⟨e0.p,0,none⟩)] 47)).alloc (.cells #[.pointer (some ⟨e0.q,0,none⟩)] 63)).alloc (.cells #[.int .i64 (i:Int)] 3)).alloc (.cells #[.pointer (some ⟨e0.l,0,none⟩)] 248)).alloc (.cells #[.slice (some ⟨e0.w,0,none⟩) 32 32] 91)).alloc (.cells #[.pointer (some ⟨e0.v,0,none⟩)] 249)) _):=Lib.hid (Kg.start (GD e0 i w) (dX w tag [106,106,106,106,106,106]));clear h
 go_enter func139,ntmps139
 go_upto_region 1 with(fail)
 show Code.wp _ _ _ _ ((((((w.alloc (.cells #[.pointer (some ⟨e0.p,0,none⟩)] 47)).alloc (.cells #[.pointer (some ⟨e0.q,0,none⟩)] 63)).alloc (.cells #[.int .i64 (i:Int)] 3)).alloc (.cells #[.pointer (some ⟨e0.l,0,none⟩)] 248)).alloc (.cells #[.slice (some ⟨e0.w,0,none⟩) 32 32] 91)).alloc (.cells #[.pointer (some ⟨e0.v,0,none⟩)] 249));generalize((((((w.alloc (.cells #[.pointer (some ⟨e0.p,0,none⟩)] 47)).alloc (.cells #[.pointer (some ⟨e0.q,0,none⟩)] 63)).alloc (.cells #[.int .i64 (i:Int)] 3)).alloc (.cells #[.pointer (some ⟨e0.l,0,none⟩)] 248)).alloc (.cells #[.slice (some ⟨e0.w,0,none⟩) 32 32] 91)).alloc (.cells #[.pointer (some ⟨e0.v,0,none⟩)] 249))=H at*;generalize fH w tag [106,106,106,106,106,106]=P at*;generalize w.heap.size=Y at*;have y:H.cell? ⟨Y+1+1,0,none⟩=some (.int .i64 (i:Int)):=X.out.cell (b:=Y+2) (k:=106) (ty:=3) (by simp [lB]);have x:H.cell? ⟨Y+1,0,none⟩=some (.pointer (some ⟨e0.q,0,none⟩)):=X.out.cell (b:=Y+1) (k:=106) (ty:=63) (by simp [lB,cR]);have C:=Lib.hid (show(Cl.asks i).At H P e0 (td 6 (fv 152 #[.pointer (some ⟨Y,0,none⟩),.pointer (some ⟨Y+1+1,0,none⟩),.pointer (some ⟨Y+1+1+1+1,0,none⟩),.pointer (some ⟨Y+1,0,none⟩),.pointer (some ⟨Y+1+1+1,0,none⟩),.pointer (some ⟨Y+1+1+1+1+1,0,none⟩)]))from⟨Y,Y+2,Y+4,Y+1,Y+3,Y+5,rfl,X.out (Y,106,47,cR e0.p) (by simp [lB]),X.out (Y+2,106,3,.int .i64 i) (by simp [lB]),X.out (Y+4,106,91,e0.W) (by simp [lB]),X.out (Y+1,106,63,cR e0.q) (by simp [lB]),X.out (Y+3,106,248,cR e0.l) (by simp [lB]),X.out (Y+5,106,249,cR e0.v) (by simp [lB])⟩);have B:=Lib.hid (jF S.out 6 152 #[.pointer (some ⟨Y,0,none⟩),.pointer (some ⟨Y+1+1,0,none⟩),.pointer (some ⟨Y+1+1+1+1,0,none⟩),.pointer (some ⟨Y+1,0,none⟩),.pointer (some ⟨Y+1+1+1,0,none⟩),.pointer (some ⟨Y+1+1+1+1+1,0,none⟩)] 6 rfl (by simp));clear X S;go_wp2_with fail
 with_reducible refine B.out.mono ?_
 rintro e u ⟨rfl,T,s,K,O,Q⟩;have N:=Lib.hid (R.out.trans O);have M:=Lib.hid Q;have L:Hid (dD u T e0 [.asks i] [td 6 (fv 152 #[.pointer (some ⟨Y,0,none⟩),.pointer (some ⟨Y+1+1,0,none⟩),.pointer (some ⟨Y+1+1+1+1,0,none⟩),.pointer (some ⟨Y+1,0,none⟩),.pointer (some ⟨Y+1+1+1,0,none⟩),.pointer (some ⟨Y+1+1+1+1+1,0,none⟩)])]):=Lib.hid ⟨C.out.kept O.k O.t (fun b hb=>by rcases hb with hb|hb<;>omega),trivial⟩
 clear O Q B R C x y;go_wp2;refine bodyPost_end (v:=.tuple #[]) (by simp [results,results139,go_sem]) rfl ⟨rfl,T,s,K,_,N.out,M.out,L.out⟩
