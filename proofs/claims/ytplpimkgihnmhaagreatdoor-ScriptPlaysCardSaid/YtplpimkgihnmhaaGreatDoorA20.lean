/-
  Parts of a proof. For all values.
-/
import Derived.Test.YtplpimkgihnmhaaGreatDoorA13
import Derived.Test.YtplpimkgihnmhaaGreatDoorA14
import Derived.Test.YtplpimkgihnmhaaGreatDoorA15
import Derived.Test.YtplpimkgihnmhaaGreatDoorA18
import Derived.Test.YtplpimkgihnmhaaGreatDoorA19
set_option maxRecDepth 100000
set_option maxHeartbeats 4000000
set_option linter.all false
namespace Go.Proofs.YtplpimkgihnmhaaGreatDoor
open Go.Proofs.Tryz Go.RowKit
variable{t i n N b u B V j:Nat}{z r m:Nat->Int}{w w':World}{k x a v kind:Int}{tag tag':Nat->Nat}{rows:List (List Value)}{R F C:Array Value}{A:Option Addr}{e:TypeId}
section
theorem cH.ex(y:Nat->Int)(n:Nat)(Y:∀i,i<n->0<=y i/\y i<18446744073709551616):∃D,cH D n y:=
 ⟨((List.range n).map fun i=>Value.int .u64 (y i)).toArray,by simp,fun i Z=>by simp [Z],Y⟩
end
section
attribute [local go_sem↓] Go.wp_at_zero Go.wp_at_succ
def tT(f:Nat->Int)(t:Nat)(x:Int)(i:Nat):Int:=if i=t then x else f i
theorem TM{V U T S:Nat->Int}{ver cnt:Int}(h:uD R (R.extract 0 19) V U T S ver cnt)(E:F.size=19)(D:t<4)(Q P n g:Int)(Z:Array Value)
 (W:Z.size=37) (N:∀i,i<19->Z[i]? =F[i]?) (M:Z[19+2*t]? =some (.int .i64 Q)) (L:Z[20+2*t]? =some (.int .i64 P)) (K:Z[27+t]? =some (.int .u64 n)) (H:Z[31+t]? =some (.int .i64 g)) (G:Z[36]? =some (.int .u64 n))
 (X:∀i,19<=i->i≠19+2*t->i≠20+2*t->i≠27+t->i≠31+t->i≠36->Z[i]? =R[i]?):
 Z.extract 0 19=F/\uD Z (Z.extract 0 19) (tT V t Q) (tT U t P) (tT T t n) (tT S t g) ver n:=by
 have O:Z.extract 0 19=F:=by
  apply Array.ext_getElem?;intro i;by_cases Y:i<19
  .rw[Array.getElem?_extract,iP I,Nat.zero_add];exact N i Y
  rw[Array.getElem?_eq_none (by simp;omega),Array.getElem?_eq_none I]
 refine⟨O,W,rfl,fun i Y=>?_,fun i Y=>?_,fun i Y=>?_,fun i Y=>?_,?_,G⟩
 .unfold tT;by_cases e:i=t
  .subst e;rw[iP rfl];exact M
  rw[iN e,X _ I I I I I I];exact h.ac_ i Y
 .unfold tT;by_cases e:i=t
  .subst e;rw[iP rfl];exact L
  rw[iN e,X _ I I I I I I];exact h.av_ i Y
 .unfold tT;by_cases e:i=t
  .subst e;rw[iP rfl];exact K
  rw[iN e,X _ I I I I I I];exact h.wh_ i Y
 .unfold tT;by_cases e:i=t
  .subst e;rw[iP rfl];exact H
  rw[iN e,X _ I I I I I I];exact h.tg_ i Y
 rw[X _ I I I I I I];exact h.ver_
def yY(P:Nat->Prop)(y:Nat->Int)(kind:Int)(ac av wh tg:Nat->Int)(ver cnt:Int)(t:Nat)(co va:Int)(w:World)(e:Ending)(w':World):Prop:=
 Below w w w'/\∃R',R'.size=37/\R'.all (·.oneCell')=true/\e=.returned (.agg R')/\uD R' (R'.extract 0 19) (tT ac t co) (tT av t va) (tT wh t (cnt+1)) (tT tg t (1-tg t)) ver (cnt+1)/\fG P kind y (R'.extract 0 19) w'
theorem fG.insideP{P:Nat->Prop}(h:fG P kind z C w):fG (fun b=>P b/\b<w) kind z C w:=by
 unfold fG at h⊢;split
 .rename_i e;rwa [iP e]at h
 rename_i e;rw[iN e]at h;split
 .rename_i e6;rwa [iP e6]at h
 rename_i e6;rw[iN e6]at h;obtain⟨A,c,U,Y,T⟩:=h;refine⟨A,c,U,Y,fun X b W=>⟨T X b W,?_⟩⟩;obtain⟨R,S,V,Z,_⟩:=Y.at_ X;rw[W]at V;cases V;exact Z
def Al(R F:Array Value)(t:Nat)(p q n g:Value):Array Value:=(((fF (fF R 0 F.toList) (19+t*2) [p,q]).setIfInBounds 36 n).setIfInBounds (27+t) n).setIfInBounds (31+t) g
theorem QJ(R F:Array Value)(t:Nat)(p q n g:Value):(Al R F t p q n g).size=R.size:=by
 unfold Al;simp only[Array.size_setIfInBounds,fA]
theorem WP(W:R.size=37)(Q:F.size=19)(t:Nat)(P:t<4)(p q n g:Value)(i:Nat)(S:i<37):
 (Al R F t p q n g)[i]? =if i=31+t then some g else if i=27+t then some n else if i=36 then some n else if i=19+t*2 then some p else if i=20+t*2 then some q else if i<19 then F[i]? else R[i]? :=by
 unfold Al;rw[Array.getElem?_setIfInBounds,Array.getElem?_setIfInBounds,Array.getElem?_setIfInBounds];simp only[Array.size_setIfInBounds,fA,W];by_cases Z:i=31+t
 .subst Z;rw[iP rfl,iP I,iP rfl]
 rw[iN (fun e=>Z e.symm),iN Z];by_cases Y:i=27+t
 .subst Y;rw[iP rfl,iP I,iP rfl]
 rw[iN (fun e=>Y e.symm),iN Y];by_cases X:i=36
 .subst X;rw[iP rfl,iP I,iP rfl]
 rw[iN (fun e=>X e.symm),iN X];rw[iR _ _ _ _ (by rw[fA,W];exact S),iR _ _ _ _ (by rw[W];exact S)];simp only[List.length_cons,List.length_nil,Array.length_toList,Q];by_cases V:i=19+t*2
 .subst V;rw[iP I,iP rfl];simp
 rw[iN V];by_cases U:i=20+t*2
 .subst U;rw[iP I,iP rfl,show 20+t*2-(19+t*2)=1 by omega];rfl
 rw[iN U,iN I];by_cases T:i<19
 .rw[iP I,iP T];simp
 rw[iN I,iN T]
theorem YL{p q n g:Value}(T:R.all (·.oneCell')=true)(X:F.all (·.oneCell')=true)(S:p.oneCell'=true)(Q:q.oneCell'=true)(W:n.oneCell'=true)(P:g.oneCell'=true):(Al R F t p q n g).all (·.oneCell')=true:=by
 have one:∀(C:Array Value) (i:Nat) (v:Value),C.all (·.oneCell')=true->v.oneCell'=true->(C.setIfInBounds i v).all (·.oneCell')=true:=fun C i v Y Z=>by
  rw[Array.all_eq_true]at Y⊢;intro j V;rw[Array.getElem_setIfInBounds];split
  .exact Z
  exact Y j (by simpa using V)
 unfold Al;refine one _ _ _ (one _ _ _ (one _ _ _ (uN (uN T ?_) ?_) W) W) P
 .intro v Z;obtain⟨i,U,rfl⟩:=List.mem_iff_getElem.1 Z;rw[Array.all_eq_true]at X;simpa using X i (by simpa using U)
 intro v Z;simp at Z;rcases Z with rfl|rfl
 .exact S
 exact Q
theorem XV{p:Prop}(h:Hid p):p:=h.out
theorem IU{P:Program}{ops:Array Oper}{Q:Exit->Act->World->Prop}{Z:List Oper}{a:Act}(Φ:World->Prop)(Y:Φ w)(h:∀w',Φ w'->wpList P ops Q Z a w'):wpList P ops Q Z a w:=h w Y
theorem BT(P:Nat->Prop)(R:Array Value)(X:Nat->Int)(kind a k v:Int)(m:Nat)(ac av wh V:Nat->Int)(ver cnt:Int)(t:Nat)(w:World)(hR:uD R (R.extract 0 19) ac av wh V ver cnt)(h1:R.all (·.oneCell')=true)(q:fG P kind X (R.extract 0 19) w)(hP:∀b,w.heap.size<=b->P b)
 (hw:VU X) (hz:cK kind X) (ho:gQ a k v) (hm:kind=5->tG X a k m) (ht:t<4) (hc:0<=cnt/\cnt<=1099511627776) (hg:V t=0\/V t=1):
 Calls prog 167 #[.agg R,.int .i64 t,.agg #[.int .i64 a,.int .i64 k,.int .i64 v]] w (yY P (BW kind X a k v m) kind ac av wh V ver cnt t (IB kind X a k v) (JO kind X a k v) w):=by
 have zs:Hid (∀(D:Array Value) (W:World),W.heap.size=w.heap.size+3->fG (fun b=>P b/\(b<w.heap.size\/w.heap.size+3<=b)) kind X D W->Calls prog 191 #[.agg D,.agg #[.int .i64 a,.int .i64 k,.int .i64 v]] W (rB (fG (fun b=>P b/\(b<w.heap.size\/w.heap.size+3<=b)) kind (BW kind X a k v m)) (IB kind X a k v) (JO kind X a k v) W)):=aH fun D W hs q=>
  AN _ D X kind a k v m W (fun b M=>And.intro (hP b I) (.inr I)) hw hz ho hm q
 obtain⟨E,hE⟩:∃E,E=R.extract 0 19:=⟨_,rfl⟩;rw[<-hE]at hR q;have zr:=aH q.weak.size;have HE:=aH hE;have o:=aH hR;have zq:=aH h1;have HT:=aH ((q.insideP.mono (P':=fun b=>P b/\(b<w.heap.size\/w.heap.size+3<=b)) (fun b M=>And.intro M.1 (.inl M.2))));have hq:(t:Int)<4:=I;generalize BW kind X a k v m=y at*;generalize IB kind X a k v=G at*;generalize JO kind X a k v=C at*;clear hR h1 q hw hz ho hm hE hP
 go_enter func167,ntmps167
 generalize hQ:bodyPost prog Tryz.f167 (yY P y kind ac av wh V ver cnt t G C w)=Q;have HQ:=aH hQ;clear hQ;have x:Hid (aY (((w.alloc (.cells R 136)).alloc (.cells #[.int .i64 a,.int .i64 k,.int .i64 v] 39)).alloc (.cells (37:Int) 136)) w.heap.size 136 R):=aH (((aY.new _ _ _).alloc _).alloc _)
 go_wp2_with (refine wpList_load_mid rfl 131 _ rfl w.heap.size 0 rfl E.toList _ ?hc underlying131 rfl ?hi ?_)
 case hc=>
  rw[HE.out];exact World.rangeAt_of_block (t:=136) (fr:=(0,0)) x.out 0 19
 case hi=>simpa using(show(prog.info? 131).map (·.size)=some E.size by rw[jT,zr.out])
 go_wp2_with fail
 with_reducible refine(zs.out E _ (by simp) (HT.out.keeps (aD.of_same (S:=bN) (by go_grown)) (fun _ _ h=>h))).mono ?_
 rintro e w1 ⟨H,F,zx,zw,rfl,zv⟩;have u:=aH (x.out.below H x.out.lt);have Z:=aH zx;have n:=aH zw;have zp:=aH zv;have zn:Hid (Below w.heap.size w w1):=aH (Below.trans (by go_grown) (H.mono (by simp;omega)));have U:Hid (aY w1 (w.heap.size+1+1) 136 (37:Int)):=aH ((aY.newAt _ _ _ (by simp)).below H (by simp));clear H zx zw zv;have l:Hid ((fF (fF R 0 F.toList) (19+t*2) [.int .i64 G,.int .i64 C])[36]? =some (.int .u64 cnt)):=aH (by
  rw[iB (by right;simp only[List.length_cons,List.length_nil];omega),iB (by right;rw[Array.length_toList,Z.out];omega)];exact o.out.cnt_)
 have j:Hid ((fF (fF R 0 F.toList) (19+t*2) [.int .i64 G,.int .i64 C])[31+t]? =some (.int .i64 (V t))):=aH (by
  rw[iB (by right;simp only[List.length_cons,List.length_nil];omega),iB (by right;rw[Array.length_toList,Z.out];omega)];exact o.out.tg_ t ht)
 have f:Hid ((fF (fF R 0 F.toList) (19+t*2) [.int .i64 G,.int .i64 C])[27+t]? =some (.int .u64 (wh t))):=aH (by
  rw[iB (by right;simp only[List.length_cons,List.length_nil];omega),iB (by right;rw[Array.length_toList,Z.out];omega)];exact o.out.wh_ t ht)
 have n1:¬(27+t=36):=I;have n2:¬(36=27+t):=I;have n3:¬(31+t=36):=I;have n4:¬(36=31+t):=I;have n5:¬(27+t=31+t):=I;have n6:¬(31+t=27+t):=I;have u1:(cnt+1)%18446744073709551616=cnt+1:=I;have u2:IntKind.u64.wrap (cnt+1)=cnt+1:=IntWalk.u64_in _ I;have T:=aH o.out.size
 go_wp2_with (first
  |((with_reducible refine oI 131 w.heap.size 0 F J J ?_ ?_ n.out ?_);(exact u.out.there (by rw[Z.out,T.out];decide));(rw[jT,Z.out]))
  |((with_reducible refine oI 44 w.heap.size (19+t*2) #[.int .i64 G,.int .i64 C] J J ?_ ?_ (jH _ _) ?_);(exact(aY.setCells u.out).there (by rw[fA,T.out];show 19+t*2+2<=37;omega));(exact eU);(with_reducible refine XV ?_)))
 refine aH ?_
 with_reducible refine IU (fun W'=>aY W' w.heap.size 136 (fF (fF R 0 F.toList) (19+t*2) [.int .i64 G,.int .i64 C])/\aD (fun b=>b=w.heap.size) w1 W') ?_ ?_
 .exact⟨aY.setCells (aY.setCells u.out),(cE (S:=fun b=>b=w.heap.size) (.inl rfl) _ _).trans (cE (S:=fun b=>b=w.heap.size) (.inl rfl) _ _)⟩
 rintro z ⟨zu,zt⟩;have Y:=aH zu;have d:=aH zt;clear zu zt;have zk:z.cell? ⟨w.heap.size,36,none⟩=some (.int .u64 cnt):=by rw[Y.out.cell,l.out]
 have zj:z.cell? ⟨w.heap.size,31+t,none⟩=some (.int .i64 (V t)):=by rw[Y.out.cell,j.out]
 have zi:z.cell? ⟨w.heap.size,27+t,none⟩=some (.int .u64 (wh t)):=by rw[Y.out.cell,f.out]
 have zh:=Y.out.frozen 36;have zg:=Y.out.frozen (31+t);have zf:=Y.out.frozen (27+t);obtain⟨O,N⟩:∃O,O=Al R F t (.int .i64 G) (.int .i64 C) (.int .u64 (cnt+1)) (.int .i64 (1-V t)):=⟨_,rfl⟩;have s:O.size=37:=by rw[N,QJ,T.out]
 have r:Hid ((prog.info? 136).map (·.size)=some O.size):=by show _=_;rw[mU,s]
 have c:Hid (O.all (·.oneCell')=true):=aH (by rw[N];exact YL zq.out n.out rfl rfl rfl rfl);have L:=aH s;have K:aY (((z.setCell ⟨w.heap.size,36,none⟩ (.int .u64 (cnt+1))).setCell ⟨w.heap.size,27+t,none⟩ (.int .u64 (cnt+1))).setCell ⟨w.heap.size,31+t,none⟩ (.int .i64 (1-V t))) w.heap.size 136 O:=by rw[N];exact((Y.out.set_ 36 _).set_ (27+t) _).set_ (31+t) _
 have zm:=aH K;have B:aY z (w.heap.size+1+1) 136 (37:Int):=(d.out.block _ U.out.lt I).trans U.out;have zz:Hid (aY (((z.setCell ⟨w.heap.size,36,none⟩ (.int .u64 (cnt+1))).setCell ⟨w.heap.size,27+t,none⟩ (.int .u64 (cnt+1))).setCell ⟨w.heap.size,31+t,none⟩ (.int .i64 (1-V t))) (w.heap.size+1+1) 136 (37:Int)):=aH (((B.far (by show w.heap.size+1+1≠w.heap.size;omega) _).far (by show w.heap.size+1+1≠w.heap.size;omega) _).far (by show w.heap.size+1+1≠w.heap.size;omega) _);have zy:Hid (aD (fun b=>b=w.heap.size) w1 (((z.setCell ⟨w.heap.size,36,none⟩ (.int .u64 (cnt+1))).setCell ⟨w.heap.size,27+t,none⟩ (.int .u64 (cnt+1))).setCell ⟨w.heap.size,31+t,none⟩ (.int .i64 (1-V t)))):=aH (((d.out.setCell (p:=⟨w.heap.size,36,none⟩) (.inl rfl) _).setCell (p:=⟨w.heap.size,27+t,none⟩) (.inl rfl) _).setCell (p:=⟨w.heap.size,31+t,none⟩) (.inl rfl) _);have zl:=aH N;clear K s N B
 go_wp2_with (first
  |(with_reducible refine lL 136 w.heap.size 136 O J zm.out underlying136 J r.out ?_)
  |(with_reducible refine fK 136 (w.heap.size+1+1) O 136 (37:Int) J J zz.out r.out (by rw[L.out];kernel_rfl) c.out ?_))
 rw[<-HQ.out];refine bodyPost_ret (results_cell_row results167 _ _ (w.heap.size+1+1) 136 O (0,0) _ J (aY.setRow zz.out _) underlying136 J r.out) J ?_;have K:Below w.heap.size w1 (((z.setCell ⟨w.heap.size,36,none⟩ (.int .u64 (cnt+1))).setCell ⟨w.heap.size,27+t,none⟩ (.int .u64 (cnt+1))).setCell ⟨w.heap.size,31+t,none⟩ (.int .i64 (1-V t))):=zy.out.below (by have:=U.out.lt;omega) (fun b M e=>by omega);have g:=fun i (hi:i<37)=>(congrArg (fun A:Array Value=>A[i]?) zl.out).trans (WP T.out Z.out t ht (.int .i64 G) (.int .i64 C) (.int .u64 (cnt+1)) (.int .i64 (1-V t)) i hi)
 have hx:=TM (R:=R) (F:=F) (by rw[<-HE.out];exact o.out) Z.out ht G C (cnt+1) (1-V t) O L.out (fun i hi=>by rw[g i I,if_neg I,if_neg I,if_neg I,if_neg I,if_neg I,if_pos hi])
  (by rw[g _ I,if_neg I,if_neg I,if_neg I,if_pos I]) (by rw[g _ I,if_neg I,if_neg I,if_neg I,if_neg I,if_pos I])
  (by rw[g _ I,if_neg I,if_pos rfl]) (by rw[g _ I,if_pos rfl]) (by rw[g _ I,if_neg I,if_neg I,if_pos rfl])
  (fun i h1 h2 h3 h4 h5 h6=>by
    by_cases hi:i<37
    .rw[g i hi,if_neg I,if_neg I,if_neg I,if_neg I,if_neg I,if_neg I]
    .rw[Array.getElem?_eq_none (by rw[L.out];omega),Array.getElem?_eq_none (by rw[T.out];omega)])
 refine⟨aL (zn.out.trans K) I _,O,L.out,c.out,rfl,hx.2,?_⟩;rw[hx.1];refine(zp.out.keeps (S:=fun b=>b=w.heap.size\/b=w.heap.size+1+1) ((zy.out.mono (fun b M=>.inl M)).trans ?_) (fun b M=>by have:=M.2;omega)).mono (fun b M=>M.1);exact⟨rfl,rfl,rfl,by simp [World.setRow],fun k _ hn=>setRow_other _ _ _ _ (fun e=>hn (.inr e))⟩
theorem AU:(prog.info? 25).map (·.size)=some 32:=J
structure BK (w:World) (C:Array Value) (a k v:Int) (w':World):Prop where
 rcd:aY w' w 25 C
 op:aY w' (w+1) 39 #[a,k,v]
 res:aY w' (w+1+1) 25 (32:Nat)
 below:Below w w w'
theorem BK.mk_(w:World)(C:Array Value)(a k v:Int):BK w C a k v (((w.alloc (.cells C 25)).alloc (.cells #[a,k,v] 39)).alloc (.cells (32:Nat) 25)):=
 ⟨((aY.new _ _ _).alloc _).alloc _,(aY.newAt _ _ _ (by simp)).alloc _,aY.newAt _ _ _ (by simp),by go_grown⟩
theorem BK.on{Y X:World}(h:BK w C a k v Y)(Z:Below Y Y X):BK w C a k v X:=
 ⟨h.rcd.below Z h.rcd.lt,h.op.below Z h.op.lt,h.res.below Z h.res.lt,h.below.trans (Z.mono h.below.size)⟩
def rG(e0:Int)(w:World)(e:Ending)(w':World):Prop:=e=.returned (.tuple #[.agg (32:Nat),.iface 53 e0])/\Below w w w'
theorem ZO(C:Array Value)(t a k v:Int)(w:World)(Y:t<0\/(0<=t/\4<=t)):
 Calls prog 130 #[.agg C,t,.agg #[a,k,v]] w (rG 2 w):=by
 have Z:=aH (BK.mk_ w C a k v);rcases Y with Y|⟨V,U⟩
 all_goals
  go_enter func130,ntmps130
  generalize X:bodyPost prog Tryz.f130 (rG 2 w)=Q;have W:=aH X;clear X
  go_wp2_with (with_reducible refine fK 25 (w+1+1) (32:Nat) 25 (32:Nat) J J Z.out.res J J J ?_)
  (try simp only[Exit.inBlock,Exit.then])
  rw[<-W.out]
  with_reducible refine bodyPost_ret (bR results130 _ _ (w+1+1) 25 (32:Nat) _ (.iface 53 (2:Int)) J J (aY.setRow Z.out.res _) underlying25 J J) J ?_
  exact⟨rfl,aL Z.below I _⟩
theorem MO(C:Array Value)(z:Nat->Int)(t a k v:Int)(w:World)(h:cH C 32 z)(O:0<=t/\t<4)(S:¬eE z):
 Calls prog 130 #[.agg C,t,.agg #[a,k,v]] w (rG 1 w):=by
 obtain⟨L,K⟩:=O;have N:¬t<0:=I;have M:¬4<=t:=I;have Y:=aH (BK.mk_ w C a k v);have R:Hid ((prog.info? 25).map (·.size)=some C.size):=by show _=_;rw[AU,h.size]
 have X:=fun W=>lP C z false W h ⟨fun e=>Bool.noConfusion e,fun e=>absurd e S⟩
 have U:=aH X;clear h S X
 go_enter func130,ntmps130
 generalize T:bodyPost prog Tryz.f130 (rG 1 w)=Q;have P:=aH T;clear T
 go_wp2_with (with_reducible refine lL 25 w 25 C J Y.out.rcd underlying25 J R.out ?_)
 with_reducible refine(U.out _).mono ?_
 rintro e H ⟨rfl,V⟩;have Z:=aH (Y.on V);clear V
 go_wp2_with (with_reducible refine fK 25 (w+1+1) (32:Nat) 25 (32:Nat) J J Z.out.res J J J ?_)
 (try simp only[Exit.inBlock,Exit.then])
 rw[<-P.out]
 with_reducible refine bodyPost_ret (bR results130 _ _ (w+1+1) 25 (32:Nat) _ (.iface 53 (1:Int)) J J (aY.setRow Z.out.res _) underlying25 J J) J ?_
 exact⟨rfl,aL Z.below I _⟩
theorem iC(h:aD (fun b=>B<=b) w w')(Y:B=w):Below w w w':=h.below (Nat.le_refl _) (fun b Z e=>by omega)
def WO(B:Nat)(v:Value):Prop:=∃g,v=.pointer (some ⟨g,0,none⟩)/\B<=g
def KW(B:Nat)(t:TypeId)(cs:Array Value)(v:Value)(w':World):Prop:=∃g,v=.pointer (some ⟨g,0,none⟩)/\aY w' g t cs
def LI(p q:Value)(E A:Array Value)(w':World):Prop:=∃g8 g9,p=.pointer (some ⟨g8,0,none⟩)/\q=.pointer (some ⟨g9,0,none⟩)/\aY w' g8 252 E/\aY w' g9 44 A
theorem nD{Z X:Nat}{E A:Array Value}(W:aY w Z 252 E)(V:aY w X 44 A):Z≠X:=by
 rintro rfl;have h:w.heap[Z]? =some (.cells E 252 (0,0)):=W;have Y:w.heap[Z]? =some (.cells A 44 (0,0)):=V;rw[h]at Y;simp at Y
theorem oU{cs E:Array Value}(h:cs.size=E.size):fF cs 0 E.toList=E:=by
 apply Array.ext_getElem?;intro i;by_cases Z:i<E.size
 .rw[iR _ _ _ _ I,iP (by rw[Array.length_toList];omega)];simp
 rw[Array.getElem?_eq_none (by rw[fA];omega),Array.getElem?_eq_none I]
theorem VL(C:Array Value)(z:Nat->Int)(t a k v:Int)(w:World)(h:cH C 32 z)(ht:0<=t/\t<4)(hr:eE z)(ho:cB a k v=false):
 Calls prog 130 #[.agg C,t,.agg #[a,k,v]] w (rG 1 w):=by
 obtain⟨h0,h4⟩:=ht;have d0:¬t<0:=I;have d4:¬4<=t:=I;have y:=aH (BK.mk_ w C a k v);have HI:Hid ((prog.info? 25).map (·.size)=some C.size):=by show _=_;rw[AU,h.size]
 have n:=fun W=>lP C z true W h ⟨fun _=>hr,fun _=>rfl⟩
 have zy:=aH n;obtain⟨D,hD⟩:=aO (C.extract 1 18);have m:cH D 17 (oz z):=by rw[hD];exact h.cut 1 17 aJ
 have l:Hid (∀W:World,Calls prog 141 #[.agg C] W fun e G=>e=.returned (dH z)/\Below W W G):=aH fun W=>sH C z W h
 have j:Hid (∀W:World,Calls prog 142 #[.agg C] W fun e G=>e=.returned (.agg D)/\Below W W G):=aH fun W=>oT C D z W h hD
 have H:Hid (∀W:World,Calls prog 143 #[(dH z),.agg D,.agg #[a,k,v]] W fun e G=>e=.returned (.tuple #[.agg (17:Nat),.agg (2:Int),.iface 53 (1:Int)])/\Below W W G):=aH fun W=>UG D (oz z) (dH z) a k v W m ho
 generalize dH z=kv at*;obtain⟨E,hE,i,g⟩:∃E:Array Value,E=(17:Nat)/\E.all (·.oneCell')=true/\E.size=17:=⟨_,rfl,J,J⟩;rw[<-hE]at H;have zx:=aH i;have x:=aH g;obtain⟨co,f⟩:=aO (0:Int);obtain⟨va,Y⟩:=aO (0:Int);rw[show(#[Value.int .i64 0,.int .i64 0]:Array Value)= #[.int .i64 co,.int .i64 va] by rw[f,Y]]at H;clear f Y;clear hE i g;clear h hr ho hD m n
 go_enter func130,ntmps130
 generalize hQ:bodyPost prog Tryz.f130 (rG 1 w)=Q;have HQ:=aH hQ;clear hQ
 go_wp2_with (with_reducible refine lL 25 w.heap.size 25 C J y.out.rcd underlying25 J HI.out ?_)
 with_reducible refine(zy.out _).mono ?_
 rintro e w1 ⟨rfl,d⟩;have U:=aH (y.on d);clear d y;go_wp2;have o0:=U.op.cell 0;have o1:=U.op.cell 1;have o2:=U.op.cell 2;have zv:=U.rcd.lt;have zu:=U.op.lt;simp at o0 o1 o2;obtain⟨B,c⟩:=aO w1.heap.size;have T:=aH c;refine dQ 14 (fun b=>B<=b) [12,13] J J ?_;intro zp P;clear c;refine bA (.agg C) cX ?_ ?_
 .intro w9 hw9 _;exact gN 25 _ rfl w.heap.size rfl 25 C _ (U.rcd.below (iC hw9 T) U.rcd.lt) underlying25 rfl HI aE
 refine aR ?_;constructor
 .intro w9 hw9 _;obtain⟨hc9,hf9⟩:=cJ (iC hw9 T);go_simp
  first
  |exact aE
  |(go_at_call 141;exact bS (l.out _))
  |(go_at_call 142;exact bS (j.out _))
  |(go_at_call 143;exact bS (H.out _))
 refine bA (.agg C) cX ?_ ?_
 .intro w9 hw9 _;exact gN 25 _ rfl w rfl 25 C _ (U.rcd.below (iC hw9 T) U.rcd.lt) underlying25 rfl HI aE
 iterate 7
  refine aR ?_;constructor
  .intro w9 hw9 _;obtain⟨hc9,hf9⟩:=cJ (iC hw9 T);go_simp
   first
   |exact aE
   |(go_at_call 141;exact bS (l.out _))
   |(go_at_call 142;exact bS (j.out _))
   |(go_at_call 143;exact bS (H.out _))
 refine bC (WO B) (KW B 252 (17:Nat)) ⟨_,B,rfl,Nat.le_refl _⟩ ?_ ?_
 .intro w9 hw9 _;have s:B<=w9:=by rw[T.out];exact hw9.size
  go_simp;exact⟨⟨⟨_,rfl,s⟩,⟨_,rfl,aY.new _ _ _⟩⟩,aD.of_same ((Below.refl _ _).alloc (Nat.le_refl _) _)⟩
 refine bD (WO B) (KW B 44 (2:Int)) ⟨_,B,rfl,Nat.le_refl _⟩ ?_ ?_
 .rintro _ ⟨p,rfl,M⟩;refine⟨rfl,fun w9 hw9 _=>?_⟩;have s:B<=w9:=by rw[T.out];exact hw9.size
  go_simp;exact⟨⟨⟨_,rfl,s⟩,⟨_,rfl,aY.new _ _ _⟩⟩,aD.of_same ((Below.refl _ _).alloc (Nat.le_refl _) _)⟩
 refine bB undef (fun u G=>LI (u 10) (u 11) E (2:Int) G) ?_ ?_
 .rintro _ ⟨g9,rfl,L⟩ _ ⟨p,rfl,M⟩;refine⟨rfl,fun w9 hw9 Z=>?_⟩;obtain⟨w0,k0,K,F,hv,X⟩:=Z.2.1 (by rw[P.out];kernel_rfl);obtain rfl:F=p:=by cases hv;rfl
  clear hv;have O:=X.below (dG K (by rw[P.out];kernel_rfl)) X.lt;obtain⟨zo,zw,zz,A,hv,V⟩:=Z.2.2.1 (by rw[P.out];kernel_rfl);obtain rfl:A=g9:=by cases hv;rfl
  clear hv;have N:=V.below (dG zz (by rw[P.out];kernel_rfl)) V.lt;have r:=nD O N;clear Z X V k0 zw K zz;refine dA 252 _ _ rfl F 0 E rfl rfl (O.there (by rw[x.out];decide)) (by rw[gT,x.out]) zx ?_;refine⟨⟨rfl,F,A,by unfold cV;rw[iP (by rw[P.out];kernel_rfl)];rfl,by unfold cV;rw[iP (by rw[P.out];kernel_rfl)];rfl,?_,N.far_cells (fun e=>r e.symm) 0 E.toList⟩,(cE (S:=fun b=>B<=b) (.inl M) 0 E.toList).mono (fun b h=>⟨aJ,h⟩)⟩;have h8:=aY.setCells (vs:=E.toList) (o:=0) O
  rwa [oU (by rw[x.out];rfl)]at h8
 refine bB undef (fun u G=>LI (u 10) (u 11) E #[co,va] G) ?_ ?_
 .rintro _ ⟨g9,rfl,L⟩ _ ⟨p,rfl,M⟩;refine⟨rfl,fun w9 hw9 Z=>?_⟩;obtain⟨w0,k0,K,F,A,Y,R,X,V⟩:=Z.2.2.2.1 (by rw[P.out];kernel_rfl);have ea:F=p:=by unfold cV at Y;rw[iP (by rw[P.out];kernel_rfl)]at Y;cases Y;rfl
  have eb:A=g9:=by unfold cV at R;rw[iP (by rw[P.out];kernel_rfl)]at R;cases R;rfl
  subst ea;subst eb;have O:=X.below (dG K (by rw[P.out];kernel_rfl)) X.lt;have N:=V.below (dG K (by rw[P.out];kernel_rfl)) V.lt;have r:=nD O N;clear Z X V k0 K Y R;refine dA 44 _ _ rfl A 0 #[co,va] rfl rfl (N.there (by show 0+2<=2;decide)) eU (jH _ _) ?_;refine⟨⟨rfl,F,A,by unfold cV;rw[iP (by rw[P.out];kernel_rfl)];rfl,by unfold cV;rw[iP (by rw[P.out];kernel_rfl)];rfl,O.far_cells r 0 _,?_⟩,(cE (S:=fun b=>B<=b) (.inl L) 0 _).mono (fun b h=>⟨aJ,h⟩)⟩;have h9:=aY.setCells (vs:=(#[co,va]:Array Value).toList) (o:=0) N
  rwa [oU (by rfl)]at h9
 refine aZ ?_;rintro _ ⟨g9,rfl,L⟩ _ ⟨p,rfl,M⟩ w9 hw9 Z;obtain⟨w0,k0,K,F,A,Y,R,X,V⟩:=Z.2.2.1 rfl;have ea:F=p:=by unfold cV at Y;rw[iP (by rw[P.out];kernel_rfl)]at Y;cases Y;rfl
 have eb:A=g9:=by unfold cV at R;rw[iP (by rw[P.out];kernel_rfl)]at R;cases R;rfl
 subst ea;subst eb;have zt:=aH (X.below (dG K (by rw[P.out];kernel_rfl)) X.lt);have zs:=aH (V.below (dG K (by rw[P.out];kernel_rfl)) V.lt);have q:=aH (U.on (iC hw9 T));have zr:w1<=F:=by rw[<-T.out];exact M
 have zq:w1<=A:=by rw[<-T.out];exact L
 clear Z X V k0 K Y R hw9 o0 o1 o2 P T M L;refine aQ ?_
 go_wp2_with (with_reducible refine fK 25 (w+1+1) (32:Nat) 25 (32:Nat) J J q.out.res J J J ?_)
 (try simp only[Exit.inBlock,Exit.then])
 rw[<-HQ.out]
 with_reducible refine bodyPost_ret (bR results130 _ _ (w+1+1) 25 (32:Nat) _ (.iface 53 (1:Int)) J J (aY.setRow q.out.res _) underlying25 J J) J ?_
 exact⟨rfl,aL q.below I _⟩
theorem FE(x:Nat)(a:Int)(Z:x<18446744073709551616):iH x a<18446744073709551616:=by
 unfold iH;split
 .rename_i h;have Y:2^a.toNat<2^64:=Nat.pow_lt_pow_right aJ I;exact Nat.xor_lt_two_pow (n:=64) (by simpa using Z) Y
 exact Z
def fT(z y:Nat->Int)(t:Nat)(co va:Int)(i:Nat):Int:=if i=26 then((iH (z 26).toNat t:Nat):Int)else if i=22+t then z 28+1 else if i=28 then z 28+1 else if i=18+t then iV co va else if 1<=i/\i<18 then y (i-1)else z i
def ZL(z y:Nat->Int)(t:Nat)(co va:Int)(w:World)(e:Ending)(w':World):Prop:=∃F,e=.returned (.tuple #[.agg F,.nilIface])/\cH F 32 (fT z y t co va)/\Below w w w'
theorem QC(C:Array Value)(z:Nat->Int)(t:Nat)(a k v:Int)(m:Nat)(w:World)(h:cH C 32 z)(yp:t<4)(hr:eE z)(ho:gQ a k v)(hm:dH z=5->tG (oz z) a k m):
 Calls prog 130 #[.agg C,t,.agg #[a,k,v]] w (ZL z (BW (dH z) (oz z) a k v m) t (IB (dH z) (oz z) a k v) (JO (dH z) (oz z) a k v) w):=by
 have ht:0<=(t:Int)/\(t:Int)<4:=I;obtain⟨h0,h4⟩:=ht;have d0:¬(t:Int)<0:=I;have d4:¬4<=(t:Int):=I;have zq:=aH (BK.mk_ w C a k v);have HI:Hid ((prog.info? 25).map (·.size)=some C.size):=by show _=_;rw[AU,h.size]
 have zg:=fun W=>lP C z true W h ⟨fun _=>hr,fun _=>rfl⟩
 have yo:=aH zg;obtain⟨D,hD⟩:=aO (C.extract 1 18);have zf:cH D 17 (oz z):=by rw[hD];exact h.cut 1 17 aJ
 have ze:Hid (∀W:World,Calls prog 141 #[.agg C] W fun e w'=>e=.returned (dH z)/\Below W W w'):=aH fun W=>sH C z W h
 have zd:Hid (∀W:World,Calls prog 142 #[.agg C] W fun e w'=>e=.returned (.agg D)/\Below W W w'):=aH fun W=>oT C D z W h hD
 have zb:=DC (fun i hi=>h.bd (1+i) I) hr.1.1 ho hm;obtain⟨E,g⟩:=cH.ex (BW (dH z) (oz z) a k v m) 17 zb.2.1;have za:Hid (∀W:World,Calls prog 143 #[(dH z),.agg D,.agg #[a,k,v]] W fun e w'=>e=.returned (.tuple #[.agg E,.agg #[(IB (dH z) (oz z) a k v),(JO (dH z) (oz z) a k v)],.nilIface])/\Below W W w'):=aH fun W=>NR D E (oz z) (dH z) a k v m W zf ho hr.1.1 hm g
 have L:=aH g;have zp:=aH h;have zo:=aH g.size;have yn:=aH g.one;have yz:Hid (0<=z 28/\z 28<=1099511627776):=aH ⟨(h.bd 28 aJ).1,hr.1.2.2.1⟩;generalize BW (dH z) (oz z) a k v m=y at*;generalize IB (dH z) (oz z) a k v=co at*;generalize JO (dH z) (oz z) a k v=va at*;generalize dH z=kv at*;clear h hr ho hD zf zg hm zb g
 go_enter func130,ntmps130
 generalize hQ:bodyPost prog Tryz.f130 (ZL z y t co va w)=Q;have HQ:=aH hQ;clear hQ
 go_wp2_with (with_reducible refine lL 25 w 25 C J zq.out.rcd underlying25 J HI.out ?_)
 with_reducible refine(yo.out _).mono ?_
 rintro e w1 ⟨rfl,ys⟩;have V:=aH (zq.on ys);clear ys zq;go_wp2;have o0:=V.op.cell 0;have o1:=V.op.cell 1;have o2:=V.op.cell 2;have ym:=V.rcd.lt;have yl:=V.op.lt;simp at o0 o1 o2;obtain⟨B,yr⟩:=aO w1.heap.size;have U:=aH yr;refine dQ 14 (fun b=>B<=b) [12,13] J J ?_;intro xv O;clear yr;refine bA (.agg C) cX ?_ ?_
 .intro w9 hw9 _;exact gN 25 _ rfl w.heap.size rfl 25 C _ (V.rcd.below (iC hw9 U) V.rcd.lt) underlying25 rfl HI aE
 refine aR ?_;constructor
 .intro w9 hw9 _;obtain⟨hc9,hf9⟩:=cJ (iC hw9 U);go_simp
  first
  |exact aE
  |(go_at_call 141;exact bS (ze.out _))
  |(go_at_call 142;exact bS (zd.out _))
  |(go_at_call 143;exact bS (za.out _))
 refine bA (.agg C) cX ?_ ?_
 .intro w9 hw9 _;exact gN 25 _ rfl w rfl 25 C _ (V.rcd.below (iC hw9 U) V.rcd.lt) underlying25 rfl HI aE
 iterate 7
  refine aR ?_;constructor
  .intro w9 hw9 _;obtain⟨hc9,hf9⟩:=cJ (iC hw9 U);go_simp
   first
   |exact aE
   |(go_at_call 141;exact bS (ze.out _))
   |(go_at_call 142;exact bS (zd.out _))
   |(go_at_call 143;exact bS (za.out _))
 refine bC (WO B) (KW B 252 (17:Nat)) ⟨_,B,rfl,Nat.le_refl _⟩ ?_ ?_
 .intro w9 hw9 _;have zn:B<=w9:=by rw[U.out];exact hw9.size
  go_simp;exact⟨⟨⟨_,rfl,zn⟩,⟨_,rfl,aY.new _ _ _⟩⟩,aD.of_same ((Below.refl _ _).alloc (Nat.le_refl _) _)⟩
 refine bD (WO B) (KW B 44 (2:Int)) ⟨_,B,rfl,Nat.le_refl _⟩ ?_ ?_
 .rintro _ ⟨g8,rfl,G⟩;refine⟨rfl,fun w9 hw9 _=>?_⟩;have zn:B<=w9:=by rw[U.out];exact hw9.size
  go_simp;exact⟨⟨⟨_,rfl,zn⟩,⟨_,rfl,aY.new _ _ _⟩⟩,aD.of_same ((Below.refl _ _).alloc (Nat.le_refl _) _)⟩
 refine bB undef (fun u w'=>LI (u 10) (u 11) E (2:Int) w') ?_ ?_
 .rintro _ ⟨g9,rfl,d⟩ _ ⟨g8,rfl,G⟩;refine⟨rfl,fun w9 hw9 Z=>?_⟩;obtain⟨w0,k0,k1,ga,hv,Y⟩:=Z.2.1 (by rw[O.out];kernel_rfl);obtain rfl:ga=g8:=by cases hv;rfl
  clear hv;have K:=Y.below (dG k1 (by rw[O.out];kernel_rfl)) Y.lt;obtain⟨xu,ye,yq,f,hv,X⟩:=Z.2.2.1 (by rw[O.out];kernel_rfl);obtain rfl:f=g9:=by cases hv;rfl
  clear hv;have H:=X.below (dG yq (by rw[O.out];kernel_rfl)) X.lt;have zm:=nD K H;clear Z Y X k0 ye k1 yq;refine dA 252 _ _ rfl ga 0 E rfl rfl (K.there (by rw[zo.out];decide)) (by rw[gT,zo.out]) yn ?_;refine⟨⟨rfl,ga,f,by unfold cV;rw[iP (by rw[O.out];kernel_rfl)];rfl,by unfold cV;rw[iP (by rw[O.out];kernel_rfl)];rfl,?_,H.far_cells (fun e=>zm e.symm) 0 E.toList⟩,(cE (S:=fun b=>B<=b) (.inl G) 0 E.toList).mono (fun b h=>⟨aJ,h⟩)⟩;have h8:=aY.setCells (vs:=E.toList) (o:=0) K
  rwa [oU (by rw[zo.out];rfl)]at h8
 refine bB undef (fun u w'=>LI (u 10) (u 11) E #[co,va] w') ?_ ?_
 .rintro _ ⟨g9,rfl,d⟩ _ ⟨g8,rfl,G⟩;refine⟨rfl,fun w9 hw9 Z=>?_⟩;obtain⟨w0,k0,k1,ga,f,R,P,Y,X⟩:=Z.2.2.2.1 (by rw[O.out];kernel_rfl);have ea:ga=g8:=by unfold cV at R;rw[iP (by rw[O.out];kernel_rfl)]at R;cases R;rfl
  have eb:f=g9:=by unfold cV at P;rw[iP (by rw[O.out];kernel_rfl)]at P;cases P;rfl
  subst ea;subst eb;have K:=Y.below (dG k1 (by rw[O.out];kernel_rfl)) Y.lt;have H:=X.below (dG k1 (by rw[O.out];kernel_rfl)) X.lt;have zm:=nD K H;clear Z Y X k0 k1 R P;refine dA 44 _ _ rfl f 0 #[co,va] rfl rfl (H.there (by show 0+2<=2;decide)) eU (jH _ _) ?_;refine⟨⟨rfl,ga,f,by unfold cV;rw[iP (by rw[O.out];kernel_rfl)];rfl,by unfold cV;rw[iP (by rw[O.out];kernel_rfl)];rfl,K.far_cells zm 0 _,?_⟩,(cE (S:=fun b=>B<=b) (.inl d) 0 _).mono (fun b h=>⟨aJ,h⟩)⟩;have h9:=aY.setCells (vs:=(#[co,va]:Array Value).toList) (o:=0) H
  rwa [oU (by rfl)]at h9
 refine aZ ?_;rintro _ ⟨g9,rfl,d⟩ _ ⟨g8,rfl,G⟩ w9 hw9 Z;obtain⟨w0,k0,k1,ga,f,R,P,Y,X⟩:=Z.2.2.1 rfl;have ea:ga=g8:=by unfold cV at R;rw[iP (by rw[O.out];kernel_rfl)]at R;cases R;rfl
 have eb:f=g9:=by unfold cV at P;rw[iP (by rw[O.out];kernel_rfl)]at P;cases P;rfl
 subst ea;subst eb;have zl:=aH (Y.below (dG k1 (by rw[O.out];kernel_rfl)) Y.lt);have zk:=aH (X.below (dG k1 (by rw[O.out];kernel_rfl)) X.lt);have zj:=aH (V.on (iC hw9 U));have yc:w1<=ga:=by rw[<-U.out];exact G
 have yb:w1<=f:=by rw[<-U.out];exact d
 clear Z Y X k0 k1 R P hw9 o0 o1 o2 O U G d;refine aQ ?_;have yk:=aH zj.rcd;go_wp2_with fail;refine aA 2 ?_
 iterate 2
  refine aR ?_;constructor
  .intro zy M _;go_simp;exact aE
 refine aZ ?_;intro zy M _;have zw:=aH (zl.below M.same zl.lt);have zv:=aH (zk.below M.same zk.lt);have A:=aH (zj.on M.same);clear zl zk zj yk M;simp only[List.drop_succ_cons,List.drop_zero];refine wpList_copy_own rfl (.tmp 38) (.tmp 39) 91 91 rfl 23 underlying91 J w 1 31 31 ⟨ga,0,none⟩ 17 17 rfl rfl C 25 A.rcd E.toList (by rw[Array.length_toList,L.size];rfl) ?hsrc ?hfit ?hone ?_
 case hsrc=>
  intro j v hj;rw[Addr.add_lit,Nat.zero_add,zw.cell j];simpa using hj
 case hfit=>rw[Array.length_toList,L.size,zp.size];decide
 case hone=>
  intro v hv;have:=L.one;rw[Array.all_eq_true]at this;obtain⟨i,hi,rfl⟩:=List.getElem_of_mem hv;have h9:=this i (by simpa using hi);simpa using h9
 rw[Array.length_toList,L.size];have N:=aH (zp.splice L (o:=1) I);have x:=aH (A.rcd.setRow (C.toList.take 1++(E.toList++C.toList.drop (1+17))).toArray);have yd:w<f:=I;have r:Hid (aY (zy.setRow w (C.toList.take 1++(E.toList++C.toList.drop (1+17))).toArray) f 44 #[co,va]):=aH ((setRow_other _ _ _ _ I).trans zv);have n:Hid (aY (zy.setRow w (C.toList.take 1++(E.toList++C.toList.drop (1+17))).toArray) (w+1+1) 25 (32:Nat)):=aH ((setRow_other _ _ _ _ I).trans A.res);have l:=aH (aL A.below (show w.heap.size<=w by omega) (C.toList.take 1++(E.toList++C.toList.drop (1+17))).toArray);generalize zy.setRow w.heap.size (C.toList.take 1++(E.toList++C.toList.drop (1+17))).toArray=W2 at*;generalize(C.toList.take 1++(E.toList++C.toList.drop (1+17))).toArray=E1 at*;clear A zw zv HI zp L ym yl;have a0:=r.cell 0;have a1:=r.cell 1;simp at a0 a1;go_wp2_with fail;refine(FV co va _).mono ?_;rintro e w3 ⟨rfl,zx⟩;have T:=aH (x.below zx x.lt);have yy:=aH (n.below zx n.lt);have yx:=aH (l.trans (zx.mono l.size));clear zx x n l r a0 a1;obtain⟨zc,F⟩:∃zc:Nat->Int,zc=fun i=>if 1<=i/\i<1+17 then y (i-1)else z i:=⟨_,rfl⟩
 rw[<-F]at N;obtain⟨c,hc⟩:=aO (zc 28);obtain⟨q,hq⟩:=aO ((zc 26).toNat);have zu:zc 26=(q:Int):=by rw[hq];have:=(N.bd 26 aJ).1;omega
 have zt:Hid (q<18446744073709551616):=aH (by have:=N.bd 26 aJ;omega);have zs:0<=c/\c<=1099511627776:=by rw[hc,F];exact yz
 have yw:=aH zs;have u1:(c+1)%18446744073709551616=c+1:=I;have u2:IntKind.u64.wrap (c+1)=c+1:=IntWalk.u64_in _ I;have yj:=aH (And.intro F (And.intro hc hq));have x0:=(T.cell (18+t)).trans (N.get (18+t) I);have x1:=(T.cell (22+t)).trans (N.get (22+t) I);have x2:=(T.cell 26).trans (N.get 26 I);have x3:=(T.cell 28).trans (N.get 28 I);rw[zu]at x2;rw[<-hc]at x3;have f0:=T.frozen (18+t);have f1:=T.frozen (22+t);have f2:=T.frozen 26;have f3:=T.frozen 28;have ya:(18:Int)+t=((18+t:Nat):Int):=I;have xB:(22:Int)+t=((22+t:Nat):Int):=I;have xz:((18+t:Nat):Int)<32:=I;have xy:((22+t:Nat):Int)<32:=I;have n1:¬18+t=26:=I;have n2:¬22+t=26:=I;have n3:¬18+t=22+t:=I;have n4:¬22+t=18+t:=I;have n5:¬26=18+t:=I;have n6:¬26=22+t:=I;have n7:¬28=18+t:=I;have n8:¬28=22+t:=I;have n9:¬18+t=28:=I;have xx:¬22+t=28:=I;have yi:=aH (vM co va);have xw:=aH yp;clear F hq zu zs hc;generalize hs:18+t=s at*;generalize hu:22+t=u at*;have HS:=aH (And.intro hs hu);clear hs hu yp;generalize zr:iV co va=an at*;have yv:=aH zr;clear zr;go_wp2_with fail;refine(UD q t _ zt).mono ?_;rintro e w4 ⟨rfl,rfl⟩;obtain⟨E5,zh⟩:=aO ((((E1.setIfInBounds s [an]).setIfInBounds 28 [c+1]).setIfInBounds u [c+1]).setIfInBounds 26 [((iH q t:Nat):Int)]);have yh:=aH (FE q t zt);have zz:Hid (cH E5 32 (fun i=>if i=26 then((iH q t:Nat):Int)else if i=u then c+1 else if i=28 then c+1 else if i=s then an else zc i)):=aH (by
  rw[zh];exact(((N.set_ (k:=s) yi).set_ (k:=28) (v:=c+1) (by have:=yw.out;omega)).set_ (k:=u) (v:=c+1) (by have:=yw.out;omega)).set_ (k:=26) (v:=((iH q t:Nat):Int)) (by have:=yh.out;omega))
 have yu:=aH ((((T.set_ s [an]).set_ 28 [c+1]).set_ u [c+1]).set_ 26 [((iH q t:Nat):Int)]);rw[<-zh]at yu;have yt:=aH ((((yy.far (p:=⟨w.heap.size,s,none⟩) (by simp;omega) [an]).far (p:=⟨w.heap.size,28,none⟩) (by simp;omega) [c+1]).far (p:=⟨w.heap.size,u,none⟩) (by simp;omega) [c+1]).far (p:=⟨w.heap.size,26,none⟩) (by simp;omega) [((iH q t:Nat):Int)]);have yg:=aH ((((yx.setCell (p:=⟨w.heap.size,s,none⟩) (Nat.le_refl _) [an]).setCell (p:=⟨w.heap.size,28,none⟩) (Nat.le_refl _) [c+1]).setCell (p:=⟨w.heap.size,u,none⟩) (Nat.le_refl _) [c+1]).setCell (p:=⟨w.heap.size,26,none⟩) (Nat.le_refl _) [((iH q t:Nat):Int)]);have zi:Hid ((prog.info? 25).map (·.size)=some E5.size):=by show _=_;rw[AU,zz.size]
 have yf:=aH zz.one;clear zh yy yx T
 go_wp2_with (first
  |(with_reducible refine lL 25 w 25 E5 J yu.out underlying25 J zi.out ?_)
  |(with_reducible refine fK 25 (w+1+1) E5 25 (32:Nat) J J yt.out zi.out (by rw[zz.out.size];kernel_rfl) yf.out ?_))
 (try simp only[Exit.inBlock,Exit.then])
 rw[<-HQ.out]
 with_reducible refine bodyPost_ret (bR results130 _ _ (w+1+1) 25 E5 _ .nilIface J J (aY.setRow yt.out _) underlying25 J zi.out) J ?_
 refine⟨E5,rfl,zz.congr (fun i hi=>?_),aL yg I _⟩;obtain⟨F,hc,hq⟩:=yj.out;obtain⟨hs,hu⟩:=HS.out;rw[hc,hq,F];unfold fT;subst hs hu;rw[yv.out];simp only[show¬(1<=26/\26<1+17) by decide,show¬(1<=28/\28<1+17) by decide,if_false]
end
section
theorem sY(Z:eE z):dH z=z 0/\1<=z 0/\z 0<=6:=by
 have h:=rS Z.1.1;unfold dH at h⊢;split at h<;>rename_i h0
 .rw[iP h0];exact⟨rfl,h⟩
 omega
theorem Cf(Z Y X W:Bool)(t x:Nat)(U:t<4)(V:x=(if Z then 1 else 0)+(if Y then 2 else 0)+(if X then 4 else 0)+(if W then 8 else 0)):
 iH x t=(if Z !=(t==0)then 1 else 0)+(if Y !=(t==1)then 2 else 0)+(if X !=(t==2)then 4 else 0)+(if W !=(t==3)then 8 else 0):=by
 rw[tN x t I,V];rcases(by omega:t=0\/t=1\/t=2\/t=3)with rfl|rfl|rfl|rfl<;>cases Z<;>cases Y<;>cases X<;>cases W<;>rfl
theorem QL(z:Nat->Int)(t:Nat)(Y:t<4)(X:0<=z 26/\z 26<16):uM (tT (jA z) t (1-jA z t)) 4=iH (z 26).toNat t:=by
 have Z:(z 26).toNat%16=(z 26).toNat:=Nat.mod_eq_of_lt I;have h:=AW z;rw[Z,uB _ _ _ _ (jA z) rfl rfl rfl rfl]at h;rw[Cf _ _ _ _ t _ Y h.symm];refine uB _ _ _ _ _ ?_ ?_ ?_ ?_
 all_goals
  rcases(by omega:t=0\/t=1\/t=2\/t=3)with rfl|rfl|rfl|rfl<;>simp only[tT,jA]
 all_goals first
  |(cases gO (z 26).toNat ((0:Nat):Int)<;>rfl)
  |(cases gO (z 26).toNat ((1:Nat):Int)<;>rfl)
  |(cases gO (z 26).toNat ((2:Nat):Int)<;>rfl)
  |(cases gO (z 26).toNat ((3:Nat):Int)<;>rfl)
section congr
variable{z z':Nat->Int}
theorem Co(h:∀i,i<17->z' i=z i):eV z' 8=eV z 8:=by
 unfold eV;rw[List.filter_congr (fun i Z=>by rw[h (2*i) (by have:=List.mem_range.1 Z;omega)])]
theorem Fj(h:∀i,i<17->z' i=z i)(key:Nat):kF z' key=kF z key:=by
 have:gL z' key=gL z key:=by
  funext k
  unfold gL;rw[h (2*dR key k) (by have:=mY key k;omega)]
 unfold kF;rw[this]
theorem KZ(h:∀i,i<17->z' i=z i)(Z:i<8):iL z' i=iL z i:=by
 unfold iL;rw[h (2*i) I,h (2*i+1) I,Fj h]
theorem YT(h:∀i,i<17->z' i=z i):cS z'=cS z:=by
 unfold cS;rw[Co h];congr 1;rw[Bool.eq_iff_iff,List.all_eq_true,List.all_eq_true];constructor<;>intro q i Z
 .rw[<-KZ h (List.mem_range.1 Z)];exact q i Z
 rw[KZ h (List.mem_range.1 Z)];exact q i Z
theorem zH(h:∀i,i<17->z' i=z i)(Y:n<=16):zW z' n=zW z n:=by
 unfold zW;refine List.map_congr_left fun i Z=>?_
 exact h (i+1) (by have:=List.mem_range.1 Z;omega)
theorem sO(h:∀i,i<17->z' i=z i)(Z:gW z):gW z':=by
 refine⟨by rw[h 0 I];exact Z.1,fun i Y=>?_⟩;have:=Z.2 i Y;unfold tY at*;rw[h 0 I,h (i+1) I];exact this
theorem kO(h:∀i,i<17->z' i=z i)(Z:cK kind z):cK kind z':=by
 unfold cK at*;split
 .rename_i e;rw[iP e]at Z;refine⟨fun i Y=>?_,by rw[h 16 I];exact Z.2.1,by rw[YT h];exact Z.2.2⟩;have:=Z.1 i Y;unfold tW at*;rw[h (2*i) I,h (2*i+1) I];exact this
 rename_i e;rw[iN e]at Z;split
 .rename_i e6;rw[iP e6]at Z;exact⟨by rw[h 0 I];exact Z.1,fun i Y=>by rw[h i Y,h 0 I];exact Z.2 i Y⟩
 rename_i e6;rw[iN e6]at Z;split
 .rename_i e4;rw[iP e4]at Z;refine⟨sO h Z.1,?_⟩;rw[h 0 I,zH h (by have:=Z.1.1;omega)];exact Z.2
 rename_i e4;rw[iN e4]at Z;exact⟨Z.1,Z.2.1,sO h Z.2.2⟩
theorem lD.congrD{c:Nat}{d Y:Nat->Int}{N:Int}(x:lD C kind A n c d N)(h:∀i,i<16->Y i=d i):lD C kind A n c Y N:=
 ⟨x.size,x.kind_,x.list,fun i Z=>by rw[h i Z];exact x.slot i Z,x.num⟩
end congr
def rT(z:Nat->Int):Prop:=cK (dH z) (oz z)/\z 26<16/\z 28<=1099511627777/\z 27<=1099511627776/\(∀t,t<4->pV z t)/\z 29=0/\z 30=0/\z 31=0
theorem iD:eE z↔rT z/\z 28<=1099511627776:=by
 constructor
 .rintro⟨⟨Z,Y,U,X⟩,W,V⟩;exact⟨⟨Z,Y,I,X,W,V⟩,U⟩
 rintro⟨⟨Z,Y,_,X,W,V⟩,U⟩;exact⟨⟨Z,Y,U,X⟩,W,V⟩
theorem zG(Z:rT z):dH z=z 0/\1<=z 0/\z 0<=6:=by
 have h:=rS Z.1;unfold dH at h⊢;split at h<;>rename_i h0
 .rw[iP h0];exact⟨rfl,h⟩
 omega
theorem NT(x t u:Nat)(Y:t<64)(X:u<64):gO (iH x t) u=(gO x u^^decide (t=u)):=by
 have e:∀y:Nat,gO y u=y.testBit u:=fun y=>by
  unfold gO;rw[Nat.testBit_eq_decide_div_mod_eq];have Z:(u:Int)<64:=I;simp [Z]
 rw[e,e,tN x t Y,Nat.testBit_xor,Nat.testBit_two_pow]
section done
variable{z:Nat->Int}(y:Nat->Int)(t:Nat)(co va:Int)
theorem LD:fT z y t co va 0=z 0:=by
 unfold fT;rw[iN I,iN I,iN I,iN I,iN I]
theorem EL(i:Nat)(Z:i<17):oz (fT z y t co va) i=y i:=by
 unfold oz fT;rw[iN I,iN I,iN I,iN I,iP I];congr 1;omega
theorem FQ:dH (fT z y t co va)=dH z:=by unfold dH;rw[LD]
theorem qR(u:Nat)(Y:u<4):fT z y t co va (18+u)=if u=t then iV co va else z (18+u):=by
 unfold fT;by_cases Z:t<4
 .rw[iN I,iN I,iN I];by_cases e:u=t
  .rw[iP I,iP e]
  rw[iN I,iN e,iN I]
 rw[iN I,iN I,iN I,iN I,iN I,iN I]
theorem mB(u:Nat)(Z:u<4)(Y:t<4):fT z y t co va (22+u)=if u=t then z 28+1 else z (22+u):=by
 unfold fT;rw[iN I];by_cases e:u=t
 .rw[iP I,iP e]
 rw[iN I,iN I,iN I,iN I,iN e]
theorem CT:fT z y t co va 26=((iH (z 26).toNat t:Nat):Int):=by unfold fT;rw[iP rfl]
theorem wR(Z:t<4):fT z y t co va 27=z 27:=by
 unfold fT;rw[iN I,iN I,iN I,iN I,iN I]
theorem sU(Z:t<4):fT z y t co va 28=z 28+1:=by
 unfold fT;rw[iN I,iN I,iP rfl]
theorem xM(Z:t<4)(i:Nat)(Y:29<=i):fT z y t co va i=z i:=by
 unfold fT;rw[iN I,iN I,iN I,iN I,iN I]
theorem AY{Z Y:Int}(h:nA Z Y):yI (iV Z Y)=true/\rZ (iV Z Y)=Z/\tU (iV Z Y)=Y/\iV Z Y≠0:=by
 obtain⟨T,S,⟨R,Q⟩,P⟩:=h;have W:fU Z Y=true:=by simp [fU];omega
 have e:iV Z Y=Z*4294967296+Y:=by unfold iV;rw[iP W]
 have V:(Z*4294967296+Y)/4294967296=Z:=I;have U:(Z*4294967296+Y)%4294967296=Y:=I;have X:yI (iV Z Y)=true:=by unfold yI;rw[e,V,U];exact W
 refine⟨X,?_,?_,by rw[e];omega⟩
 .unfold rZ;rw[iP X,e,V]
 unfold tU;rw[iP X,e,U]
theorem FF(X:t<4)(Z:nA co va)(u:Nat)(Y:u<4):nV (fT z y t co va) u=tT (nV z) t co u:=by
 show rZ (fT z y t co va (18+u))=_;rw[qR y t co va u Y];unfold tT;by_cases e:u=t
 .rw[iP e,iP e];exact(AY Z).2.1
 rw[iN e,iN e];rfl
theorem CY(X:t<4)(Z:nA co va)(u:Nat)(Y:u<4):nW (fT z y t co va) u=tT (nW z) t va u:=by
 show tU (fT z y t co va (18+u))=_;rw[qR y t co va u Y];unfold tT;by_cases e:u=t
 .rw[iP e,iP e];exact(AY Z).2.2.1
 rw[iN e,iN e];rfl
theorem PV(Z:t<4)(u:Nat)(Y:u<4):nL (fT z y t co va) u=tT (nL z) t (z 28+1) u:=by
 show fT z y t co va (22+u)=_;rw[mB y t co va u Y Z];rfl
theorem VH(Z:t<4)(u:Nat)(Y:u<4):jA (fT z y t co va) u=tT (jA z) t (1-jA z t) u:=by
 unfold tT jA;rw[CT,Int.toNat_natCast,NT _ t u I I];by_cases e:u=t
 .subst e;simp only[decide_true,Bool.xor_true,if_true];cases gO (z 26).toNat u<;>rfl
 rw[iN e];have:decide (t=u)=false:=by simp;exact fun h=>e h.symm
 rw[this,Bool.xor_false]
theorem NA(N:eE z)(M:∀i,i<32->0<=z i)(Z:t<4)(E:cK (z 0) y)(D:nA co va):rT (fT z y t co va):=by
 obtain⟨K,C,B⟩:=sY N;obtain⟨⟨A,W,H,V⟩,Y,U,T,S⟩:=N;refine⟨?_,?_,?_,?_,fun u X=>?_,?_,?_,?_⟩
 .rw[FQ,K];exact kO (fun i G=>EL y t co va i G) E
 .rw[CT];have:=QL z t Z ⟨M 26 I,W⟩;rw[<-this];have:=IZ (tT (jA z) t (1-jA z t)) 4 I;omega
 .rw[sU y t co va Z];omega
 .rw[wR y t co va Z];exact V
 .have hwt:∀u,u<4->z (22+u)<=z 28:=fun u X=>(Y u X).1.2.1
  unfold pV BL;rw[qR y t co va u X,mB y t co va u X Z,sU y t co va Z];by_cases e:u=t
  .subst e;rw[iP rfl,iP rfl];obtain⟨R,_,_,Q⟩:=AY D;have L:=M 28 I;refine⟨⟨.inl R,I,⟨fun h=>absurd h Q,fun h=>by omega⟩⟩,fun x O _=>?_⟩;rw[mB y u co va x I X,iN I];have:=hwt x I;omega
  rw[iN e,iN e];obtain⟨⟨R,w,F⟩,Q⟩:=Y u X;refine⟨⟨R,I,F⟩,fun x O P=>?_⟩;rw[mB y t co va x I Z];split
  .have:=hwt u X;omega
  exact Q x O P
 .rw[xM y t co va Z 29 I];exact U
 .rw[xM y t co va Z 30 I];exact T
 rw[xM y t co va Z 31 I];exact S
end done
def dW(z:Nat->Int)(i:Nat):Int:=if i=27 then z 27+1 else z i
theorem II(O:rT z)(N:∀i,i<32->0<=z i)(i:Nat)(H:i<32):iW (z 0) (oz z) (nV z) (nW z) (nL z) (jA z) (z 27+1) (z 28) i=dW z i:=by
 obtain⟨G,F,E⟩:=zG O;obtain⟨U,M,L,K,W,T,S,R⟩:=O;unfold dW iW;by_cases Z:i=27
 .rw[iP Z,iP Z]
 rw[iN Z,iN Z];by_cases Y:i=28
 .rw[iP Y,Y]
 rw[iN Y];unfold DY;by_cases X:i=0
 .rw[iP X,X]
 rw[iN X];by_cases U:i<18
 .rw[iP U];unfold oz;rw[show 1+(i-1)=i by omega]
 rw[iN U];by_cases Q:i<22
 .rw[iP Q,iP I];have:=KX (N i H) (by have:=(W (i-18) I).1.1;rwa [show 18+(i-18)=i by omega]at this);rw[show nV z (i-18)=rZ (z (18+(i-18)))from rfl,show nW z (i-18)=tU (z (18+(i-18)))from rfl,show 18+(i-18)=i by omega];exact this
 rw[iN Q];by_cases P:i<26
 .rw[iP P,iP I];unfold nL;rw[show 22+(i-22)=i by omega]
 rw[iN P];by_cases V:i=26
 .subst V;rw[iP rfl,AW];have:=N 26 I;omega
 rw[iN V];have:i=29\/i=30\/i=31:=I;rcases this with rfl|rfl|rfl
 .exact T.symm
 .exact S.symm
 exact R.symm
noncomputable def mO (z:Nat->Int) (a k:Int):Nat:=by
 classical exact if h:∃m,tG (oz z) a k m then h.choose else 0
theorem QD(X:eE z)(a k:Int):dH z=5->tG (oz z) a k (mO z a k):=by
 intro Y;have Z:cS (oz z)=true:=by
  have:=X.1.1;unfold cK at this;rw[iP Y]at this;exact this.2.2
 have h:=DG Z a k;unfold mO;rw[dif_pos h];exact h.choose_spec
noncomputable def dY (z:Nat->Int) (a k v:Int):Nat->Int:=BW (dH z) (oz z) a k v (mO z a k)
def dC(z:Nat->Int)(a k v:Int):Int:=IB (dH z) (oz z) a k v
def dV(z:Nat->Int)(a k v:Int):Int:=JO (dH z) (oz z) a k v
noncomputable def dZ (z:Nat->Int) (t:Nat) (a k v:Int):Nat->Int:=fT z (dY z a k v) t (dC z a k v) (dV z a k v)
theorem zC(Z:eE z)(Y:∀i,i<32->0<=z i/\z i<18446744073709551616)(X:gQ a k v):cK (z 0) (dY z a k v)/\VU (dY z a k v)/\nA (dC z a k v) (dV z a k v):=by
 have h:=DC (fun i W=>Y (1+i) I) Z.1.1 X (QD Z a k);rw[(sY Z).1]at h;unfold dY dC dV;rw[(sY Z).1];exact h
theorem XY(Z:eE z)(Y:∀i,i<32->0<=z i/\z i<18446744073709551616)(X:gQ a k v)(V:t<4):rT (dZ z t a k v):=
 NA _ t _ _ Z (fun i W=>(Y i W).1) V (zC Z Y X).1 (zC Z Y X).2.2
theorem ZT(Y:eE z)(Z:∀i,i<32->0<=z i/\z i<18446744073709551616)(T:gQ a k v)(i:Nat)(S:i<32):0<=dZ z t a k v i/\dZ z t a k v i<18446744073709551616:=by
 obtain⟨_,U,_⟩:=zC Y Z T;have X:=(iD.1 Y).2;have W:=Z 28 I;have V:=Z 26 I;unfold dZ fT;split
 .have:=FE (z 26).toNat t I;omega
 split
 .omega
 split
 .omega
 split
 .exact vM _ _
 split
 .exact U (i-1) I
 exact Z i S
theorem sZ(Y:rT z)(Z:∀i,i<32->0<=z i/\z i<18446744073709551616)(i:Nat)(X:i<32):0<=dW z i/\dW z i<18446744073709551616:=by
 unfold dW;split
 .have:=Y.2.2.2.1;have:=Z 27 I;omega
 exact Z i X
def gR(z r:Nat->Int):Int:=
 if r 0<0\/4<=r 0 then 2 else if r 1≠0/\r 1≠1 then 1 else if jA z (r 0).toNat=r 1 then 0 else if cB (r 2) (r 3) (r 4)=false\/1099511627776<z 28 then 1 else 0
def vF(z r:Nat->Int):Bool:=decide (jA z (r 0).toNat≠r 1)
noncomputable def sD (z r:Nat->Int):Nat->Int:=if vF z r=true then dZ z (r 0).toNat (r 2) (r 3) (r 4)else z
def uP(z r:Nat->Int):List Value:=[.int .i64 (r 0),.int .i64 (r 2),.int .i64 (r 3),.int .i64 (r 4),.int .i64 (dC z (r 2) (r 3) (r 4)),.int .i64 (dV z (r 2) (r 3) (r 4))]
noncomputable def bz (f:Nat->Nat->Int) (z:Nat->Int):Nat->(Nat->Int)
 |0=>z
 |k+1=>sD (bz f z k) (f k)
noncomputable def bd (f:Nat->Nat->Int) (z:Nat->Int):Nat->List (List Value)
 |0=>[]
 |k+1=>if vF (bz f z k) (f k)=true then bd f z k++[uP (bz f z k) (f k)]else bd f z k
theorem uO(h:gR z r=0)(Y:vF z r=true):(r 0).toNat<4/\0<=r 0/\(r 1=0\/r 1=1)/\gQ (r 2) (r 3) (r 4)/\z 28<=1099511627776:=by
 unfold gR at h;unfold vF at Y;have Z:=of_decide_eq_true Y;split at h
 .omega
 split at h
 .omega
 (try rw[iN Z]at h)
 split at h
 .omega
 rename_i h1 h2 h3;refine⟨I,I,I,eN.1 ?_,I⟩;cases hx:cB (r 2) (r 3) (r 4)
 .exact absurd (.inl hx) h3
 rfl
theorem wV(Z:rT z)(V:∀i,i<32->0<=z i/\z i<18446744073709551616)(h:gR z r=0):rT (sD z r):=by
 unfold sD;split
 .rename_i ho;obtain⟨Y,U,T,X,W⟩:=uO h ho;exact XY (iD.2 ⟨Z,W⟩) V X Y
 exact Z
structure cQ where
 does:Nat
 a:Int
 k:Int
 v:Int
 tg:Int
 said:Bool
 i:Nat
 ver:Nat
 r:Nat->Int
 asks:Nat->Nat->Int
 na:Nat
 deeds:List (List Value)
 seen:Nat->Int
 o1:Int
 o2:Int
 wn:Int
def cQ.new:cQ:=⟨0,0,0,0,0,false,0,0,fun _=>0,fun _ _=>0,0,[],fun _=>0,0,0,0⟩
def cQ.call(a k v tg:Int)(again:Bool):cQ:=⟨if again then 17 else 1,a,k,v,tg,false,0,0,fun _=>0,fun _ _=>0,0,[],fun _=>0,0,0,0⟩
def dU(v:Nat):Nat:=8+v%2*32
def eI(m:Nat->Int)(a:Nat)(x:Int)(i:Nat):Int:=if i=a then x else m i
def fN(a k v:Int):Int:=(a*65536+k)*4294967296+v
def IV(x:Int):Int:=if cB (x/4294967296/65536) (x/4294967296%65536) (x%4294967296)=true then x/4294967296/65536 else 0
def KE(x:Int):Int:=if cB (x/4294967296/65536) (x/4294967296%65536) (x%4294967296)=true then x/4294967296%65536 else 0
def ID(x:Int):Int:=if cB (x/4294967296/65536) (x/4294967296%65536) (x%4294967296)=true then x%4294967296 else 0
def Ke(x:Int):Int:=if x<=9223372036854775807 then x else x-18446744073709551616
namespace cQ
variable(Z:cQ)
def go(d:Nat):cQ:={Z with does:=d}
def next(n d:Nat):cQ:=if Z.i+1=n then{Z with i:=0,does:=d}else{Z with i:=Z.i+1}
noncomputable def all (t:Nat):cQ:=
 if Z.does=8 then{Z with r:=dW (bz Z.asks Z.r Z.na),deeds:=bd Z.asks Z.r Z.na,o1:=nV (dW (bz Z.asks Z.r Z.na)) t,o2:=nW (dW (bz Z.asks Z.r Z.na)) t,wn:=nL (dW (bz Z.asks Z.r Z.na)) t}else Z
def ask(g:Int):cQ:={Z with asks:=fun j c=>if j=Z.na then(if c=0 then(Z.i:Int)else if c=1 then g else 0)else Z.asks j c,na:=Z.na+1,does:=7}
def fill(x:Int):cQ:={Z with asks:=fun j c=>if j+1=Z.na/\2<=c then(if c=2 then IV x else if c=3 then KE x else ID x)else Z.asks j c,does:=6}
end cQ
structure ZV where
 m:Nat->Int
 s:cN
 t:cQ
 fin:Bool
noncomputable def stp (t:Nat) (m:Nat->Int) (s:cN) (Z:cQ):ZV:=
 match Z.does with
 |1=>⟨eI m (2+2*t) (fN Z.a Z.k Z.v),s,Z.go 2,false⟩
 |2=>⟨eI m (3+2*t) (Z.tg+1),s,{Z with said:=true,does:=3},false⟩
 |3=>if m 0=0 then⟨eI m 0 (t+1),s,Z.go 4,false⟩else⟨m,s,Z.go 17,false⟩
 |4=>⟨m,s,{Z with ver:=(m 1).toNat,i:=0,does:=5,na:=0,asks:=fun _ _=>0},false⟩
 |5=>⟨m,s,{Z with r:=fun j=>if j=Z.i then s.now (dU Z.ver+Z.i)else Z.r j}.next 32 6,false⟩
 |6=>if m (3+2*Z.i)≠0/\m (3+2*Z.i)-1≠jA Z.r Z.i then⟨m,s,Z.ask (m (3+2*Z.i)-1),false⟩else⟨m,s,(Z.next 4 8).all t,false⟩
 |7=>⟨m,s,((Z.fill (m (2+2*Z.i))).next 4 8).all t,false⟩
 |8=>⟨m,s.save (dU (Z.ver+1)+Z.i) (Z.r Z.i),Z.next 32 9,false⟩
 |9=>⟨m,s.flush t (dU (Z.ver+1)/8+Z.i),Z.next 4 10,false⟩
 |10=>⟨m,s.fence t,Z.go 11,false⟩
 |11=>⟨m,s.save 0 (Z.ver+1:Nat),Z.go 12,false⟩
 |12=>⟨m,s.flush t 0,Z.go 13,false⟩
 |13=>⟨m,s.fence t,Z.go 14,false⟩
 |14=>⟨eI m 1 (Z.ver+1:Nat),s,Z.go 15,false⟩
 |15=>⟨eI m 0 0,s,Z.go 16,false⟩
 |16=>⟨m,s,Z.go 0,true⟩
 |17=>⟨m,s,{Z with ver:=(m 1).toNat,does:=18},false⟩
 |18=>⟨m,s,{Z with seen:=fun j=>if j=0 then s.now (dU Z.ver+26)else Z.seen j,does:=19},false⟩
 |19=>⟨m,s,{Z with seen:=fun j=>if j=1 then s.now (dU Z.ver+18+t)else Z.seen j,does:=20},false⟩
 |20=>⟨m,s,{Z with seen:=fun j=>if j=2 then s.now (dU Z.ver+22+t)else Z.seen j,does:=21},false⟩
 |21=>if m 1=Z.ver/\(if gO (Z.seen 0).toNat t=true then 1 else 0)=Z.tg then⟨m,s,{Z with o1:=rZ (Z.seen 1),o2:=tU (Z.seen 1),wn:=Ke (Z.seen 2),does:=0},true⟩
      else⟨m,s,Z.go (if Z.said=true then 3 else 1),false⟩
 |_=>⟨m,s,Z,false⟩
structure pW (now:Nat->Int) (u:Nat):Prop where
 ok:eE fun i=>now (dU u+i)
 ver:now (dU u+27)=u
 cnt:now (dU u+28)<=4*u
def Am(s:cN)(u:Nat):Prop:=∀i,i<32->s.good (dU u+i)=s.now (dU u+i)
def bO(d:Nat):Prop:=4<=d/\d<=15
def jL(f:Nat->Nat->Int)(n:Nat):Prop:=∀j,j<n->0<=f j 0/\f j 0<4/\(f j 1=0\/f j 1=1)/\gQ (f j 2) (f j 3) (f j 4)
structure GQ (r:Nat->Int) (u:Nat):Prop where
 ok:eE r
 ver:r 27=u
 cnt:r 28<=4*u
 bd:∀i,i<32->0<=r i/\r i<18446744073709551616
def LR(r:List Value):Prop:=∃x0 x1 x2 x3 x4 x5:Int,r=[.int .i64 x0,.int .i64 x1,.int .i64 x2,.int .i64 x3,.int .i64 x4,.int .i64 x5]
def oS(l:List (List Value)):Prop:=l.length<=4/\∀r∈l,LR r
theorem wK(f:Nat->Nat->Int)(z:Nat->Int):∀k,(bd f z k).length<=k/\∀r∈bd f z k,LR r
 |0=>⟨Nat.le_refl _,fun r h=>by simp [bd]at h⟩
 |k+1=>by
  obtain⟨h1,h2⟩:=wK f z k;rw[bd];split
  .refine⟨by simp;omega,fun r h=>?_⟩;rcases List.mem_append.1 h with h|h
   .exact h2 r h
   simp only[List.mem_cons,List.not_mem_nil,or_false]at h;subst h;exact⟨_,_,_,_,_,_,rfl⟩
  .exact⟨I,h2⟩
def fO(m:Nat->Int)(s:cN)(V:Nat)(t:Nat)(Z:cQ):Prop:=
 match Z.does with
 |4=>True
 |5=>Z.ver=V/\Z.na=0/\Z.i<32/\∀j,j<Z.i->Z.r j=s.now (dU V+j)
 |6=>Z.ver=V/\Z.i<4/\Z.na<=Z.i/\(∀j,j<32->Z.r j=s.now (dU V+j))/\jL Z.asks Z.na
 |7=>Z.ver=V/\Z.i<4/\Z.na=Z.na-1+1/\Z.na-1<=Z.i/\(∀j,j<32->Z.r j=s.now (dU V+j))/\jL Z.asks (Z.na-1)/\Z.asks (Z.na-1) 0=Z.i/\(Z.asks (Z.na-1) 1=0\/Z.asks (Z.na-1) 1=1)/\m (3+2*Z.i)≠0
 |8=>oS Z.deeds/\Z.ver=V/\Z.i<32/\GQ Z.r (V+1)/\∀j,j<Z.i->s.now (dU (V+1)+j)=Z.r j
 |9=>oS Z.deeds/\Z.ver=V/\Z.i<4/\GQ Z.r (V+1)/\(∀j,j<32->s.now (dU (V+1)+j)=Z.r j)/\∀j,j<Z.i->s.want t (dU (V+1)/8+j)=true
 |10=>oS Z.deeds/\Z.ver=V/\GQ Z.r (V+1)/\(∀j,j<32->s.now (dU (V+1)+j)=Z.r j)/\∀j,j<4->s.want t (dU (V+1)/8+j)=true
 |11=>oS Z.deeds/\Z.ver=V/\GQ Z.r (V+1)/\(∀j,j<32->s.now (dU (V+1)+j)=Z.r j)/\Am s (V+1)
 |12=>Z.ver+1=V
 |13=>Z.ver+1=V/\s.want t 0=true
 |14=>Z.ver+1=V/\s.good 0=V
 |15=>s.good 0=V
 |_=>False
structure eX (m:Nat->Int) (s:cN) (th:Nat->cQ) (V:Nat):Prop where
 ok:s.Ok
 ram:∀i,i<16->0<=m i/\m i<18446744073709551616
 ver:s.now 0=V
 rec_:pW s.now V
 dur:Am s V
 good:s.good 0=V\/((∃t,t<4/\((th t).does=12\/(th t).does=13))/\s.good 0+1=V/\1<=V/\pW s.now (V-1)/\Am s (V-1))
 does:∀t,t<4->(th t).does<=21
 op:∀t,t<4->(th t).does≠0->gQ (th t).a (th t).k (th t).v/\((th t).tg=0\/(th t).tg=1)
 lock:(m 0=0/\∀t:Nat,t<4->¬bO (th t).does)\/∃t:Nat,t<4/\m 0=(t:Int)+1/\bO (th t).does/\fO m s V t (th t)/\∀u,u<4->u≠t->¬bO (th u).does
 done:(m 1=V/\∀t,t<4->¬(12<=(th t).does/\(th t).does<=14))\/((∃t,t<4/\12<=(th t).does/\(th t).does<=14)/\m 1+1=V)
 asks:∀i,i<4->(m (3+2*i)=0\/m (3+2*i)=1\/m (3+2*i)=2)/\(m (3+2*i)≠0->∃a k v,gQ a k v/\m (2+2*i)=fN a k v)
 said:∀t,t<4->(th t).does=2->∃a k v,gQ a k v/\m (2+2*t)=fN a k v
def jG(th:Nat->cQ)(t:Nat)(Z:cQ)(u:Nat):cQ:=if u=t then Z else th u
theorem cD(th:Nat->cQ)(t:Nat)(Z:cQ):jG th t Z t=Z:=iP rfl
theorem dK(th:Nat->cQ)(Z:cQ)(h:u≠t):jG th t Z u=th u:=iN h
section
variable{m:Nat->Int}{s:cN}{th:Nat->cQ}{V:Nat}
theorem fY(h:eX m s th V)(G:t<4)(L:¬bO (th t).does){Z:cQ}(K:¬bO Z.does)(N:Z.does<=21)(M:Z.does≠0->gQ Z.a Z.k Z.v/\(Z.tg=0\/Z.tg=1))
 (H:Z.does=2->∃a k v,gQ a k v/\m (2+2*t)=fN a k v):eX m s (jG th t Z) V:=by
 have T:∀u,bO (jG th t Z u).does->u≠t/\bO (th u).does:=fun u Y=>by
  by_cases e:u=t
  .subst e;rw[cD]at Y;exact absurd Y K
  rw[dK _ _ e]at Y;exact⟨e,Y⟩
 have S:∀u,bO (th u).does->u≠t:=fun u Y e=>L (e▸Y)
 refine⟨h.ok,h.ram,h.ver,h.rec_,h.dur,?_,fun u Y=>?_,fun u Y X=>?_,?_,?_,h.asks,fun u Y U=>?_⟩
 .rcases h.good with g|⟨⟨u,Y,W⟩,g⟩
  .exact .inl g
  refine .inr ⟨⟨u,Y,?_⟩,g⟩;rw[dK _ _ (S u (by unfold bO;omega))];exact W
 .by_cases e:u=t
  .subst e;rw[cD];exact N
  rw[dK _ _ e];exact h.does u Y
 .by_cases e:u=t
  .subst e;rw[cD]at X⊢;exact M X
  rw[dK _ _ e]at X⊢;exact h.op u Y X
 .rcases h.lock with⟨hm,hn⟩|⟨u,Y,hm,hin,hh,hn⟩
  .exact .inl ⟨hm,fun u Y R=>hn u Y (T u R).2⟩
  have e:=S u hin;refine .inr ⟨u,Y,hm,by rw[dK _ _ e];exact hin,by rw[dK _ _ e];exact hh,fun x Q P O=>hn x Q P (T x O).2⟩
 .rcases h.done with⟨hm,hn⟩|⟨⟨u,Y,W⟩,hm⟩
  .refine .inl ⟨hm,fun u Y W=>?_⟩;have:=T u (by unfold bO;omega);rw[dK _ _ this.1]at W;exact hn u Y W
  refine .inr ⟨⟨u,Y,?_⟩,hm⟩;rw[dK _ _ (S u (by unfold bO;omega))];exact W
 by_cases e:u=t
 .subst e;rw[cD]at U;exact H U
 rw[dK _ _ e]at U;exact h.said u Y U
theorem PF{Z:cQ}(O:∀j,j<4->m (3+2*j)≠0->eI m i x (3+2*j)≠0)(h:fO m s V t Z):fO (eI m i x) s V t Z:=by
 unfold fO at h⊢;split at h<;>try exact h
 obtain⟨X,Y,W,U,T,S,R,Q,P⟩:=h;exact⟨X,Y,W,U,T,S,R,Q,O _ Y P⟩
theorem CF(h:eX m s th V)(R:2<=i)(W:∀j,j<4->m (3+2*j)≠0->eI m i x (3+2*j)≠0)(U:0<=x/\x<18446744073709551616)(T:∀j,j<4->(eI m i x (3+2*j)=0\/eI m i x (3+2*j)=1\/eI m i x (3+2*j)=2)/\(eI m i x (3+2*j)≠0->∃a k v,gQ a k v/\eI m i x (2+2*j)=fN a k v))
 (S:∀t,t<4->(th t).does=2->∃a k v,gQ a k v/\eI m i x (2+2*t)=fN a k v):eX (eI m i x) s th V:=by
 have Z:eI m i x 0=m 0:=iN I;have Y:eI m i x 1=m 1:=iN I;refine⟨h.ok,fun j X=>?_,h.ver,h.rec_,h.dur,h.good,h.does,h.op,by rw[Z];exact h.lock.imp id (fun⟨u,a,b,c,d,e⟩=>⟨u,a,b,c,PF W d,e⟩),by rw[Y];exact h.done,T,S⟩;unfold eI;split
 .exact U
 exact h.ram j X
theorem CA(h:gQ a k v):0<=fN a k v/\fN a k v<18446744073709551616:=by
 obtain⟨Z,Y,X,W,V,U⟩:=h;unfold fN;omega
theorem EZ(h:gQ a k v):IV (fN a k v)=a/\KE (fN a k v)=k/\ID (fN a k v)=v:=by
 have Z:=eN.2 h;obtain⟨V,U,T,S,R,Q⟩:=h;have Y:fN a k v/4294967296/65536=a:=by unfold fN;omega
 have X:fN a k v/4294967296%65536=k:=by unfold fN;omega
 have W:fN a k v%4294967296=v:=by unfold fN;omega
 unfold IV KE ID;rw[Y,X,W,iP Z,iP Z,iP Z];exact⟨rfl,rfl,rfl⟩
theorem RT(h:eX m s th V)(K:t<4)(H:bO (th t).does)(P:¬(12<=(th t).does/\(th t).does<=14)){Z:cQ}(O:bO Z.does)(N:¬(12<=Z.does/\Z.does<=14))(M:gQ Z.a Z.k Z.v/\(Z.tg=0\/Z.tg=1))
 (E:fO m s V t (th t)->fO m s V t Z):eX m s (jG th t Z) V:=by
 have T:∃u:Nat,u<4/\m 0=(u:Int)+1/\bO (th u).does/\fO m s V u (th u)/\∀x,x<4->x≠u->¬bO (th x).does:=by
  rcases h.lock with⟨L,U⟩|h3
  .exact absurd H (U t K)
  exact h3
 obtain⟨u,G,L,F,W,U⟩:=T;have Q:u=t:=by
  by_cases e:t=u
  .exact e.symm
  exact absurd H (U t K e)
 subst Q;refine⟨h.ok,h.ram,h.ver,h.rec_,h.dur,?_,fun x Y=>?_,fun x Y S=>?_,?_,?_,h.asks,fun x Y T=>?_⟩
 .rcases h.good with g|⟨⟨x,Y,hd⟩,g⟩
  .exact .inl g
  by_cases e:x=u
  .subst e;omega
  exact absurd (show bO (th x).does by unfold bO;omega) (U x Y e)
 .by_cases e:x=u
  .subst e;rw[cD];have:=O.2;omega
  rw[dK _ _ e];exact h.does x Y
 .by_cases e:x=u
  .subst e;rw[cD];exact M
  rw[dK _ _ e]at S⊢;exact h.op x Y S
 .refine .inr ⟨u,G,L,by rw[cD];exact O,by rw[cD];exact E W,fun x Y R=>by rw[dK _ _ R];exact U x Y R⟩
 .rcases h.done with⟨hm1,hd⟩|⟨⟨x,Y,hd⟩,hm1⟩
  .refine .inl ⟨hm1,fun x Y X=>?_⟩;by_cases e:x=u
   .subst e;rw[cD]at X;exact N X
   rw[dK _ _ e]at X;exact hd x Y X
  by_cases e:x=u
  .subst e;exact absurd hd P
  exact absurd (show bO (th x).does by unfold bO;omega) (U x Y e)
 by_cases e:x=u
 .subst e;rw[cD]at T;have:=O.1;omega
 rw[dK _ _ e]at T;exact h.said x Y T
end
theorem nF{z':Nat->Int}(h:∀i,i<32->z' i=z i)(H:eE z):eE z':=by
 obtain⟨⟨X,W,V,U⟩,T,S,R,Q⟩:=H;have Y:dH z'=dH z:=by unfold dH;rw[h 0 I]
 refine⟨⟨by rw[Y];exact kO (fun i G=>h (1+i) I) X,by rw[h 26 I];exact W,by rw[h 28 I];exact V,by rw[h 27 I];exact U⟩,fun t P=>?_,by rw[h 29 I];exact S,by rw[h 30 I];exact R,by rw[h 31 I];exact Q⟩;obtain⟨⟨O,N,M⟩,L⟩:=T t P;unfold pV BL;rw[h (18+t) I,h (22+t) I,h 28 I];exact⟨⟨O,N,M⟩,fun u K Z=>by rw[h (22+u) I];exact L u K Z⟩
theorem YH(Y:0<=r 0/\r 0<4)(X:r 1=0\/r 1=1)(Z:gQ (r 2) (r 3) (r 4))(W:z 28<=1099511627776):gR z r=0:=by
 unfold gR;rw[iN I,iN I];split
 .rfl
 rw[iN (fun h=>h.elim (fun h=>by rw[eN.2 Z]at h;cases h) (fun h=>by omega))]
theorem WD(h:gR z r=0):sD z r 27=z 27/\sD z r 28<=z 28+1:=by
 unfold sD;split
 .rename_i ho;obtain⟨Z,_⟩:=uO h ho;unfold dZ;rw[wR _ _ _ _ Z,sU _ _ _ _ Z];exact⟨rfl,Int.le_refl _⟩
 exact⟨rfl,I⟩
theorem tZ{f:Nat->Nat->Int}{z:Nat->Int}{n:Nat}(X:eE z)(W:∀i,i<32->0<=z i/\z i<18446744073709551616)(V:jL f n)(M:z 28+n<=1099511627776):∀k,k<=n->
 rT (bz f z k)/\(∀i,i<32->0<=bz f z k i/\bz f z k i<18446744073709551616)/\bz f z k 27=z 27/\bz f z k 28<=z 28+k/\∀j,j<k->gR (bz f z j) (f j)=0
 |0,_=>⟨(iD.1 X).1,W,rfl,by show z 28<=_;omega,fun j Y=>absurd Y I⟩
 |k+1,hk=>by
  obtain⟨h1,h2,h3,h4,h5⟩:=tZ X W V M k I;obtain⟨U,T,S,R⟩:=V k I;have Z:gR (bz f z k) (f k)=0:=YH ⟨U,T⟩ S R I;obtain⟨Q,L⟩:=WD Z;refine⟨by rw[bz];exact wV h1 h2 Z,?_,by rw[bz,Q,h3],by rw[bz];omega,fun j Y=>?_⟩
  .rw[bz];unfold sD;split
   .rename_i ho;obtain⟨K,H,G,P,O⟩:=uO Z ho;exact fun i N=>ZT (iD.2 ⟨h1,O⟩) h2 P i N
   exact h2
  .rcases Nat.lt_or_ge j k with q|q
   .exact h5 j q
   obtain rfl:j=k:=I;exact Z
theorem rK(h:rT z)(W:z 28<=1099511627776)(V:z 27+1<=1099511627776):eE (dW z):=by
 have e:∀i,i≠27->dW z i=z i:=fun i U=>iN U
 have Z:dW z 27=z 27+1:=iP rfl;obtain⟨S,R,H,G,Q,Y⟩:=h;have T:dH (dW z)=dH z:=by unfold dH;rw[e 0 I]
 refine⟨⟨by rw[T];exact kO (fun i U=>e (1+i) I) S,by rw[e 26 I];exact R,by rw[e 28 I];exact W,by rw[Z];exact V⟩,fun t P=>?_,by rw[e 29 I];exact Y.1,by rw[e 30 I];exact Y.2.1,by rw[e 31 I];exact Y.2.2⟩;obtain⟨⟨O,N,M⟩,L⟩:=Q t P;unfold pV BL;rw[e (18+t) I,e (22+t) I,e 28 I];exact⟨⟨O,N,M⟩,fun u K X=>by rw[e (22+u) I];exact L u K X⟩
theorem RP{f:Nat->Nat->Int}(h:GQ z V)(S:jL f n)(P:n<=4)(O:4*V+4<=1099511627776):GQ (dW (bz f z n)) (V+1):=by
 have R:=h.cnt;obtain⟨X,U,T,Q,_⟩:=tZ h.ok h.bd S I n (Nat.le_refl _);have W:=h.ver;have Z:dW (bz f z n) 27=bz f z n 27+1:=iP rfl;have Y:dW (bz f z n) 28=bz f z n 28:=iN I;refine⟨rK X I I,by rw[Z,T,W];omega,by rw[Y];omega,sZ X U⟩
theorem tK{s:cN}(X:s.Ok)(h:pW s.now V)(Z:∀j,j<32->r j=s.now (dU V+j)):GQ r V:=
 ⟨nF Z h.ok,by rw[Z 27 I];exact h.ver,by rw[Z 28 I];exact h.cnt,fun i Y=>by rw[Z i Y];exact X.now _ (by unfold dU;omega)⟩
section
variable{m:Nat->Int}{s:cN}{V t:Nat}{Z:cQ}
theorem sV{d:Nat}(h:Z.i+1=n):Z.next n d={Z with i:=0,does:=d}:=iP h
theorem vL{d:Nat}(h:Z.i+1≠n):Z.next n d={Z with i:=Z.i+1}:=iN h
theorem CH(R:s.Ok)(Q:pW s.now V)(P:4*V+4<=1099511627776)(O:Z.i<4)(X:Z.ver=V)(N:Z.na<=Z.i+1)(W:∀j,j<32->Z.r j=s.now (dU V+j))(U:jL Z.asks Z.na)(T:Z.does=6):
 fO m s V t ((Z.next 4 8).all t)/\(6<=((Z.next 4 8).all t).does/\((Z.next 4 8).all t).does<=8)/\((Z.next 4 8).all t).a=Z.a/\((Z.next 4 8).all t).k=Z.k/\((Z.next 4 8).all t).v=Z.v/\((Z.next 4 8).all t).tg=Z.tg:=by
 by_cases e:Z.i+1=4
 .rw[sV e];have Y:({Z with i:=0,does:=8}:cQ).all t={Z with i:=0,does:=8,r:=dW (bz Z.asks Z.r Z.na),deeds:=bd Z.asks Z.r Z.na,o1:=nV (dW (bz Z.asks Z.r Z.na)) t,o2:=nW (dW (bz Z.asks Z.r Z.na)) t,wn:=nL (dW (bz Z.asks Z.r Z.na)) t}:=by
   simp [cQ.all]
  rw[Y];refine⟨⟨⟨Nat.le_trans (wK _ _ _).1 I,(wK _ _ _).2⟩,X,by show(0:Nat)<32;decide,?_,fun j S=>absurd S (Nat.not_lt_zero _)⟩,⟨(by decide:6<=8),(by decide:8<=8)⟩,rfl,rfl,rfl,rfl⟩;exact RP (tK R Q W) U I P
 rw[vL e];have Y:({Z with i:=Z.i+1}:cQ).all t={Z with i:=Z.i+1}:=by
  simp [cQ.all,T]
 rw[Y];refine⟨?_,⟨by show 6<=Z.does;omega,by show Z.does<=8;omega⟩,rfl,rfl,rfl,rfl⟩;unfold fO;simp only[T];exact⟨X,I,I,W,U⟩
theorem MX(F:s.Ok)(E:pW s.now V)(S:m 1=V)(D:∀i,i<4->(m (3+2*i)=0\/m (3+2*i)=1\/m (3+2*i)=2)/\(m (3+2*i)≠0->∃a k v,gQ a k v/\m (2+2*i)=fN a k v))
 (C:4*V+4<=1099511627776) (b:4<=Z.does/\Z.does<=7) (h:fO m s V t Z):
 (stp t m s Z).m=m/\(stp t m s Z).s=s/\(stp t m s Z).fin=false/\fO m s V t (stp t m s Z).t/\(4<=(stp t m s Z).t.does/\(stp t m s Z).t.does<=8)/\(stp t m s Z).t.a=Z.a/\(stp t m s Z).t.k=Z.k/\(stp t m s Z).t.v=Z.v/\(stp t m s Z).t.tg=Z.tg:=by
 rcases(by omega:Z.does=4\/Z.does=5\/Z.does=6\/Z.does=7)with d|d|d|d
 .have e:stp t m s Z=⟨m,s,{Z with ver:=(m 1).toNat,i:=0,does:=5,na:=0,asks:=fun _ _=>0},false⟩:=by simp only[stp,d]
  rw[e];refine⟨rfl,rfl,rfl,?_,⟨(by decide:4<=5),(by decide:5<=8)⟩,rfl,rfl,rfl,rfl⟩;exact⟨by show(m 1).toNat=V;rw[S];omega,rfl,by show 0<32;omega,fun j Y=>absurd Y (Nat.not_lt_zero _)⟩
 .have e:stp t m s Z=⟨m,s,{Z with r:=fun j=>if j=Z.i then s.now (dU Z.ver+Z.i)else Z.r j}.next 32 6,false⟩:=by simp only[stp,d]
  rw[e];unfold fO at h;simp only[d]at h;obtain⟨X,L,U,T⟩:=h;by_cases G:Z.i+1=32
  .rw[show({Z with r:=fun j=>if j=Z.i then s.now (dU Z.ver+Z.i)else Z.r j}:cQ).next 32 6={Z with r:=fun j=>if j=Z.i then s.now (dU Z.ver+Z.i)else Z.r j,i:=0,does:=6}from iP G];refine⟨rfl,rfl,rfl,⟨X,(by decide:0<4),by show Z.na<=0;omega,fun j Y=>?_,fun j Y=>?_⟩,⟨(by decide:4<=6),(by decide:6<=8)⟩,rfl,rfl,rfl,rfl⟩
   .show(if j=Z.i then s.now (dU Z.ver+Z.i)else Z.r j)=_;by_cases q:j=Z.i
    .rw[iP q,X,q]
    rw[iN q];exact T j I
   have W:j<Z.na:=Y;omega
  rw[show({Z with r:=fun j=>if j=Z.i then s.now (dU Z.ver+Z.i)else Z.r j}:cQ).next 32 6={Z with r:=fun j=>if j=Z.i then s.now (dU Z.ver+Z.i)else Z.r j,i:=Z.i+1}from iN G];refine⟨rfl,rfl,rfl,?_,⟨by show 4<=Z.does;omega,by show Z.does<=8;omega⟩,rfl,rfl,rfl,rfl⟩;unfold fO;simp only[d];refine⟨X,L,I,fun j Y=>?_⟩;by_cases q:j=Z.i
  .rw[iP q,X,q]
  rw[iN q];exact T j I
 .unfold fO at h;simp only[d]at h;obtain⟨X,U,L,T,P⟩:=h;by_cases c:m (3+2*Z.i)≠0/\m (3+2*Z.i)-1≠jA Z.r Z.i
  .have e:stp t m s Z=⟨m,s,Z.ask (m (3+2*Z.i)-1),false⟩:=by simp only[stp,d];rw[iP c]
   rw[e];have H:=(D Z.i U).1;refine⟨rfl,rfl,rfl,?_,⟨(by decide:4<=7),(by decide:7<=8)⟩,rfl,rfl,rfl,rfl⟩;refine⟨X,U,rfl,by show Z.na+1-1<=Z.i;omega,T,fun j Y=>?_,?_,?_,c.1⟩
   .have W:j<Z.na:=by have:j<Z.na+1-1:=Y;omega
    have O:j≠Z.na:=I;show 0<=(if j=Z.na then _ else Z.asks j 0)/\(if j=Z.na then _ else Z.asks j 0)<4/\((if j=Z.na then _ else Z.asks j 1)=0\/(if j=Z.na then _ else Z.asks j 1)=1)/\gQ (if j=Z.na then _ else Z.asks j 2) (if j=Z.na then _ else Z.asks j 3) (if j=Z.na then _ else Z.asks j 4);simp only[iN O];exact P j W
   .show(if Z.na+1-1=Z.na then _ else _)=_;rw[iP I];rfl
   show(if Z.na+1-1=Z.na then _ else _)=(0:Int)\/(if Z.na+1-1=Z.na then _ else _)=(1:Int);rw[iP I];simp;omega
  have e:stp t m s Z=⟨m,s,(Z.next 4 8).all t,false⟩:=by simp only[stp,d];rw[iN c]
  rw[e];obtain⟨S,R,K⟩:=CH (m:=m) (t:=t) F E C U X I T P d;exact⟨rfl,rfl,rfl,S,⟨Nat.le_trans aJ R.1,R.2⟩,K⟩
 unfold fO at h;simp only[d]at h;obtain⟨X,U,u,L,T,P,p,H,o⟩:=h;have e:stp t m s Z=⟨m,s,((Z.fill (m (2+2*Z.i))).next 4 8).all t,false⟩:=by simp only[stp,d]
 rw[e];obtain⟨a,k,v,Q,n⟩:=(D Z.i U).2 o;obtain⟨l,g,f⟩:=EZ Q;have N:jL (Z.fill (m (2+2*Z.i))).asks (Z.fill (m (2+2*Z.i))).na:=by
  intro j Y;have W:j<Z.na:=Y;have B:∀j,(Z.fill (m (2+2*Z.i))).asks j 0=Z.asks j 0:=fun j=>iN I
  have A:∀j,(Z.fill (m (2+2*Z.i))).asks j 1=Z.asks j 1:=fun j=>iN I
  have M:∀j,j+1≠Z.na->∀c,(Z.fill (m (2+2*Z.i))).asks j c=Z.asks j c:=fun j h c=>iN (fun q=>h q.1)
  have z:∀j,j+1=Z.na->(Z.fill (m (2+2*Z.i))).asks j 2=IV (m (2+2*Z.i)):=fun j h=>(iP ⟨h,I⟩).trans (iP rfl)
  have y:∀j,j+1=Z.na->(Z.fill (m (2+2*Z.i))).asks j 3=KE (m (2+2*Z.i)):=fun j h=>(iP ⟨h,I⟩).trans ((iN aJ).trans (iP rfl))
  have x:∀j,j+1=Z.na->(Z.fill (m (2+2*Z.i))).asks j 4=ID (m (2+2*Z.i)):=fun j h=>(iP ⟨h,I⟩).trans ((iN aJ).trans (iN aJ))
  rw[B,A];by_cases q:j+1=Z.na
  .rw[z j q,y j q,x j q];have w:j=Z.na-1:=I;rw[w,p,n,l,g,f];exact⟨I,I,H,Q⟩
  rw[M j q,M j q,M j q];exact P j I
 obtain⟨S,R,K⟩:=CH (m:=m) (t:=t) (Z:=Z.fill (m (2+2*Z.i))) F E C U X (by show Z.na<=Z.i+1;omega) T N rfl;exact⟨rfl,rfl,rfl,S,⟨Nat.le_trans aJ R.1,R.2⟩,K⟩
end
section
variable{m:Nat->Int}{s:cN}{th:Nat->cQ}{V:Nat}
theorem eX.holder(h:eX m s th V)(U:t<4)(T:bO (th t).does):m 0=(t:Int)+1/\fO m s V t (th t)/\∀x,x<4->x≠t->¬bO (th x).does:=by
 rcases h.lock with⟨W,Y⟩|⟨u,R,W,S,Z,Y⟩
 .exact absurd T (Y t U)
 have X:u=t:=by
  by_cases e:t=u
  .exact e.symm
  exact absurd T (Y t U e)
 subst X;exact⟨W,Z,Y⟩
theorem eX.good_of(h:eX m s th V)(X:t<4)(W:bO (th t).does)(U:(th t).does≠12)(T:(th t).does≠13):s.good 0=V:=by
 obtain⟨_,_,Z⟩:=h.holder X W;rcases h.good with g|⟨⟨x,Y,S⟩,_⟩
 .exact g
 by_cases e:x=t
 .subst e;omega
 exact absurd (show bO (th x).does by unfold bO;omega) (Z x Y e)
theorem eX.done_of(h:eX m s th V)(X:t<4)(W:bO (th t).does)(U:¬(12<=(th t).does/\(th t).does<=14)):m 1=V:=by
 obtain⟨_,_,Z⟩:=h.holder X W;rcases h.done with g|⟨⟨x,Y,T⟩,_⟩
 .exact g.1
 by_cases e:x=t
 .subst e;omega
 exact absurd (show bO (th x).does by unfold bO;omega) (Z x Y e)
theorem eX.done_in(h:eX m s th V)(Y:t<4)(Z:12<=(th t).does/\(th t).does<=14):m 1+1=V:=by
 rcases h.done with g|⟨_,g⟩
 .exact absurd Z (g.2 t Y)
 exact g
theorem qF(h:eX m s th V)(P:t<4)(E:bO (th t).does){Z:cQ}{W:Nat->Int}{s':cN}{V':Nat}
 (ok:s'.Ok) (N:∀i,i<16->0<=W i/\W i<18446744073709551616) (ver:s'.now 0=V') (S:pW s'.now V') (M:Am s' V')
 (R:s'.good 0=V'\/((Z.does=12\/Z.does=13)/\s'.good 0+1=V'/\1<=V'/\pW s'.now (V'-1)/\Am s' (V'-1)))
 (L:Z.does<=21) (K:Z.does≠0->gQ Z.a Z.k Z.v/\(Z.tg=0\/Z.tg=1))
 (Q:(W 0=m 0/\bO Z.does/\fO W s' V' t Z)\/(W 0=0/\¬bO Z.does))
 (done:(W 1=V'/\¬(12<=Z.does/\Z.does<=14))\/((12<=Z.does/\Z.does<=14)/\W 1+1=V')) (H:∀i,2<=i->W i=m i) (D:Z.does≠2):eX W s' (jG th t Z) V':=by
 obtain⟨G,_,O⟩:=h.holder P E;refine⟨ok,N,ver,S,M,?_,fun x Y=>?_,fun x Y X=>?_,?_,?_,fun i F=>?_,fun x Y U=>?_⟩
 .rcases R with g|⟨g1,g2⟩
  .exact .inl g
  exact .inr ⟨⟨t,P,by rw[cD];exact g1⟩,g2⟩
 .by_cases e:x=t
  .subst e;rw[cD];exact L
  rw[dK _ _ e];exact h.does x Y
 .by_cases e:x=t
  .subst e;rw[cD]at X⊢;exact K X
  rw[dK _ _ e]at X⊢;exact h.op x Y X
 .rcases Q with⟨l1,l2,l3⟩|⟨l1,l2⟩
  .exact .inr ⟨t,P,by rw[l1];exact G,by rw[cD];exact l2,by rw[cD];exact l3,fun x Y T=>by rw[dK _ _ T];exact O x Y T⟩
  refine .inl ⟨l1,fun x Y=>?_⟩;by_cases e:x=t
  .subst e;rw[cD];exact l2
  rw[dK _ _ e];exact O x Y e
 .rcases done with⟨d1,d2⟩|⟨d1,d2⟩
  .refine .inl ⟨d1,fun x Y U=>?_⟩;by_cases e:x=t
   .subst e;rw[cD]at U;exact d2 U
   rw[dK _ _ e]at U;exact O x Y e (by unfold bO;omega)
  exact .inr ⟨⟨t,P,by rw[cD];exact d1⟩,d2⟩
 .rw[H _ I,H _ I];exact h.asks i F
 by_cases e:x=t
 .subst e;rw[cD]at U;exact absurd U D
 rw[dK _ _ e]at U;rw[H _ I];exact h.said x Y U
theorem XD(V:Nat)(Z:i<32)(Y:j<32):dU (V+1)+i≠dU V+j:=by unfold dU;omega
theorem pW.congr{f g:Nat->Int}(h:pW f u)(e:∀i,i<32->g (dU u+i)=f (dU u+i)):pW g u:=
 ⟨nF e h.ok,by rw[e 27 I];exact h.ver,by rw[e 28 I];exact h.cnt⟩
theorem LV(h:eX m s th V)(S:t<4)(d:(th t).does=8):eX (stp t m s (th t)).m (stp t m s (th t)).s (jG th t (stp t m s (th t)).t) V:=by
 have Y:bO (th t).does:=by unfold bO;omega
 obtain⟨_,Q,_⟩:=h.holder S Y;unfold fO at Q;simp only[d]at Q;obtain⟨T,P,M,O,L⟩:=Q;have e:stp t m s (th t)=⟨m,s.save (dU ((th t).ver+1)+(th t).i) ((th t).r (th t).i),(th t).next 32 9,false⟩:=by simp only[stp,d]
 rw[e,P];have H:=h.good_of S Y I I;have G:=h.done_of S Y I;have Z:∀a,(s.save (dU (V+1)+(th t).i) ((th t).r (th t).i)).now a=if a=dU (V+1)+(th t).i then(th t).r (th t).i else s.now a:=fun a=>rfl
 have R:(s.save (dU (V+1)+(th t).i) ((th t).r (th t).i)).now 0=s.now 0:=by rw[Z,iN (by unfold dU;omega)]
 have W:∀i,i<32->(s.save (dU (V+1)+(th t).i) ((th t).r (th t).i)).now (dU V+i)=s.now (dU V+i):=fun i X=>by rw[Z,iN (fun e=>XD V M X e.symm)]
 have U:=h.op t S I;refine qF h S Y (h.ok.save _ (O.bd _ M)) h.ram (by show(s.save _ _).now 0=_;rw[R];exact h.ver) (h.rec_.congr W) (fun i X=>by show s.good _=_;rw[W i X];exact h.dur i X) (.inl H) ?_ (fun _=>?_) (.inl ⟨rfl,?_,?_⟩) (.inl ⟨G,?_⟩) (fun _ _=>rfl) ?_
 all_goals
  by_cases K:(th t).i+1=32
  .rw[sV K]
   first
   |(show(9:Nat)<=21;decide)
   |exact U
   |(show bO 9;unfold bO;decide)
   |(show¬(12<=9/\9<=14);decide)
   |(show(9:Nat)≠2;decide)
   |(refine⟨T,P,(by show(0:Nat)<4;decide),O,fun j N=>?_,fun j N=>absurd N (Nat.not_lt_zero _)⟩
     show(s.save _ _).now _=(th t).r j;rw[Z];by_cases q:j=(th t).i
     .rw[iP I,q]
     .rw[iN I];exact L j I)
  .rw[vL K]
   first
   |(show(th t).does<=21;omega)
   |exact U
   |(show bO (th t).does;exact Y)
   |(show¬(12<=(th t).does/\(th t).does<=14);omega)
   |(show(th t).does≠2;omega)
   |(unfold fO
     simp only[d];refine⟨T,P,I,O,fun j N=>?_⟩;show(s.save _ _).now _=(th t).r j;rw[Z];by_cases q:j=(th t).i
     .rw[iP I,q]
     .rw[iN I];exact L j I)
theorem oF(m:Nat->Int)(a:Nat)(x:Int):eI m a x a=x:=iP rfl
theorem lN(m:Nat->Int){a:Nat}(x:Int)(h:i≠a):eI m a x i=m i:=iN h
theorem BE(h:∀i,i<16->0<=m i/\m i<18446744073709551616)(a:Nat)(Y:0<=x/\x<18446744073709551616):∀i,i<16->0<=eI m a x i/\eI m a x i<18446744073709551616:=fun i Z=>by
 unfold eI;split
 .exact Y
 exact h i Z
theorem TG(h:eX m s th V)(U:t<4)(d:(th t).does=9):eX (stp t m s (th t)).m (stp t m s (th t)).s (jG th t (stp t m s (th t)).t) V:=by
 have Z:bO (th t).does:=by unfold bO;omega
 obtain⟨_,T,_⟩:=h.holder U Z;unfold fO at T;simp only[d]at T;obtain⟨W,S,K,R,Q,P⟩:=T;have e:stp t m s (th t)=⟨m,s.flush t (dU ((th t).ver+1)/8+(th t).i),(th t).next 4 10,false⟩:=by simp only[stp,d]
 rw[e,S];have N:=h.good_of U Z I I;have M:=h.done_of U Z I;have Y:∀l,(s.flush t (dU (V+1)/8+(th t).i)).want t l=if l=dU (V+1)/8+(th t).i then true else s.want t l:=fun l=>by
  show(if t=t/\l=_ then true else s.want t l)=_;by_cases e:l=dU (V+1)/8+(th t).i
  .rw[iP ⟨rfl,e⟩,iP e]
  rw[iN (fun q=>e q.2),iN e]
 have X:=h.op t U I;refine qF h U Z (h.ok.flush _ _) h.ram h.ver h.rec_ h.dur (.inl N) ?_ (fun _=>?_) (.inl ⟨rfl,?_,?_⟩) (.inl ⟨M,?_⟩) (fun _ _=>rfl) ?_
 all_goals
  by_cases O:(th t).i+1=4
  .rw[sV O]
   first
   |(show(10:Nat)<=21;decide)
   |exact X
   |(show bO 10;unfold bO;decide)
   |(show¬(12<=10/\10<=14);decide)
   |(show(10:Nat)≠2;decide)
   |(refine⟨W,S,R,Q,fun j L=>?_⟩
     show(s.flush _ _).want t _=true;rw[Y];by_cases q:j=(th t).i
     .rw[iP I]
     .rw[iN I];exact P j I)
  .rw[vL O]
   first
   |(show(th t).does<=21;omega)
   |exact X
   |(show bO (th t).does;exact Z)
   |(show¬(12<=(th t).does/\(th t).does<=14);omega)
   |(show(th t).does≠2;omega)
   |(unfold fO
     simp only[d];refine⟨W,S,I,R,Q,fun j L=>?_⟩;show(s.flush _ _).want t _=true;rw[Y];by_cases q:j=(th t).i
     .rw[iP I]
     .rw[iN I];exact P j I)
theorem oX(s:cN)(t i:Nat):(s.fence t).good i=if i/8<9/\s.want t (i/8)=true then s.now i else s.good i:=rfl
theorem zA(s:cN)(t i:Nat):(s.fence t).now i=s.now i:=rfl
theorem zF{s:cN}(h:Am s u)(t:Nat):Am (s.fence t) u:=fun i Z=>by
 rw[oX,zA];split
 .rfl
 exact h i Z
theorem UC(h:eX m s th V)(Y:t<4)(d:(th t).does=10):eX (stp t m s (th t)).m (stp t m s (th t)).s (jG th t (stp t m s (th t)).t) V:=by
 have Z:bO (th t).does:=by unfold bO;omega
 obtain⟨_,W,_⟩:=h.holder Y Z;unfold fO at W;simp only[d]at W;obtain⟨U,R,Q,P,O⟩:=W;have e:stp t m s (th t)=⟨m,s.fence t,(th t).go 11,false⟩:=by simp only[stp,d]
 rw[e];have T:=h.good_of Y Z I I;have S:=h.done_of Y Z I;have X:=h.op t Y I;refine qF h Y Z (h.ok.fence _) h.ram h.ver h.rec_ (zF h.dur t) (.inl ?_) (by show(11:Nat)<=21;decide) (fun _=>X) (.inl ⟨rfl,by show bO 11;unfold bO;decide,⟨U,R,Q,P,fun i N=>?_⟩⟩) (.inl ⟨S,by show¬(12<=11/\11<=14);decide⟩) (fun _ _=>rfl) (by show(11:Nat)≠2;decide)
 .rw[oX];split
  .exact h.ver
  exact T
 rw[oX,zA,iP];refine⟨by unfold dU;omega,?_⟩;rw[show(dU (V+1)+i)/8=dU (V+1)/8+i/8 by unfold dU;omega];exact O (i/8) I
theorem MG(h:eX m s th V)(W:t<4)(d:(th t).does=11)(K:V<1099511627776):eX (stp t m s (th t)).m (stp t m s (th t)).s (jG th t (stp t m s (th t)).t) (V+1):=by
 have Z:bO (th t).does:=by unfold bO;omega
 obtain⟨_,T,_⟩:=h.holder W Z;unfold fO at T;simp only[d]at T;obtain⟨N,M,S,R,L⟩:=T;have e:stp t m s (th t)=⟨m,s.save 0 ((th t).ver+1:Nat),(th t).go 12,false⟩:=by simp only[stp,d]
 rw[e,M];have Q:=h.good_of W Z I I;have P:=h.done_of W Z I;have U:=h.op t W I;have Y:∀u i,(s.save 0 ((V+1:Nat):Int)).now (dU u+i)=s.now (dU u+i):=fun u i=>by
  show(if dU u+i=0 then _ else _)=_;rw[iN (by unfold dU;omega)]
 have O:pW (s.save 0 ((V+1:Nat):Int)).now (V+1):=⟨nF (fun i X=>by rw[Y];exact R i X) S.ok,by rw[Y,R 27 I];exact S.ver,by rw[Y,R 28 I];exact S.cnt⟩;refine qF h W Z (h.ok.save 0 I) h.ram rfl O (fun i X=>by rw[Y];exact L i X) (.inr ⟨.inl rfl,by show s.good 0+1=_;rw[Q];omega,I,?_,fun i X=>?_⟩) (by show(12:Nat)<=21;decide) (fun _=>U) (.inl ⟨rfl,by show bO 12;unfold bO;decide,?_⟩) (.inr ⟨by show 12<=12/\12<=14;decide,by show m 1+1=_;rw[P];omega⟩) (fun _ _=>rfl) (by show(12:Nat)≠2;decide)
 .rw[show V+1-1=V by omega];exact h.rec_.congr fun i X=>Y V i
 .rw[show V+1-1=V by omega,Y];exact h.dur i X
 show(th t).ver+1=V+1;omega
theorem MR(h:eX m s th V)(Y:t<4)(d:(th t).does=12):eX (stp t m s (th t)).m (stp t m s (th t)).s (jG th t (stp t m s (th t)).t) V:=by
 have Z:bO (th t).does:=by unfold bO;omega
 obtain⟨_,W,_⟩:=h.holder Y Z;unfold fO at W;simp only[d]at W;have e:stp t m s (th t)=⟨m,s.flush t 0,(th t).go 13,false⟩:=by simp only[stp,d]
 rw[e];have X:=h.op t Y I;have U:=h.done_in Y I;refine qF h Y Z (h.ok.flush _ _) h.ram h.ver h.rec_ h.dur ?_ (by show(13:Nat)<=21;decide) (fun _=>X) (.inl ⟨rfl,by show bO 13;unfold bO;decide,W,iP ⟨rfl,rfl⟩⟩) (.inr ⟨by show 12<=13/\13<=14;decide,U⟩) (fun _ _=>rfl) (by show(13:Nat)≠2;decide);rcases h.good with g|⟨_,g⟩
 .exact .inl g
 exact .inr ⟨.inr rfl,g⟩
theorem NG(h:eX m s th V)(X:t<4)(d:(th t).does=13):eX (stp t m s (th t)).m (stp t m s (th t)).s (jG th t (stp t m s (th t)).t) V:=by
 have Z:bO (th t).does:=by unfold bO;omega
 obtain⟨_,Y,_⟩:=h.holder X Z;unfold fO at Y;simp only[d]at Y;have e:stp t m s (th t)=⟨m,s.fence t,(th t).go 14,false⟩:=by simp only[stp,d]
 rw[e];have W:=h.op t X I;have T:=h.done_in X I;have U:(s.fence t).good 0=V:=by
  rw[oX,iP ⟨aJ,Y.2⟩];exact h.ver
 exact qF h X Z (h.ok.fence _) h.ram h.ver h.rec_ (zF h.dur t) (.inl U) (by show(14:Nat)<=21;decide) (fun _=>W) (.inl ⟨rfl,by show bO 14;unfold bO;decide,Y.1,U⟩) (.inr ⟨by show 12<=14/\14<=14;decide,T⟩) (fun _ _=>rfl) (by show(14:Nat)≠2;decide)
theorem SY(h:eX m s th V)(W:t<4)(d:(th t).does=14)(T:V<=1099511627776):eX (stp t m s (th t)).m (stp t m s (th t)).s (jG th t (stp t m s (th t)).t) V:=by
 have Z:bO (th t).does:=by unfold bO;omega
 obtain⟨_,Y,_⟩:=h.holder W Z;unfold fO at Y;simp only[d]at Y;have e:stp t m s (th t)=⟨eI m 1 ((th t).ver+1:Nat),s,(th t).go 15,false⟩:=by simp only[stp,d]
 rw[e,Y.1];have X:=h.op t W I;exact qF h W Z h.ok (BE h.ram 1 I) h.ver h.rec_ h.dur (.inl Y.2) (by show(15:Nat)<=21;decide) (fun _=>X) (.inl ⟨lN m (a:=1) (i:=0) (V:Int) aJ,by show bO 15;unfold bO;decide,Y.2⟩) (.inl ⟨oF m 1 (V:Int),by show¬(12<=15/\15<=14);decide⟩) (fun i U=>lN _ _ I) (by show(15:Nat)≠2;decide)
theorem FW(h:eX m s th V)(Y:t<4)(d:(th t).does=15):eX (stp t m s (th t)).m (stp t m s (th t)).s (jG th t (stp t m s (th t)).t) V:=by
 have Z:bO (th t).does:=by unfold bO;omega
 obtain⟨_,W,_⟩:=h.holder Y Z;unfold fO at W;simp only[d]at W;have e:stp t m s (th t)=⟨eI m 0 0,s,(th t).go 16,false⟩:=by simp only[stp,d]
 rw[e];have X:=h.op t Y I;have U:=h.done_of Y Z I;exact qF h Y Z h.ok (BE h.ram 0 I) h.ver h.rec_ h.dur (.inl W) (by show(16:Nat)<=21;decide) (fun _=>X) (.inr ⟨oF m 0 (0:Int),by show¬bO 16;unfold bO;decide⟩) (.inl ⟨(lN m (a:=0) (i:=1) 0 aJ).trans U,by show¬(12<=16/\16<=14);decide⟩) (fun i T=>lN _ _ I) (by show(16:Nat)≠2;decide)
theorem ML(h:eX m s th V)(Y:t<4)(d:4<=(th t).does/\(th t).does<=7)(N:4*V+4<=1099511627776):eX (stp t m s (th t)).m (stp t m s (th t)).s (jG th t (stp t m s (th t)).t) V:=by
 have Z:bO (th t).does:=by unfold bO;omega
 obtain⟨_,W,_⟩:=h.holder Y Z;obtain⟨U,T,_,S,M,R,Q,P,O⟩:=MX (t:=t) h.ok h.rec_ (h.done_of Y Z I) h.asks N d W;rw[U,T];have X:=h.op t Y I;exact RT h Y Z I (by unfold bO;omega) I (by rw[R,Q,P,O];exact X) (fun _=>S)
theorem PO(h:eX m s th V)(Y:t<4)(d:16<=(th t).does):eX (stp t m s (th t)).m (stp t m s (th t)).s (jG th t (stp t m s (th t)).t) V:=by
 have U:=h.does t Y;have X:¬bO (th t).does:=by unfold bO;omega
 have Z:=h.op t Y I;rcases(by omega:(th t).does=16\/(th t).does=17\/(th t).does=18\/(th t).does=19\/(th t).does=20\/(th t).does=21)with e|e|e|e|e|e
 .rw[show stp t m s (th t)=⟨m,s,(th t).go 0,true⟩ by simp only[stp,e]];exact fY h Y X (by show¬bO 0;unfold bO;decide) (by show 0<=21;decide) (fun h=>absurd rfl h) (fun h=>by have W:(0:Nat)=2:=h;omega)
 .rw[show stp t m s (th t)=⟨m,s,{th t with ver:=(m 1).toNat,does:=18},false⟩ by simp only[stp,e]];exact fY h Y X (by show¬bO 18;unfold bO;decide) (by show 18<=21;decide) (fun _=>Z) (fun h=>by have W:(18:Nat)=2:=h;omega)
 .rw[show stp t m s (th t)=⟨m,s,{th t with seen:=fun j=>if j=0 then s.now (dU (th t).ver+26)else(th t).seen j,does:=19},false⟩ by simp only[stp,e]];exact fY h Y X (by show¬bO 19;unfold bO;decide) (by show 19<=21;decide) (fun _=>Z) (fun h=>by have W:(19:Nat)=2:=h;omega)
 .rw[show stp t m s (th t)=⟨m,s,{th t with seen:=fun j=>if j=1 then s.now (dU (th t).ver+18+t)else(th t).seen j,does:=20},false⟩ by simp only[stp,e]];exact fY h Y X (by show¬bO 20;unfold bO;decide) (by show 20<=21;decide) (fun _=>Z) (fun h=>by have W:(20:Nat)=2:=h;omega)
 .rw[show stp t m s (th t)=⟨m,s,{th t with seen:=fun j=>if j=2 then s.now (dU (th t).ver+22+t)else(th t).seen j,does:=21},false⟩ by simp only[stp,e]];exact fY h Y X (by show¬bO 21;unfold bO;decide) (by show 21<=21;decide) (fun _=>Z) (fun h=>by have W:(21:Nat)=2:=h;omega)
 by_cases c:m 1=(th t).ver/\(if gO ((th t).seen 0).toNat t=true then(1:Int)else 0)=(th t).tg
 .rw[show stp t m s (th t)=⟨m,s,{th t with o1:=rZ ((th t).seen 1),o2:=tU ((th t).seen 1),wn:=Ke ((th t).seen 2),does:=0},true⟩ by simp only[stp,e];rw[iP c]];exact fY h Y X (by show¬bO 0;unfold bO;decide) (by show 0<=21;decide) (fun h=>absurd rfl h) (fun h=>by have W:(0:Nat)=2:=h;omega)
 rw[show stp t m s (th t)=⟨m,s,(th t).go (if(th t).said=true then 3 else 1),false⟩ by simp only[stp,e];rw[iN c]];cases(th t).said
 .exact fY h Y X (by show¬bO 1;unfold bO;decide) (by show 1<=21;decide) (fun _=>Z) (fun h=>by have W:(1:Nat)=2:=h;omega)
 exact fY h Y X (by show¬bO 3;unfold bO;decide) (by show 3<=21;decide) (fun _=>Z) (fun h=>by have W:(3:Nat)=2:=h;omega)
theorem NN(h:eX m s th V)(S:t<4)(d:(th t).does=1):eX (stp t m s (th t)).m (stp t m s (th t)).s (jG th t (stp t m s (th t)).t) V:=by
 have Z:=h.op t S I;rw[show stp t m s (th t)=⟨eI m (2+2*t) (fN (th t).a (th t).k (th t).v),s,(th t).go 2,false⟩ by simp only[stp,d]];have U:∀j,eI m (2+2*t) (fN (th t).a (th t).k (th t).v) (3+2*j)=m (3+2*j):=fun j=>lN _ _ I
 have T:∀j,j≠t->eI m (2+2*t) (fN (th t).a (th t).k (th t).v) (2+2*j)=m (2+2*j):=fun j X=>lN _ _ I
 have Y:eI m (2+2*t) (fN (th t).a (th t).k (th t).v) (2+2*t)=fN (th t).a (th t).k (th t).v:=oF _ _ _;have R:eX (eI m (2+2*t) (fN (th t).a (th t).k (th t).v)) s th V:=CF h I (fun j _ X=>by rw[U];exact X) (CA Z.1) (fun j X=>by
  rw[U];refine⟨(h.asks j X).1,fun W=>?_⟩;by_cases e:j=t
  .rw[e,Y];exact⟨_,_,_,Z.1,rfl⟩
  .rw[T j e];exact(h.asks j X).2 W) (fun u Q P=>by
  by_cases e:u=t
  .rw[e,Y];exact⟨_,_,_,Z.1,rfl⟩
  rw[T u e];exact h.said u Q P)
 exact fY R S (by unfold bO;omega) (by show¬bO 2;unfold bO;decide) (by show 2<=21;decide) (fun _=>Z) (fun _=>⟨_,_,_,Z.1,Y⟩)
theorem XM(h:eX m s th V)(U:t<4)(d:(th t).does=2):eX (stp t m s (th t)).m (stp t m s (th t)).s (jG th t (stp t m s (th t)).t) V:=by
 have Z:=h.op t U I;have W:=h.said t U d;rw[show stp t m s (th t)=⟨eI m (3+2*t) ((th t).tg+1),s,{th t with said:=true,does:=3},false⟩ by simp only[stp,d]];have T:∀j,eI m (3+2*t) ((th t).tg+1) (2+2*j)=m (2+2*j):=fun j=>lN _ _ I
 have S:∀j,j≠t->eI m (3+2*t) ((th t).tg+1) (3+2*j)=m (3+2*j):=fun j X=>lN _ _ I
 have Y:eI m (3+2*t) ((th t).tg+1) (3+2*t)=(th t).tg+1:=oF _ _ _;have O:=Z.2;have R:eX (eI m (3+2*t) ((th t).tg+1)) s th V:=CF h I (fun j _ X=>by
  by_cases e:j=t
  .rw[e,Y];omega
  .rw[S j e];exact X) I (fun j X=>by
  rw[T];by_cases e:j=t
  .rw[e,Y];exact⟨I,fun _=>W⟩
  rw[S j e];exact h.asks j X) (fun u Q P=>by rw[T];exact h.said u Q P)
 exact fY R U (by unfold bO;omega) (by show¬bO 3;unfold bO;decide) (by show 3<=21;decide) (fun _=>Z) (fun h=>by have N:(3:Nat)=2:=h;omega)
theorem QR(h:eX m s th V)(Q:t<4)(d:(th t).does=3):eX (stp t m s (th t)).m (stp t m s (th t)).s (jG th t (stp t m s (th t)).t) V:=by
 have X:=h.op t Q I;by_cases c:m 0=0
 .rw[show stp t m s (th t)=⟨eI m 0 (t+1),s,(th t).go 4,false⟩ by simp only[stp,d];rw[iP c]];have Y:∀u,u<4->¬bO (th u).does:=by
   rcases h.lock with⟨_,Y⟩|⟨u,_,L,_⟩
   .exact Y
   omega
  have T:∀i,1<=i->eI m 0 ((t:Int)+1) i=m i:=fun i P=>lN _ _ I
  show eX (eI m 0 ((t:Int)+1)) s (jG th t ((th t).go 4)) V;refine⟨h.ok,BE h.ram 0 I,h.ver,h.rec_,h.dur,?_,fun x Z=>?_,fun x Z W=>?_,?_,?_,fun i P=>?_,fun x Z S=>?_⟩
  .rcases h.good with g|⟨⟨x,Z,U⟩,_⟩
   .exact .inl g
   exact absurd (show bO (th x).does by unfold bO;omega) (Y x Z)
  .by_cases e:x=t
   .subst e;rw[cD];show(4:Nat)<=21;decide
   rw[dK _ _ e];exact h.does x Z
  .by_cases e:x=t
   .subst e;rw[cD];exact X
   rw[dK _ _ e]at W⊢;exact h.op x Z W
  .exact .inr ⟨t,Q,oF m 0 _,by rw[cD];show bO 4;unfold bO;decide,by rw[cD];exact trivial,fun x Z R=>by rw[dK _ _ R];exact Y x Z⟩
  .rcases h.done with⟨hm1,_⟩|⟨⟨x,Z,U⟩,_⟩
   .refine .inl ⟨by rw[T 1 aJ];exact hm1,fun x Z U=>?_⟩;by_cases e:x=t
    .subst e;rw[cD]at U;have O:12<=4/\4<=14:=U;omega
    rw[dK _ _ e]at U;exact Y x Z (by unfold bO;omega)
   exact absurd (show bO (th x).does by unfold bO;omega) (Y x Z)
  .rw[T _ I,T _ I];exact h.asks i P
  rw[T _ I];by_cases e:x=t
  .subst e;rw[cD]at S;have N:(4:Nat)=2:=S;omega
  rw[dK _ _ e]at S;exact h.said x Z S
 rw[show stp t m s (th t)=⟨m,s,(th t).go 17,false⟩ by simp only[stp,d];rw[iN c]];exact fY h Q (by unfold bO;omega) (by show¬bO 17;unfold bO;decide) (by show 17<=21;decide) (fun _=>X) (fun h=>by have M:(17:Nat)=2:=h;omega)
theorem UB(h:eX m s th V)(Z:t<4)(d:(th t).does≠0)(W:4*V+4<=1099511627776):eX (stp t m s (th t)).m (stp t m s (th t)).s (jG th t (stp t m s (th t)).t) (if(th t).does=11 then V+1 else V):=by
 have X:=h.does t Z;by_cases Y:(th t).does=11
 .rw[iP Y];exact MG h Z Y I
 rw[iN Y];rcases(by omega:(th t).does=1\/(th t).does=2\/(th t).does=3\/(4<=(th t).does/\(th t).does<=7)\/(th t).does=8\/(th t).does=9\/(th t).does=10\/(th t).does=12\/(th t).does=13\/(th t).does=14\/(th t).does=15\/16<=(th t).does)with e|e|e|e|e|e|e|e|e|e|e|e
 .exact NN h Z e
 .exact XM h Z e
 .exact QR h Z e
 .exact ML h Z e W
 .exact LV h Z e
 .exact TG h Z e
 .exact UC h Z e
 .exact MR h Z e
 .exact NG h Z e
 .exact SY h Z e I
 .exact FW h Z e
 exact PO h Z e
theorem DQ(s:cN)(l i:Nat):(s.land l).good i=if i/8=l then s.now i else s.good i:=rfl
theorem Da{s:cN}(h:Am s u)(l:Nat):Am (s.land l) u:=fun i Z=>by
 rw[DQ];show _=s.now _;split
 .rfl
 exact h i Z
theorem aBI(h:eX m s th V)(l:Nat):eX m (s.land l) th V:=by
 have Z:s.good 0=V->(s.land l).good 0=V:=fun g=>by
  rw[DQ];split
  .exact h.ver
  exact g
 refine⟨h.ok.land l,h.ram,h.ver,h.rec_,Da h.dur l,?_,h.does,h.op,?_,h.done,h.asks,h.said⟩
 .rcases h.good with g|⟨g1,g2,g3,g4,g5⟩
  .exact .inl (Z g)
  by_cases e:0/8=l
  .exact .inl (by rw[DQ,iP e];exact h.ver)
  exact .inr ⟨g1,by rw[DQ,iN e];exact g2,g3,g4,Da g5 l⟩
 refine h.lock.imp id fun⟨u,a,b,c,d,e⟩=>⟨u,a,b,c,?_,e⟩
 unfold fO at d⊢;split at d<;>try exact d
 .exact⟨d.1,d.2.1,d.2.2.1,d.2.2.2.1,Da d.2.2.2.2 l⟩
 .exact⟨d.1,Z d.2⟩
 exact Z d
def cQ.fall(Z:cQ):cQ:=if Z.does=0 then Z else cQ.call Z.a Z.k Z.v Z.tg true
def kA(v:Int)(i:Nat):Int:=if i=1 then v else 0
theorem DT(s:cN)(x i:Nat):(s.crash x).now i=if x/2^(i/8)%2=1 then s.now i else s.good i:=rfl
theorem MZ(s:cN)(x i:Nat):(s.crash x).good i=(s.crash x).now i:=rfl
theorem Hs{s:cN}(h:Am s u)(x:Nat)(i:Nat)(Z:i<32):(s.crash x).now (dU u+i)=s.now (dU u+i):=by
 rw[DT];split
 .rfl
 exact h i Z
theorem aAo(h:eX m s th V)(x:Nat):∃V':Nat,eX (kA ((s.crash x).now 0)) (s.crash x) (fun t=>(th t).fall) V'/\(V'=V\/V'+1=V):=by
 have Z:∀t,(th t).fall.does=0\/(th t).fall.does=17:=fun t=>by
  unfold cQ.fall;split
  .exact .inl ‹_›
  exact .inr rfl
 have key:∃V':Nat,(s.crash x).now 0=V'/\pW (s.crash x).now V'/\(V'=V\/V'+1=V):=by
  have O:=h.rec_.congr fun i W=>Hs h.dur x i W
  by_cases c:x/2^(0/8)%2=1
  .exact⟨V,by rw[DT,iP c];exact h.ver,O,.inl rfl⟩
  rcases h.good with g|⟨_,K,H,N,M⟩
  .exact⟨V,by rw[DT,iN c];exact g,O,.inl rfl⟩
  exact⟨V-1,by rw[DT,iN c];omega,N.congr fun i W=>Hs M x i W,.inr I⟩
 obtain⟨V',R,L,Q⟩:=key;have U:=h.ok.crash x;have S:=U.now 0 aJ;refine⟨V',⟨U,fun i W=>?_,R,L,fun i W=>MZ s x _,.inl (by rw[MZ];exact R),fun t T=>?_,fun t T X=>?_,.inl ⟨rfl,fun t T=>?_⟩,.inl ⟨R,fun t T P=>?_⟩,fun i W=>⟨.inl (iN I),fun X=>absurd (iN I) X⟩,fun t T P=>?_⟩,Q⟩
 .unfold kA;split
  .exact S
  decide
 .rcases Z t with e|e<;>rw[e]<;>decide
 .have h0:(th t).does≠0:=fun e=>X (by unfold cQ.fall;rw[iP e];exact e)
  have:=h.op t T h0;unfold cQ.fall;rw[iN h0];exact this
 .rcases Z t with e|e<;>rw[e]<;>unfold bO<;>decide
 .have Y:=P;rcases Z t with e|e<;>rw[e]at Y<;>omega
 have Y:=P;rcases Z t with e|e<;>rw[e]at Y<;>omega
theorem TX(h:eX m s th V)(Y:t<4)(d:(th t).does=0){Z:Int}(X:gQ a k v)(W:Z=0\/Z=1):eX m s (jG th t (cQ.call a k v Z false)) V:=
 fY h Y (by unfold bO;omega) (by show¬bO 1;unfold bO;decide) (by show 1<=21;decide) (fun _=>⟨X,W⟩) (fun h=>by have U:(1:Nat)=2:=h;omega)
end
def pL(kind:Int)(i:Nat):Int:=if i=0 then kind else 0
theorem Aa(k:Int)(X:1<=k)(W:k<=6):cK k (fun _=>0):=by
 unfold cK;have Z:gW (fun _=>(0:Int)):=⟨aJ,fun i Y=>by unfold tY;simp⟩;split
 .exact⟨fun i Y=>⟨by show(0:Int)<=1000;decide,by show(0:Int)<=4294967295;decide⟩,rfl,aJ⟩
 split
 .exact⟨aJ,fun i Y=>by simp⟩
 split
 .exact⟨Z,aJ⟩
 exact⟨X,I,Z⟩
theorem MC(k:Int)(V:1<=k)(U:k<=6):eE (pL k):=by
 have e:∀i,i≠0->pL k i=0:=fun i Y=>iN Y
 have X:pL k 0=k:=iP rfl;have W:dH (pL k)=k:=by unfold dH;rw[X,iP I]
 refine⟨⟨by rw[W];exact kO (fun i Y=>e (1+i) I) (Aa k V U),by rw[e 26 I];decide,by rw[e 28 I];decide,by rw[e 27 I];decide⟩,fun t T=>?_,e 29 I,e 30 I,e 31 I⟩;unfold pV BL;rw[e (18+t) I,e (22+t) I,e 28 I];exact⟨⟨.inr rfl,aJ,by simp⟩,fun u S Z=>absurd rfl Z⟩
theorem ZC(k:Int)(S:1<=k)(R:k<=6):eX (fun _=>0) (YX (pL k) 4) (fun _=>cQ.new) 0:=by
 have U:∀i,0<=pL k i/\pL k i<18446744073709551616:=fun i=>by unfold pL;split<;>omega
 have Y:∀i,i<32->(YX (pL k) 4).now (dU 0+i)=pL k i:=fun i W=>by
  show(if 8<=dU 0+i/\dU 0+i<40 then pL k (dU 0+i-8)else 0)=_;have e:dU 0=8:=rfl;rw[e,iP I,show 8+i-8=i by omega]
 have T:∀i:Nat,i≠0->pL k i=0:=fun i W=>iN W
 refine⟨⟨fun i _=>?_,fun i _=>?_⟩,fun i _=>by decide,rfl,⟨nF Y (MC k S R),by rw[Y 27 I,T 27 I];rfl,by rw[Y 28 I,T 28 I];decide⟩,fun i W=>?_,.inl rfl,fun t _=>by show 0<=21;decide,fun t _ Z=>absurd rfl Z,.inl ⟨rfl,fun t _=>by show¬bO 0;unfold bO;decide⟩,.inl ⟨rfl,fun t _ V=>by have X:12<=0/\0<=14:=V;omega⟩,fun i _=>⟨.inl rfl,fun Z=>absurd rfl Z⟩,fun t _ V=>by have X:(0:Nat)=2:=V;omega⟩
 .show 0<=(if 8<=i/\i<40 then pL k (i-8)else 0)/\(if 8<=i/\i<40 then pL k (i-8)else 0)<_;split
  .exact U _
  omega
 .show 0<=(if 8<=i/\i<8+8*4/\i<40 then pL k (i-8)else 0)/\(if 8<=i/\i<8+8*4/\i<40 then pL k (i-8)else 0)<_;split
  .exact U _
  omega
 show(if 8<=dU 0+i/\dU 0+i<8+8*4/\dU 0+i<40 then pL k (dU 0+i-8)else 0)=(if 8<=dU 0+i/\dU 0+i<40 then pL k (dU 0+i-8)else 0);have e:dU 0=8:=rfl;rw[e,iP I,iP I]
def aB(of:Nat->List (List Value)):Nat->List (Nat×List Value)
 |0=>[]
 |V+1=>aB of V++(of (V+1)).map fun d=>(V+1,d)
def AL(of:Nat->List (List Value))(V:Nat)(l:List (List Value))(u:Nat):List (List Value):=if u=V then l else of u
theorem aAP(Z:Nat->List (List Value)){W:Nat}(l:List (List Value))(h:V<W):aB (AL Z W l) V=aB Z V:=by
 induction V with
 |zero=>rfl
 |succ V ih=>rw[aB,aB,ih I];congr 1;rw[show AL Z W l (V+1)=Z (V+1)from iN I]
theorem Jz(Z:Nat->List (List Value))(V:Nat)(l:List (List Value)):aB (AL Z (V+1) l) (V+1)=aB Z V++l.map fun d=>(V+1,d):=by
 rw[aB,aAP Z l I,show AL Z (V+1) l (V+1)=l from iP rfl]
theorem JL(Z:Nat->List (List Value)):∀V,∀x∈aB Z V,x.1<=V
 |0,x,h=>by simp [aB]at h
 |V+1,x,h=>by
  rw[aB]at h;rcases List.mem_append.1 h with h|h
  .have:=JL Z V x h;omega
  .simp at h;obtain⟨d,_,rfl⟩:=h;exact Nat.le_refl _
theorem aAK(Z:Nat->List (List Value))(V:Nat):(aB Z (V+1)).take (aB Z V).length=aB Z V:=by
 rw[aB,List.take_left' rfl]
theorem rY(of:Nat->List (List Value)):∀V,(aB of V).map (·.2)=((List.range V).map fun u=>of (u+1)).flatten
 |0=>rfl
 |V+1=>by
  rw[aB,List.map_append,rY of V,List.range_succ,List.map_append,List.flatten_append,List.map_map];simp [Function.comp_def]
theorem eX.deeds{s:cN}{th:Nat->cQ}(h:eX m s th V)(Y:t<4)(d:(th t).does=11):oS (th t).deeds/\(th t).ver=V:=by
 obtain⟨_,Z,_⟩:=h.holder Y (by unfold bO;omega);unfold fO at Z;simp only[d]at Z;exact⟨Z.1,Z.2.1⟩
def zI(t:Nat)(Z:cQ)(A D:Value)(i:Nat):Value:=
 if i=0 then .int .i64 t else if i=1 then .int .i64 (Z.does:Int)else if i=2 then .int .i64 Z.a else if i=3 then .int .i64 Z.k else if i=4 then .int .i64 Z.v else if i=5 then .int .i64 Z.tg
 else if i=6 then .bool Z.said else if i=7 then .int .i64 (Z.i:Int)else if i=8 then .int .u64 (Z.ver:Int)else if i<41 then .int .u64 (Z.r (i-9))else if i=41 then A else if i=42 then D
 else if i<46 then .int .u64 (Z.seen (i-43))else if i=46 then .int .i64 Z.o1 else if i=47 then .int .i64 Z.o2 else .int .i64 Z.wn
def kE(t:Nat)(Z:cQ)(A D:Value):Array Value:=jM 49 (zI t Z A D)
theorem sL(t:Nat)(Z:cQ)(A D:Value):(kE t Z A D).size=49:=dJ
theorem LJ(t:Nat)(Z:cQ)(A D:Value)(h:i<49):(kE t Z A D)[i]? =some (zI t Z A D i):=cW h
theorem ZR(t:Nat)(Z:cQ)(A D:Value)(h:j<32):(kE t Z A D)[9+j]? =some (.int .u64 (Z.r j)):=by
 rw[LJ _ _ _ _ I];unfold zI;rw[iN I,iN I,iN I,iN I,iN I,iN I,iN I,iN I,iN I,iP I,show 9+j-9=j by omega]
theorem mV(t:Nat)(Z:cQ)(A D:Value)(h:j<3):(kE t Z A D)[43+j]? =some (.int .u64 (Z.seen j)):=by
 rcases(by omega:j=0\/j=1\/j=2)with rfl|rfl|rfl<;>rfl
theorem wE(t:Nat)(Z:cQ)(A D:Value)(d:Nat):(kE t Z A D).setIfInBounds 1 d=kE t {Z with does:=d} A D:=dP fun j Y=>by
 by_cases e:j=1
 .subst e;rfl
 rw[iN e];unfold zI;simp only[e,if_false]
theorem SH(t:Nat)(Z:cQ)(A D:Value)(b:Bool):(kE t Z A D).setIfInBounds 6 b=kE t {Z with said:=b} A D:=dP fun j Y=>by
 by_cases e:j=6
 .subst e;rfl
 rw[iN e];unfold zI;simp only[e,if_false]
theorem LL(t:Nat)(Z:cQ)(A D:Value)(n:Nat):(kE t Z A D).setIfInBounds 7 n=kE t {Z with i:=n} A D:=dP fun j Y=>by
 by_cases e:j=7
 .subst e;rfl
 rw[iN e];unfold zI;simp only[e,if_false]
theorem LP(t:Nat)(Z:cQ)(A D:Value)(n:Nat):(kE t Z A D).setIfInBounds 8 [n]=kE t {Z with ver:=n} A D:=dP fun j Y=>by
 by_cases e:j=8
 .subst e;rfl
 rw[iN e];unfold zI;simp only[e,if_false]
theorem CQ(t:Nat)(Z:cQ)(A D:Value)(Y:Value):(kE t Z A D).setIfInBounds 41 (Y)=kE t Z Y D:=dP fun j X=>by
 by_cases e:j=41
 .subst e;rfl
 rw[iN e];unfold zI;simp only[e,if_false]
theorem OW(t:Nat)(Z:cQ)(A D:Value)(Y:Value):(kE t Z A D).setIfInBounds 42 (Y)=kE t Z A Y:=dP fun j X=>by
 by_cases e:j=42
 .subst e;rfl
 rw[iN e];unfold zI;simp only[e,if_false]
theorem RB(t:Nat)(Z:cQ)(A D:Value)(x:Int):(kE t Z A D).setIfInBounds 48 x=kE t {Z with wn:=x} A D:=dP fun j W=>by
 by_cases e:j=48
 .subst e;rfl
 rw[iN e];unfold zI;by_cases Y:j=47
 .subst Y;rfl
 by_cases X:j=46
 .subst X;rfl
 have h:j<46:=I;simp only[h,if_true]
theorem QN(t:Nat)(Z:cQ)(A D:Value)(V:n<32)(x:Int):(kE t Z A D).setIfInBounds (9+n) [x]=kE t {Z with r:=fun j=>if j=n then x else Z.r j} A D:=dP fun j X=>by
 unfold zI;by_cases e:j=9+n
 .subst e;rw[iP rfl,iN I,iN I,iN I,iN I,iN I,iN I,iN I,iN I,iN I,iP I];dsimp only;rw[iP I]
 rw[iN e];by_cases h:9<=j/\j<41
 .have e2:¬(j-9=n):=I;simp only[e2,if_false]
 dsimp only;by_cases W:j<9
 .rcases(by omega:j=0\/j=1\/j=2\/j=3\/j=4\/j=5\/j=6\/j=7\/j=8)with rfl|rfl|rfl|rfl|rfl|rfl|rfl|rfl|rfl<;>rfl
 have Y:¬j<41:=I;simp only[Y,if_false]
theorem pM(t:Nat)(Z:cQ)(A D:Value)(U:n<3)(x:Int):(kE t Z A D).setIfInBounds (43+n) [x]=kE t {Z with seen:=fun j=>if j=n then x else Z.seen j} A D:=dP fun j W=>by
 unfold zI;by_cases e:j=43+n
 .rcases(by omega:n=0\/n=1\/n=2)with rfl|rfl|rfl<;>(subst e;rfl)
 rw[iN e];by_cases h:43<=j/\j<46
 .have e2:¬(j-43=n):=I;simp only[e2,if_false]
 by_cases V:j<43
 .have h1:(if j=41 then A else if j=42 then D else .nilIface)=(if j=41 then A else if j=42 then D else(.nilIface:Value)):=rfl;by_cases X:j<41
  .simp only[X,if_true]
  rcases(by omega:j=41\/j=42)with rfl|rfl<;>rfl
 have Y:¬j<46:=I;simp only[Y,if_false]
theorem Cw(t:Nat):kE t cQ.new (.slice none 0 0) (.slice none 0 0)= #[.int .i64 t,.int .i64 0,.int .i64 0,.int .i64 0,.int .i64 0,.int .i64 0,.bool false,.int .i64 0,.int .u64 0,.int .u64 0,.int .u64 0,.int .u64 0,.int .u64 0,.int .u64 0,.int .u64 0,.int .u64 0,.int .u64 0,.int .u64 0,.int .u64 0,.int .u64 0,.int .u64 0,.int .u64 0,.int .u64 0,.int .u64 0,.int .u64 0,.int .u64 0,.int .u64 0,.int .u64 0,.int .u64 0,.int .u64 0,.int .u64 0,.int .u64 0,.int .u64 0,.int .u64 0,.int .u64 0,.int .u64 0,.int .u64 0,.int .u64 0,.int .u64 0,.int .u64 0,.int .u64 0,.slice none 0 0,.slice none 0 0,.int .u64 0,.int .u64 0,.int .u64 0,.int .i64 0,.int .i64 0,.int .i64 0]:=rfl
structure pH where
 m:Nat->Int
 s:cN
 th:Nat->cQ
 tgl:Nat->Int
 steps:Nat
 hist:List (List Value)
 of:Nat->List (List Value)
 V:Nat
def yE(kind t a k v o1 o2 wn st:Int):List Value:=[.int .i64 kind,.int .i64 t,.int .i64 a,.int .i64 k,.int .i64 v,.int .i64 o1,.int .i64 o2,.int .i64 wn,.int .i64 st]
namespace pH
variable(X:pH)
def new(k:Int):pH:=⟨fun _=>0,YX (pL k) 4,fun _=>cQ.new,fun _=>0,0,[],fun _=>[],0⟩
def call(t:Nat)(a k v:Int):pH:={X with th:=jG X.th t (cQ.call a k v (1-X.tgl t) false),steps:=X.steps+1,hist:=X.hist++[yE 1 t a k v 0 0 0 (X.steps+1:Nat)]}
noncomputable def loc (t:Nat):ZV:=stp t X.m X.s (X.th t)
noncomputable def step (t:Nat):pH where
 m:=(X.loc t).m
 s:=(X.loc t).s
 th:=jG X.th t (X.loc t).t
 tgl:=if(X.loc t).fin=true then fun u=>if u=t then(X.th t).tg else X.tgl u else X.tgl
 steps:=X.steps+1
 hist:=if(X.loc t).fin=true then X.hist++[yE 2 t (X.th t).a (X.th t).k (X.th t).v (X.loc t).t.o1 (X.loc t).t.o2 (X.loc t).t.wn (X.steps+1:Nat)]else X.hist
 of:=if(X.th t).does=11 then AL X.of (X.V+1) (X.th t).deeds else X.of
 V:=if(X.th t).does=11 then X.V+1 else X.V
noncomputable def run (t:Nat):Nat->pH->pH×Nat
 |0,X=>(X,0)
 |n+1,X=>if(X.th t).does=0 then(X,0)else((run t n (X.step t)).1,(run t n (X.step t)).2+1)
def land(l:Nat):pH:={X with s:=X.s.land l}
def crash(x:Nat):pH where
 m:=kA ((X.s.crash x).now 0)
 s:=X.s.crash x
 th:=fun t=>(X.th t).fall
 tgl:=X.tgl
 steps:=X.steps+1
 hist:=X.hist++[yE 3 0 0 0 0 0 0 0 (X.steps+1:Nat)]
 of:=X.of
 V:=((X.s.crash x).now 0).toNat
end pH
structure lM (N:Nat) (X:pH):Prop where
 inv:eX X.m X.s X.th X.V
 stp:X.steps<=N
 ver:X.V<=X.steps
 fl:X.s.fl<=X.steps
 fe:X.s.fe<=X.steps
 hl:X.hist.length<=X.steps
 tg:∀t,t<4->X.tgl t=0\/X.tgl t=1
 of_:∀u,1<=u->u<=X.V->oS (X.of u)
theorem lM.mono{Z:Nat}{X:pH}(h:lM N X)(Y:N<=Z):lM Z X:=⟨h.inv,Nat.le_trans h.stp Y,h.ver,h.fl,h.fe,h.hl,h.tg,h.of_⟩
theorem Ci(X:1<=k)(W:k<=6):lM 0 (pH.new k):=⟨ZC k X W,Nat.le_refl _,Nat.le_refl _,Nat.le_refl _,Nat.le_refl _,Nat.le_refl _,fun _ _=>.inl rfl,fun u V Y=>by have Z:u<=0:=Y;omega⟩
theorem KI{X:pH}(h:lM N X)(Z:t<4)(d:(X.th t).does=0)(Y:gQ a k v):lM (N+1) (X.call t a k v):=by
 have W:=h.tg t Z;have U:=h.stp;have T:=h.ver;refine⟨TX h.inv Z d Y I,by show X.steps+1<=_;omega,by show X.V<=X.steps+1;omega,by show X.s.fl<=X.steps+1;have:=h.fl;omega,by show X.s.fe<=X.steps+1;have:=h.fe;omega,?_,h.tg,h.of_⟩;show(X.hist++[_]).length<=X.steps+1;have:=h.hl;simp;omega
theorem aAR{X:pH}(h:lM N X)(l:Nat):lM N (X.land l):=⟨aBI h.inv l,h.stp,h.ver,h.fl,h.fe,h.hl,h.tg,h.of_⟩
theorem BH{X:pH}(h:lM N X)(x:Nat):lM (N+1) (X.crash x)/\((X.crash x).V=X.V\/(X.crash x).V+1=X.V):=by
 obtain⟨Z,Y,W⟩:=aAo h.inv x;have e:(X.crash x).V=Z:=by
  show((X.s.crash x).now 0).toNat=Z;rw[Y.ver];rfl
 have S:=h.stp;have R:=h.ver;refine⟨⟨by rw[e];exact Y,by show X.steps+1<=_;omega,by rw[e];show Z<=X.steps+1;omega,by show X.s.fl<=X.steps+1;have:=h.fl;omega,by show X.s.fe<=X.steps+1;have:=h.fe;omega,?_,h.tg,fun u U T=>h.of_ u U (by rw[e]at T;omega)⟩,by rw[e];exact W⟩;show(X.hist++[_]).length<=X.steps+1;have:=h.hl;simp;omega
theorem zS(t:Nat)(m:Nat->Int)(s:cN)(Z:cQ):(stp t m s Z).s.fl<=s.fl+1/\(stp t m s Z).s.fe<=s.fe+1:=by
 unfold stp;split<;>(try split)<;>(try split)<;>first|(exact⟨Nat.le_succ _,Nat.le_succ _⟩)|(exact⟨Nat.le_refl _,Nat.le_succ _⟩)|(exact⟨Nat.le_succ _,Nat.le_refl _⟩)
theorem FY{X:pH}(h:lM N X)(W:t<4)(d:(X.th t).does≠0)(L:N<=100000000):lM (N+1) (X.step t):=by
 have P:=h.stp;have O:=h.ver;obtain⟨c1,M⟩:=zS t X.m X.s (X.th t);have S:=h.fl;have R:=h.fe;have Y:=h.inv.op t W d;refine⟨UB h.inv W d I,by show X.steps+1<=_;omega,?_,?_,?_,?_,fun u U=>?_,fun u T Q=>?_⟩
 .show(if(X.th t).does=11 then X.V+1 else X.V)<=X.steps+1;split<;>omega
 .show(stp t X.m X.s (X.th t)).s.fl<=X.steps+1;omega
 .show(stp t X.m X.s (X.th t)).s.fe<=X.steps+1;omega
 .show(if _ then _ else _:List (List Value)).length<=X.steps+1;have:=h.hl;split
  .simp;omega
  omega
 .show(if _ then _ else _:Nat->Int) u=0\/(if _ then _ else _:Nat->Int) u=1;split
  .dsimp only;by_cases e:u=t
   .rw[iP e];exact Y.2
   rw[iN e];exact h.tg u U
  exact h.tg u U
 show oS ((if(X.th t).does=11 then AL X.of (X.V+1) (X.th t).deeds else X.of) u);have Z:u<=(if(X.th t).does=11 then X.V+1 else X.V):=Q;by_cases e:(X.th t).does=11
 .rw[iP e]at Z⊢;unfold AL;split
  .exact(h.inv.deeds W e).1
  exact h.of_ u T I
 rw[iN e]at Z⊢;exact h.of_ u T Z
theorem JN{t:Nat}(Z:t<4):∀(n:Nat) {N:Nat} {X:pH},lM N X->N+n<=100000000->lM (N+n) (pH.run t n X).1/\(pH.run t n X).2<=n
 |0,N,X,h,_=>⟨h,Nat.le_refl _⟩
 |n+1,N,X,h,hN=>by
  unfold pH.run;by_cases d:(X.th t).does=0
  .rw[iP d];exact⟨h.mono I,Nat.zero_le _⟩
  .rw[iN d];have h1:=JN Z n (FY h Z d I) I;exact⟨h1.1.mono I,by show _+1<=n+1;omega⟩
structure Mv where
 kind:Int
 t:Int
 a:Int
 k:Int
 v:Int
 n:Int
 lands:Nat
def pH.callE(X:pH)(t a k v:Int):Int:=if¬(0<=t/\t<4)then 2 else if(X.th t.toNat).does≠0 then 6 else if cB a k v=false then 1 else 0
noncomputable def pH.move (X:pH) (x:Mv):pH:=
 if x.kind=1 then(if X.callE x.t x.a x.k x.v=0 then X.call x.t.toNat x.a x.k x.v else X)
 else if x.kind=2 then(if(0<=x.t/\x.t<4)/\0<=x.n/\x.n<=1000 then(pH.run x.t.toNat x.n.toNat X).1 else X)
 else if x.kind=3 then(if 0<=x.n/\x.n<9 then X.land x.n.toNat else X)
 else if x.kind=4 then X.crash x.lands else X
noncomputable def pH.play (X:pH) (l:Nat->Mv):Nat->pH
 |0=>X
 |n+1=>(X.play l n).move (l n)
theorem Ot{X:pH}{t:Int}(h:X.callE t a k v=0):0<=t/\t.toNat<4/\(X.th t.toNat).does=0/\gQ a k v:=by
 unfold pH.callE at h;split at h
 .omega
 split at h
 .omega
 split at h
 .omega
 rename_i h1 h2 h3;refine⟨I,I,I,eN.1 ?_⟩;cases hx:cB a k v
 .exact absurd hx h3
 rfl
theorem EG{X:pH}(h:lM N X)(x:Mv)(V:N+1001<=100000000):lM (N+1001) (X.move x):=by
 unfold pH.move;split
 .split
  .rename_i he;obtain⟨_,Z,Y,W⟩:=Ot he;exact(KI h Z Y W).mono I
  exact h.mono I
 split
 .split
  .rename_i he;exact(JN I _ h I).1.mono I
  exact h.mono I
 split
 .split
  .exact(aAR h _).mono I
  exact h.mono I
 split
 .exact(BH h _).1.mono I
 exact h.mono I
theorem Bw(X:pH)(t:Nat):aB (X.step t).of (X.step t).V=if(X.th t).does=11 then aB X.of X.V++(X.th t).deeds.map (fun d=>(X.V+1,d))else aB X.of X.V:=by
 show aB (if(X.th t).does=11 then AL X.of (X.V+1) (X.th t).deeds else X.of) (if(X.th t).does=11 then X.V+1 else X.V)=_;by_cases e:(X.th t).does=11
 .rw[iP e,iP e,iP e,Jz]
 rw[iN e,iN e,iN e]
theorem qK{N:Nat}{X:pH}(h:lM N X):∀V,V<=X.V->(aB X.of V).length<=4*V
 |0,_=>Nat.le_refl _
 |V+1,hV=>by
  have h1:=qK h V I;have Z:=(h.of_ (V+1) I hV).1;rw[aB,List.length_append,List.length_map];omega
def DJ(f:Nat->Nat->Int)(j:Nat):List Value:=(List.range LG.length).map fun c=>.int (LG.getD c .i64) (f j c)
def eH(f:Nat->Nat->Int)(n:Nat):List (List Value):=(List.range n).map (DJ f)
theorem pX(f:Nat->Nat->Int)(j:Nat):DJ f j=[.int .i64 (f j 0),.int .i64 (f j 1),.int .i64 (f j 2),.int .i64 (f j 3),.int .i64 (f j 4)]:=rfl
theorem oE(f:Nat->Nat->Int)(n:Nat):(eH f n).length=n:=by simp [eH]
theorem xO(f:Nat->Nat->Int)(n:Nat):∀r∈eH f n,r.length=5:=by
 intro r Z;simp only[eH,List.mem_map]at Z;obtain⟨j,_,rfl⟩:=Z;rfl
theorem AB(f:Nat->Nat->Int)(h:i<n):(eH f n)[i]? =some (DJ f i):=by simp [eH,h]
theorem pQ{f g:Nat->Nat->Int}(h:∀j,j<n->∀c,c<5->g j c=f j c):eH g n=eH f n:=by
 unfold eH;refine List.map_congr_left fun j Y=>?_
 have Z:j<n:=by simpa using Y
 rw[pX,pX,h j Z 0 I,h j Z 1 I,h j Z 2 I,h j Z 3 I,h j Z 4 I]
theorem xL(f:Nat->Nat->Int)(n:Nat):eH f (n+1)=eH f n++[DJ f n]:=by simp [eH,List.range_succ]
theorem xJ(f:Nat->Nat->Int)(n i:Nat)(h:i<n*5):(eH f n).flatten[i]? =some (.int .i64 (f (i/5) (i%5))):=by
 have Y:i/5<n:=I;have Z:=nH (xO f n) (AB f Y) (j:=i%5) I;rw[show i/5*5+i%5=i by omega]at Z;rw[Z,pX];rcases(by omega:i%5=0\/i%5=1\/i%5=2\/i%5=3\/i%5=4)with e|e|e|e|e<;>rw[e]<;>rfl
theorem cU.sets{m g c o:Nat}{Z:List (List Value)}(h:cU w B e m (some ⟨g,0,none⟩) n c rows){vs:List Value}(R:Z.length=n)(Q:∀r∈Z,r.length=m)
 (F:∀i,i<n*m->Z.flatten[i]? =if o<=i/\i<o+vs.length then vs[i-o]? else rows.flatten[i]?):cU (w.setCells g o vs) B e m (some ⟨g,0,none⟩) n c Z:=by
 have N:=fP h.each;obtain⟨E,U⟩:=h.own;rcases U with⟨U,_⟩|⟨D,L,X,P,K,H,T,S,G,O⟩
 .simp at U
 simp only[Value.slice.injEq,Option.some.injEq,Addr.mk.injEq]at P;obtain⟨⟨rfl,_,_⟩,_,rfl⟩:=P;have V:=aY.setCells (vs:=vs) (o:=o) (show aY w g e X from H);refine⟨⟨by rw[fP Q,R],.inr ⟨g,c,_,rfl,K,V,T,S,by rw[fA];exact G,?_⟩⟩,R,Q⟩;have Y:rows.flatten.length=n*m:=by rw[N,h.len]
 have M:n*m<=X.size:=by
  have:=congrArg List.length O;rw[Y,List.length_take,Array.length_toList]at this;omega
 refine List.ext_getElem? fun i=>?_
 rw[List.getElem?_take];by_cases W:i<n*m
 .rw[iP W,F i W,Array.getElem?_toList,iR _ _ _ _ I,<-O,List.getElem?_take,iP W];simp
 rw[iN W,List.getElem?_eq_none (by rw[fP Q,R];omega)]
def bI(w:World)(tag tag':Nat->Nat):Prop:=∀b,b<w.heap.size->tag' b=tag b
theorem bI.refl(w:World)(tag:Nat->Nat):bI w tag tag:=fun _ _=>rfl
theorem bI.trans{Z:Nat->Nat}(h:bI w tag tag')(X:bI w' tag' Z)(W:w.heap.size<=w'):bI w tag Z:=fun b Y=>(X b (Nat.lt_of_lt_of_le Y W)).trans (h b Y)
def cG(w:World)(tag:Nat->Nat)(k:Nat)(b:Nat):Nat:=if b<w then tag b else k
theorem cO(w:World)(tag:Nat->Nat)(k:Nat):bI w tag (cG w tag k):=fun b Z=>iP Z
theorem dT(w:World)(tag:Nat->Nat)(k:Nat)(h:w<=b):cG w tag k b=k:=iN I
def fE(w:World)(tag:Nat->Nat)(m:Nat->Int)(gm:Nat):Prop:=tag gm=1/\∃E,aY w gm 34 E/\cH E 16 m
def iQ(w:World)(tag:Nat->Nat)(s:cN)(gs:Nat):Prop:=tag gs=2/\aY w gs 123 (nI s)
structure gJ (w:World) (tag:Nat->Nat) (t:Nat) (Z:cQ) (gw:Nat) (A:Option Addr) (ca:Nat) (D:Option Addr) (cd:Nat):Prop where
 blk:aY w gw 46 (kE t Z (.slice A Z.na ca) (.slice D Z.deeds.length cd))
 asks:cU w 0 181 5 A Z.na ca (eH Z.asks Z.na)
 deeds:cU w 0 159 6 D Z.deeds.length cd Z.deeds
 tg:tag gw=10+t
 tA:∀b,iI A b->tag b=20+t
 tD:∀b,iI D b->tag b=30+t
section
variable{w w':World}{tag tag':Nat->Nat}{S:Nat->Prop}
theorem fE.kept{Z:Nat}(h:fE w tag m Z)(V:aD S w w')(U:bI w tag tag')(T:∀b,S b->tag b≠1):fE w' tag' m Z:=by
 obtain⟨X,E,Y,W⟩:=h;exact⟨(U Z Y.lt).trans X,E,(V.block Z Y.lt fun e=>T Z e X).trans Y,W⟩
theorem iQ.kept{s:cN}{Z:Nat}(h:iQ w tag s Z)(W:aD S w w')(V:bI w tag tag')(U:∀b,S b->tag b≠2):iQ w' tag' s Z:=by
 obtain⟨X,Y⟩:=h;exact⟨(V Z Y.lt).trans X,(W.block Z Y.lt fun e=>U Z e X).trans Y⟩
theorem cU.keptT{m:Nat}{c k:Nat}(h:cU w B e m A n c rows)(Y:aD S w w')(X:∀b,iI A b->tag b=k)(W:∀b,S b->tag b≠k):cU w' B e m A n c rows:=
 h.kept Y fun a Z e=>W a.block e (X a.block ⟨a,Z,rfl⟩)
theorem cU.tagT{m:Nat}{c k:Nat}(h:cU w B e m A n c rows)(Y:bI w tag tag')(X:∀b,iI A b->tag b=k):∀b,iI A b->tag' b=k:=by
 rintro b ⟨a,Z,rfl⟩;exact(Y _ (h.lt a Z).2).trans (X _ ⟨a,Z,rfl⟩)
variable{t:Nat}{Z:cQ}{gw:Nat}{A:Option Addr}{ca:Nat}{D:Option Addr}{cd:Nat}
theorem gJ.kept(h:gJ w tag t Z gw A ca D cd)(Y:aD S w w')(X:bI w tag tag')(W:∀b,S b->tag b≠10+t)(V:∀b,S b->tag b≠20+t)(U:∀b,S b->tag b≠30+t):gJ w' tag' t Z gw A ca D cd:=
 ⟨(Y.block gw h.blk.lt fun e=>W gw e h.tg).trans h.blk,h.asks.keptT Y h.tA V,h.deeds.keptT Y h.tD U,(X gw h.blk.lt).trans h.tg,h.asks.tagT X h.tA,h.deeds.tagT X h.tD⟩
theorem gJ.neA(h:gJ w tag t Z gw A ca D cd):¬iI A gw:=fun e=>by have:=h.tA gw e;rw[h.tg]at this;omega
end
def rW(tag:Nat->Nat)(t:Nat)(b:Nat):Prop:=tag b=1\/tag b=2\/tag b=10+t\/tag b=20+t
def iZ(w:World)(tag:Nat->Nat)(t gw gm gs:Nat)(L:ZV)(w':World):Prop:=
 ∃tag' A ca D cd,bI w tag tag'/\aD (rW tag t) w w'/\fE w' tag' L.m gm/\iQ w' tag' L.s gs/\gJ w' tag' t L.t gw A ca D cd
theorem mS{Y:Nat}{Z:cQ}{A D:Value}(h:aY w Y 46 (kE t Z A D))(i:Nat)(X:i<49):w.cell? (Y,i)=(zI t Z A D i):=by rw[h.cell,LJ _ _ _ _ X]
structure WS (w0 w:World) (tag:Nat->Nat) (t:Nat) (Z:cQ) (gw:Nat) (A:Option Addr) (ca:Nat) (D:Option Addr) (cd:Nat) (m:Nat->Int) (gm:Nat) (s:cN) (gs:Nat):Prop where
 wk:gJ w tag t Z gw A ca D cd
 ram:fE w tag m gm
 st:iQ w tag s gs
 k:aD (rW tag t) w0 w
section
variable{w0 w w':World}{tag:Nat->Nat}{t:Nat}{Z:cQ}{gw:Nat}{A:Option Addr}{ca:Nat}{D:Option Addr}{cd:Nat}{m:Nat->Int}{gm:Nat}{s:cN}{gs:Nat}
theorem WS.start(Y:gJ w tag t Z gw A ca D cd)(X:fE w tag m gm)(W:iQ w tag s gs):WS w w tag t Z gw A ca D cd m gm s gs:=⟨Y,X,W,aD.refl _ _⟩
theorem WS.below(h:WS w0 w tag t Z gw A ca D cd m gm s gs)(X:Below w w w'):WS w0 w' tag t Z gw A ca D cd m gm s gs:=
 have Y:aD bN w w':=aD.of_same X
 ⟨h.wk.kept Y (bI.refl _ _) (fun _ x=>x.elim) (fun _ x=>x.elim) (fun _ x=>x.elim),h.ram.kept Y (bI.refl _ _) (fun _ x=>x.elim),h.st.kept Y (bI.refl _ _) (fun _ x=>x.elim),h.k.trans (aD.of_same X)⟩
theorem WS.c(h:WS w0 w tag t Z gw A ca D cd m gm s gs)(i:Nat)(Y:i<49):w.cell? (gw,i)=(zI t Z (.slice A Z.na ca) (.slice D Z.deeds.length cd) i):=mS h.wk.blk i Y
theorem WS.f(h:WS w0 w tag t Z gw A ca D cd m gm s gs)(i:Nat):w.frozen? ⟨gw,i,none⟩=false:=h.wk.blk.frozen i
theorem WS.lt(h:WS w0 w tag t Z gw A ca D cd m gm s gs):gw<w:=h.wk.blk.lt
theorem WS.own(h:WS w0 w tag t Z gw A ca D cd m gm s gs){Z':cQ}{v:Value}(e:(kE t Z (.slice A Z.na ca) (.slice D Z.deeds.length cd)).setIfInBounds i v=kE t Z' (.slice A Z.na ca) (.slice D Z.deeds.length cd))
 (T:Z'.asks=Z.asks) (V:Z'.na=Z.na) (U:Z'.deeds=Z.deeds):WS w0 (w.setCell (gw,i) v) tag t Z' gw A ca D cd m gm s gs:=by
 have X:=bP w gw i v;have W:∀b,cI gw b->tag b=10+t:=fun b Y=>by rw[show b=gw from Y];exact h.wk.tg
 refine⟨⟨?_,?_,?_,h.wk.tg,h.wk.tA,h.wk.tD⟩,h.ram.kept X (bI.refl _ _) (fun b Y=>by rw[W b Y];omega),h.st.kept X (bI.refl _ _) (fun b Y=>by rw[W b Y];omega),h.k.setCell (p:=⟨gw,i,none⟩) (.inl (.inr (.inr (.inl h.wk.tg)))) v⟩
 .rw[V,U,<-e];exact h.wk.blk.set_ i v
 .rw[V,T];exact h.wk.asks.keptT X h.wk.tA (fun b Y=>by rw[W b Y];omega)
 rw[U];exact h.wk.deeds.keptT X h.wk.tD (fun b Y=>by rw[W b Y];omega)
theorem WS.owns(h:WS w0 w tag t Z gw A ca D cd m gm s gs){Z':cQ}{vs:List Value}(e:fF (kE t Z (.slice A Z.na ca) (.slice D Z.deeds.length cd)) i vs=kE t Z' (.slice A Z.na ca) (.slice D Z.deeds.length cd))
 (T:Z'.asks=Z.asks) (V:Z'.na=Z.na) (U:Z'.deeds=Z.deeds):WS w0 (w.setCells gw i vs) tag t Z' gw A ca D cd m gm s gs:=by
 have X:aD (cI gw) w (w.setCells gw i vs):=cE (S:=cI gw) (.inl rfl) i vs;have W:∀b,cI gw b->tag b=10+t:=fun b Y=>by rw[show b=gw from Y];exact h.wk.tg
 refine⟨⟨?_,?_,?_,h.wk.tg,h.wk.tA,h.wk.tD⟩,h.ram.kept X (bI.refl _ _) (fun b Y=>by rw[W b Y];omega),h.st.kept X (bI.refl _ _) (fun b Y=>by rw[W b Y];omega),h.k.trans (X.mono fun b Y=>.inr (.inr (.inl (W b Y))))⟩
 .rw[V,U,<-e];exact aY.setCells h.wk.blk
 .rw[V,T];exact h.wk.asks.keptT X h.wk.tA (fun b Y=>by rw[W b Y];omega)
 rw[U];exact h.wk.deeds.keptT X h.wk.tD (fun b Y=>by rw[W b Y];omega)
theorem WS.does(h:WS w0 w tag t Z gw A ca D cd m gm s gs)(d:Nat):WS w0 (w.setCell (gw,1) d) tag t (Z.go d) gw A ca D cd m gm s gs:=h.own (wE _ _ _ _ d) rfl rfl rfl
theorem WS.ram_(h:WS w0 w tag t Z gw A ca D cd m gm s gs)(R:i<16)(S:0<=x/\x<18446744073709551616):WS w0 (w.setCell (gm,i) [x]) tag t Z gw A ca D cd (eI m i x) gm s gs:=by
 obtain⟨W,E,U,T⟩:=h.ram;have V:=bP w gm i [x];have X:∀b,cI gm b->tag b=1:=fun b Y=>by rw[show b=gm from Y];exact W
 exact⟨h.wk.kept V (bI.refl _ _) (fun b Y=>by rw[X b Y];omega) (fun b Y=>by rw[X b Y];omega) (fun b Y=>by rw[X b Y];omega),⟨W,_,U.set_ i _,T.set_ S⟩,h.st.kept V (bI.refl _ _) (fun b Y=>by rw[X b Y];omega),h.k.setCell (p:=⟨gm,i,none⟩) (.inl (.inl W)) _⟩
theorem WS.store(h:WS w0 w tag t Z gw A ca D cd m gm s gs){s':cN}(Y:aY w' gs 123 (nI s'))(W:aD (nQ gs) w w'):WS w0 w' tag t Z gw A ca D cd m gm s' gs:=by
 have V:=h.st.1;have X:∀b,nQ gs b->tag b=2:=fun b Y=>by rw[show b=gs from Y];exact V
 exact⟨h.wk.kept W (bI.refl _ _) (fun b Y=>by rw[X b Y];omega) (fun b Y=>by rw[X b Y];omega) (fun b Y=>by rw[X b Y];omega),h.ram.kept W (bI.refl _ _) (fun b Y=>by rw[X b Y];omega),⟨V,Y⟩,h.k.trans (W.mono fun b Y=>.inr (.inl (X b Y)))⟩
theorem aD.retag{k:Nat}(X:bI w0 tag tag')(h:aD (rW tag k) w0 w):aD (rW tag' k) w0 w:=
 ⟨h.os,h.tape,h.output,h.size,fun b Z Y=>h.block b Z fun x=>Y (by unfold rW at x⊢;rw[X b Z];exact x)⟩
theorem bI.symm_(Y:bI w0 tag tag'):bI w0 tag' tag:=fun b Z=>(Y b Z).symm
theorem WS.outT(h:WS w0 w tag t Z gw A ca D cd m gm s gs){Y:Nat->Nat}(X:bI w0 Y tag)(fin:Bool):iZ w0 Y t gw gm gs ⟨m,s,Z,fin⟩ w:=
 ⟨tag,A,ca,D,cd,X,h.k.retag X.symm_,h.ram,h.st,h.wk⟩
theorem WS.out(h:WS w0 w tag t Z gw A ca D cd m gm s gs)(fin:Bool):iZ w0 tag t gw gm gs ⟨m,s,Z,fin⟩ w:=
 ⟨tag,A,ca,D,cd,bI.refl _ _,h.k,h.ram,h.st,h.wk⟩
end
def fv(N:Nat)(caps:Array Value):Value:=.func (.func N) #[] caps
def td(k:Nat)(f:Value):List Value:=[.int .i64 (k:Int),f]
def vN(t:Nat)(Z:cQ)(last:Int)(R D:Value)(ended:Bool):Array Value:=
 #[t,R,Z.a,Z.k,Z.v,Z.tg,last,Z.said,Z.o1,Z.o2,Z.wn,D,ended]
def As(gs:Nat)(m:Nat->Int)(pt:Nat->Nat)(st:Int)(E O:Value)(i:Nat):Value:=
 if i=0 then cR gs else if i<17 then .int .u64 (m (i-1))else if i<21 then cR (pt (i-17))else if i=21 then .int .i64 st else if i=22 then E else O
def yJ(gs:Nat)(m:Nat->Int)(pt:Nat->Nat)(st:Int)(E O:Value):Array Value:=jM 24 (As gs m pt st E O)
theorem Cv(Z:Nat)(m:Nat->Int)(Y:Nat->Nat)(X:Int)(E O:Value):(yJ Z m Y X E O).size=24:=dJ
section
variable(gs:Nat)(m:Nat->Int)(pt:Nat->Nat)(st:Int)(E O:Value)
theorem Dq:(yJ gs m pt st E O)[0]? =some (cR gs):=by rw[yJ,cW I];rfl
theorem YN(h:i<16):(yJ gs m pt st E O)[1+i]? =some (.int .u64 (m i)):=by
 rw[yJ,cW I,As,iN I,iP I,show 1+i-1=i by omega]
theorem BN(h:t<4):(yJ gs m pt st E O)[17+t]? =some (cR (pt t)):=by
 rw[yJ,cW I,As,iN I,iN I,iP I,show 17+t-17=t by omega]
theorem xD:(yJ gs m pt st E O)[21]? =some (.int .i64 st):=by rw[yJ,cW I];rfl
theorem QW:(yJ gs m pt st E O)[22]? =some E:=by rw[yJ,cW I];rfl
theorem Bl:(yJ gs m pt st E O)[23]? =some O:=by rw[yJ,cW I];rfl
theorem IC{k:Nat}(W:k<16)(x:Int):(yJ gs m pt st E O).setIfInBounds (1+k) [x]=yJ gs (eI m k x) pt st E O:=dP fun j X=>by
 unfold As eI;by_cases e:j=1+k
 .subst e;rw[iP rfl,iN I,iP I,iP I]
 rw[iN e];by_cases Y:j=0
 .rw[iP Y,iP Y]
 rw[iN Y,iN Y];by_cases Z:j<17
 .rw[iP Z,iP Z,iN I]
 rw[iN Z,iN Z]
theorem LW(x:Int):(yJ gs m pt st E O).setIfInBounds 21 x=yJ gs m pt x E O:=dP fun j Z=>by
 by_cases e:j=21
 .subst e;rfl
 rw[iN e];unfold As;simp only[e,if_false]
theorem ND(x:Value):(yJ gs m pt st E O).setIfInBounds 22 x=yJ gs m pt st x O:=dP fun j Z=>by
 by_cases e:j=22
 .subst e;rfl
 rw[iN e];unfold As;simp only[e,if_false]
end
structure mG where
 p:Nat
 q:Nat
 v:Nat
 l:Nat
 w:Nat
 g:Nat
 a:Nat
 n:Nat
def mG.W(e:mG):Value:=.slice (some ⟨e.w,0,none⟩) 32 32
inductive Cl where
 |says1|says2|lock|which|copy (i:Nat)|asks (i:Nat)|fetch (i:Nat) (g:Int)|write (V i:Nat)|wish (V i:Nat)|firm|index (V:Nat)|wish2|firm2|tell (V:Nat)|unlock|reply|look1|look2|look3|look4|look5
def RO(w:World)(tag:Nat->Nat)(b:Nat)(ty:TypeId)(v:Value):Prop:=tag b=106/\aY w b ty #[v]
section
variable(w:World)(tag:Nat->Nat)(e:mG)
def yK(b:Nat):Prop:=RO w tag b 47 (cR e.p)
def FH(b:Nat):Prop:=RO w tag b 63 (cR e.q)
def Eh(b i:Nat):Prop:=RO w tag b 3 i
def Ch(b:Nat)(x:Int):Prop:=RO w tag b 23 [x]
def Dp(b:Nat):Prop:=RO w tag b 91 e.W
def Fu(b:Nat):Prop:=RO w tag b 248 (cR e.l)
def Fx(b:Nat):Prop:=RO w tag b 249 (cR e.v)
def Cl.At:Cl->List Value->Prop
 |.says1,r=>∃bq bp,r=td 1 (fv 115 #[cR bq,cR bp])/\FH w tag e bq/\yK w tag e bp
 |.says2,r=>∃bq bp,r=td 2 (fv 117 #[cR bq,cR bp])/\FH w tag e bq/\yK w tag e bp
 |.lock,r=>∃bp bq,r=td 3 (fv 126 #[cR bp,cR bq])/\yK w tag e bp/\FH w tag e bq
 |.which,r=>∃bp,r=td 4 (fv 137 #[cR bp,cR e.v])/\yK w tag e bp
 |.copy i,r=>∃bp bi bw bq,r=td 5 (fv 138 #[cR bp,cR e.v,cR bi,cR bw,cR bq,cR e.l])/\yK w tag e bp/\Eh w tag bi i/\Dp w tag e bw/\FH w tag e bq
 |.asks i,r=>∃bp bi bw bq bl bv,r=td 6 (fv 152 #[cR bp,cR bi,cR bw,cR bq,cR bl,cR bv])/\yK w tag e bp/\Eh w tag bi i/\Dp w tag e bw/\FH w tag e bq/\Fu w tag e bl/\Fx w tag e bv
 |.fetch i g,r=>∃bp bi bl bg bq bw bv,r=td 7 (fv 153 #[cR bp,cR bi,cR bl,cR bg,cR bq,cR bw,cR bv])/\yK w tag e bp/\Eh w tag bi i/\Fu w tag e bl/\Ch w tag bg g/\FH w tag e bq/\Dp w tag e bw/\Fx w tag e bv
 |.write V i,r=>∃bw bi bp bv,r=td 8 (fv 171 #[cR bw,cR bi,cR bp,cR bv])/\Dp w tag e bw/\Eh w tag bi i/\yK w tag e bp/\Ch w tag bv V
 |.wish V i,r=>∃bp bq bv bi,r=td 9 (fv 172 #[cR bp,cR bq,cR bv,cR bi])/\yK w tag e bp/\FH w tag e bq/\Ch w tag bv V/\Eh w tag bi i
 |.firm,r=>∃bp bq,r=td 10 (fv 174 #[cR bp,cR bq])/\yK w tag e bp/\FH w tag e bq
 |.index V,r=>∃bv bp bq,r=td 11 (fv 176 #[cR bv,cR bp,cR bq])/\Ch w tag bv V/\yK w tag e bp/\FH w tag e bq
 |.wish2,r=>∃bp bq,r=td 12 (fv 177 #[cR bp,cR bq])/\yK w tag e bp/\FH w tag e bq
 |.firm2,r=>∃bp bq,r=td 13 (fv 178 #[cR bp,cR bq])/\yK w tag e bp/\FH w tag e bq
 |.tell V,r=>∃bv bp,r=td 14 (fv 179 #[cR bv,cR bp])/\Ch w tag bv V/\yK w tag e bp
 |.unlock,r=>∃bp,r=td 15 (fv 180 #[cR bp])/\yK w tag e bp
 |.reply,r=>∃bq,r=td 16 (fv 181 #[cR bq])/\FH w tag e bq
 |.look1,r=>∃bp,r=td 17 (fv 108 #[cR bp,cR e.v])/\yK w tag e bp
 |.look2,r=>∃bp,r=td 18 (fv 109 #[cR bp,cR e.v,cR e.g])/\yK w tag e bp
 |.look3,r=>∃bp bq,r=td 19 (fv 110 #[cR bp,cR e.v,cR bq,cR e.a])/\yK w tag e bp/\FH w tag e bq
 |.look4,r=>∃bp bq,r=td 20 (fv 111 #[cR bp,cR e.v,cR bq,cR e.n])/\yK w tag e bp/\FH w tag e bq
 |.look5,r=>∃bp bq,r=td 21 (fv 112 #[cR bp,cR e.v,cR e.g,cR bq,cR e.a,cR e.n])/\yK w tag e bp/\FH w tag e bq
end
def Cl.step:Cl->Nat
 |.says1=>1|.says2=>2|.lock=>3|.which=>4|.copy _=>5|.asks _=>6|.fetch _ _=>7|.write _ _=>8|.wish _ _=>9|.firm=>10|.index _=>11|.wish2=>12|.firm2=>13|.tell _=>14|.unlock=>15|.reply=>16|.look1=>17|.look2=>18|.look3=>19|.look4=>20|.look5=>21
theorem Cl.At.name{e:mG}{c:Cl}{r:List Value}(h:c.At w tag e r):∃f Z,r=td c.step (fv f Z):=by
 cases c<;>unfold Cl.At at h
 case says1=>obtain⟨a,b,h,_⟩:=h;exact⟨_,_,h⟩
 case says2=>obtain⟨a,b,h,_⟩:=h;exact⟨_,_,h⟩
 case lock=>obtain⟨a,b,h,_⟩:=h;exact⟨_,_,h⟩
 case which=>obtain⟨a,h,_⟩:=h;exact⟨_,_,h⟩
 case copy=>obtain⟨a,b,c,d,h,_⟩:=h;exact⟨_,_,h⟩
 case asks=>obtain⟨a,b,c,d,x,y,h,_⟩:=h;exact⟨_,_,h⟩
 case fetch=>obtain⟨a,b,c,d,x,y,z,h,_⟩:=h;exact⟨_,_,h⟩
 case write=>obtain⟨a,b,c,d,h,_⟩:=h;exact⟨_,_,h⟩
 case wish=>obtain⟨a,b,c,d,h,_⟩:=h;exact⟨_,_,h⟩
 case firm=>obtain⟨a,b,h,_⟩:=h;exact⟨_,_,h⟩
 case index=>obtain⟨a,b,c,h,_⟩:=h;exact⟨_,_,h⟩
 case wish2=>obtain⟨a,b,h,_⟩:=h;exact⟨_,_,h⟩
 case firm2=>obtain⟨a,b,h,_⟩:=h;exact⟨_,_,h⟩
 case tell=>obtain⟨a,b,h,_⟩:=h;exact⟨_,_,h⟩
 case unlock=>obtain⟨a,h,_⟩:=h;exact⟨_,_,h⟩
 case reply=>obtain⟨a,h,_⟩:=h;exact⟨_,_,h⟩
 case look1=>obtain⟨a,h,_⟩:=h;exact⟨_,_,h⟩
 case look2=>obtain⟨a,h,_⟩:=h;exact⟨_,_,h⟩
 case look3=>obtain⟨a,b,h,_⟩:=h;exact⟨_,_,h⟩
 case look4=>obtain⟨a,b,h,_⟩:=h;exact⟨_,_,h⟩
 case look5=>obtain⟨a,b,h,_⟩:=h;exact⟨_,_,h⟩
section
variable{w w':World}{tag tag':Nat->Nat}{S:Nat->Prop}{e:mG}
theorem RO.kept{ty:TypeId}{v:Value}(h:RO w tag b ty v)(Z:aD S w w')(Y:bI w tag tag')(X:∀b,S b->tag b≠106):RO w' tag' b ty v:=
 ⟨(Y b h.2.lt).trans h.1,(Z.block b h.2.lt fun x=>X b x h.1).trans h.2⟩
theorem RO.cell{ty:TypeId}{v:Value}(h:RO w tag b ty v):w.cell? (b,0)=v:=by rw[h.2.cell];rfl
theorem Cl.At.kept{c:Cl}{r:List Value}(h:c.At w tag e r)(R:aD S w w')(Q:bI w tag tag')(P:∀b,S b->tag b≠106):c.At w' tag' e r:=by
 have K:∀{b ty v},RO w tag b ty v->RO w' tag' b ty v:=fun h=>h.kept R Q P
 cases c<;>unfold Cl.At at h⊢
 case says1=>obtain⟨a,b,h,Z,Y⟩:=h;exact⟨a,b,h,K Z,K Y⟩
 case says2=>obtain⟨a,b,h,Z,Y⟩:=h;exact⟨a,b,h,K Z,K Y⟩
 case lock=>obtain⟨a,b,h,Z,Y⟩:=h;exact⟨a,b,h,K Z,K Y⟩
 case which=>obtain⟨a,h,Z⟩:=h;exact⟨a,h,K Z⟩
 case copy=>obtain⟨a,b,c,d,h,Z,Y,X,W⟩:=h;exact⟨a,b,c,d,h,K Z,K Y,K X,K W⟩
 case asks=>obtain⟨a,b,c,d,x,y,h,Z,Y,X,W,V,U⟩:=h;exact⟨a,b,c,d,x,y,h,K Z,K Y,K X,K W,K V,K U⟩
 case fetch=>obtain⟨a,b,c,d,x,y,z,h,Z,Y,X,W,V,U,T⟩:=h;exact⟨a,b,c,d,x,y,z,h,K Z,K Y,K X,K W,K V,K U,K T⟩
 case write=>obtain⟨a,b,c,d,h,Z,Y,X,W⟩:=h;exact⟨a,b,c,d,h,K Z,K Y,K X,K W⟩
 case wish=>obtain⟨a,b,c,d,h,Z,Y,X,W⟩:=h;exact⟨a,b,c,d,h,K Z,K Y,K X,K W⟩
 case firm=>obtain⟨a,b,h,Z,Y⟩:=h;exact⟨a,b,h,K Z,K Y⟩
 case index=>obtain⟨a,b,c,h,Z,Y,X⟩:=h;exact⟨a,b,c,h,K Z,K Y,K X⟩
 case wish2=>obtain⟨a,b,h,Z,Y⟩:=h;exact⟨a,b,h,K Z,K Y⟩
 case firm2=>obtain⟨a,b,h,Z,Y⟩:=h;exact⟨a,b,h,K Z,K Y⟩
 case tell=>obtain⟨a,b,h,Z,Y⟩:=h;exact⟨a,b,h,K Z,K Y⟩
 case unlock=>obtain⟨a,h,Z⟩:=h;exact⟨a,h,K Z⟩
 case reply=>obtain⟨a,h,Z⟩:=h;exact⟨a,h,K Z⟩
 case look1=>obtain⟨a,h,Z⟩:=h;exact⟨a,h,K Z⟩
 case look2=>obtain⟨a,h,Z⟩:=h;exact⟨a,h,K Z⟩
 case look3=>obtain⟨a,b,h,Z,Y⟩:=h;exact⟨a,b,h,K Z,K Y⟩
 case look4=>obtain⟨a,b,h,Z,Y⟩:=h;exact⟨a,b,h,K Z,K Y⟩
 case look5=>obtain⟨a,b,h,Z,Y⟩:=h;exact⟨a,b,h,K Z,K Y⟩
end
def dD(w:World)(tag:Nat->Nat)(e:mG):List Cl->List (List Value)->Prop
 |[],[]=>True
 |c::cs,r::rs=>c.At w tag e r/\dD w tag e cs rs
 |_,_=>False
theorem dD.kept{S:Nat->Prop}{e:mG}:∀{cs:List Cl} {rs:List (List Value)},dD w tag e cs rs->aD S w w'->bI w tag tag'->(∀b,S b->tag b≠106)->dD w' tag' e cs rs
 |[],[],_,_,_,_=>trivial
 |_::_,_::_,h,hk,ht,hS=>⟨h.1.kept hk ht hS,dD.kept h.2 hk ht hS⟩
theorem dD.add{e:mG}{c:Cl}{r:List Value}(h2:c.At w tag e r):∀{cs:List Cl} {rs:List (List Value)},dD w tag e cs rs->dD w tag e (cs++[c]) (rs++[r])
 |[],[],_=>⟨h2,trivial⟩
 |_::_,_::_,h=>⟨h.1,dD.add h2 h.2⟩
theorem dD.len{e:mG}:∀{cs:List Cl} {rs:List (List Value)},dD w tag e cs rs->rs.length=cs.length
 |[],[],_=>rfl
 |_::_,_::_,h=>by simp [dD.len h.2]
def kG(i:Nat):List Cl:=(List.range (32-i)).map fun j=>.copy (i+j)
def qI(V:Nat):List Cl:=[.firm,.index V,.wish2,.firm2,.tell V,.unlock,.reply]
def jP(V i:Nat):List Cl:=(List.range (4-i)).map fun j=>.wish V (i+j)
def kB(V i:Nat):List Cl:=(List.range (32-i)).map fun j=>.write V (i+j)
theorem rH{α:Type}(f:Nat->α)(h:i<n):(List.range (n-i)).map (fun j=>f (i+j))=f i::(List.range (n-(i+1))).map (fun j=>f (i+1+j)):=by
 rw[show n-i=n-(i+1)+1 by omega,List.range_succ_eq_map,List.map_cons,List.map_map];congr 1;refine List.map_congr_left fun j _=>?_
 show f (i+(j+1))=f (i+1+j);congr 1;omega
theorem uT(h:i<32):kG i=.copy i::kG (i+1):=rH Cl.copy h
theorem uV(V:Nat)(h:i<4):jP V i=.wish V i::jP V (i+1):=rH (Cl.wish V) h
theorem uR(V:Nat)(h:i<32):kB V i=.write V i::kB V (i+1):=rH (Cl.write V) h
def gF(Z:cQ):List Cl:=
 match Z.does with
 |1=>[.says1,.says2,.lock]
 |2=>[.says2,.lock]
 |3=>[.lock]
 |4=>.which::kG 0
 |5=>kG Z.i
 |6=>[.asks Z.i]
 |7=>[.fetch Z.i (Z.asks (Z.na-1) 1+1)]
 |8=>kB (Z.ver+1) Z.i++(jP (Z.ver+1) 0++qI (Z.ver+1))
 |9=>jP (Z.ver+1) Z.i++qI (Z.ver+1)
 |10=>qI (Z.ver+1)
 |11=>[.index (Z.ver+1),.wish2,.firm2,.tell (Z.ver+1),.unlock,.reply]
 |12=>[.wish2,.firm2,.tell (Z.ver+1),.unlock,.reply]
 |13=>[.firm2,.tell (Z.ver+1),.unlock,.reply]
 |14=>[.tell (Z.ver+1),.unlock,.reply]
 |15=>[.unlock,.reply]
 |16=>[.reply]
 |17=>[.look1,.look2,.look3,.look4,.look5]
 |18=>[.look2,.look3,.look4,.look5]
 |19=>[.look3,.look4,.look5]
 |20=>[.look4,.look5]
 |21=>[.look5]
 |_=>[]
def oM(w:World)(tag:Nat->Nat)(b k:Nat)(x:Int):Prop:=tag b=k/\aY w b 23 #[[x]]
def rN(w:World)(tag:Nat->Nat)(t b:Nat)(rows:List (List Value)):Prop:=tag b=140+t/\∃A c,aY w b 246 #[.slice A rows.length c]/\cU w 0 278 5 A rows.length c rows/\∀b,iI A b->tag b=160+t
def lF(w:World)(tag:Nat->Nat)(t b:Nat)(z:Nat->Int):Prop:=tag b=150+t/\∃E,aY w b 23 E/\cH E 32 z
def iF(w:World)(tag:Nat->Nat)(t:Nat)(Z:cQ)(e:mG):Prop:=
 match Z.does with
 |4=>oM w tag e.v (130+t) 0/\rN w tag t e.l []/\lF w tag t e.w fun _=>0
 |5=>oM w tag e.v (130+t) Z.ver/\rN w tag t e.l []/\∃z,lF w tag t e.w z/\∀j,j<Z.i->z j=Z.r j
 |6=>oM w tag e.v (130+t) Z.ver/\rN w tag t e.l (eH Z.asks Z.na)/\lF w tag t e.w Z.r
 |7=>oM w tag e.v (130+t) Z.ver/\rN w tag t e.l (eH Z.asks (Z.na-1))/\lF w tag t e.w Z.r
 |8=>lF w tag t e.w Z.r
 |17=>oM w tag e.v (130+t) 0/\oM w tag e.g (170+t) 0/\oM w tag e.a (180+t) 0/\oM w tag e.n (190+t) 0
 |18=>oM w tag e.v (130+t) Z.ver/\oM w tag e.g (170+t) 0/\oM w tag e.a (180+t) 0/\oM w tag e.n (190+t) 0
 |19=>oM w tag e.v (130+t) Z.ver/\oM w tag e.g (170+t) (Z.seen 0)/\oM w tag e.a (180+t) 0/\oM w tag e.n (190+t) 0
 |20=>oM w tag e.v (130+t) Z.ver/\oM w tag e.g (170+t) (Z.seen 0)/\oM w tag e.a (180+t) (Z.seen 1)/\oM w tag e.n (190+t) 0
 |21=>oM w tag e.v (130+t) Z.ver/\oM w tag e.g (170+t) (Z.seen 0)/\oM w tag e.a (180+t) (Z.seen 1)/\oM w tag e.n (190+t) (Z.seen 2)
 |_=>True
section
variable{w w':World}{tag tag':Nat->Nat}{S:Nat->Prop}
theorem oM.kept{k:Nat}(h:oM w tag b k x)(Z:aD S w w')(Y:bI w tag tag')(X:∀b,S b->tag b≠k):oM w' tag' b k x:=
 ⟨(Y b h.2.lt).trans h.1,(Z.block b h.2.lt fun z=>X b z h.1).trans h.2⟩
theorem rN.kept(h:rN w tag t b rows)(V:aD S w w')(U:bI w tag tag')(T:∀b,S b->tag b≠140+t/\tag b≠160+t):rN w' tag' t b rows:=by
 obtain⟨Y,A,c,Z,X,W⟩:=h;exact⟨(U b Z.lt).trans Y,A,c,(V.block b Z.lt fun z=>(T b z).1 Y).trans Z,X.keptT V W (fun b z=>(T b z).2),X.tagT U W⟩
theorem lF.kept(h:lF w tag t b z)(W:aD S w w')(V:bI w tag tag')(U:∀b,S b->tag b≠150+t):lF w' tag' t b z:=by
 obtain⟨Y,E,Z,X⟩:=h;exact⟨(V b Z.lt).trans Y,E,(W.block b Z.lt fun z=>U b z Y).trans Z,X⟩
def ZP(S:Nat->Prop)(tag:Nat->Nat)(t:Nat):Prop:=∀b,S b->tag b≠106/\tag b≠105/\tag b≠110+t/\tag b≠120+t/\tag b≠130+t/\tag b≠140+t/\tag b≠150+t/\tag b≠160+t/\tag b≠170+t/\tag b≠180+t/\tag b≠190+t
theorem iF.kept{Z:cQ}{e:mG}(h:iF w tag t Z e)(Y:aD S w w')(X:bI w tag tag')(P:ZP S tag t):iF w' tag' t Z e:=by
 have W:∀b,S b->tag b≠130+t:=fun b z=>(P b z).2.2.2.2.1
 have Q:∀b,S b->tag b≠140+t/\tag b≠160+t:=fun b z=>⟨(P b z).2.2.2.2.2.1,(P b z).2.2.2.2.2.2.2.1⟩
 have V:∀b,S b->tag b≠150+t:=fun b z=>(P b z).2.2.2.2.2.2.1
 have U:∀b,S b->tag b≠170+t:=fun b z=>(P b z).2.2.2.2.2.2.2.2.1
 have T:∀b,S b->tag b≠180+t:=fun b z=>(P b z).2.2.2.2.2.2.2.2.2.1
 have R:∀b,S b->tag b≠190+t:=fun b z=>(P b z).2.2.2.2.2.2.2.2.2.2
 unfold iF at h⊢;split at h
 .exact⟨h.1.kept Y X W,h.2.1.kept Y X Q,h.2.2.kept Y X V⟩
 .obtain⟨h1,h2,z,h3,h4⟩:=h;exact⟨h1.kept Y X W,h2.kept Y X Q,z,h3.kept Y X V,h4⟩
 .exact⟨h.1.kept Y X W,h.2.1.kept Y X Q,h.2.2.kept Y X V⟩
 .exact⟨h.1.kept Y X W,h.2.1.kept Y X Q,h.2.2.kept Y X V⟩
 .exact h.kept Y X V
 .exact⟨h.1.kept Y X W,h.2.1.kept Y X U,h.2.2.1.kept Y X T,h.2.2.2.kept Y X R⟩
 .exact⟨h.1.kept Y X W,h.2.1.kept Y X U,h.2.2.1.kept Y X T,h.2.2.2.kept Y X R⟩
 .exact⟨h.1.kept Y X W,h.2.1.kept Y X U,h.2.2.1.kept Y X T,h.2.2.2.kept Y X R⟩
 .exact⟨h.1.kept Y X W,h.2.1.kept Y X U,h.2.2.1.kept Y X T,h.2.2.2.kept Y X R⟩
 .exact⟨h.1.kept Y X W,h.2.1.kept Y X U,h.2.2.1.kept Y X T,h.2.2.2.kept Y X R⟩
 trivial
end
structure lT (w:World) (tag:Nat->Nat) (t:Nat) (Z:cQ) (last:Int) (q:Nat) (R:Option Addr) (cr:Nat) (D:Option Addr) (cd:Nat) (rows:List (List Value)) (ended:Bool):Prop where
 blk:aY w q 140 (vN t Z last (.slice R rows.length cr) (.slice D Z.deeds.length cd) ended)
 row:cU w 0 142 2 R rows.length cr rows
 deeds:cU w 0 159 6 D Z.deeds.length cd Z.deeds
 tg:tag q=110+t
 tR:∀b,iI R b->tag b=120+t
 tD:∀b,iI D b->tag b=105
theorem lT.kept{S:Nat->Prop}{Z:cQ}{last:Int}{q:Nat}{R:Option Addr}{W:Nat}{D:Option Addr}{cd:Nat}{ended:Bool}(h:lT w tag t Z last q R W D cd rows ended)
 (Y:aD S w w') (X:bI w tag tag') (V:∀b,S b->tag b≠110+t) (U:∀b,S b->tag b≠120+t) (T:∀b,S b->tag b≠105):lT w' tag' t Z last q R W D cd rows ended:=
 ⟨(Y.block q h.blk.lt fun e=>V q e h.tg).trans h.blk,h.row.keptT Y h.tR U,h.deeds.keptT Y h.tD T,(X q h.blk.lt).trans h.tg,h.row.tagT X h.tR,h.deeds.tagT X h.tD⟩
end
section
attribute [local go_sem↓] Go.wp_at_zero Go.wp_at_succ
theorem dE(Z: -9223372036854775808<=x)(Y:x<=9223372036854775807):IntKind.i64.wrap x=x:=by rw[IntKind.wrap_i64];omega
theorem sS(Z:0<=x)(Y:x<18446744073709551616):IntKind.u64.wrap x=x:=by rw[IntKind.wrap_u64];omega
theorem Cc(v:Nat)(w:World):Calls prog 92 #[[v]] w fun e w'=>e=.returned (dU v)/\w=w':=by
 rcases(by omega:v%2=0\/v%2=1)with h|h
 .have Y:(v:Int)%2=0:=I;have Z:(dU v:Int)=8:=by unfold dU;omega
  rw[Z]
  go_enter func92,ntmps92
  go_wp2;go_ret;exact⟨rfl,rfl⟩
 have Y:(v:Int)%2=1:=I;have Z:(dU v:Int)=40:=by unfold dU;omega
 rw[Z]
 go_enter func92,ntmps92
 go_wp2;go_ret;exact⟨rfl,rfl⟩
theorem qU(v:Nat)(Z:Int)(e:Z=v)(B:Nat)(Y:B=dU v)(w:World):Calls prog 92 #[[Z]] w fun e w'=>e=.returned B/\Below w w w':=by
 subst e Y;refine(Cc v w).mono ?_;rintro e w' ⟨rfl,rfl⟩;exact⟨rfl,Below.refl _ _⟩
theorem Bs(Y t:Nat)(Z:cQ)(A D:Value)(n d:Nat)(w:World)(h:aY w Y 46 (kE t Z A D))(N:Z.i<100):
 Calls prog 93 #[(Y,0),n,d] w fun e w'=>e=.returned (.tuple #[])/\aY w' Y 46 (kE t (Z.next n d) A D)/\aD (cI Y) w w':=by
 have R:w.cell? (Y,7)=Z.i:=mS h 7 I;have c1:w.cell? (Y,1)=Z.does:=mS h 1 I;have Q:=h.frozen 7;have P:=h.frozen 1;have V:=aH h;have S:=h.lt;clear h;by_cases e:Z.i+1=n
 .have X:=aH ((((V.set_ 7 ((Z.i+1:Nat):Int)).set_ 7 ((0:Nat):Int)).set_ 1 d));rw[LL,LL,wE]at X;have W:=aH (((bP w Y 7 ((Z.i+1:Nat):Int)).setCell (p:=⟨Y,7,none⟩) (.inl rfl) ((0:Nat):Int)).setCell (p:=⟨Y,1,none⟩) (.inl rfl) d);have U:=aH (show Z.next n d={Z with i:=0,does:=d}from sV e);have T:(n:Int)=(Z.i:Int)+1:=I;have O:(Z.i:Int)<100:=I;rw[show((Z.i+1:Nat):Int)=(Z.i:Int)+1 by omega]at X W;rw[T];clear V e T
  go_enter func93,ntmps93
  go_wp2;refine bodyPost_end (v:=.tuple #[]) (by simp [results,results93,go_sem]) rfl ⟨rfl,?_,W.out⟩;rw[U.out];exact X
 have X:=aH (V.set_ 7 ((Z.i+1:Nat):Int));rw[LL]at X;have W:=aH (bP w Y 7 ((Z.i+1:Nat):Int));have U:=aH (show Z.next n d={Z with i:=Z.i+1}from vL e);have T:¬(Z.i:Int)+1=n:=I;rw[show((Z.i+1:Nat):Int)=(Z.i:Int)+1 by omega]at X W;clear V e
 go_enter func93,ntmps93
 go_wp2;refine bodyPost_end (v:=.tuple #[]) (by simp [results,results93,go_sem]) rfl ⟨rfl,?_,W.out⟩;rw[U.out];exact X
section
variable{w0 w:World}{tag:Nat->Nat}{t:Nat}{Z:cQ}{gw:Nat}{A:Option Addr}{ca:Nat}{D:Option Addr}{cd:Nat}{m:Nat->Int}{gm:Nat}{s:cN}{gs:Nat}
theorem WS.rload(h:WS w0 w tag t Z gw A ca D cd m gm s gs)(V:i<16)(Y:Int)(e:Y=i):Calls prog 27 #[(gm,0),Y] w fun e w'=>e=.returned (.tuple #[[m i],.nilIface])/\w=w':=by
 obtain⟨_,E,X,W⟩:=h.ram;subst e;exact IQ gm i E m w X W V
theorem WS.rsave(h:WS w0 w tag t Z gw A ca D cd m gm s gs)(Y:i<16)(U:0<=x/\x<18446744073709551616)(X:Int)(e:X=i):Calls prog 78 #[(gm,0),X,[x]] w fun e w'=>e=.returned .nilIface/\WS w0 w' tag t Z gw A ca D cd (eI m i x) gm s gs/\aD (cI gm) w w':=by
 obtain⟨_,E,W,V⟩:=h.ram;subst e;refine(IH gm i x E m w W V Y).mono ?_;rintro e w' ⟨rfl,rfl⟩;exact⟨rfl,h.ram_ Y U,bP w gm i _⟩
theorem WS.rswapN(h:WS w0 w tag t Z gw A ca D cd m gm s gs)(W:m 0≠0):Calls prog 91 #[(gm,0),(0:Int),.int .u64 0,[x]] w fun e w'=>e=.returned (.tuple #[false,.nilIface])/\w=w':=by
 obtain⟨_,E,Y,X⟩:=h.ram;exact KM gm 0 0 x E m w Y X I (by simpa using W)
theorem WS.rswapY(h:WS w0 w tag t Z gw A ca D cd m gm s gs)(W:0<=x/\x<18446744073709551616)(V:m 0=0):Calls prog 91 #[(gm,0),(0:Int),.int .u64 0,[x]] w fun e w'=>e=.returned (.tuple #[true,.nilIface])/\WS w0 w' tag t Z gw A ca D cd (eI m 0 x) gm s gs:=by
 obtain⟨_,E,Y,X⟩:=h.ram;refine(CN gm 0 0 x E m w Y X I (by simpa using V)).mono ?_;rintro e w' ⟨rfl,rfl⟩;exact⟨rfl,h.ram_ I W⟩
theorem WS.sload(h:WS w0 w tag t Z gw A ca D cd m gm s gs){a:Nat}(Y:a<72)(a':Int)(e:a'=a):Calls prog 26 #[(gs,0),a'] w fun e w'=>e=.returned (.tuple #[[s.now a],.nilIface])/\w=w':=by
 subst e;exact PA gs a s w h.st.2 Y
theorem WS.ssave(h:WS w0 w tag t Z gw A ca D cd m gm s gs){a:Nat}(Y:a<72)(x:Int)(a':Int)(e:a'=a):Calls prog 18 #[(gs,0),a',[x]] w fun e w'=>e=.returned .nilIface/\WS w0 w' tag t Z gw A ca D cd m gm (s.save a x) gs/\aD (cI gs) w w':=by
 subst e;refine(PN gs a x s w h.st.2 Y).mono ?_;rintro e w' ⟨rfl,rfl⟩;refine⟨rfl,h.store ?_ (bP w gs a _),bP w gs a _⟩;rw[<-DE _ _ Y];exact h.st.2.set_ _ _
theorem WS.flush(h:WS w0 w tag t Z gw A ca D cd m gm s gs)(V:t<4){l:Nat}(U:l<9)(T:s.fl<=1000000000)(X:Int)(e:X=l):Calls prog 97 #[(gs,0),t,X] w fun e w'=>e=.returned .nilIface/\WS w0 w' tag t Z gw A ca D cd m gm (s.flush t l) gs/\aD (cI gs) w w':=by
 subst e;refine(KL gs t l s w h.st.2 V U T).mono ?_;rintro e w' ⟨rfl,W,Y⟩;exact⟨rfl,h.store W Y,Y⟩
theorem WS.fence(h:WS w0 w tag t Z gw A ca D cd m gm s gs)(W:t<4)(V:s.fe<=1000000000):Calls prog 98 #[(gs,0),t] w fun e w'=>e=.returned .nilIface/\WS w0 w' tag t Z gw A ca D cd m gm (s.fence t) gs:=by
 refine(FX gs t s w h.st.2 W V).mono ?_;rintro e w' ⟨rfl,Y,X⟩;exact⟨rfl,h.store Y X⟩
theorem WS.next(h:WS w0 w tag t Z gw A ca D cd m gm s gs)(n d:Nat)(P:Z.i<100)(S R:Int)(U:S=n)(T:R=d):Calls prog 93 #[(gw,0),S,R] w fun e w'=>e=.returned (.tuple #[])/\WS w0 w' tag t (Z.next n d) gw A ca D cd m gm s gs:=by
 subst U T;refine(Bs gw t Z _ _ n d w h.wk.blk P).mono ?_;rintro e w' ⟨rfl,Q,V⟩;have X:∀b,cI gw b->tag b=10+t:=fun b Y=>by rw[show b=gw from Y];exact h.wk.tg
 have W:(Z.next n d).asks=Z.asks/\(Z.next n d).na=Z.na/\(Z.next n d).deeds=Z.deeds:=by unfold cQ.next;split<;>exact⟨rfl,rfl,rfl⟩
 refine⟨rfl,⟨?_,?_,?_,h.wk.tg,h.wk.tA,h.wk.tD⟩,h.ram.kept V (bI.refl _ _) (fun b Y=>by rw[X b Y];omega),h.st.kept V (bI.refl _ _) (fun b Y=>by rw[X b Y];omega),h.k.trans (V.mono fun b Y=>.inr (.inr (.inl (X b Y))))⟩
 .rw[W.2.1,W.2.2];exact Q
 .rw[W.2.1,W.1];exact h.wk.asks.keptT V h.wk.tA (fun b Y=>by rw[X b Y];omega)
 rw[W.2.2];exact h.wk.deeds.keptT V h.wk.tD (fun b Y=>by rw[X b Y];omega)
theorem WS.c1(h:WS w0 w tag t Z gw A ca D cd m gm s gs){k:Nat}(d:Z.does=k):w.cell? (gw,1)=k:=by
 rw[h.c 1 I,<-d];rfl
end
section
variable{w:World}{tag:Nat->Nat}{t gw gm gs:Nat}{Z:cQ}{A D:Option Addr}{ca cd:Nat}{m:Nat->Int}{s:cN}
theorem An(O:gJ w tag t Z gw A ca D cd)(N:fE w tag m gm)(M:iQ w tag s gs)(r:t<4)(d:Z.does=1)(T:gQ Z.a Z.k Z.v):
 Calls prog 62 #[(gw,0),(gm,0)] w fun e w'=>e=.returned (.tuple #[])/\iZ w tag t gw gm gs (stp t m s Z) w':=by
 rw[show stp t m s Z=⟨eI m (2+2*t) (fN Z.a Z.k Z.v),s,Z.go 2,false⟩ by simp only[stp,d]];have Y:=aH (WS.start O N M);have S:=aH (fun W=>JT Z.a Z.k Z.v W);rw[show jI Z.a Z.k Z.v=fN Z.a Z.k Z.v from iP (eN.2 T)]at S;have V:=CA T;have c1:w.cell? (gw,1)=(1:Int):=Y.c1 d;have C:w.cell? (gw,2)=Z.a:=Y.c 2 I;have B:w.cell? (gw,3)=Z.k:=Y.c 3 I;have z:w.cell? (gw,4)=Z.v:=Y.c 4 I;have L:=Y.lt;have K:=aH d;clear O N M T d;generalize fN Z.a Z.k Z.v=x at*
 go_enter func62,ntmps62
 go_wp2_with fail
 with_reducible refine(S.out _).mono ?_
 rintro e F ⟨rfl,X⟩;have R:=aH (Y.below X);clear X;have y:F.cell? (gw,0)=t:=R.c 0 I;have Q:=aH (R.rsave (i:=2+2*t) I V (2+2*(t:Int)) I);go_wp2_with fail
 with_reducible refine Q.out.mono ?_
 rintro e E ⟨rfl,P,_⟩;have U:=aH P;clear P Q;have H:E.cell? (gw,1)=(1:Int):=U.c1 K;have u:=U.f 1;have G:=aH ((U.does 2).out false);go_wp2;refine bodyPost_end (v:=.tuple #[]) (by simp [results,results62,go_sem]) rfl ⟨rfl,G.out⟩
