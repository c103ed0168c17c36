/-
  Part of a proof: LawK RDone RDoneP RdP BaP. For all values.
-/
import Derived.Test.YtplpimkgihnmhaaGreatDoorA04
import Derived.Test.YtplpimkgihnmhaaGreatDoorA15
import Derived.Test.YtplpimkgihnmhaaGreatDoorA17
import Derived.Test.YtplpimkgihnmhaaGreatDoorA18
set_option maxRecDepth 100000
set_option maxHeartbeats 4000000
set_option linter.all false
namespace Go.Proofs.YtplpimkgihnmhaaGreatDoor
open Go.Proofs.Tryz Go.RowKit
section
theorem cH.ex(y:Nat->Int)(n:Nat)(hb:∀i,i<n->0<=y i/\y i<18446744073709551616):∃D,cH D n y:=
 ⟨((List.range n).map fun i=>Value.int .u64 (y i)).toArray,by simp,fun i hi=>by simp [hi],hb⟩
end
section
attribute [local go_sem↓] Go.wp_at_zero Go.wp_at_succ
def tT(f:Nat->Int)(t:Nat)(x:Int)(i:Nat):Int:=if i=t then x else f i
theorem TM{R F:Array Value}{ac av wh tg:Nat->Int}{ver cnt:Int}{t:Nat}(h:uD R (R.extract 0 19) ac av wh tg ver cnt)(hF:F.size=19)(ht:t<4)(co va n g:Int)(R':Array Value)
 (hsz:R'.size=37) (h0:∀i,i<19->R'[i]? =F[i]?) (h1:R'[19+2*t]? =some (.int .i64 co)) (h2:R'[20+2*t]? =some (.int .i64 va)) (h3:R'[27+t]? =some (.int .u64 n)) (h4:R'[31+t]? =some (.int .i64 g)) (h5:R'[36]? =some (.int .u64 n))
 (hr:∀i,19<=i->i≠19+2*t->i≠20+2*t->i≠27+t->i≠31+t->i≠36->R'[i]? =R[i]?):
 R'.extract 0 19=F/\uD R' (R'.extract 0 19) (tT ac t co) (tT av t va) (tT wh t n) (tT tg t g) ver n:=by
 have hx:R'.extract 0 19=F:=by
  apply Array.ext_getElem?
  intro i
  by_cases hi:i<19
  .rw[Array.getElem?_extract,iP I,Nat.zero_add]
   exact h0 i hi
  rw[Array.getElem?_eq_none (by simp;omega),Array.getElem?_eq_none I]
 refine⟨hx,hsz,rfl,fun i hi=>?_,fun i hi=>?_,fun i hi=>?_,fun i hi=>?_,?_,h5⟩
 .unfold tT
  by_cases e:i=t
  .subst e;rw[iP rfl];exact h1
  rw[iN e,hr _ I I I I I I];exact h.ac_ i hi
 .unfold tT
  by_cases e:i=t
  .subst e;rw[iP rfl];exact h2
  rw[iN e,hr _ I I I I I I];exact h.av_ i hi
 .unfold tT
  by_cases e:i=t
  .subst e;rw[iP rfl];exact h3
  rw[iN e,hr _ I I I I I I];exact h.wh_ i hi
 .unfold tT
  by_cases e:i=t
  .subst e;rw[iP rfl];exact h4
  rw[iN e,hr _ I I I I I I];exact h.tg_ i hi
 rw[hr _ I I I I I I];exact h.ver_
def yY(P:Nat->Prop)(y:Nat->Int)(kind:Int)(ac av wh tg:Nat->Int)(ver cnt:Int)(t:Nat)(co va:Int)(w:World)(e:Ending)(w':World):Prop:=
 Below w w w'/\∃R',R'.size=37/\R'.all (·.oneCell')=true/\e=.returned (.agg R')/\uD R' (R'.extract 0 19) (tT ac t co) (tT av t va) (tT wh t (cnt+1)) (tT tg t (1-tg t)) ver (cnt+1)/\fG P kind y (R'.extract 0 19) w'
theorem fG.insideP{P:Nat->Prop}{kind:Int}{z:Nat->Int}{C:Array Value}{w:World}(h:fG P kind z C w):fG (fun b=>P b/\b<w) kind z C w:=by
 unfold fG at h⊢
 split
 .rename_i e;rwa [iP e]at h
 rename_i e
 rw[iN e]at h
 split
 .rename_i e6;rwa [iP e6]at h
 rename_i e6
 rw[iN e6]at h
 obtain⟨A,c,h1,h2,h3⟩:=h
 refine⟨A,c,h1,h2,fun hn b hb=>⟨h3 hn b hb,?_⟩⟩
 obtain⟨b',off,hA,hlt,_⟩:=h2.at_ hn
 rw[hb]at hA
 cases hA
 exact hlt
def Al(R F:Array Value)(t:Nat)(p q n g:Value):Array Value:=(((fF (fF R 0 F.toList) (19+t*2) [p,q]).setIfInBounds 36 n).setIfInBounds (27+t) n).setIfInBounds (31+t) g
theorem QJ(R F:Array Value)(t:Nat)(p q n g:Value):(Al R F t p q n g).size=R.size:=by
 unfold Al
 simp only[Array.size_setIfInBounds,fA]
theorem WP{R F:Array Value}(hR:R.size=37)(hF:F.size=19)(t:Nat)(ht:t<4)(p q n g:Value)(i:Nat)(hi:i<37):
 (Al R F t p q n g)[i]? =if i=31+t then some g else if i=27+t then some n else if i=36 then some n else if i=19+t*2 then some p else if i=20+t*2 then some q else if i<19 then F[i]? else R[i]? :=by
 unfold Al
 rw[Array.getElem?_setIfInBounds,Array.getElem?_setIfInBounds,Array.getElem?_setIfInBounds]
 simp only[Array.size_setIfInBounds,fA,hR]
 by_cases e1:i=31+t
 .subst e1;rw[iP rfl,iP I,iP rfl]
 rw[iN (fun e=>e1 e.symm),iN e1]
 by_cases e2:i=27+t
 .subst e2;rw[iP rfl,iP I,iP rfl]
 rw[iN (fun e=>e2 e.symm),iN e2]
 by_cases e3:i=36
 .subst e3;rw[iP rfl,iP I,iP rfl]
 rw[iN (fun e=>e3 e.symm),iN e3]
 rw[iR _ _ _ _ (by rw[fA,hR];exact hi),iR _ _ _ _ (by rw[hR];exact hi)]
 simp only[List.length_cons,List.length_nil,Array.length_toList,hF]
 by_cases e4:i=19+t*2
 .subst e4;rw[iP I,iP rfl];simp
 rw[iN e4]
 by_cases e5:i=20+t*2
 .subst e5;rw[iP I,iP rfl,show 20+t*2-(19+t*2)=1 by omega];rfl
 rw[iN e5,iN I]
 by_cases e6:i<19
 .rw[iP I,iP e6];simp
 rw[iN I,iN e6]
theorem YL{R F:Array Value}{t:Nat}{p q n g:Value}(hR:R.all (·.oneCell')=true)(hF:F.all (·.oneCell')=true)(hp:p.oneCell'=true)(hq:q.oneCell'=true)(hn:n.oneCell'=true)(hg:g.oneCell'=true):(Al R F t p q n g).all (·.oneCell')=true:=by
 have one:∀(C:Array Value) (i:Nat) (v:Value),C.all (·.oneCell')=true->v.oneCell'=true->(C.setIfInBounds i v).all (·.oneCell')=true:=fun C i v hC hv=>by
  rw[Array.all_eq_true]at hC⊢
  intro j hj
  rw[Array.getElem_setIfInBounds]
  split
  .exact hv
  exact hC j (by simpa using hj)
 unfold Al
 refine one _ _ _ (one _ _ _ (one _ _ _ (uN (uN hR ?_) ?_) hn) hn) hg
 .intro v hv
  obtain⟨i,hi,rfl⟩:=List.mem_iff_getElem.1 hv
  rw[Array.all_eq_true]at hF
  simpa using hF i (by simpa using hi)
 intro v hv
 simp at hv
 rcases hv with rfl|rfl
 .exact hp
 exact hq
theorem XV{p:Prop}(h:Hid p):p:=h.out
theorem IU{P:Program}{ops:Array Oper}{Q:Exit->Act->World->Prop}{rest:List Oper}{a:Act}{w:World}(Φ:World->Prop)(hΦ:Φ w)(h:∀w',Φ w'->wpList P ops Q rest a w'):wpList P ops Q rest a w:=h w hΦ
theorem BT(P:Nat->Prop)(R:Array Value)(zo:Nat->Int)(kind a k v:Int)(m:Nat)(ac av wh tg:Nat->Int)(ver cnt:Int)(t:Nat)(w:World)(hR:uD R (R.extract 0 19) ac av wh tg ver cnt)(h1:R.all (·.oneCell')=true)(hT:fG P kind zo (R.extract 0 19) w)(hP:∀b,w.heap.size<=b->P b)
 (hw:VU zo) (hz:cK kind zo) (ho:gQ a k v) (hm:kind=5->tG zo a k m) (ht:t<4) (hc:0<=cnt/\cnt<=1099511627776) (hg:tg t=0\/tg t=1):
 Calls prog 167 #[.agg R,.int .i64 t,.agg #[.int .i64 a,.int .i64 k,.int .i64 v]] w (yY P (BW kind zo a k v m) kind ac av wh tg ver cnt t (IB kind zo a k v) (JO kind zo a k v) w):=by
 have HTD:Hid (∀(D:Array Value) (W:World),W.heap.size=w.heap.size+3->fG (fun b=>P b/\(b<w.heap.size\/w.heap.size+3<=b)) kind zo D W->Calls prog 191 #[.agg D,.agg #[.int .i64 a,.int .i64 k,.int .i64 v]] W (rB (fG (fun b=>P b/\(b<w.heap.size\/w.heap.size+3<=b)) kind (BW kind zo a k v m)) (IB kind zo a k v) (JO kind zo a k v) W)):=Lib.hid fun D W hs hT=>
  AN _ D zo kind a k v m W (fun b hb=>And.intro (hP b (by omega)) (.inr (by omega))) hw hz ho hm hT
 obtain⟨E,hE⟩:∃E,E=R.extract 0 19:=⟨_,rfl⟩
 rw[<-hE]at hR hT
 have Rc:=Lib.hid hT.weak.size
 have HE:=Lib.hid hE
 have HR:=Lib.hid hR
 have Kn:=Lib.hid h1
 have HT:=Lib.hid ((hT.insideP.mono (P':=fun b=>P b/\(b<w.heap.size\/w.heap.size+3<=b)) (fun b hb=>And.intro hb.1 (.inl hb.2))))
 have hq:(t:Int)<4:=by omega
 generalize BW kind zo a k v m=y at*
 generalize IB kind zo a k v=co at*
 generalize JO kind zo a k v=va at*
 clear hR h1 hT hw hz ho hm hE hP
 go_enter func167,ntmps167
 generalize hQ:bodyPost prog Tryz.f167 (yY P y kind ac av wh tg ver cnt t co va w)=Q
 have HQ:=Lib.hid hQ
 clear hQ
 have Hd:Hid (aY (((w.alloc (.cells R 136)).alloc (.cells #[.int .i64 a,.int .i64 k,.int .i64 v] 39)).alloc (.cells #[.int .i64 0,.slice none 0 0,.int .i64 0,.int .i64 0,.int .i64 0,.int .i64 0,.int .i64 0,.int .i64 0,.int .i64 0,.int .i64 0,.int .i64 0,.int .i64 0,.int .i64 0,.int .i64 0,.int .i64 0,.int .i64 0,.int .i64 0,.int .i64 0,.int .i64 0,.int .i64 0,.int .i64 0,.int .i64 0,.int .i64 0,.int .i64 0,.int .i64 0,.int .i64 0,.int .i64 0,.int .u64 0,.int .u64 0,.int .u64 0,.int .u64 0,.int .i64 0,.int .i64 0,.int .i64 0,.int .i64 0,.int .u64 0,.int .u64 0] 136)) w.heap.size 136 R):=Lib.hid (((aY.new _ _ _).alloc _).alloc _)
 go_wp2_with (refine wpList_load_mid rfl 131 _ rfl w.heap.size 0 rfl E.toList _ ?hc underlying131 rfl ?hi ?_)
 case hc=>
  rw[HE.out]
  exact World.rangeAt_of_block (t:=136) (fr:=(0,0)) Hd.out 0 19
 case hi=>simpa using(show(prog.info? 131).map (·.size)=some E.size by rw[jT,Rc.out])
 go_wp2_with fail
 with_reducible refine(HTD.out E _ (by simp) (HT.out.keeps (aD.of_same (S:=bN) (by go_grown)) (fun _ _ h=>h))).mono ?_
 rintro e w1 ⟨Gs,F,hFs,Zt,rfl,hTF⟩
 have Hc:=Lib.hid (Hd.out.below Gs Hd.out.lt)
 have Xv:=Lib.hid hFs
 have Of:=Lib.hid Zt
 have HTF:=Lib.hid hTF
 have Hq:Hid (Below w.heap.size w w1):=Lib.hid (Below.trans (by go_grown) (Gs.mono (by simp;omega)))
 have Xw:Hid (aY w1 (w.heap.size+1+1) 136 #[.int .i64 0,.slice none 0 0,.int .i64 0,.int .i64 0,.int .i64 0,.int .i64 0,.int .i64 0,.int .i64 0,.int .i64 0,.int .i64 0,.int .i64 0,.int .i64 0,.int .i64 0,.int .i64 0,.int .i64 0,.int .i64 0,.int .i64 0,.int .i64 0,.int .i64 0,.int .i64 0,.int .i64 0,.int .i64 0,.int .i64 0,.int .i64 0,.int .i64 0,.int .i64 0,.int .i64 0,.int .u64 0,.int .u64 0,.int .u64 0,.int .u64 0,.int .i64 0,.int .i64 0,.int .i64 0,.int .i64 0,.int .u64 0,.int .u64 0]):=Lib.hid ((aY.newAt _ _ _ (by simp)).below Gs (by simp))
 clear Gs hFs Zt hTF
 have HC36:Hid ((fF (fF R 0 F.toList) (19+t*2) [.int .i64 co,.int .i64 va])[36]? =some (.int .u64 cnt)):=Lib.hid (by
  rw[iB (by right;simp only[List.length_cons,List.length_nil];omega),iB (by right;rw[Array.length_toList,Xv.out];omega)];exact HR.out.cnt_)
 have HCTg:Hid ((fF (fF R 0 F.toList) (19+t*2) [.int .i64 co,.int .i64 va])[31+t]? =some (.int .i64 (tg t))):=Lib.hid (by
  rw[iB (by right;simp only[List.length_cons,List.length_nil];omega),iB (by right;rw[Array.length_toList,Xv.out];omega)];exact HR.out.tg_ t ht)
 have HCWh:Hid ((fF (fF R 0 F.toList) (19+t*2) [.int .i64 co,.int .i64 va])[27+t]? =some (.int .u64 (wh t))):=Lib.hid (by
  rw[iB (by right;simp only[List.length_cons,List.length_nil];omega),iB (by right;rw[Array.length_toList,Xv.out];omega)];exact HR.out.wh_ t ht)
 have n1:¬(27+t=36):=by omega
 have n2:¬(36=27+t):=by omega
 have n3:¬(31+t=36):=by omega
 have n4:¬(36=31+t):=by omega
 have n5:¬(27+t=31+t):=by omega
 have n6:¬(31+t=27+t):=by omega
 have u1:(cnt+1)%18446744073709551616=cnt+1:=by omega
 have u2:IntKind.u64.wrap (cnt+1)=cnt+1:=IntWalk.u64_in _ (by omega)
 have Na:=Lib.hid HR.out.size
 go_wp2_with (first
  |((with_reducible refine oI 131 w.heap.size 0 F (by kernel_rfl) (by kernel_rfl) ?_ ?_ Of.out ?_);(exact Hc.out.there (by rw[Xv.out,Na.out];decide));(rw[jT,Xv.out]))
  |((with_reducible refine oI 44 w.heap.size (19+t*2) #[.int .i64 co,.int .i64 va] (by kernel_rfl) (by kernel_rfl) ?_ ?_ (jH _ _) ?_);(exact(aY.setCells Hc.out).there (by rw[fA,Na.out];show 19+t*2+2<=37;omega));(exact eU);(with_reducible refine XV ?_)))
 refine Lib.hid ?_
 with_reducible refine IU (fun W'=>aY W' w.heap.size 136 (fF (fF R 0 F.toList) (19+t*2) [.int .i64 co,.int .i64 va])/\aD (fun b=>b=w.heap.size) w1 W') ?_ ?_
 .exact⟨aY.setCells (aY.setCells Hc.out),(cE (S:=fun b=>b=w.heap.size) (.inl rfl) _ _).trans (cE (S:=fun b=>b=w.heap.size) (.inl rfl) _ _)⟩
 rintro w2 ⟨In,Jc⟩
 have Hf:=Lib.hid In
 have Hy:=Lib.hid Jc
 clear In Jc
 have Wf:w2.cell? ⟨w.heap.size,36,none⟩=some (.int .u64 cnt):=by rw[Hf.out.cell,HC36.out]
 have cTg:w2.cell? ⟨w.heap.size,31+t,none⟩=some (.int .i64 (tg t)):=by rw[Hf.out.cell,HCTg.out]
 have cWh:w2.cell? ⟨w.heap.size,27+t,none⟩=some (.int .u64 (wh t)):=by rw[Hf.out.cell,HCWh.out]
 have f36:=Hf.out.frozen 36
 have fTg:=Hf.out.frozen (31+t)
 have fWh:=Hf.out.frozen (27+t)
 obtain⟨R3,hR3⟩:∃R3,R3=Al R F t (.int .i64 co) (.int .i64 va) (.int .u64 (cnt+1)) (.int .i64 (1-tg t)):=⟨_,rfl⟩
 have h3s:R3.size=37:=by rw[hR3,QJ,Na.out]
 have Mu:Hid ((prog.info? 136).map (·.size)=some R3.size):=by show _=_;rw[mU,h3s]
 have Qs:Hid (R3.all (·.oneCell')=true):=Lib.hid (by rw[hR3];exact YL Kn.out Of.out rfl rfl rfl rfl)
 have H3S:=Lib.hid h3s
 have Vw:aY (((w2.setCell ⟨w.heap.size,36,none⟩ (.int .u64 (cnt+1))).setCell ⟨w.heap.size,27+t,none⟩ (.int .u64 (cnt+1))).setCell ⟨w.heap.size,31+t,none⟩ (.int .i64 (1-tg t))) w.heap.size 136 R3:=by rw[hR3];exact((Hf.out.set_ 36 _).set_ (27+t) _).set_ (31+t) _
 have Hi:=Lib.hid Vw
 have hrs2:aY w2 (w.heap.size+1+1) 136 #[.int .i64 0,.slice none 0 0,.int .i64 0,.int .i64 0,.int .i64 0,.int .i64 0,.int .i64 0,.int .i64 0,.int .i64 0,.int .i64 0,.int .i64 0,.int .i64 0,.int .i64 0,.int .i64 0,.int .i64 0,.int .i64 0,.int .i64 0,.int .i64 0,.int .i64 0,.int .i64 0,.int .i64 0,.int .i64 0,.int .i64 0,.int .i64 0,.int .i64 0,.int .i64 0,.int .i64 0,.int .u64 0,.int .u64 0,.int .u64 0,.int .u64 0,.int .i64 0,.int .i64 0,.int .i64 0,.int .i64 0,.int .u64 0,.int .u64 0]:=(Hy.out.block _ Xw.out.lt (by omega)).trans Xw.out
 have HRS:Hid (aY (((w2.setCell ⟨w.heap.size,36,none⟩ (.int .u64 (cnt+1))).setCell ⟨w.heap.size,27+t,none⟩ (.int .u64 (cnt+1))).setCell ⟨w.heap.size,31+t,none⟩ (.int .i64 (1-tg t))) (w.heap.size+1+1) 136 #[.int .i64 0,.slice none 0 0,.int .i64 0,.int .i64 0,.int .i64 0,.int .i64 0,.int .i64 0,.int .i64 0,.int .i64 0,.int .i64 0,.int .i64 0,.int .i64 0,.int .i64 0,.int .i64 0,.int .i64 0,.int .i64 0,.int .i64 0,.int .i64 0,.int .i64 0,.int .i64 0,.int .i64 0,.int .i64 0,.int .i64 0,.int .i64 0,.int .i64 0,.int .i64 0,.int .i64 0,.int .u64 0,.int .u64 0,.int .u64 0,.int .u64 0,.int .i64 0,.int .i64 0,.int .i64 0,.int .i64 0,.int .u64 0,.int .u64 0]):=Lib.hid (((hrs2.far (by show w.heap.size+1+1≠w.heap.size;omega) _).far (by show w.heap.size+1+1≠w.heap.size;omega) _).far (by show w.heap.size+1+1≠w.heap.size;omega) _)
 have Mt:Hid (aD (fun b=>b=w.heap.size) w1 (((w2.setCell ⟨w.heap.size,36,none⟩ (.int .u64 (cnt+1))).setCell ⟨w.heap.size,27+t,none⟩ (.int .u64 (cnt+1))).setCell ⟨w.heap.size,31+t,none⟩ (.int .i64 (1-tg t)))):=Lib.hid (((Hy.out.setCell (p:=⟨w.heap.size,36,none⟩) (.inl rfl) _).setCell (p:=⟨w.heap.size,27+t,none⟩) (.inl rfl) _).setCell (p:=⟨w.heap.size,31+t,none⟩) (.inl rfl) _)
 have Og:=Lib.hid hR3
 clear Vw h3s hR3 hrs2
 go_wp2_with (first
  |(with_reducible refine lL 136 w.heap.size 136 R3 (by kernel_rfl) Hi.out underlying136 (by kernel_rfl) Mu.out ?_)
  |(with_reducible refine fK 136 (w.heap.size+1+1) R3 136 #[.int .i64 0,.slice none 0 0,.int .i64 0,.int .i64 0,.int .i64 0,.int .i64 0,.int .i64 0,.int .i64 0,.int .i64 0,.int .i64 0,.int .i64 0,.int .i64 0,.int .i64 0,.int .i64 0,.int .i64 0,.int .i64 0,.int .i64 0,.int .i64 0,.int .i64 0,.int .i64 0,.int .i64 0,.int .i64 0,.int .i64 0,.int .i64 0,.int .i64 0,.int .i64 0,.int .i64 0,.int .u64 0,.int .u64 0,.int .u64 0,.int .u64 0,.int .i64 0,.int .i64 0,.int .i64 0,.int .i64 0,.int .u64 0,.int .u64 0] (by kernel_rfl) (by kernel_rfl) HRS.out Mu.out (by rw[H3S.out];kernel_rfl) Qs.out ?_))
 rw[<-HQ.out]
 refine bodyPost_ret (results_cell_row results167 _ _ (w.heap.size+1+1) 136 R3 (0,0) _ (by kernel_rfl) (aY.setRow HRS.out _) underlying136 (by kernel_rfl) Mu.out) (by kernel_rfl) ?_
 have Vw:Below w.heap.size w1 (((w2.setCell ⟨w.heap.size,36,none⟩ (.int .u64 (cnt+1))).setCell ⟨w.heap.size,27+t,none⟩ (.int .u64 (cnt+1))).setCell ⟨w.heap.size,31+t,none⟩ (.int .i64 (1-tg t))):=Mt.out.below (by have:=Xw.out.lt;omega) (fun b hb e=>by omega)
 have g:=fun i (hi:i<37)=>(congrArg (fun A:Array Value=>A[i]?) Og.out).trans (WP Na.out Xv.out t ht (.int .i64 co) (.int .i64 va) (.int .u64 (cnt+1)) (.int .i64 (1-tg t)) i hi)
 have hx:=TM (R:=R) (F:=F) (by rw[<-HE.out];exact HR.out) Xv.out ht co va (cnt+1) (1-tg t) R3 H3S.out (fun i hi=>by rw[g i (by omega),if_neg (by omega),if_neg (by omega),if_neg (by omega),if_neg (by omega),if_neg (by omega),if_pos hi])
  (by rw[g _ (by omega),if_neg (by omega),if_neg (by omega),if_neg (by omega),if_pos (by omega)]) (by rw[g _ (by omega),if_neg (by omega),if_neg (by omega),if_neg (by omega),if_neg (by omega),if_pos (by omega)])
  (by rw[g _ (by omega),if_neg (by omega),if_pos rfl]) (by rw[g _ (by omega),if_pos rfl]) (by rw[g _ (by omega),if_neg (by omega),if_neg (by omega),if_pos rfl])
  (fun i h1 h2 h3 h4 h5 h6=>by
    by_cases hi:i<37
    .rw[g i hi,if_neg (by omega),if_neg (by omega),if_neg (by omega),if_neg (by omega),if_neg (by omega),if_neg (by omega)]
    .rw[Array.getElem?_eq_none (by rw[H3S.out];omega),Array.getElem?_eq_none (by rw[Na.out];omega)])
 refine⟨aL (Hq.out.trans Vw) (by omega) _,R3,H3S.out,Qs.out,rfl,hx.2,?_⟩
 rw[hx.1]
 refine(HTF.out.keeps (S:=fun b=>b=w.heap.size\/b=w.heap.size+1+1) ((Mt.out.mono (fun b hb=>.inl hb)).trans ?_) (fun b hb=>by have:=hb.2;omega)).mono (fun b hb=>hb.1)
 exact⟨rfl,rfl,rfl,by simp [World.setRow],fun k _ hn=>setRow_other _ _ _ _ (fun e=>hn (.inr e))⟩
theorem AU:(prog.info? 25).map (·.size)=some 32:=J
structure BK (w:World) (C:Array Value) (a k v:Int) (w':World):Prop where
 rcd:aY w' w 25 C
 op:aY w' (w+1) 39 #[a,k,v]
 res:aY w' (w+1+1) 25 (32:Nat)
 below:Below w w w'
theorem BK.mk_(w:World)(C:Array Value)(a k v:Int):BK w C a k v (((w.alloc (.cells C 25)).alloc (.cells #[a,k,v] 39)).alloc (.cells (32:Nat) 25)):=
 ⟨((aY.new _ _ _).alloc _).alloc _,(aY.newAt _ _ _ (by simp)).alloc _,aY.newAt _ _ _ (by simp),by go_grown⟩
theorem BK.on{w:World}{C:Array Value}{a k v:Int}{w1 w2:World}(h:BK w C a k v w1)(hb:Below w1 w1 w2):BK w C a k v w2:=
 ⟨h.rcd.below hb h.rcd.lt,h.op.below hb h.op.lt,h.res.below hb h.res.lt,h.below.trans (hb.mono h.below.size)⟩
def rG(e0:Int)(w:World)(e:Ending)(w':World):Prop:=e=.returned (.tuple #[.agg (32:Nat),.iface 53 e0])/\Below w w w'
theorem ZO(C:Array Value)(t a k v:Int)(w:World)(ht:t<0\/(0<=t/\4<=t)):
 Calls prog 130 #[.agg C,t,.agg #[a,k,v]] w (rG 2 w):=by
 have Id:=aH (BK.mk_ w C a k v)
 rcases ht with ht|⟨h0,h4⟩
 all_goals
  go_enter func130,ntmps130
  generalize hQ:bodyPost prog Tryz.f130 (rG 2 w)=Q
  have HQ:=aH hQ
  clear hQ
  go_wp2_with (with_reducible refine fK 25 (w+1+1) (32:Nat) 25 (32:Nat) J J Id.out.res J J J ?_)
  (try simp only[Exit.inBlock,Exit.then])
  rw[<-HQ.out]
  with_reducible refine bodyPost_ret (bR results130 _ _ (w+1+1) 25 (32:Nat) _ (.iface 53 (2:Int)) J J (aY.setRow Id.out.res _) underlying25 J J) J ?_
  exact⟨rfl,aL Id.below I _⟩
theorem MO(C:Array Value)(z:Nat->Int)(t a k v:Int)(w:World)(h:cH C 32 z)(ht:0<=t/\t<4)(hr:¬eE z):
 Calls prog 130 #[.agg C,t,.agg #[a,k,v]] w (rG 1 w):=by
 obtain⟨h0,h4⟩:=ht
 have d0:¬t<0:=I
 have d4:¬4<=t:=I
 have Id:=aH (BK.mk_ w C a k v)
 have HI:Hid ((prog.info? 25).map (·.size)=some C.size):=by show _=_;rw[AU,h.size]
 have Wg:=fun W=>lP C z false W h ⟨fun e=>Bool.noConfusion e,fun e=>absurd e hr⟩
 have Pf:=aH Wg
 clear h hr Wg
 go_enter func130,ntmps130
 generalize hQ:bodyPost prog Tryz.f130 (rG 1 w)=Q
 have HQ:=aH hQ
 clear hQ
 go_wp2_with (with_reducible refine lL 25 w 25 C J Id.out.rcd underlying25 J HI.out ?_)
 with_reducible refine(Pf.out _).mono ?_
 rintro e w1 ⟨rfl,Gs⟩
 have Hv:=aH (Id.on Gs)
 clear Gs
 go_wp2_with (with_reducible refine fK 25 (w+1+1) (32:Nat) 25 (32:Nat) J J Hv.out.res J J J ?_)
 (try simp only[Exit.inBlock,Exit.then])
 rw[<-HQ.out]
 with_reducible refine bodyPost_ret (bR results130 _ _ (w+1+1) 25 (32:Nat) _ (.iface 53 (1:Int)) J J (aY.setRow Hv.out.res _) underlying25 J J) J ?_
 exact⟨rfl,aL Hv.below I _⟩
theorem iC{B:Nat}{w w':World}(h:aD (fun b=>B<=b) w w')(hB:B=w):Below w w w':=h.below (Nat.le_refl _) (fun b hb e=>by omega)
def WO(B:Nat)(v:Value):Prop:=∃g,v=.pointer (some ⟨g,0,none⟩)/\B<=g
def KW(B:Nat)(t:TypeId)(cs:Array Value)(v:Value)(w':World):Prop:=∃g,v=.pointer (some ⟨g,0,none⟩)/\aY w' g t cs
def LI(p q:Value)(E A:Array Value)(w':World):Prop:=∃g8 g9,p=.pointer (some ⟨g8,0,none⟩)/\q=.pointer (some ⟨g9,0,none⟩)/\aY w' g8 252 E/\aY w' g9 44 A
theorem nD{w:World}{g8 g9:Nat}{E A:Array Value}(h8:aY w g8 252 E)(h9:aY w g9 44 A):g8≠g9:=by
 rintro rfl
 have h:w.heap[g8]? =some (.cells E 252 (0,0)):=h8
 have h':w.heap[g8]? =some (.cells A 44 (0,0)):=h9
 rw[h]at h'
 simp at h'
theorem oU{cs E:Array Value}(h:cs.size=E.size):fF cs 0 E.toList=E:=by
 apply Array.ext_getElem?
 intro i
 by_cases hi:i<E.size
 .rw[iR _ _ _ _ I,iP (by rw[Array.length_toList];omega)]
  simp
 rw[Array.getElem?_eq_none (by rw[fA];omega),Array.getElem?_eq_none I]
theorem VL(C:Array Value)(z:Nat->Int)(t a k v:Int)(w:World)(h:cH C 32 z)(ht:0<=t/\t<4)(hr:eE z)(ho:cB a k v=false):
 Calls prog 130 #[.agg C,t,.agg #[a,k,v]] w (rG 1 w):=by
 obtain⟨h0,h4⟩:=ht
 have d0:¬t<0:=I
 have d4:¬4<=t:=I
 have Id:=aH (BK.mk_ w C a k v)
 have HI:Hid ((prog.info? 25).map (·.size)=some C.size):=by show _=_;rw[AU,h.size]
 have Wg:=fun W=>lP C z true W h ⟨fun _=>hr,fun _=>rfl⟩
 have Pf:=aH Wg
 obtain⟨D,hD⟩:=aO (C.extract 1 18)
 have Sm:cH D 17 (oz z):=by rw[hD];exact h.cut 1 17 aJ
 have HKD:Hid (∀W:World,Calls prog 141 #[.agg C] W fun e w'=>e=.returned (dH z)/\Below W W w'):=aH fun W=>sH C z W h
 have HOB:Hid (∀W:World,Calls prog 142 #[.agg C] W fun e w'=>e=.returned (.agg D)/\Below W W w'):=aH fun W=>oT C D z W h hD
 have Rf:Hid (∀W:World,Calls prog 143 #[(dH z),.agg D,.agg #[a,k,v]] W fun e w'=>e=.returned (.tuple #[.agg (17:Nat),.agg (2:Int),.iface 53 (1:Int)])/\Below W W w'):=aH fun W=>UG D (oz z) (dH z) a k v W Sm ho
 generalize dH z=kv at*
 obtain⟨E,hE,Gx,hES⟩:∃E:Array Value,E=(17:Nat)/\E.all (·.oneCell')=true/\E.size=17:=⟨_,rfl,J,J⟩
 rw[<-hE]at Rf
 have No:=aH Gx
 have Rc:=Lib.hid hES
 obtain⟨co,hco⟩:=aO (0:Int)
 obtain⟨va,hva⟩:=aO (0:Int)
 rw[show(#[Value.int .i64 0,.int .i64 0]:Array Value)= #[.int .i64 co,.int .i64 va] by rw[hco,hva]]at Rf
 clear hco hva
 clear hE Gx hES
 clear h hr ho hD Sm Wg
 go_enter func130,ntmps130
 generalize hQ:bodyPost prog Tryz.f130 (rG 1 w)=Q
 have HQ:=Lib.hid hQ
 clear hQ
 go_wp2_with (with_reducible refine lL 25 w.heap.size 25 C (by kernel_rfl) Id.out.rcd underlying25 (by kernel_rfl) HI.out ?_)
 with_reducible refine(Pf.out _).mono ?_
 rintro e w1 ⟨rfl,Gs⟩
 have Hv:=Lib.hid (Id.on Gs)
 clear Gs Id
 go_wp2
 have o0:=Hv.op.cell 0
 have o1:=Hv.op.cell 1
 have o2:=Hv.op.cell 2
 have Uw:=Hv.rcd.lt
 have Jn:=Hv.op.lt
 simp at o0 o1 o2
 obtain⟨B,Wx⟩:=aO w1.heap.size
 have Li:=Lib.hid Wx
 refine dQ 14 (fun b=>B<=b) [12,13] (by kernel_rfl) (by kernel_rfl) ?_
 intro anc HA
 clear Wx
 refine bA (.agg C) cX ?_ ?_
 .intro w9 Gq _
  exact gN 25 _ rfl w.heap.size rfl 25 C _ (Hv.rcd.below (iC Gq Li) Hv.rcd.lt) underlying25 rfl HI aE
 refine aR ?_;constructor
 .intro w9 Gq _
  obtain⟨Gy,Gz⟩:=cJ (iC Gq Li)
  go_simp
  first
  |exact aE
  |(go_at_call 141;exact bS (HKD.out _))
  |(go_at_call 142;exact bS (HOB.out _))
  |(go_at_call 143;exact bS (Rf.out _))
 refine bA (.agg C) cX ?_ ?_
 .intro w9 Gq _
  exact gN 25 _ rfl w rfl 25 C _ (Hv.rcd.below (iC Gq Li) Hv.rcd.lt) underlying25 rfl HI aE
 iterate 7
  refine aR ?_;constructor
  .intro w9 Gq _
   obtain⟨Gy,Gz⟩:=cJ (iC Gq Li)
   go_simp
   first
   |exact aE
   |(go_at_call 141;exact bS (HKD.out _))
   |(go_at_call 142;exact bS (HOB.out _))
   |(go_at_call 143;exact bS (Rf.out _))
 refine bC (WO B) (KW B 252 (17:Nat)) ⟨_,B,rfl,Nat.le_refl _⟩ ?_ ?_
 .intro w9 Gq _
  have Sc:B<=w9:=by rw[Li.out];exact Gq.size
  go_simp
  exact⟨⟨⟨_,rfl,Sc⟩,⟨_,rfl,aY.new _ _ _⟩⟩,aD.of_same ((Below.refl _ _).alloc (Nat.le_refl _) _)⟩
 refine bD (WO B) (KW B 44 (2:Int)) ⟨_,B,rfl,Nat.le_refl _⟩ ?_ ?_
 .rintro _ ⟨g8,rfl,Rt⟩
  refine⟨rfl,fun w9 Gq _=>?_⟩
  have Sc:B<=w9:=by rw[Li.out];exact Gq.size
  go_simp
  exact⟨⟨⟨_,rfl,Sc⟩,⟨_,rfl,aY.new _ _ _⟩⟩,aD.of_same ((Below.refl _ _).alloc (Nat.le_refl _) _)⟩
 refine bB undef (fun u w'=>LI (u 10) (u 11) E (2:Int) w') ?_ ?_
 .rintro _ ⟨g9,rfl,Si⟩ _ ⟨g8,rfl,Rt⟩
  refine⟨rfl,fun w9 Gq hmet=>?_⟩
  obtain⟨w0,k0,k1,ga,hv,Mn⟩:=hmet.2.1 (by rw[HA.out];kernel_rfl)
  obtain rfl:ga=g8:=by cases hv;rfl
  clear hv
  have Rg:=Mn.below (dG k1 (by rw[HA.out];kernel_rfl)) Mn.lt
  obtain⟨Yy,Sj,My,gb,hv,Ia⟩:=hmet.2.2.1 (by rw[HA.out];kernel_rfl)
  obtain rfl:gb=g9:=by cases hv;rfl
  clear hv
  have Pg:=Ia.below (dG My (by rw[HA.out];kernel_rfl)) Ia.lt
  have hne:=nD Rg Pg
  clear hmet Mn Ia k0 Sj k1 My
  refine dA 252 _ _ rfl ga 0 E rfl rfl (Rg.there (by rw[Rc.out];decide)) (by rw[gT,Rc.out]) No ?_
  refine⟨⟨rfl,ga,gb,by unfold cV;rw[iP (by rw[HA.out];kernel_rfl)];rfl,by unfold cV;rw[iP (by rw[HA.out];kernel_rfl)];rfl,?_,Pg.far_cells (fun e=>hne e.symm) 0 E.toList⟩,(cE (S:=fun b=>B<=b) (.inl Rt) 0 E.toList).mono (fun b h=>⟨aJ,h⟩)⟩
  have h8:=aY.setCells (vs:=E.toList) (o:=0) Rg
  rwa [oU (by rw[Rc.out];rfl)]at h8
 refine bB undef (fun u w'=>LI (u 10) (u 11) E #[co,va] w') ?_ ?_
 .rintro _ ⟨g9,rfl,Si⟩ _ ⟨g8,rfl,Rt⟩
  refine⟨rfl,fun w9 Gq hmet=>?_⟩
  obtain⟨w0,k0,k1,ga,gb,hva,hvb,Mn,Ia⟩:=hmet.2.2.2.1 (by rw[HA.out];kernel_rfl)
  have ea:ga=g8:=by unfold cV at hva;rw[iP (by rw[HA.out];kernel_rfl)]at hva;cases hva;rfl
  have eb:gb=g9:=by unfold cV at hvb;rw[iP (by rw[HA.out];kernel_rfl)]at hvb;cases hvb;rfl
  subst ea
  subst eb
  have Rg:=Mn.below (dG k1 (by rw[HA.out];kernel_rfl)) Mn.lt
  have Pg:=Ia.below (dG k1 (by rw[HA.out];kernel_rfl)) Ia.lt
  have hne:=nD Rg Pg
  clear hmet Mn Ia k0 k1 hva hvb
  refine dA 44 _ _ rfl gb 0 #[co,va] rfl rfl (Pg.there (by show 0+2<=2;decide)) eU (jH _ _) ?_
  refine⟨⟨rfl,ga,gb,by unfold cV;rw[iP (by rw[HA.out];kernel_rfl)];rfl,by unfold cV;rw[iP (by rw[HA.out];kernel_rfl)];rfl,Rg.far_cells hne 0 _,?_⟩,(cE (S:=fun b=>B<=b) (.inl Si) 0 _).mono (fun b h=>⟨aJ,h⟩)⟩
  have h9:=aY.setCells (vs:=(#[co,va]:Array Value).toList) (o:=0) Pg
  rwa [oU (by rfl)]at h9
 refine aZ ?_
 rintro _ ⟨g9,rfl,Si⟩ _ ⟨g8,rfl,Rt⟩ w9 Gq hmet
 obtain⟨w0,k0,k1,ga,gb,hva,hvb,Mn,Ia⟩:=hmet.2.2.1 rfl
 have ea:ga=g8:=by unfold cV at hva;rw[iP (by rw[HA.out];kernel_rfl)]at hva;cases hva;rfl
 have eb:gb=g9:=by unfold cV at hvb;rw[iP (by rw[HA.out];kernel_rfl)]at hvb;cases hvb;rfl
 subst ea
 subst eb
 have HL8:=aH (Mn.below (dG k1 (by rw[HA.out];kernel_rfl)) Mn.lt)
 have Nh:=aH (Ia.below (dG k1 (by rw[HA.out];kernel_rfl)) Ia.lt)
 have Sd:=aH (Hv.on (iC Gq Li))
 have hga:w1<=ga:=by rw[<-Li.out];exact Rt
 have hgb:w1<=gb:=by rw[<-Li.out];exact Si
 clear hmet Mn Ia k0 k1 hva hvb Gq o0 o1 o2 HA Li Rt Si
 refine aQ ?_
 go_wp2_with (with_reducible refine fK 25 (w+1+1) (32:Nat) 25 (32:Nat) J J Sd.out.res J J J ?_)
 (try simp only[Exit.inBlock,Exit.then])
 rw[<-HQ.out]
 with_reducible refine bodyPost_ret (bR results130 _ _ (w+1+1) 25 (32:Nat) _ (.iface 53 (1:Int)) J J (aY.setRow Sd.out.res _) underlying25 J J) J ?_
 exact⟨rfl,aL Sd.below I _⟩
theorem FE(x:Nat)(a:Int)(hx:x<18446744073709551616):iH x a<18446744073709551616:=by
 unfold iH
 split
 .rename_i h
  have h1:2^a.toNat<2^64:=Nat.pow_lt_pow_right aJ I
  exact Nat.xor_lt_two_pow (n:=64) (by simpa using hx) h1
 exact hx
def fT(z y:Nat->Int)(t:Nat)(co va:Int)(i:Nat):Int:=if i=26 then((iH (z 26).toNat t:Nat):Int)else if i=22+t then z 28+1 else if i=28 then z 28+1 else if i=18+t then iV co va else if 1<=i/\i<18 then y (i-1)else z i
def ZL(z y:Nat->Int)(t:Nat)(co va:Int)(w:World)(e:Ending)(w':World):Prop:=∃F,e=.returned (.tuple #[.agg F,.nilIface])/\cH F 32 (fT z y t co va)/\Below w w w'
theorem QC(C:Array Value)(z:Nat->Int)(t:Nat)(a k v:Int)(m:Nat)(w:World)(h:cH C 32 z)(Js:t<4)(hr:eE z)(ho:gQ a k v)(hm:dH z=5->tG (oz z) a k m):
 Calls prog 130 #[.agg C,t,.agg #[a,k,v]] w (ZL z (BW (dH z) (oz z) a k v m) t (IB (dH z) (oz z) a k v) (JO (dH z) (oz z) a k v) w):=by
 have ht:0<=(t:Int)/\(t:Int)<4:=I
 obtain⟨h0,h4⟩:=ht
 have d0:¬(t:Int)<0:=I
 have d4:¬4<=(t:Int):=I
 have Id:=aH (BK.mk_ w C a k v)
 have HI:Hid ((prog.info? 25).map (·.size)=some C.size):=by show _=_;rw[AU,h.size]
 have Wg:=fun W=>lP C z true W h ⟨fun _=>hr,fun _=>rfl⟩
 have Pf:=aH Wg
 obtain⟨D,hD⟩:=aO (C.extract 1 18)
 have Sm:cH D 17 (oz z):=by rw[hD];exact h.cut 1 17 aJ
 have HKD:Hid (∀W:World,Calls prog 141 #[.agg C] W fun e w'=>e=.returned (dH z)/\Below W W w'):=aH fun W=>sH C z W h
 have HOB:Hid (∀W:World,Calls prog 142 #[.agg C] W fun e w'=>e=.returned (.agg D)/\Below W W w'):=aH fun W=>oT C D z W h hD
 have hTD:=DC (fun i hi=>h.bd (1+i) I) hr.1.1 ho hm
 obtain⟨E,hEU⟩:=cH.ex (BW (dH z) (oz z) a k v m) 17 hTD.2.1
 have Rf:Hid (∀W:World,Calls prog 143 #[(dH z),.agg D,.agg #[a,k,v]] W fun e w'=>e=.returned (.tuple #[.agg E,.agg #[(IB (dH z) (oz z) a k v),(JO (dH z) (oz z) a k v)],.nilIface])/\Below W W w'):=aH fun W=>NR D E (oz z) (dH z) a k v m W Sm ho hr.1.1 hm hEU
 have Zm:=aH hEU
 have Um:=aH h
 have Rc:=aH hEU.size
 have No:=aH hEU.one
 have HC28:Hid (0<=z 28/\z 28<=1099511627776):=aH ⟨(h.bd 28 aJ).1,hr.1.2.2.1⟩
 generalize BW (dH z) (oz z) a k v m=y at*
 generalize IB (dH z) (oz z) a k v=co at*
 generalize JO (dH z) (oz z) a k v=va at*
 generalize dH z=kv at*
 clear h hr ho hD Sm Wg hm hTD hEU
 go_enter func130,ntmps130
 generalize hQ:bodyPost prog Tryz.f130 (ZL z y t co va w)=Q
 have HQ:=aH hQ
 clear hQ
 go_wp2_with (with_reducible refine lL 25 w 25 C J Id.out.rcd underlying25 J HI.out ?_)
 with_reducible refine(Pf.out _).mono ?_
 rintro e w1 ⟨rfl,Gs⟩
 have Hv:=aH (Id.on Gs)
 clear Gs Id
 go_wp2
 have o0:=Hv.op.cell 0
 have o1:=Hv.op.cell 1
 have o2:=Hv.op.cell 2
 have Uw:=Hv.rcd.lt
 have Jn:=Hv.op.lt
 simp at o0 o1 o2
 obtain⟨B,Wx⟩:=aO w1.heap.size
 have Li:=Lib.hid Wx
 refine dQ 14 (fun b=>B<=b) [12,13] (by kernel_rfl) (by kernel_rfl) ?_
 intro anc HA
 clear Wx
 refine bA (.agg C) cX ?_ ?_
 .intro w9 Gq _
  exact gN 25 _ rfl w.heap.size rfl 25 C _ (Hv.rcd.below (iC Gq Li) Hv.rcd.lt) underlying25 rfl HI aE
 refine aR ?_;constructor
 .intro w9 Gq _
  obtain⟨Gy,Gz⟩:=cJ (iC Gq Li)
  go_simp
  first
  |exact aE
  |(go_at_call 141;exact bS (HKD.out _))
  |(go_at_call 142;exact bS (HOB.out _))
  |(go_at_call 143;exact bS (Rf.out _))
 refine bA (.agg C) cX ?_ ?_
 .intro w9 Gq _
  exact gN 25 _ rfl w rfl 25 C _ (Hv.rcd.below (iC Gq Li) Hv.rcd.lt) underlying25 rfl HI aE
 iterate 7
  refine aR ?_;constructor
  .intro w9 Gq _
   obtain⟨Gy,Gz⟩:=cJ (iC Gq Li)
   go_simp
   first
   |exact aE
   |(go_at_call 141;exact bS (HKD.out _))
   |(go_at_call 142;exact bS (HOB.out _))
   |(go_at_call 143;exact bS (Rf.out _))
 refine bC (WO B) (KW B 252 (17:Nat)) ⟨_,B,rfl,Nat.le_refl _⟩ ?_ ?_
 .intro w9 Gq _
  have Sc:B<=w9:=by rw[Li.out];exact Gq.size
  go_simp
  exact⟨⟨⟨_,rfl,Sc⟩,⟨_,rfl,aY.new _ _ _⟩⟩,aD.of_same ((Below.refl _ _).alloc (Nat.le_refl _) _)⟩
 refine bD (WO B) (KW B 44 (2:Int)) ⟨_,B,rfl,Nat.le_refl _⟩ ?_ ?_
 .rintro _ ⟨g8,rfl,Rt⟩
  refine⟨rfl,fun w9 Gq _=>?_⟩
  have Sc:B<=w9:=by rw[Li.out];exact Gq.size
  go_simp
  exact⟨⟨⟨_,rfl,Sc⟩,⟨_,rfl,aY.new _ _ _⟩⟩,aD.of_same ((Below.refl _ _).alloc (Nat.le_refl _) _)⟩
 refine bB undef (fun u w'=>LI (u 10) (u 11) E (2:Int) w') ?_ ?_
 .rintro _ ⟨g9,rfl,Si⟩ _ ⟨g8,rfl,Rt⟩
  refine⟨rfl,fun w9 Gq hmet=>?_⟩
  obtain⟨w0,k0,k1,ga,hv,Mn⟩:=hmet.2.1 (by rw[HA.out];kernel_rfl)
  obtain rfl:ga=g8:=by cases hv;rfl
  clear hv
  have Rg:=Mn.below (dG k1 (by rw[HA.out];kernel_rfl)) Mn.lt
  obtain⟨Yy,Sj,My,gb,hv,Ia⟩:=hmet.2.2.1 (by rw[HA.out];kernel_rfl)
  obtain rfl:gb=g9:=by cases hv;rfl
  clear hv
  have Pg:=Ia.below (dG My (by rw[HA.out];kernel_rfl)) Ia.lt
  have hne:=nD Rg Pg
  clear hmet Mn Ia k0 Sj k1 My
  refine dA 252 _ _ rfl ga 0 E rfl rfl (Rg.there (by rw[Rc.out];decide)) (by rw[gT,Rc.out]) No ?_
  refine⟨⟨rfl,ga,gb,by unfold cV;rw[iP (by rw[HA.out];kernel_rfl)];rfl,by unfold cV;rw[iP (by rw[HA.out];kernel_rfl)];rfl,?_,Pg.far_cells (fun e=>hne e.symm) 0 E.toList⟩,(cE (S:=fun b=>B<=b) (.inl Rt) 0 E.toList).mono (fun b h=>⟨aJ,h⟩)⟩
  have h8:=aY.setCells (vs:=E.toList) (o:=0) Rg
  rwa [oU (by rw[Rc.out];rfl)]at h8
 refine bB undef (fun u w'=>LI (u 10) (u 11) E #[co,va] w') ?_ ?_
 .rintro _ ⟨g9,rfl,Si⟩ _ ⟨g8,rfl,Rt⟩
  refine⟨rfl,fun w9 Gq hmet=>?_⟩
  obtain⟨w0,k0,k1,ga,gb,hva,hvb,Mn,Ia⟩:=hmet.2.2.2.1 (by rw[HA.out];kernel_rfl)
  have ea:ga=g8:=by unfold cV at hva;rw[iP (by rw[HA.out];kernel_rfl)]at hva;cases hva;rfl
  have eb:gb=g9:=by unfold cV at hvb;rw[iP (by rw[HA.out];kernel_rfl)]at hvb;cases hvb;rfl
  subst ea
  subst eb
  have Rg:=Mn.below (dG k1 (by rw[HA.out];kernel_rfl)) Mn.lt
  have Pg:=Ia.below (dG k1 (by rw[HA.out];kernel_rfl)) Ia.lt
  have hne:=nD Rg Pg
  clear hmet Mn Ia k0 k1 hva hvb
  refine dA 44 _ _ rfl gb 0 #[co,va] rfl rfl (Pg.there (by show 0+2<=2;decide)) eU (jH _ _) ?_
  refine⟨⟨rfl,ga,gb,by unfold cV;rw[iP (by rw[HA.out];kernel_rfl)];rfl,by unfold cV;rw[iP (by rw[HA.out];kernel_rfl)];rfl,Rg.far_cells hne 0 _,?_⟩,(cE (S:=fun b=>B<=b) (.inl Si) 0 _).mono (fun b h=>⟨aJ,h⟩)⟩
  have h9:=aY.setCells (vs:=(#[co,va]:Array Value).toList) (o:=0) Pg
  rwa [oU (by rfl)]at h9
 refine aZ ?_
 rintro _ ⟨g9,rfl,Si⟩ _ ⟨g8,rfl,Rt⟩ w9 Gq hmet
 obtain⟨w0,k0,k1,ga,gb,hva,hvb,Mn,Ia⟩:=hmet.2.2.1 rfl
 have ea:ga=g8:=by unfold cV at hva;rw[iP (by rw[HA.out];kernel_rfl)]at hva;cases hva;rfl
 have eb:gb=g9:=by unfold cV at hvb;rw[iP (by rw[HA.out];kernel_rfl)]at hvb;cases hvb;rfl
 subst ea
 subst eb
 have HL8:=aH (Mn.below (dG k1 (by rw[HA.out];kernel_rfl)) Mn.lt)
 have Nh:=aH (Ia.below (dG k1 (by rw[HA.out];kernel_rfl)) Ia.lt)
 have Sd:=aH (Hv.on (iC Gq Li))
 have hga:w1<=ga:=by rw[<-Li.out];exact Rt
 have hgb:w1<=gb:=by rw[<-Li.out];exact Si
 clear hmet Mn Ia k0 k1 hva hvb Gq o0 o1 o2 HA Li Rt Si
 refine aQ ?_
 have Jk:=aH Sd.rcd
 go_wp2_with fail
 refine aA 2 ?_
 iterate 2
  refine aR ?_;constructor
  .intro w11 Ts _
   go_simp
   exact aE
 refine aZ ?_
 intro w11 Ts _
 have HL8b:=aH (HL8.below Ts.same HL8.lt)
 have HL9b:=aH (Nh.below Ts.same Nh.lt)
 have HSb:=aH (Sd.on Ts.same)
 clear HL8 Nh Sd Jk Ts
 simp only[List.drop_succ_cons,List.drop_zero]
 refine wpList_copy_own rfl (.tmp 38) (.tmp 39) 91 91 rfl 23 underlying91 J w 1 31 31 ⟨ga,0,none⟩ 17 17 rfl rfl C 25 HSb.rcd E.toList (by rw[Array.length_toList,Zm.size];rfl) ?hsrc ?hfit ?hone ?_
 case hsrc=>
  intro j v hj
  rw[Addr.add_lit,Nat.zero_add,HL8b.cell j]
  simpa using hj
 case hfit=>rw[Array.length_toList,Zm.size,Um.size];decide
 case hone=>
  intro v hv
  have:=Zm.one
  rw[Array.all_eq_true]at this
  obtain⟨i,hi,rfl⟩:=List.getElem_of_mem hv
  have h9:=this i (by simpa using hi)
  simpa using h9
 rw[Array.length_toList,Zm.size]
 have Pw:=aH (Um.splice Zm (o:=1) I)
 have Rd:=aH (HSb.rcd.setRow (C.toList.take 1++(E.toList++C.toList.drop (1+17))).toArray)
 have hgb2:w<gb:=I
 have Xx:Hid (aY (w11.setRow w (C.toList.take 1++(E.toList++C.toList.drop (1+17))).toArray) gb 44 #[co,va]):=aH ((setRow_other _ _ _ _ I).trans HL9b)
 have Xy:Hid (aY (w11.setRow w (C.toList.take 1++(E.toList++C.toList.drop (1+17))).toArray) (w+1+1) 25 (32:Nat)):=aH ((setRow_other _ _ _ _ I).trans HSb.res)
 have Pe:=aH (aL HSb.below (show w.heap.size<=w by omega) (C.toList.take 1++(E.toList++C.toList.drop (1+17))).toArray)
 generalize w11.setRow w.heap.size (C.toList.take 1++(E.toList++C.toList.drop (1+17))).toArray=W2 at*
 generalize(C.toList.take 1++(E.toList++C.toList.drop (1+17))).toArray=E1 at*
 clear HSb HL8b HL9b HI Um Zm Uw Jn
 have a0:=Xx.cell 0
 have a1:=Xx.cell 1
 simp at a0 a1
 go_wp2_with fail
 refine(FV co va _).mono ?_
 rintro e w3 ⟨rfl,He⟩
 have Hi:=aH (Rd.below He Rd.lt)
 have Og:=aH (Xy.below He Xy.lt)
 have Mh:=aH (Pe.trans (He.mono Pe.size))
 clear He Rd Xy Pe Xx a0 a1
 obtain⟨zc,hzc⟩:∃zc:Nat->Int,zc=fun i=>if 1<=i/\i<1+17 then y (i-1)else z i:=⟨_,rfl⟩
 rw[<-hzc]at Pw
 obtain⟨c,hc⟩:=aO (zc 28)
 obtain⟨q,hq⟩:=aO ((zc 26).toNat)
 have hz26:zc 26=(q:Int):=by rw[hq];have:=(Pw.bd 26 aJ).1;omega
 have HQ64:Hid (q<18446744073709551616):=aH (by have:=Pw.bd 26 aJ;omega)
 have hc28:0<=c/\c<=1099511627776:=by rw[hc,hzc];exact HC28
 have Lp:=aH hc28
 have u1:(c+1)%18446744073709551616=c+1:=I
 have u2:IntKind.u64.wrap (c+1)=c+1:=IntWalk.u64_in _ I
 have HZC:=aH (And.intro hzc (And.intro hc hq))
 have x0:=(Hi.cell (18+t)).trans (Pw.get (18+t) I)
 have x1:=(Hi.cell (22+t)).trans (Pw.get (22+t) I)
 have x2:=(Hi.cell 26).trans (Pw.get 26 I)
 have x3:=(Hi.cell 28).trans (Pw.get 28 I)
 rw[hz26]at x2
 rw[<-hc]at x3
 have f0:=Hi.frozen (18+t)
 have f1:=Hi.frozen (22+t)
 have f2:=Hi.frozen 26
 have f3:=Hi.frozen 28
 have i18:(18:Int)+t=((18+t:Nat):Int):=I
 have i22:(22:Int)+t=((22+t:Nat):Int):=I
 have j18:((18+t:Nat):Int)<32:=I
 have j22:((22+t:Nat):Int)<32:=I
 have n1:¬18+t=26:=I
 have n2:¬22+t=26:=I
 have n3:¬18+t=22+t:=I
 have n4:¬22+t=18+t:=I
 have n5:¬26=18+t:=I
 have n6:¬26=22+t:=I
 have n7:¬28=18+t:=I
 have n8:¬28=22+t:=I
 have n9:¬18+t=28:=I
 have n10:¬22+t=28:=I
 have Lw:=aH (vM co va)
 have Wa:=aH Js
 clear hzc hq hz26 hc28 hc
 generalize hs:18+t=s at*
 generalize hu:22+t=u at*
 have HS:=aH (And.intro hs hu)
 clear hs hu Js
 generalize hane:iV co va=an at*
 have HANE:=aH hane
 clear hane
 go_wp2_with fail
 refine(UD q t _ HQ64).mono ?_
 rintro e w4 ⟨rfl,rfl⟩
 obtain⟨E5,hE5⟩:=aO ((((E1.setIfInBounds s [an]).setIfInBounds 28 [c+1]).setIfInBounds u [c+1]).setIfInBounds 26 [((iH q t:Nat):Int)])
 have HFL:=aH (FE q t HQ64)
 have HU5:Hid (cH E5 32 (fun i=>if i=26 then((iH q t:Nat):Int)else if i=u then c+1 else if i=28 then c+1 else if i=s then an else zc i)):=aH (by
  rw[hE5]
  exact(((Pw.set_ (k:=s) Lw).set_ (k:=28) (v:=c+1) (by have:=Lp.out;omega)).set_ (k:=u) (v:=c+1) (by have:=Lp.out;omega)).set_ (k:=26) (v:=((iH q t:Nat):Int)) (by have:=HFL.out;omega))
 have Ki:=aH ((((Hi.set_ s [an]).set_ 28 [c+1]).set_ u [c+1]).set_ 26 [((iH q t:Nat):Int)])
 rw[<-hE5]at Ki
 have Wh:=aH ((((Og.far (p:=⟨w.heap.size,s,none⟩) (by simp;omega) [an]).far (p:=⟨w.heap.size,28,none⟩) (by simp;omega) [c+1]).far (p:=⟨w.heap.size,u,none⟩) (by simp;omega) [c+1]).far (p:=⟨w.heap.size,26,none⟩) (by simp;omega) [((iH q t:Nat):Int)])
 have Ud:=aH ((((Mh.setCell (p:=⟨w.heap.size,s,none⟩) (Nat.le_refl _) [an]).setCell (p:=⟨w.heap.size,28,none⟩) (Nat.le_refl _) [c+1]).setCell (p:=⟨w.heap.size,u,none⟩) (Nat.le_refl _) [c+1]).setCell (p:=⟨w.heap.size,26,none⟩) (Nat.le_refl _) [((iH q t:Nat):Int)])
 have Ue:Hid ((prog.info? 25).map (·.size)=some E5.size):=by show _=_;rw[AU,HU5.size]
 have Rh:=aH HU5.one
 clear hE5 Og Mh Hi
 go_wp2_with (first
  |(with_reducible refine lL 25 w 25 E5 J Ki.out underlying25 J Ue.out ?_)
  |(with_reducible refine fK 25 (w+1+1) E5 25 (32:Nat) J J Wh.out Ue.out (by rw[HU5.out.size];kernel_rfl) Rh.out ?_))
 (try simp only[Exit.inBlock,Exit.then])
 rw[<-HQ.out]
 with_reducible refine bodyPost_ret (bR results130 _ _ (w+1+1) 25 E5 _ .nilIface J J (aY.setRow Wh.out _) underlying25 J Ue.out) J ?_
 refine⟨E5,rfl,HU5.congr (fun i hi=>?_),aL Ud I _⟩
 obtain⟨hzc,hc,hq⟩:=HZC.out
 obtain⟨hs,hu⟩:=HS.out
 rw[hc,hq,hzc]
 unfold fT
 subst hs hu
 rw[HANE.out]
 simp only[show¬(1<=26/\26<1+17) by decide,show¬(1<=28/\28<1+17) by decide,if_false]
end
section
theorem sY{z:Nat->Int}(hr:eE z):dH z=z 0/\1<=z 0/\z 0<=6:=by
 have h:=rS hr.1.1
 unfold dH at h⊢
 split at h<;>rename_i h0
 .rw[iP h0];exact⟨rfl,h⟩
 omega
theorem Cf(b0 b1 b2 b3:Bool)(t x:Nat)(ht:t<4)(hx:x=(if b0 then 1 else 0)+(if b1 then 2 else 0)+(if b2 then 4 else 0)+(if b3 then 8 else 0)):
 iH x t=(if b0 !=(t==0)then 1 else 0)+(if b1 !=(t==1)then 2 else 0)+(if b2 !=(t==2)then 4 else 0)+(if b3 !=(t==3)then 8 else 0):=by
 rw[tN x t I,hx]
 rcases(by omega:t=0\/t=1\/t=2\/t=3)with rfl|rfl|rfl|rfl<;>cases b0<;>cases b1<;>cases b2<;>cases b3<;>rfl
theorem QL(z:Nat->Int)(t:Nat)(ht:t<4)(hx:0<=z 26/\z 26<16):uM (tT (jA z) t (1-jA z t)) 4=iH (z 26).toNat t:=by
 have Qy:(z 26).toNat%16=(z 26).toNat:=Nat.mod_eq_of_lt I
 have h:=AW z
 rw[Qy,uB _ _ _ _ (jA z) rfl rfl rfl rfl]at h
 rw[Cf _ _ _ _ t _ ht h.symm]
 refine uB _ _ _ _ _ ?_ ?_ ?_ ?_
 all_goals
  rcases(by omega:t=0\/t=1\/t=2\/t=3)with rfl|rfl|rfl|rfl<;>simp only[tT,jA]
 all_goals first
  |(cases gO (z 26).toNat ((0:Nat):Int)<;>rfl)
  |(cases gO (z 26).toNat ((1:Nat):Int)<;>rfl)
  |(cases gO (z 26).toNat ((2:Nat):Int)<;>rfl)
  |(cases gO (z 26).toNat ((3:Nat):Int)<;>rfl)
section congr
variable{z z':Nat->Int}
theorem Co(h:∀i,i<17->z' i=z i):eV z' 8=eV z 8:=by
 unfold eV
 rw[List.filter_congr (fun i hi=>by rw[h (2*i) (by have:=List.mem_range.1 hi;omega)])]
theorem Fj(h:∀i,i<17->z' i=z i)(key:Nat):kF z' key=kF z key:=by
 have:gL z' key=gL z key:=by
  funext k
  unfold gL
  rw[h (2*dR key k) (by have:=mY key k;omega)]
 unfold kF
 rw[this]
theorem KZ(h:∀i,i<17->z' i=z i){i:Nat}(hi:i<8):iL z' i=iL z i:=by
 unfold iL
 rw[h (2*i) I,h (2*i+1) I,Fj h]
theorem YT(h:∀i,i<17->z' i=z i):cS z'=cS z:=by
 unfold cS
 rw[Co h]
 congr 1
 rw[Bool.eq_iff_iff,List.all_eq_true,List.all_eq_true]
 constructor<;>intro q i hi
 .rw[<-KZ h (List.mem_range.1 hi)];exact q i hi
 rw[KZ h (List.mem_range.1 hi)];exact q i hi
theorem zH(h:∀i,i<17->z' i=z i){n:Nat}(hn:n<=16):zW z' n=zW z n:=by
 unfold zW
 refine List.map_congr_left fun i hi=>?_
 exact h (i+1) (by have:=List.mem_range.1 hi;omega)
theorem sO(h:∀i,i<17->z' i=z i)(hz:gW z):gW z':=by
 refine⟨by rw[h 0 I];exact hz.1,fun i hi=>?_⟩
 have:=hz.2 i hi
 unfold tY at*
 rw[h 0 I,h (i+1) I]
 exact this
theorem kO{kind:Int}(h:∀i,i<17->z' i=z i)(hz:cK kind z):cK kind z':=by
 unfold cK at*
 split
 .rename_i e
  rw[iP e]at hz
  refine⟨fun i hi=>?_,by rw[h 16 I];exact hz.2.1,by rw[YT h];exact hz.2.2⟩
  have:=hz.1 i hi
  unfold tW at*
  rw[h (2*i) I,h (2*i+1) I]
  exact this
 rename_i e
 rw[iN e]at hz
 split
 .rename_i e6
  rw[iP e6]at hz
  exact⟨by rw[h 0 I];exact hz.1,fun i hi=>by rw[h i hi,h 0 I];exact hz.2 i hi⟩
 rename_i e6
 rw[iN e6]at hz
 split
 .rename_i e4
  rw[iP e4]at hz
  refine⟨sO h hz.1,?_⟩
  rw[h 0 I,zH h (by have:=hz.1.1;omega)]
  exact hz.2
 rename_i e4
 rw[iN e4]at hz
 exact⟨hz.1,hz.2.1,sO h hz.2.2⟩
theorem lD.congrD{C:Array Value}{kind:Int}{A:Option Addr}{n c:Nat}{d d':Nat->Int}{N:Int}(x:lD C kind A n c d N)(h:∀i,i<16->d' i=d i):lD C kind A n c d' N:=
 ⟨x.size,x.kind_,x.list,fun i hi=>by rw[h i hi];exact x.slot i hi,x.num⟩
end congr
def rT(z:Nat->Int):Prop:=cK (dH z) (oz z)/\z 26<16/\z 28<=1099511627777/\z 27<=1099511627776/\(∀t,t<4->pV z t)/\z 29=0/\z 30=0/\z 31=0
theorem iD{z:Nat->Int}:eE z↔rT z/\z 28<=1099511627776:=by
 constructor
 .rintro⟨⟨h1,h2,h3,h4⟩,h5,h6⟩
  exact⟨⟨h1,h2,I,h4,h5,h6⟩,h3⟩
 rintro⟨⟨h1,h2,_,h4,h5,h6⟩,h3⟩
 exact⟨⟨h1,h2,h3,h4⟩,h5,h6⟩
theorem zG{z:Nat->Int}(hr:rT z):dH z=z 0/\1<=z 0/\z 0<=6:=by
 have h:=rS hr.1
 unfold dH at h⊢
 split at h<;>rename_i h0
 .rw[iP h0];exact⟨rfl,h⟩
 omega
theorem NT(x t u:Nat)(ht:t<64)(hu:u<64):gO (iH x t) u=(gO x u^^decide (t=u)):=by
 have e:∀y:Nat,gO y u=y.testBit u:=fun y=>by
  unfold gO
  rw[Nat.testBit_eq_decide_div_mod_eq]
  have h1:(u:Int)<64:=I
  simp [h1]
 rw[e,e,tN x t ht,Nat.testBit_xor,Nat.testBit_two_pow]
section done
variable{z:Nat->Int}(y:Nat->Int)(t:Nat)(co va:Int)
theorem LD:fT z y t co va 0=z 0:=by
 unfold fT
 rw[iN I,iN I,iN I,iN I,iN I]
theorem EL(i:Nat)(hi:i<17):oz (fT z y t co va) i=y i:=by
 unfold oz fT
 rw[iN I,iN I,iN I,iN I,iP I]
 congr 1
 omega
theorem FQ:dH (fT z y t co va)=dH z:=by unfold dH;rw[LD]
theorem qR(u:Nat)(hu:u<4):fT z y t co va (18+u)=if u=t then iV co va else z (18+u):=by
 unfold fT
 by_cases ht:t<4
 .rw[iN I,iN I,iN I]
  by_cases e:u=t
  .rw[iP I,iP e]
  rw[iN I,iN e,iN I]
 rw[iN I,iN I,iN I,iN I,iN I,iN I]
theorem mB(u:Nat)(hu:u<4)(ht:t<4):fT z y t co va (22+u)=if u=t then z 28+1 else z (22+u):=by
 unfold fT
 rw[iN I]
 by_cases e:u=t
 .rw[iP I,iP e]
 rw[iN I,iN I,iN I,iN I,iN e]
theorem CT:fT z y t co va 26=((iH (z 26).toNat t:Nat):Int):=by unfold fT;rw[iP rfl]
theorem wR(ht:t<4):fT z y t co va 27=z 27:=by
 unfold fT
 rw[iN I,iN I,iN I,iN I,iN I]
theorem sU(ht:t<4):fT z y t co va 28=z 28+1:=by
 unfold fT
 rw[iN I,iN I,iP rfl]
theorem xM(ht:t<4)(i:Nat)(hi:29<=i):fT z y t co va i=z i:=by
 unfold fT
 rw[iN I,iN I,iN I,iN I,iN I]
theorem AY{co va:Int}(h:nA co va):yI (iV co va)=true/\rZ (iV co va)=co/\tU (iV co va)=va/\iV co va≠0:=by
 obtain⟨h1,h2,⟨h3,h4⟩,h5⟩:=h
 have hf:fU co va=true:=by simp [fU];omega
 have e:iV co va=co*4294967296+va:=by unfold iV;rw[iP hf]
 have e1:(co*4294967296+va)/4294967296=co:=I
 have e2:(co*4294967296+va)%4294967296=va:=I
 have hw:yI (iV co va)=true:=by unfold yI;rw[e,e1,e2];exact hf
 refine⟨hw,?_,?_,by rw[e];omega⟩
 .unfold rZ;rw[iP hw,e,e1]
 unfold tU;rw[iP hw,e,e2]
theorem FF(ht:t<4)(ha:nA co va)(u:Nat)(hu:u<4):nV (fT z y t co va) u=tT (nV z) t co u:=by
 show rZ (fT z y t co va (18+u))=_
 rw[qR y t co va u hu]
 unfold tT
 by_cases e:u=t
 .rw[iP e,iP e];exact(AY ha).2.1
 rw[iN e,iN e];rfl
theorem CY(ht:t<4)(ha:nA co va)(u:Nat)(hu:u<4):nW (fT z y t co va) u=tT (nW z) t va u:=by
 show tU (fT z y t co va (18+u))=_
 rw[qR y t co va u hu]
 unfold tT
 by_cases e:u=t
 .rw[iP e,iP e];exact(AY ha).2.2.1
 rw[iN e,iN e];rfl
theorem PV(ht:t<4)(u:Nat)(hu:u<4):nL (fT z y t co va) u=tT (nL z) t (z 28+1) u:=by
 show fT z y t co va (22+u)=_
 rw[mB y t co va u hu ht]
 rfl
theorem VH(ht:t<4)(u:Nat)(hu:u<4):jA (fT z y t co va) u=tT (jA z) t (1-jA z t) u:=by
 unfold tT jA
 rw[CT,Int.toNat_natCast,NT _ t u I I]
 by_cases e:u=t
 .subst e
  simp only[decide_true,Bool.xor_true,if_true]
  cases gO (z 26).toNat u<;>rfl
 rw[iN e]
 have:decide (t=u)=false:=by simp;exact fun h=>e h.symm
 rw[this,Bool.xor_false]
theorem NA(hr:eE z)(hb:∀i,i<32->0<=z i)(ht:t<4)(hy:cK (z 0) y)(ha:nA co va):rT (fT z y t co va):=by
 obtain⟨hk,k1,k6⟩:=sY hr
 obtain⟨⟨h1,Re,Xz,Qx⟩,hthr,h29,h30,Qi⟩:=hr
 refine⟨?_,?_,?_,?_,fun u hu=>?_,?_,?_,?_⟩
 .rw[FQ,hk]
  exact kO (fun i hi=>EL y t co va i hi) hy
 .rw[CT]
  have:=QL z t ht ⟨hb 26 I,Re⟩
  rw[<-this]
  have:=IZ (tT (jA z) t (1-jA z t)) 4 I
  omega
 .rw[sU y t co va ht];omega
 .rw[wR y t co va ht];exact Qx
 .have hwt:∀u,u<4->z (22+u)<=z 28:=fun u hu=>(hthr u hu).1.2.1
  unfold pV BL
  rw[qR y t co va u hu,mB y t co va u hu ht,sU y t co va ht]
  by_cases e:u=t
  .subst e
   rw[iP rfl,iP rfl]
   obtain⟨a1,_,_,a4⟩:=AY ha
   have Sa:=hb 28 I
   refine⟨⟨.inl a1,I,⟨fun h=>absurd h a4,fun h=>by omega⟩⟩,fun x hx _=>?_⟩
   rw[mB y u co va x I hu,iN I]
   have:=hwt x I
   omega
  rw[iN e,iN e]
  obtain⟨⟨a1,a2,a3⟩,a4⟩:=hthr u hu
  refine⟨⟨a1,I,a3⟩,fun x hx hne=>?_⟩
  rw[mB y t co va x I ht]
  split
  .have:=hwt u hu;omega
  exact a4 x hx hne
 .rw[xM y t co va ht 29 I];exact h29
 .rw[xM y t co va ht 30 I];exact h30
 rw[xM y t co va ht 31 I];exact Qi
end done
def dW(z:Nat->Int)(i:Nat):Int:=if i=27 then z 27+1 else z i
theorem II{z:Nat->Int}(hr:rT z)(hb:∀i,i<32->0<=z i)(i:Nat)(hi:i<32):iW (z 0) (oz z) (nV z) (nW z) (nL z) (jA z) (z 27+1) (z 28) i=dW z i:=by
 obtain⟨hk,k1,k6⟩:=zG hr
 obtain⟨h1,Re,Xz,Qx,hthr,h29,h30,Qi⟩:=hr
 unfold dW iW
 by_cases Ul:i=27
 .rw[iP Ul,iP Ul]
 rw[iN Ul,iN Ul]
 by_cases e28:i=28
 .rw[iP e28,e28]
 rw[iN e28]
 unfold DY
 by_cases Is:i=0
 .rw[iP Is,Is]
 rw[iN Is]
 by_cases h1:i<18
 .rw[iP h1]
  unfold oz
  rw[show 1+(i-1)=i by omega]
 rw[iN h1]
 by_cases h2:i<22
 .rw[iP h2,iP I]
  have:=KX (hb i hi) (by have:=(hthr (i-18) I).1.1;rwa [show 18+(i-18)=i by omega]at this)
  rw[show nV z (i-18)=rZ (z (18+(i-18)))from rfl,show nW z (i-18)=tU (z (18+(i-18)))from rfl,show 18+(i-18)=i by omega]
  exact this
 rw[iN h2]
 by_cases h3:i<26
 .rw[iP h3,iP I]
  unfold nL
  rw[show 22+(i-22)=i by omega]
 rw[iN h3]
 by_cases e26:i=26
 .subst e26
  rw[iP rfl,AW]
  have:=hb 26 I
  omega
 rw[iN e26]
 have:i=29\/i=30\/i=31:=I
 rcases this with rfl|rfl|rfl
 .exact h29.symm
 .exact h30.symm
 exact Qi.symm
noncomputable def mO (z:Nat->Int) (a k:Int):Nat:=by
 classical exact if h:∃m,tG (oz z) a k m then h.choose else 0
theorem QD{z:Nat->Int}(hr:eE z)(a k:Int):dH z=5->tG (oz z) a k (mO z a k):=by
 intro h5
 have hR:cS (oz z)=true:=by
  have:=hr.1.1
  unfold cK at this
  rw[iP h5]at this
  exact this.2.2
 have h:=DG hR a k
 unfold mO
 rw[dif_pos h]
 exact h.choose_spec
noncomputable def dY (z:Nat->Int) (a k v:Int):Nat->Int:=BW (dH z) (oz z) a k v (mO z a k)
def dC(z:Nat->Int)(a k v:Int):Int:=IB (dH z) (oz z) a k v
def dV(z:Nat->Int)(a k v:Int):Int:=JO (dH z) (oz z) a k v
noncomputable def dZ (z:Nat->Int) (t:Nat) (a k v:Int):Nat->Int:=fT z (dY z a k v) t (dC z a k v) (dV z a k v)
theorem zC{z:Nat->Int}(hr:eE z)(hb:∀i,i<32->0<=z i/\z i<18446744073709551616){a k v:Int}(ho:gQ a k v):cK (z 0) (dY z a k v)/\VU (dY z a k v)/\nA (dC z a k v) (dV z a k v):=by
 have h:=DC (fun i hi=>hb (1+i) I) hr.1.1 ho (QD hr a k)
 rw[(sY hr).1]at h
 unfold dY dC dV
 rw[(sY hr).1]
 exact h
theorem XY{z:Nat->Int}(hr:eE z)(hb:∀i,i<32->0<=z i/\z i<18446744073709551616){a k v:Int}(ho:gQ a k v){t:Nat}(ht:t<4):rT (dZ z t a k v):=
 NA _ t _ _ hr (fun i hi=>(hb i hi).1) ht (zC hr hb ho).1 (zC hr hb ho).2.2
theorem ZT{z:Nat->Int}(hr:eE z)(hb:∀i,i<32->0<=z i/\z i<18446744073709551616){a k v:Int}(ho:gQ a k v){t:Nat}(i:Nat)(hi:i<32):0<=dZ z t a k v i/\dZ z t a k v i<18446744073709551616:=by
 obtain⟨_,hw,_⟩:=zC hr hb ho
 have Xz:=(iD.1 hr).2
 have Sa:=hb 28 I
 have b26:=hb 26 I
 unfold dZ fT
 split
 .have:=FE (z 26).toNat t I
  omega
 split
 .omega
 split
 .omega
 split
 .exact vM _ _
 split
 .exact hw (i-1) I
 exact hb i hi
theorem sZ{z:Nat->Int}(hr:rT z)(hb:∀i,i<32->0<=z i/\z i<18446744073709551616)(i:Nat)(hi:i<32):0<=dW z i/\dW z i<18446744073709551616:=by
 unfold dW
 split
 .have:=hr.2.2.2.1
  have:=hb 27 I
  omega
 exact hb i hi
def gR(z r:Nat->Int):Int:=
 if r 0<0\/4<=r 0 then 2 else if r 1≠0/\r 1≠1 then 1 else if jA z (r 0).toNat=r 1 then 0 else if cB (r 2) (r 3) (r 4)=false\/1099511627776<z 28 then 1 else 0
def vF(z r:Nat->Int):Bool:=decide (jA z (r 0).toNat≠r 1)
noncomputable def sD (z r:Nat->Int):Nat->Int:=if vF z r=true then dZ z (r 0).toNat (r 2) (r 3) (r 4)else z
def uP(z r:Nat->Int):List Value:=[.int .i64 (r 0),.int .i64 (r 2),.int .i64 (r 3),.int .i64 (r 4),.int .i64 (dC z (r 2) (r 3) (r 4)),.int .i64 (dV z (r 2) (r 3) (r 4))]
noncomputable def bz (f:Nat->Nat->Int) (z:Nat->Int):Nat->(Nat->Int)
 |0=>z
 |k+1=>sD (bz f z k) (f k)
noncomputable def bd (f:Nat->Nat->Int) (z:Nat->Int):Nat->List (List Value)
 |0=>[]
 |k+1=>if vF (bz f z k) (f k)=true then bd f z k++[uP (bz f z k) (f k)]else bd f z k
theorem uO{z r:Nat->Int}(h:gR z r=0)(ho:vF z r=true):(r 0).toNat<4/\0<=r 0/\(r 1=0\/r 1=1)/\gQ (r 2) (r 3) (r 4)/\z 28<=1099511627776:=by
 unfold gR at h
 unfold vF at ho
 have ho':=of_decide_eq_true ho
 split at h
 .omega
 split at h
 .omega
 (try rw[iN ho']at h)
 split at h
 .omega
 rename_i h1 h2 h3
 refine⟨I,I,I,eN.1 ?_,I⟩
 cases hx:cB (r 2) (r 3) (r 4)
 .exact absurd (.inl hx) h3
 rfl
theorem wV{z r:Nat->Int}(hr:rT z)(hb:∀i,i<32->0<=z i/\z i<18446744073709551616)(h:gR z r=0):rT (sD z r):=by
 unfold sD
 split
 .rename_i ho
  obtain⟨h1,h2,h3,h4,h5⟩:=uO h ho
  exact XY (iD.2 ⟨hr,h5⟩) hb h4 h1
 exact hr
end
end Go.Proofs.YtplpimkgihnmhaaGreatDoor
