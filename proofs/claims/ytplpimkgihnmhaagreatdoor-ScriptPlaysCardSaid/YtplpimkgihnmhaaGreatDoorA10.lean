/-
  Parts of a proof. For all values.
-/
import Derived.Test.YtplpimkgihnmhaaGreatDoorA05
import Derived.Test.YtplpimkgihnmhaaGreatDoorA07
set_option maxRecDepth 100000
set_option maxHeartbeats 16000000
set_option linter.all false
namespace Go.Proofs.YtplpimkgihnmhaaGreatDoor
open Go.Proofs.Tryz Go.RowKit
section
attribute [local go_sem↓] Go.wp_at_zero Go.wp_at_succ
theorem yV(C:Array Value)(z:Nat->Int)(key:Nat)(w:World)(h:eB C 16 z)(hk:key<=1000):
 Calls prog 208 #[.agg C,key] w fun e w'=>e=.returned (kF z key)/\Below w w w':=by
 have H:=aH h;clear h;have R:Hid (aY (w.alloc (.cells C 129)) w 129 C):=aY.new _ _ _
 go_enter func208,ntmps208
 go_wp2_with (go_at_call 203;refine(LQ key _ hk).mono ?_;rintro e G ⟨A,c,rfl,v,W⟩;have Q:=W.size;simp only[World.size_alloc]at Q;have P:=aH v;have O:=aH (R.below W (by simp));have N:Below w w G:=Below.trans (by go_grown) (W.mono (by simp));clear v)
 obtain⟨b,F,rfl,u,X⟩:=P.sli.at_ I;have p:=P.sli.cap63;have E:=P.sli.cap;have o:=aH X;clear X W
 go_loop [10] (fun i=>∃k:Nat,k<=8/\i=.int .i64 k/\Hid (∀j,j<k->gL z key j=false)) (fun i=>8-(intOf i).toNat)
 case atStart=>exact⟨0,I,rfl,fun j t=>absurd t I⟩
 case round=>
  obtain⟨k,zz,rfl,U⟩:=hrel;by_cases T:k<8
  .have b1:(k:Int)<8:=I;have n:=mY key k;have c0:G.cell? (b,F+k)=((dR key k:Nat):Int):=by rw[o.out k T,wP key 8 k T]
   have c1:G.cell? (w.heap.size,dR key k*2)=(z (2*dR key k)):=by rw[Nat.mul_comm,O.cell,H.get _ I]
   generalize s:dR key k=r at*;have D:=aH s;clear s;have m:(r:Int)<8:=I;generalize q:z (2*r)=y at*;have l:=aH q;clear q;have M:Hid (gL z key k=decide (y=key\/y=0)):=by unfold gL;rw[D.out,l.out];exact rfl
   have B:Hid (gL z key k=true->kF z key=(r:Int)):=fun hh=>by
    have g:=mC T hh U;unfold kF;rw[g,<-D.out]
   by_cases Z:y=key
   .have f:(y==(key:Int))=true:=by simpa using Z
    have S:=B.out (by rw[M.out];simpa using .inl Z);have L:=aH S;clear Z S;go_wp2;go_ret;exact⟨gU L.symm,N⟩
   have f:(y==(key:Int))=false:=by simpa using Z
   by_cases Y:y=0
   .have d:(y==0)=true:=by simpa using Y
    have S:=B.out (by rw[M.out];simpa using .inr Y);have L:=aH S;clear Z S Y;go_wp2;go_ret;exact⟨gU L.symm,N⟩
   have d:(y==0)=false:=by simpa using Y
   have V:gL z key k=false:=by rw[M.out];simp [Z,Y]
   have K:=aH V;clear Z Y V;go_wp2;refine⟨⟨k+1,I,aG,aH fun j t=>?_⟩,by simp [intOf];omega⟩;rcases Nat.lt_or_ge j k with h|h
   .exact U j h
   obtain rfl:j=k:=I;exact K
  obtain rfl:k=8:=I;have x:=pJ U;have a:Hid (kF z key= -1):=by unfold kF;rw[x];exact rfl
  clear x;go_wp2;go_ret;exact⟨gU a.symm,N⟩
theorem LX(C:Array Value)(z:Nat->Int)(key:Int)(w:World)(h:eB C 16 z)(Z:0<=key)(Y:key<=1000):
 Calls prog 208 #[.agg C,key] w fun e w'=>e=.returned (kF z key.toNat)/\Below w w w':=by
 obtain⟨q,rfl⟩:=Int.eq_ofNat_of_zero_le Z;simpa using yV C z q w h I
theorem rL:(prog.info? 129).map (·.size)=some 16:=J
theorem IW(C:Array Value)(z:Nat->Int)(k v:Int)(w:World)(h:eB C 16 z):
 Calls prog 201 #[.agg C,.agg #[(6:Int),k,v]] w (oL z 1 (eV z 8) w):=by
 have H:=aH h;have U:=h.size;have Y:Hid ((prog.info? 129).map (·.size)=some C.size):=by show _=_;rw[U,rL]
 have T:Hid (C.size=16):=U;have N:=h.one;clear h U
 go_enter func201,ntmps201
 go_upto_region 1 with(fail)
 have S:=qP w 129 C 6 k v;generalize(((w.alloc (.cells C 129)).alloc (.cells #[(6:Int),k,v] 39)).alloc (.cells (16:Int) 129)).alloc (.cells (2:Int) 44)=W at*;have X:=aH S;obtain⟨⟨E,D,B⟩,_,F⟩:=S.ops;clear S;go_wp2;refine bK 4 bN [] J J ?_
 iterate 4
  refine aC (fun K V=>?_)
  first
  |(refine .inl ?_
    apply Exists.intro;refine⟨cX,?_,V _ _ _ _ ?_⟩
    .simp only[bJ,bM];refine⟨?_,fun w9 hw9 _=>?_⟩
     .first|rfl|(go_simp;done)
     obtain⟨hc9,hf9⟩:=hw9.all
     first
     |(exact bT 129 _ rfl w rfl 129 C _ (X.out.on hw9.same).tab underlying129 rfl Y.out ⟨⟨rfl,trivial⟩,aD.refl _ _⟩)
     |(go_simp
       first
       |exact⟨⟨rfl,trivial⟩,aD.refl _ _⟩
       |(go_at_call 206;exact bS (gX _ _ _))|(go_at_call 204;exact bS (rP C z _ H.out)))
    clear V K
    try simp only[Act.put,List.setIfInBounds_toArray,List.set_cons_zero,List.set_cons_succ])
  |(refine .inr (.inl ⟨?_,V _ _ _ _ ?_⟩)
    .simp only[bM]
     first|rfl|(go_simp;done)
    clear V K
    try simp only[Act.put,List.setIfInBounds_toArray,List.set_cons_zero,List.set_cons_succ])
 refine cP ?_;simp only[bM];intro w9 hw9 _;obtain⟨hc9,hf9⟩:=hw9.all;simp only[List.drop_succ_cons,List.drop_zero];have Z:=X.out.on hw9.same;have R:=aH Z;obtain⟨⟨A,c1⟩,y,x⟩:=Z.row C;obtain⟨Q,P,O⟩:=Z.fin C 1 (eV z 8);have M:=aH Q;have L:=aH P;have G:=aH O;clear Q P O Z
 go_wp2_with (refine wpList_store_row rfl 129 _ _ rfl (w,2) C rfl rfl 129 (16:Int) ?_ ?_ ?_ N ?_;(exact R.out.res);(exact Y.out);(rw[T.out];rfl))
 exact bodyPost_ret (bY results201 _ _ (w,2) (w,3) 129 44 C #[(1:Int),(eV z 8)] _ _ rfl rfl M.out L.out underlying129 rfl Y.out underlying44 rfl lK) rfl ⟨C,H.out,rfl,G.out⟩
theorem KG(C:Array Value)(z:Nat->Int)(a k v:Int)(w:World)(h:eB C 16 z)(N:a≠6)(M:¬(a=1\/a=2\/a=5)\/k<1\/1000<k):
 Calls prog 201 #[.agg C,.agg #[a,k,v]] w (oL z 5 0 w):=by
 have H:=aH h;have U:=h.size;have Z:Hid ((prog.info? 129).map (·.size)=some C.size):=by show _=_;rw[U,rL]
 have T:Hid (C.size=16):=U;have L:=h.one;clear h U;have A:(a==6)=false:=by simpa using N
 have G:=aH M;clear M N
 go_enter func201,ntmps201
 go_upto_region 1 with(fail)
 have S:=qP w 129 C a k v;generalize(((w.alloc (.cells C 129)).alloc (.cells #[a,k,v] 39)).alloc (.cells (16:Int) 129)).alloc (.cells (2:Int) 44)=W at*;have X:=aH S;obtain⟨⟨x,u,t⟩,_,B⟩:=S.ops;clear S
 go_wp2_with (first
  |(go_at_call 55;refine(bQ _ _ _ _).mono ?_;rintro e s ⟨rfl,rfl⟩)
  |(refine wpList_load_row rfl 129 _ rfl w rfl 129 C (0,0) _ ?_ underlying129 rfl ?_ ?_;(exact X.out.tab);(exact Z.out))
  |(go_at_call 208;exfalso;have y:=G.out;simp only[bV,decide_eq_true_eq,decide_eq_false_iff_not,Bool.not_eq_true',Bool.not_eq_false',bne_iff_ne,bne_eq_false_iff_eq,beq_iff_eq,beq_eq_false_iff_ne,ne_eq]at*;omega))
 all_goals
  refine bK 2 bN [] J J ?_
  iterate 2
   refine aC (fun K V=>?_)
   first
   |(refine .inl ?_
     apply Exists.intro;refine⟨cX,?_,V _ _ _ _ ?_⟩
     .simp only[bJ,bM];refine⟨?_,fun w9 hw9 _=>?_⟩
      .first|rfl|(go_simp;done)
      obtain⟨hc9,hf9⟩:=hw9.all
      first
      |(exact bT 129 _ rfl w rfl 129 C _ (X.out.on hw9.same).tab underlying129 rfl Z.out ⟨⟨rfl,trivial⟩,aD.refl _ _⟩)
      |(go_simp
        first
        |exact⟨⟨rfl,trivial⟩,aD.refl _ _⟩
        |(go_at_call 206;exact bS (gX _ _ _)))
     clear V K
     try simp only[Act.put,List.setIfInBounds_toArray,List.set_cons_zero,List.set_cons_succ])
   |(refine .inr (.inl ⟨?_,V _ _ _ _ ?_⟩)
     .simp only[bM]
      first|rfl|(go_simp;done)
     clear V K
     try simp only[Act.put,List.setIfInBounds_toArray,List.set_cons_zero,List.set_cons_succ])
  refine cP ?_;simp only[bM];intro w9 hw9 _;obtain⟨hc9,hf9⟩:=hw9.all;simp only[List.drop_succ_cons,List.drop_zero];have Y:=X.out.on hw9.same;have R:=aH Y;obtain⟨⟨r,c1⟩,q,p⟩:=Y.row C;obtain⟨Q,P,O⟩:=Y.fin C 5 0;have F:=aH Q;have E:=aH P;have D:=aH O;clear Q P O Y
  go_wp2_with (refine wpList_store_row rfl 129 _ _ rfl (w,2) C rfl rfl 129 (16:Int) ?_ ?_ ?_ L ?_;(exact R.out.res);(exact Z.out);(rw[T.out];rfl))
  exact bodyPost_ret (bY results201 _ _ (w,2) (w,3) 129 44 C #[(5:Int),(0:Int)] _ _ rfl rfl F.out E.out underlying129 rfl Z.out underlying44 rfl lK) rfl ⟨C,H.out,rfl,D.out⟩
def BY(i n:Nat):List Int:=(List.range n).map fun x=>((kk i x:Nat):Int)
theorem OZ(i n:Nat):BY i (n+1)=BY i n++[((kk i n:Nat):Int)]:=by
 unfold BY;rw[List.range_succ,List.map_append];rfl
theorem EM(i n j:Nat)(Z:j<n):(BY i n)[j]?.getD 0=kk i j:=by
 unfold BY;rw[List.getElem?_map,List.getElem?_range Z];rfl
theorem XX(i n:Nat):nJ (BY i n):=fun j=>by
 rcases Nat.lt_or_ge j n with h|h
 .rw[EM i n j h];have:=vD i j;omega
 rw[List.getElem?_eq_none (by simp [BY];omega)];decide
theorem mL{l j:Int}{b:Bool}{R:Ending->World->Prop}(C:Array Value)(z:Nat->Int)(key i:Nat)(v y:Int)(w:World)(h:eB C 16 z)(xi:1<=key)(ya:key<=1000)(xh:i<8)(u:kF z key=(i:Int))(hy:z (2*i)=y)(xg:(y==0)=b)(hl:eV z 8=l)
 (hc:(b=true/\(j=2\/j=5)/\R=oL z 4 0 w)\/
   (b=false/\j=5/\R=oL z 1 (z (2*i+1)) w)\/
   (b=true/\j=1/\R=oL z 3 0 w/\(l==6)=true)\/
   (b=true/\j=1/\R=oL (setS z i key v) 1 0 w/\(l==6)=false/\Hid (-9223372036854775808<=v/\v<=9223372036854775807))\/
   (b=false/\j=1/\R=oL (setS z i key v) 1 0 w/\Hid (-9223372036854775808<=v/\v<=9223372036854775807))\/
   (b=false/\j=2/\∃m,R=oL (iX z i m) 1 (z (2*i+1)) w/\Hid (vI z i m/\∃D,eB D 16 (iX z i m)))):
 Calls prog 201 #[.agg C,.agg #[j,key,v]] w R:=by
 have q:Tg j:=rfl;have H:=aH h;have hI:=h.size;have U:Hid ((prog.info? 129).map (·.size)=some C.size):=by show _=_;rw[hI,rL]
 have zu:Hid (C.size=16):=hI;have h1:=h.one;clear h hI;have yu:=aH u;have HY:=aH hy;have xB:(i:Int)<8:=I;have xr:(1:Int)<=key:=I;have xq:(key:Int)<=1000:=I;have xp:bV (key:Int) 1 1000=true:=by simp [bV];omega
 clear u hy;have zl:=aH hl;clear hl;rcases hc with⟨rfl,hj,rfl⟩|⟨rfl,rfl,rfl⟩|⟨rfl,rfl,rfl,yh⟩|⟨rfl,rfl,rfl,yh,hs⟩|⟨rfl,rfl,rfl,hs⟩|⟨rfl,rfl,m,rfl,hs⟩
 case' inl=>rcases hj with rfl|rfl
 all_goals
  have xo:bV q 1 6=true:=by decide
  go_enter func201,ntmps201
  go_upto_region 1 with(fail)
  have hL:=qP w 129 C q (key:Int) v;generalize(((w.alloc (.cells C 129)).alloc (.cells #[q,key,v] 39)).alloc (.cells (16:Int) 129)).alloc (.cells (2:Int) 44)=W at*;have zk:=aH hL;obtain⟨⟨o0,o1,o2⟩,_,yg⟩:=hL.ops;clear hL
  go_wp2_with (first
   |(go_at_call 55;refine(bQ _ _ _ _).mono ?_;rintro e w' ⟨rfl,rfl⟩)
   |(refine wpList_load_row rfl 129 _ rfl w rfl 129 C (0,0) _ ?_ underlying129 rfl ?_ ?_;(exact zk.tab);(exact U))
   |(go_at_call 208;refine(yV C z key _ H ya).mono ?_;rintro e w1 ⟨rfl,yf⟩;rw[yu.out];have K:=zk.on yf;have P:=aH K;obtain⟨⟨p0,p1,p2⟩,_,za⟩:=K.ops;have y0:w1.cell? (w.heap.size,i*2)=y:=(by rw[K.tab.cell,Nat.mul_comm,H.get _ I,HY.out]);have y1:w1.cell? (w.heap.size,i*2+1)=(z (2*i+1)):=(by rw[K.tab.cell,Nat.mul_comm,H.get _ I]);have f0:w1.frozen? ⟨w.heap.size,i*2,none⟩=false:=K.tab.frozen _;have f1:w1.frozen? ⟨w.heap.size,i*2+1,none⟩=false:=K.tab.frozen _;have yt:w.heap.size<w1:=I;clear K o0 o1 o2 yg)
   |(refine eM ?_ 129 _ rfl w rfl 129 C (0,0) _ ?_ underlying129 rfl ?_ ?_;(first|rfl|(go_simp;done));(exact P.tab);(exact U))
   |(go_at_call 204;refine(rP C z _ H).mono ?_;rintro e w3 ⟨rfl,ye⟩;rw[zl.out];have S:=P.on ye;have G:=aH S;obtain⟨⟨q0,q1,q2⟩,_,zi⟩:=S.ops;have x0:w3.cell? (w.heap.size,i*2)=y:=(by rw[S.tab.cell,Nat.mul_comm,H.get _ I,HY.out]);have x1:w3.cell? (w.heap.size,i*2+1)=(z (2*i+1)):=(by rw[S.tab.cell,Nat.mul_comm,H.get _ I]);have g0:w3.frozen? ⟨w.heap.size,i*2,none⟩=false:=S.tab.frozen _;have g1:w3.frozen? ⟨w.heap.size,i*2+1,none⟩=false:=S.tab.frozen _;have xz:w.heap.size<w3:=I;clear S))
 iterate 2
  .skip
   refine aA 2 ?_
   iterate 2
    first
    |(refine Kf ?_;constructor
      .intro w9 hw9 hc9 hf9
       first
       |(exact bT 129 _ rfl w rfl 129 C _ (P.on hw9.same).tab underlying129 rfl U aE)
       |(go_simp
         first
         |exact aE
         |(go_at_call 206;exact bS (gX _ _ _))))
    |refine aU ?_
   refine bZ ?_;intro w9 hw9 hc9 hf9;simp only[List.drop_succ_cons,List.drop_zero];have Z:=P.on hw9.same;have Q:=aH Z;obtain⟨⟨c0,c1⟩,f0,f1⟩:=Z.row C;obtain⟨N,M,L⟩:=Z.fin C 4 0;have r:=aH N;have o:=aH M;have g:=aH L;clear N M L Z
   go_wp2_with (refine wpList_store_row rfl 129 _ _ rfl (w,2) C rfl rfl 129 (16:Int) ?_ ?_ ?_ h1 ?_;(exact Q.out.res);(exact U.out);(rw[zu.out];rfl))
   exact bodyPost_ret (bY results201 _ _ (w,2) (w,3) 129 44 C #[(4:Int),(0:Int)] _ _ rfl rfl r.out o.out underlying129 rfl U.out underlying44 rfl lK) rfl ⟨C,H.out,rfl,g.out⟩
 .skip
  refine aA 3 ?_
  iterate 3
   first
   |(refine Kf ?_;constructor
     .intro w9 hw9 hc9 hf9
      first
      |(exact bT 129 _ rfl w rfl 129 C _ (P.on hw9.same).tab underlying129 rfl U aE)
      |(go_simp
        first
        |exact aE
        |(go_at_call 206;exact bS (gX _ _ _))))
   |refine aU ?_
  refine bZ ?_;intro w9 hw9 hc9 hf9;simp only[List.drop_succ_cons,List.drop_zero];have Z:=P.on hw9.same;have Q:=aH Z;obtain⟨⟨c0,c1⟩,f0,f1⟩:=Z.row C;obtain⟨N,M,L⟩:=Z.fin C 1 (z (2*i+1));have r:=aH N;have o:=aH M;have g:=aH L;clear N M L Z
  go_wp2_with (refine wpList_store_row rfl 129 _ _ rfl (w,2) C rfl rfl 129 (16:Int) ?_ ?_ ?_ h1 ?_;(exact Q.out.res);(exact U.out);(rw[zu.out];rfl))
  exact bodyPost_ret (bY results201 _ _ (w,2) (w,3) 129 44 C #[(1:Int),(z (2*i+1))] _ _ rfl rfl r.out o.out underlying129 rfl U.out underlying44 rfl lK) rfl ⟨C,H.out,rfl,g.out⟩
 .skip
  refine aA 2 ?_
  iterate 2
   first
   |(refine Kf ?_;constructor
     .intro w9 hw9 hc9 hf9
      first
      |(exact bT 129 _ rfl w rfl 129 C _ (G.on hw9.same).tab underlying129 rfl U aE)
      |(go_simp
        first
        |exact aE
        |(go_at_call 206;exact bS (gX _ _ _))))
   |refine aU ?_
  refine bZ ?_;intro w9 hw9 hc9 hf9;simp only[List.drop_succ_cons,List.drop_zero];have Z:=G.on hw9.same;have Q:=aH Z;obtain⟨⟨c0,c1⟩,f0,f1⟩:=Z.row C;obtain⟨N,M,L⟩:=Z.fin C 3 0;have r:=aH N;have o:=aH M;have g:=aH L;clear N M L Z
  go_wp2_with (refine wpList_store_row rfl 129 _ _ rfl (w,2) C rfl rfl 129 (16:Int) ?_ ?_ ?_ h1 ?_;(exact Q.out.res);(exact U.out);(rw[zu.out];rfl))
  exact bodyPost_ret (bY results201 _ _ (w,2) (w,3) 129 44 C #[(3:Int),(0:Int)] _ _ rfl rfl r.out o.out underlying129 rfl U.out underlying44 rfl lK) rfl ⟨C,H.out,rfl,g.out⟩
 .have hv:=hs.out;obtain⟨E,hE⟩:=aO ((C.setIfInBounds (i*2) key).setIfInBounds (i*2+1) v);have Y:eB E 16 (setS z i key v):=by rw[hE];exact vW H i I hv
  have HE:=aH Y;have zt:=aH hE;have X:Hid ((prog.info? 129).map (·.size)=some E.size):=by show _=_;rw[Y.size,rL]
  have O:Hid (E.size=16):=Y.size;have h2:=Y.one;clear Y hE;have V:=aH (G.set_ i (key:Int) v);rw[<-zt.out]at V;refine aA 2 ?_
  iterate 2
   first
   |(refine Kf ?_;constructor
     .intro w9 hw9 hc9 hf9
      first
      |(exact bT 129 _ rfl w rfl 129 E _ (V.on hw9.same).tab underlying129 rfl X aE)
      |(go_simp
        first
        |exact aE
        |(go_at_call 206;exact bS (gX _ _ _))))
   |refine aU ?_
  refine bZ ?_;intro w9 hw9 hc9 hf9;simp only[List.drop_succ_cons,List.drop_zero];have Z:=V.on hw9.same;have Q:=aH Z;obtain⟨⟨c0,c1⟩,f0,f1⟩:=Z.row E;obtain⟨N,M,L⟩:=Z.fin E 1 0;have r:=aH N;have o:=aH M;have g:=aH L;clear N M L Z
  go_wp2_with (refine wpList_store_row rfl 129 _ _ rfl (w,2) E rfl rfl 129 (16:Int) ?_ ?_ ?_ h2 ?_;(exact Q.out.res);(exact X.out);(rw[O.out];rfl))
  exact bodyPost_ret (bY results201 _ _ (w,2) (w,3) 129 44 E #[(1:Int),(0:Int)] _ _ rfl rfl r.out o.out underlying129 rfl X.out underlying44 rfl lK) rfl ⟨E,HE.out,rfl,g.out⟩
 .have hv:=hs.out;obtain⟨E,hE⟩:=aO ((C.setIfInBounds (i*2) key).setIfInBounds (i*2+1) v);have Y:eB E 16 (setS z i key v):=by rw[hE];exact vW H i I hv
  have HE:=aH Y;have zt:=aH hE;have X:Hid ((prog.info? 129).map (·.size)=some E.size):=by show _=_;rw[Y.size,rL]
  have O:Hid (E.size=16):=Y.size;have h2:=Y.one;clear Y hE;have V:=aH (P.set_ i (key:Int) v);rw[<-zt.out]at V;refine aA 2 ?_
  iterate 2
   first
   |(refine Kf ?_;constructor
     .intro w9 hw9 hc9 hf9
      first
      |(exact bT 129 _ rfl w rfl 129 E _ (V.on hw9.same).tab underlying129 rfl X aE)
      |(go_simp
        first
        |exact aE
        |(go_at_call 206;exact bS (gX _ _ _))))
   |refine aU ?_
  refine bZ ?_;intro w9 hw9 hc9 hf9;simp only[List.drop_succ_cons,List.drop_zero];have Z:=V.on hw9.same;have Q:=aH Z;obtain⟨⟨c0,c1⟩,f0,f1⟩:=Z.row E;obtain⟨N,M,L⟩:=Z.fin E 1 0;have r:=aH N;have o:=aH M;have g:=aH L;clear N M L Z
  go_wp2_with (refine wpList_store_row rfl 129 _ _ rfl (w,2) E rfl rfl 129 (16:Int) ?_ ?_ ?_ h2 ?_;(exact Q.out.res);(exact X.out);(rw[O.out];rfl))
  exact bodyPost_ret (bY results201 _ _ (w,2) (w,3) 129 44 E #[(1:Int),(0:Int)] _ _ rfl rfl r.out o.out underlying129 rfl X.out underlying44 rfl lK) rfl ⟨E,HE.out,rfl,g.out⟩
 have zs:=hs.out.1;refine Exists.elim hs.out.2 fun D hD=>?_
 have f:=aH zs;have HD:=aH hD;have X:Hid ((prog.info? 129).map (·.size)=some D.size):=by show _=_;rw[hD.size,rL]
 have O:Hid (D.size=16):=hD.size;have h2:=hD.one;have xn:=zs.m6;clear zs hD;have S:=P.set_ i 0 0;have zr:=vW H i (k:=0) (v:=0) aJ aJ;obtain⟨C3,yz⟩:=aP ((C.setIfInBounds (i*2) (0:Int)).setIfInBounds (i*2+1) (0:Int));rw[yz]at S zr;clear yz p0 p1 p2 y0 y1 f0 f1 yt za P;generalize(w1.setCell (w.heap.size,i*2) (0:Int)).setCell (w.heap.size,i*2+1) (0:Int)=W3 at*;have G:=aH S;have zj:=aH zr;clear S zr;have zi:=G.ans.lt
 go_loopw [9,10] (fun s t wr=>∃x j:Nat,x<=m/\t=.int .i64 (j:Int)/\Hid (j=i+1+x)/\j<=20/\Hid (∃A c,s=.slice A x c/\jX wr W3 A x c (BY i x))/\Below W3 W3 wr) (fun _ t _=>30-(intOf t).toNat)
 case atStart=>exact⟨0,i+1,I,aG,aH rfl,I,aH ⟨none,0,rfl,jX.nil _ _⟩,Below.refl _ _⟩
 case round=>
  obtain⟨x,j,xk,rfl,hj,xs,yy,hb⟩:=hrel;obtain⟨A,c,rfl,zv⟩:=yy.out;have HO:=aH zv;clear zv yy;have zz:=G.on hb;have V:=aH zz;have xy:=zz.ans.lt;have zq:j%8<8:=Nat.mod_lt _ aJ;have zy:kk i x=j%8:=by rw[hj.out];unfold kk;omega
  have c0:wr.cell? (w.heap.size,j%8*2)=(setS z i 0 0 (2*kk i x)):=by rw[zz.tab.cell,zy,Nat.mul_comm,zj.get _ I]
  clear zz;rcases Nat.lt_or_ge x m with F|hge
  .have hne:=f.occ x F;generalize setS z i 0 0 (2*kk i x)=y5 at*;have d5:(y5 !=0)=true:=by simpa using hne
   have ys:=aH zy;clear zy hne;have zh:=hb.size
   go_wp2_with (at_builtin;refine dM rfl (.tmp 95) (.tmp 98) rfl (B:=W3) (v:=(j:Int)%8) rfl (HO.alloc _) rfl ((aY.new _ _ _).cell 0) I (by simp;omega) ?_;intro g2 c2 w2 zn yd)
   refine⟨⟨x+1,j+1,I,aG,aH (by rw[hj.out];omega),by have:=hj.out;omega,aH ⟨_,_,rfl,?_⟩,(hb.alloc zh _).trans yd⟩,by simp [intOf];omega⟩;rw[OZ,ys.out];exact zn
  obtain rfl:x=m:=I;have zg:=f.free;generalize setS z i 0 0 (2*kk i x)=y5 at*;have d5:(y5 !=0)=false:=by simpa using zg
  clear zg zy;go_wp2;clear c0;have zp:=(HO.mono (B':=w+4) I).slo (XX i x);have zx:=aH zp;have zf:=V.below;have ze:fZ wr w 129 (iX z i 0):=fZ.mk' V.tab zj;have yr:=aH ze;clear zp HO hb ze
  rename World=>W4
  go_loopw [102] (fun t wr=>∃n:Nat,n<=x/\t=.int .i64 (n:Int)/\Hid (fZ wr w 129 (iX z i n))/\Hid (aD (fun b=>b=w) W4 wr)) (fun t _=>x-(intOf t).toNat)
  case atStart=>exact⟨0,I,rfl,yr,aH (aD.refl _ _)⟩
  case round=>
   obtain⟨n,xj,rfl,hT,hK⟩:=hrel;have xm:=hT.lt;have xx:=hK.size;rcases Nat.lt_or_ge n x with F|hge
   .obtain⟨b,off,rfl,hblt,hcell⟩:=zx.sli.at_ I;have zd:=zx.up I _ rfl;have xw:=zx.sli.cap;have xl:=zx.sli.cap63;have yq:¬b=w:=by show¬b=w;have:w+4<=b:=zd;omega
    have cb:=(hK.cell (p:=⟨b,off+n,none⟩) hblt yq).trans (by rw[hcell n F,EM i x n F]);clear hcell;have xv:(n:Int)<x:=I;have zq:=vD i n;obtain⟨y1,y2,v1,v2⟩:=f.bd F;obtain⟨p,yx,u,_⟩:=f.step F (f.run n I);have d:iX z i (n+1)=setS (setS (iX z i n) (kk i n) 0 0) p (iX z i n (2*kk i n)) (iX z i n (2*kk i n+1)):=by
     show rC (iX z i n) (kk i n)=_;unfold rC;rw[u,Int.toNat_natCast]
    have c0:=hT.key zq;have c1:=hT.val zq;generalize hq:kk i n=q at*;generalize yc:iX z i n=T at*;generalize hy:T (2*q)=ky at*;generalize yb:T (2*q+1)=vv at*;have f0:=hT.frozen (q*2);have f1:=hT.frozen (q*2+1);have xu:(q:Int)<8:=I;have zc:=aH u;have yp:=aH d;clear u d yc hy yb hq;have yo: -9223372036854775808<=ky/\ky<=9223372036854775807:=I;have yn: -9223372036854775808<=vv/\vv<=9223372036854775807:=I;have hU:=aH ((hT.setS q (k:=0) (v:=0) aJ aJ).alloc (.cells #[ky,vv] 127));have hS:aY (((wr.setCell (w.heap.size,q*2) (0:Int)).setCell (w.heap.size,q*2+1) (0:Int)).alloc (.cells #[ky,vv] 127)) wr 127 #[ky,vv]:=aY.newAt _ _ _ (by simp);have ym:=aH (((hK.setCell (p:=⟨w.heap.size,q*2,none⟩) (.inl rfl) (0:Int)).setCell (p:=⟨w.heap.size,q*2+1,none⟩) (.inl rfl) (0:Int)).alloc (.cells #[ky,vv] 127));go_wp2;clear c0 c1 f0 f1 hT hK cb;generalize((wr.setCell (w.heap.size,q*2) (0:Int)).setCell (w.heap.size,q*2+1) (0:Int)).alloc (.cells #[ky,vv] 127)=W at*;have zw:=hU.lt;have zp:=hS.lt;have s0:=hS.cell 0;have s1:=hS.cell 1;simp only[List.getElem?_toArray,List.getElem?_cons_zero,List.getElem?_cons_succ]at s0 s1;obtain⟨CU,yw,zm⟩:=hU.ex;have yl:=aH yw;have yk:=aH zm;have yj:Hid ((prog.info? 129).map (·.size)=some CU.size):=by show _=_;rw[zm.size,rL]
    clear yw zm hS;have xt:(p:Int)<8:=I;have a:∀w9,Calls prog 208 #[.agg CU,ky] w9 fun e w'=>e=.returned p/\Below w9 w9 w':=fun w9=>by
     rw[<-zc.out];exact LX CU _ ky w9 yk I y2
    have zo:=aH a;clear a;have c0:=hU.key yx;have c1:=hU.val yx;have f0:=hU.frozen (p*2);have f1:=hU.frozen (p*2+1);refine aA 6 ?_
    iterate 6
     first
     |(refine Kf ?_;constructor
       .intro w9 hw9 hc9 hf9
        first
        |(exact bT 129 _ rfl w rfl 129 CU _ (yl.below hw9.same zw) underlying129 rfl yj aE)
        |(go_simp
          first
          |exact aE
          |(go_at_call 208;exact bS (zo.out w9))))
     |refine aU ?_
    refine bZ ?_;intro w9 hw9 hc9 hf9;go_wp2;have yi:=hw9.same;refine⟨⟨n+1,I,aG,aH ?_,aH (((ym.trans (hw9.mono fun _ h=>h.elim)).setCell (.inl rfl) _).setCell (.inl rfl) _)⟩,by simp [intOf];omega⟩;rw[yp.out];exact(hU.below yi zw).setS p yo yn
   obtain rfl:n=x:=I;go_wp2;obtain⟨E,hE,yv⟩:=hT.ex;obtain rfl:E=D:=yv.ext HD;have zb:Hid (oD w wr 129 E 2 (key:Int) v):=aH ⟨hE,(hK.block _ V.op.lt I).trans V.op,(hK.block _ V.res.lt I).trans V.res,(hK.block _ V.ans.lt I).trans V.ans,zf.trans (hK.below zf.size (fun b hb e=>by omega))⟩;clear hE yv;refine aA 3 ?_
   iterate 3
    first
    |(refine Kf ?_;constructor
      .intro w9 hw9 hc9 hf9
       first
       |(exact bT 129 _ rfl w rfl 129 E _ (zb.on hw9.same).tab underlying129 rfl X aE)
       |(go_simp
         first
         |exact aE
         |(go_at_call 206;exact bS (gX _ _ _))))
    |refine aU ?_
   refine bZ ?_;intro w9 hw9 hc9 hf9;simp only[List.drop_succ_cons,List.drop_zero];have Z:=zb.on hw9.same;have Q:=aH Z;obtain⟨⟨c0,c1⟩,f0,f1⟩:=Z.row E;obtain⟨N,M,L⟩:=Z.fin E 1 (z (2*i+1));have r:=aH N;have o:=aH M;have g:=aH L;clear N M L Z
   go_wp2_with (refine wpList_store_row rfl 129 _ _ rfl (w,2) E rfl rfl 129 (16:Int) ?_ ?_ ?_ h2 ?_;(exact Q.out.res);(exact X.out);(rw[O.out];rfl))
   exact bodyPost_ret (bY results201 _ _ (w,2) (w,3) 129 44 E #[(1:Int),(z (2*i+1))] _ _ rfl rfl r.out o.out underlying129 rfl X.out underlying44 rfl lK) rfl ⟨E,HD.out,rfl,g.out⟩
theorem SX(C D:Array Value)(z:Nat->Int)(a k v:Int)(m:Nat)(w:World)(h:eB C 16 z)(M:cS z=true)(L: -9223372036854775808<=v/\v<=9223372036854775807)(F:tG z a k m)(N:eB D 16 (fJ z a k v m)):
 Calls prog 201 #[.agg C,.agg #[a,k,v]] w fun e w'=>e=.returned (.tuple #[.agg D,.agg #[(fV z a k),(fX z a k)]])/\Below w w w':=by
 suffices hs:Calls prog 201 #[.agg C,.agg #[a,k,v]] w (oL (fJ z a k v m) (fV z a k) (fX z a k) w)from hs.mono fun e w' G=>G.det N
 by_cases Q:a=6
 .subst Q;exact IW C z k v w h
 by_cases O:(a=1\/a=2\/a=5)/\1<=k/\k<=1000
 .obtain⟨ha,hk1,hk2⟩:=O;obtain⟨key,rfl⟩:=Int.eq_ofNat_of_zero_le (show(0:Int)<=k by omega);have T:1<=key:=I;have S:key<=1000:=I;obtain⟨i,R,Z,P⟩:=nX M key;have e:(kF z ((key:Nat):Int).toNat).toNat=i:=by rw[Int.toNat_natCast,Z];rfl
  have K:a=2->z (2*i)=key->vI z i m:=fun W X=>by have:=F W hk1 hk2 (by rw[e];exact X);rwa [e]at this
  by_cases Y:z (2*i)=key
  .have U:(z (2*i)==0)=false:=by simp;omega
   rcases ha with rfl|rfl|rfl
   .have W:fJ z 1 key v m=setS z i key v:=by simp [fJ,hk1,hk2,Z,Y]
    have X:fV z 1 key=1:=by simp [fV,hk1,hk2,Z,Y]
    have V:fX z 1 key=0:=by simp [fX]
    rw[W,X,V];exact mL C z key i v _ w h T S R Z rfl U rfl (.inr (.inr (.inr (.inr (.inl ⟨rfl,rfl,rfl,L⟩)))))
   .have hB:=K rfl Y;have W:fJ z 2 key v m=iX z i m:=by simp [fJ,hk1,hk2,Z,Y]
    have X:fV z 2 key=1:=by simp [fV,hk1,hk2,Z,Y]
    have V:fX z 2 key=z (2*i+1):=by simp [fX,hk1,hk2,Z,Y]
    rw[W]at N⊢;rw[X,V];exact mL C z key i v _ w h T S R Z rfl U rfl (.inr (.inr (.inr (.inr (.inr ⟨rfl,rfl,m,rfl,hB,D,N⟩)))))
   have W:fJ z 5 key v m=z:=by simp [fJ,Z,Y]
   have X:fV z 5 key=1:=by simp [fV,hk1,hk2,Z,Y]
   have V:fX z 5 key=z (2*i+1):=by simp [fX,hk1,hk2,Z,Y]
   rw[W,X,V];exact mL C z key i v _ w h T S R Z rfl U rfl (.inr (.inl ⟨rfl,rfl,rfl⟩))
  have U:(z (2*i)==0)=true:=by simpa using P.resolve_left Y
  have H:=oO M;rcases ha with rfl|rfl|rfl
  .by_cases hl:6<=eV z 8
   .have W:fJ z 1 key v m=z:=by simp [fJ,Z,Y,hl]
    have X:fV z 1 key=3:=by simp [fV,hk1,hk2,Z,Y,hl]
    have V:fX z 1 key=0:=by simp [fX]
    rw[W,X,V];exact mL C z key i v _ w h T S R Z rfl U rfl (.inr (.inr (.inl ⟨rfl,rfl,rfl,by simp;omega⟩)))
   have W:fJ z 1 key v m=setS z i key v:=by simp [fJ,hk1,hk2,Z,hl]
   have X:fV z 1 key=1:=by simp [fV,hk1,hk2,Z,hl]
   have V:fX z 1 key=0:=by simp [fX]
   rw[W,X,V];exact mL C z key i v _ w h T S R Z rfl U rfl (.inr (.inr (.inr (.inl ⟨rfl,rfl,rfl,by simp;omega,L⟩))))
  .have W:fJ z 2 key v m=z:=by simp [fJ,Z,Y]
   have X:fV z 2 key=4:=by simp [fV,hk1,hk2,Z,Y]
   have V:fX z 2 key=0:=by simp [fX,Z,Y]
   rw[W,X,V];exact mL C z key i v _ w h T S R Z rfl U rfl (.inl ⟨rfl,.inl rfl,rfl⟩)
  have W:fJ z 5 key v m=z:=by simp [fJ,Z,Y]
  have X:fV z 5 key=4:=by simp [fV,hk1,hk2,Z,Y]
  have V:fX z 5 key=0:=by simp [fX,Z,Y]
  rw[W,X,V];exact mL C z key i v _ w h T S R Z rfl U rfl (.inl ⟨rfl,.inr rfl,rfl⟩)
 have W:fJ z a k v m=z:=by simp only[fJ,iN O]
 have X:fV z a k=5:=by simp only[fV,iN O,iN Q]
 have V:fX z a k=0:=by simp only[fX,iN Q];rw[iN I]
 rw[W,X,V];exact KG C z a k v w h Q I
