/-
  Part of a proof: MRT. For all values.
-/
import Derived.Test.YtplpimkgihnmhaaGreatDoorA07
import Derived.Test.YtplpimkgihnmhaaGreatDoorA10
set_option maxRecDepth 100000
set_option maxHeartbeats 16000000
set_option linter.all false
namespace Go.Proofs.YtplpimkgihnmhaaGreatDoor
open Go.Proofs.Tryz Go.RowKit
section
attribute [local go_sem ↓] Go.wp_at_zero Go.wp_at_succ
theorem yV(C:Array Value)(z:Nat->Int)(key:Nat)(w:World)(h:eB C 16 z)(hk:key<=1000):
 Calls prog 208 #[.agg C,.int .i64 key] w fun e w'=>e=.returned (.int .i64 (kF z key))/\Below w.heap.size w w':=by
 have H:=Lib.hid h
 clear h
 have Lv:Hid (aY (w.alloc (.cells C 129)) w.heap.size 129 C):=aY.new _ _ _
 go_enter func208,ntmps208
 go_wp2_with (go_at_call 203;refine(LQ key _ hk).mono ?_;rintro e w1 ⟨A,c,rfl,hs,Gs⟩;have Io:=Gs.size;simp only[World.size_alloc]at Io;have HS:=Lib.hid hs;have Vq:=Lib.hid (Lv.out.below Gs (by simp));have hB:Below w.heap.size w w1:=Below.trans (by go_grown) (Gs.mono (by simp));clear hs)
 obtain⟨b,off,rfl,hblt,hcell⟩:=HS.out.sli.at_ (by omega)
 have On:=HS.out.sli.cap63
 have hcap:=HS.out.sli.cap
 have HC:=Lib.hid hcell
 clear hcell Gs
 go_loop [10] (fun i=>∃k:Nat,k<=8/\i=.int .i64 k/\Hid (∀j,j<k->gL z key j=false)) (fun i=>8-(intOf i).toNat)
 case atStart=>exact⟨0,by omega,rfl,fun j hj=>absurd hj (by omega)⟩
 case round=>
  obtain⟨k,Md,rfl,hno⟩:=hrel
  by_cases hlt:k<8
  .have b1:(k:Int)<8:=by omega
   have hrl:=mY key k
   have c0:w1.cell? ⟨b,off+k,none⟩=some (.int .i64 ((dR key k:Nat):Int)):=by rw[HC.out k hlt,wP key 8 k hlt]
   have c1:w1.cell? ⟨w.heap.size,dR key k*2,none⟩=some (.int .i64 (z (2*dR key k))):=by rw[Nat.mul_comm,Vq.out.cell,H.out.get _ (by omega)]
   generalize hr:dR key k=r at*
   have HR:=Lib.hid hr
   clear hr
   have hr8:(r:Int)<8:=by omega
   generalize hy:z (2*r)=y at*
   have HY:=Lib.hid hy
   clear hy
   have HH:Hid (gL z key k=decide (y=key\/y=0)):=by unfold gL;rw[HR.out,HY.out];exact rfl
   have HF:Hid (gL z key k=true->kF z key=(r:Int)):=fun hh=>by
    have hf:(List.range 8).find? (gL z key)=some k:=mC hlt hh hno.out
    unfold kF
    rw[hf,<-HR.out]
   by_cases hyk:y=key
   .have d1:(y==(key:Int))=true:=by simpa using hyk
    have e1:=HF.out (by rw[HH.out];simpa using .inl hyk)
    have E1:=Lib.hid e1
    clear hyk e1
    go_wp2
    go_ret
    exact⟨gU E1.out.symm,hB⟩
   .have d1:(y==(key:Int))=false:=by simpa using hyk
    by_cases Jq:y=0
    .have d2:(y==0)=true:=by simpa using Jq
     have e1:=HF.out (by rw[HH.out];simpa using .inr Jq)
     have E1:=Lib.hid e1
     clear hyk e1 Jq
     go_wp2
     go_ret
     exact⟨gU E1.out.symm,hB⟩
    .have d2:(y==0)=false:=by simpa using Jq
     have hno':gL z key k=false:=by rw[HH.out];simp [hyk,Jq]
     have Rx:=Lib.hid hno'
     clear hyk Jq hno'
     go_wp2
     refine⟨⟨k+1,by omega,by go_num,Lib.hid fun j hj=>?_⟩,by simp [intOf];omega⟩
     rcases Nat.lt_or_ge j k with h|h
     .exact hno.out j h
     .obtain rfl:j=k:=by omega
      exact Rx.out
  .obtain rfl:k=8:=by omega
   have hn:(List.range 8).find? (gL z key)=none:=pJ hno.out
   have HE:Hid (kF z key= -1):=by unfold kF;rw[hn];exact rfl
   clear hn
   go_wp2
   go_ret
   exact⟨gU HE.out.symm,hB⟩
theorem LX(C:Array Value)(z:Nat->Int)(key:Int)(w:World)(h:eB C 16 z)(h0:0<=key)(h1:key<=1000):
 Calls prog 208 #[.agg C,.int .i64 key] w fun e w'=>e=.returned (.int .i64 (kF z key.toNat))/\Below w.heap.size w w':=by
 obtain⟨q,rfl⟩:=Int.eq_ofNat_of_zero_le h0
 simpa using yV C z q w h (by omega)
theorem rL:(prog.info? 129).map (·.size)=some 16:=by kernel_rfl
theorem IW(C:Array Value)(z:Nat->Int)(k v:Int)(w:World)(h:eB C 16 z):
 Calls prog 201 #[.agg C,.agg #[.int .i64 6,.int .i64 k,.int .i64 v]] w (oL z 1 (eV z 8) w):=by
 have H:=Lib.hid h
 have hI:=h.size
 have Hl:Hid ((prog.info? 129).map (·.size)=some C.size):=by show _=_;rw[hI,rL]
 have Qm:Hid (C.size=16):=hI
 have h1:=h.one
 clear h hI
 go_enter func201,ntmps201
 go_upto_region 1 with(fail)
 have hL:=qP w 129 C 6 k v
 generalize(((w.alloc (.cells C 129)).alloc (.cells #[.int .i64 6,.int .i64 k,.int .i64 v] 39)).alloc (.cells #[.int .i64 0,.int .i64 0,.int .i64 0,.int .i64 0,.int .i64 0,.int .i64 0,.int .i64 0,.int .i64 0,.int .i64 0,.int .i64 0,.int .i64 0,.int .i64 0,.int .i64 0,.int .i64 0,.int .i64 0,.int .i64 0] 129)).alloc (.cells #[.int .i64 0,.int .i64 0] 44)=W at*
 have Nz:=Lib.hid hL
 obtain⟨⟨o0,o1,o2⟩,_,hsz⟩:=hL.ops
 clear hL
 go_wp2
 refine bK 4 bN [] (by kernel_rfl) (by kernel_rfl) ?_
 iterate 4
  refine aC (fun K hK=>?_)
  first
  |(refine .inl ?_
    apply Exists.intro
    refine⟨cX,?_,hK _ _ _ _ ?_⟩
    .simp only[bJ,bM]
     refine⟨?_,fun w9 Gq _=>?_⟩
     .first|rfl|(go_simp;done)
     obtain⟨Gy,Gz⟩:=Gq.all
     first
     |(exact bT 129 _ rfl w.heap.size rfl 129 C _ (Nz.out.on Gq.same).tab underlying129 rfl Hl.out ⟨⟨rfl,trivial⟩,aD.refl _ _⟩)
     |(go_simp
       first
       |exact⟨⟨rfl,trivial⟩,aD.refl _ _⟩
       |(go_at_call 206;exact bS (gX _ _ _))|(go_at_call 204;exact bS (rP C z _ H.out)))
    clear hK K
    try simp only[Act.put,List.setIfInBounds_toArray,List.set_cons_zero,List.set_cons_succ])
  |(refine .inr (.inl ⟨?_,hK _ _ _ _ ?_⟩)
    .simp only[bM]
     first|rfl|(go_simp;done)
    clear hK K
    try simp only[Act.put,List.setIfInBounds_toArray,List.set_cons_zero,List.set_cons_succ])
 refine cP ?_
 simp only[bM]
 intro w9 Gq _
 obtain⟨Gy,Gz⟩:=Gq.all
 simp only[List.drop_succ_cons,List.drop_zero]
 have Iw:=Nz.out.on Gq.same
 have Nh:=Lib.hid Iw
 obtain⟨⟨c0,c1⟩,f0,f1⟩:=Iw.row C
 obtain⟨gA,gB,gC⟩:=Iw.fin C 1 (eV z 8)
 have GA:=Lib.hid gA
 have GB:=Lib.hid gB
 have GC:=Lib.hid gC
 clear gA gB gC Iw
 go_wp2_with (refine wpList_store_row rfl 129 _ _ rfl (w.heap.size+2) C rfl rfl 129 #[.int .i64 0,.int .i64 0,.int .i64 0,.int .i64 0,.int .i64 0,.int .i64 0,.int .i64 0,.int .i64 0,.int .i64 0,.int .i64 0,.int .i64 0,.int .i64 0,.int .i64 0,.int .i64 0,.int .i64 0,.int .i64 0] ?_ ?_ ?_ h1 ?_;(exact Nh.out.res);(exact Hl.out);(rw[Qm.out];rfl))
 exact bodyPost_ret (bY results201 _ _ (w.heap.size+2) (w.heap.size+3) 129 44 C #[.int .i64 1,.int .i64 (eV z 8)] _ _ rfl rfl GA.out GB.out underlying129 rfl Hl.out underlying44 rfl lK) rfl ⟨C,H.out,rfl,GC.out⟩
theorem KG(C:Array Value)(z:Nat->Int)(a k v:Int)(w:World)(h:eB C 16 z)(h6:a≠6)(hb:¬(a=1\/a=2\/a=5)\/k<1\/1000<k):
 Calls prog 201 #[.agg C,.agg #[.int .i64 a,.int .i64 k,.int .i64 v]] w (oL z 5 0 w):=by
 have H:=Lib.hid h
 have hI:=h.size
 have Hl:Hid ((prog.info? 129).map (·.size)=some C.size):=by show _=_;rw[hI,rL]
 have Qm:Hid (C.size=16):=hI
 have h1:=h.one
 clear h hI
 have d6:(a==6)=false:=by simpa using h6
 have HB:=Lib.hid hb
 clear hb h6
 go_enter func201,ntmps201
 go_upto_region 1 with(fail)
 have hL:=qP w 129 C a k v
 generalize(((w.alloc (.cells C 129)).alloc (.cells #[.int .i64 a,.int .i64 k,.int .i64 v] 39)).alloc (.cells #[.int .i64 0,.int .i64 0,.int .i64 0,.int .i64 0,.int .i64 0,.int .i64 0,.int .i64 0,.int .i64 0,.int .i64 0,.int .i64 0,.int .i64 0,.int .i64 0,.int .i64 0,.int .i64 0,.int .i64 0,.int .i64 0] 129)).alloc (.cells #[.int .i64 0,.int .i64 0] 44)=W at*
 have Nz:=Lib.hid hL
 obtain⟨⟨o0,o1,o2⟩,_,hsz⟩:=hL.ops
 clear hL
 go_wp2_with (first
  |(go_at_call 55;refine(bQ _ _ _ _).mono ?_;rintro e w' ⟨rfl,rfl⟩)
  |(refine wpList_load_row rfl 129 _ rfl w.heap.size rfl 129 C (0,0) _ ?_ underlying129 rfl ?_ ?_;(exact Nz.out.tab);(exact Hl.out))
  |(go_at_call 208;exfalso;have hh:=HB.out;simp only[bV,decide_eq_true_eq,decide_eq_false_iff_not,Bool.not_eq_true',Bool.not_eq_false',bne_iff_ne,bne_eq_false_iff_eq,beq_iff_eq,beq_eq_false_iff_ne,ne_eq]at*;omega))
 all_goals
  refine bK 2 bN [] (by kernel_rfl) (by kernel_rfl) ?_
  iterate 2
   refine aC (fun K hK=>?_)
   first
   |(refine .inl ?_
     apply Exists.intro
     refine⟨cX,?_,hK _ _ _ _ ?_⟩
     .simp only[bJ,bM]
      refine⟨?_,fun w9 Gq _=>?_⟩
      .first|rfl|(go_simp;done)
      obtain⟨Gy,Gz⟩:=Gq.all
      first
      |(exact bT 129 _ rfl w.heap.size rfl 129 C _ (Nz.out.on Gq.same).tab underlying129 rfl Hl.out ⟨⟨rfl,trivial⟩,aD.refl _ _⟩)
      |(go_simp
        first
        |exact⟨⟨rfl,trivial⟩,aD.refl _ _⟩
        |(go_at_call 206;exact bS (gX _ _ _)))
     clear hK K
     try simp only[Act.put,List.setIfInBounds_toArray,List.set_cons_zero,List.set_cons_succ])
   |(refine .inr (.inl ⟨?_,hK _ _ _ _ ?_⟩)
     .simp only[bM]
      first|rfl|(go_simp;done)
     clear hK K
     try simp only[Act.put,List.setIfInBounds_toArray,List.set_cons_zero,List.set_cons_succ])
  refine cP ?_
  simp only[bM]
  intro w9 Gq _
  obtain⟨Gy,Gz⟩:=Gq.all
  simp only[List.drop_succ_cons,List.drop_zero]
  have Iw:=Nz.out.on Gq.same
  have Nh:=Lib.hid Iw
  obtain⟨⟨c0,c1⟩,f0,f1⟩:=Iw.row C
  obtain⟨gA,gB,gC⟩:=Iw.fin C 5 0
  have GA:=Lib.hid gA
  have GB:=Lib.hid gB
  have GC:=Lib.hid gC
  clear gA gB gC Iw
  go_wp2_with (refine wpList_store_row rfl 129 _ _ rfl (w.heap.size+2) C rfl rfl 129 #[.int .i64 0,.int .i64 0,.int .i64 0,.int .i64 0,.int .i64 0,.int .i64 0,.int .i64 0,.int .i64 0,.int .i64 0,.int .i64 0,.int .i64 0,.int .i64 0,.int .i64 0,.int .i64 0,.int .i64 0,.int .i64 0] ?_ ?_ ?_ h1 ?_;(exact Nh.out.res);(exact Hl.out);(rw[Qm.out];rfl))
  exact bodyPost_ret (bY results201 _ _ (w.heap.size+2) (w.heap.size+3) 129 44 C #[.int .i64 5,.int .i64 0] _ _ rfl rfl GA.out GB.out underlying129 rfl Hl.out underlying44 rfl lK) rfl ⟨C,H.out,rfl,GC.out⟩
def BY(i n:Nat):List Int:=(List.range n).map fun x=>((kk i x:Nat):Int)
theorem OZ(i n:Nat):BY i (n+1)=BY i n++[((kk i n:Nat):Int)]:=by
 unfold BY
 rw[List.range_succ,List.map_append]
 rfl
theorem EM(i n j:Nat)(hj:j<n):(BY i n)[j]?.getD 0=kk i j:=by
 unfold BY
 rw[List.getElem?_map,List.getElem?_range hj]
 rfl
theorem XX(i n:Nat):nJ (BY i n):=fun j=>by
 rcases Nat.lt_or_ge j n with h|h
 .rw[EM i n j h]
  have:=vD i j
  omega
 .rw[List.getElem?_eq_none (by simp [BY];omega)]
  decide
theorem mL{l j:Int}{b:Bool}{R:Ending->World->Prop}(C:Array Value)(z:Nat->Int)(key i:Nat)(v y:Int)(w:World)(h:eB C 16 z)(Ny:1<=key)(Hu:key<=1000)(hi8:i<8)(hat:kF z key=(i:Int))(hy:z (2*i)=y)(hfr:(y==0)=b)(hl:eV z 8=l)
 (hc:(b=true/\(j=2\/j=5)/\R=oL z 4 0 w)\/
   (b=false/\j=5/\R=oL z 1 (z (2*i+1)) w)\/
   (b=true/\j=1/\R=oL z 3 0 w/\(l==6)=true)\/
   (b=true/\j=1/\R=oL (setS z i key v) 1 0 w/\(l==6)=false/\Hid (-9223372036854775808<=v/\v<=9223372036854775807))\/
   (b=false/\j=1/\R=oL (setS z i key v) 1 0 w/\Hid (-9223372036854775808<=v/\v<=9223372036854775807))\/
   (b=false/\j=2/\∃m,R=oL (iX z i m) 1 (z (2*i+1)) w/\Hid (vI z i m/\∃D,eB D 16 (iX z i m)))):
 Calls prog 201 #[.agg C,.agg #[.int .i64 j,.int .i64 (key:Int),.int .i64 v]] w R:=by
 have q:Tg j:=rfl
 have H:=Lib.hid h
 have hI:=h.size
 have Hl:Hid ((prog.info? 129).map (·.size)=some C.size):=by show _=_;rw[hI,rL]
 have Qm:Hid (C.size=16):=hI
 have h1:=h.one
 clear h hI
 have Lz:=Lib.hid hat
 have HY:=Lib.hid hy
 have hi8':(i:Int)<8:=by omega
 have Ma:(1:Int)<=key:=by omega
 have Ol:(key:Int)<=1000:=by omega
 have hwk:bV (key:Int) 1 1000=true:=by simp [bV];omega
 clear hat hy
 have Sl:=Lib.hid hl
 clear hl
 rcases hc with⟨rfl,hj,rfl⟩|⟨rfl,rfl,rfl⟩|⟨rfl,rfl,rfl,Ik⟩|⟨rfl,rfl,rfl,Ik,hs⟩|⟨rfl,rfl,rfl,hs⟩|⟨rfl,rfl,m,rfl,hs⟩
 case' inl=>rcases hj with rfl|rfl
 all_goals
  have hwi:bV q 1 6=true:=by decide
  go_enter func201,ntmps201
  go_upto_region 1 with(fail)
  have hL:=qP w 129 C q (key:Int) v
  generalize(((w.alloc (.cells C 129)).alloc (.cells #[.int .i64 q,.int .i64 (key:Int),.int .i64 v] 39)).alloc (.cells #[.int .i64 0,.int .i64 0,.int .i64 0,.int .i64 0,.int .i64 0,.int .i64 0,.int .i64 0,.int .i64 0,.int .i64 0,.int .i64 0,.int .i64 0,.int .i64 0,.int .i64 0,.int .i64 0,.int .i64 0,.int .i64 0] 129)).alloc (.cells #[.int .i64 0,.int .i64 0] 44)=W at*
  have Nz:=Lib.hid hL
  obtain⟨⟨o0,o1,o2⟩,_,hsz⟩:=hL.ops
  clear hL
  go_wp2_with (first
   |(go_at_call 55;refine(bQ _ _ _ _).mono ?_;rintro e w' ⟨rfl,rfl⟩)
   |(refine wpList_load_row rfl 129 _ rfl w.heap.size rfl 129 C (0,0) _ ?_ underlying129 rfl ?_ ?_;(exact Nz.out.tab);(exact Hl.out))
   |(go_at_call 208;refine(yV C z key _ H.out Hu).mono ?_;rintro e w1 ⟨rfl,Gs⟩;rw[Lz.out];have Ry:=Nz.out.on Gs;have Jx:=Lib.hid Ry;obtain⟨⟨p0,p1,p2⟩,_,Vb⟩:=Ry.ops;have y0:w1.cell? ⟨w.heap.size,i*2,none⟩=some (.int .i64 y):=(by rw[Ry.tab.cell,Nat.mul_comm,H.out.get _ (by omega),HY.out]);have y1:w1.cell? ⟨w.heap.size,i*2+1,none⟩=some (.int .i64 (z (2*i+1))):=(by rw[Ry.tab.cell,Nat.mul_comm,H.out.get _ (by omega)]);have f0:w1.frozen? ⟨w.heap.size,i*2,none⟩=false:=Ry.tab.frozen _;have f1:w1.frozen? ⟨w.heap.size,i*2+1,none⟩=false:=Ry.tab.frozen _;have hls:w.heap.size<w1.heap.size:=(by omega);clear Ry o0 o1 o2 hsz)
   |(refine eM ?_ 129 _ rfl w.heap.size rfl 129 C (0,0) _ ?_ underlying129 rfl ?_ ?_;(first|rfl|(go_simp;done));(exact Jx.out.tab);(exact Hl.out))
   |(go_at_call 204;refine(rP C z _ H.out).mono ?_;rintro e w3 ⟨rfl,He⟩;rw[Sl.out];have Kv:=Jx.out.on He;have Ms:=Lib.hid Kv;obtain⟨⟨q0,q1,q2⟩,_,Rb⟩:=Kv.ops;have x0:w3.cell? ⟨w.heap.size,i*2,none⟩=some (.int .i64 y):=(by rw[Kv.tab.cell,Nat.mul_comm,H.out.get _ (by omega),HY.out]);have x1:w3.cell? ⟨w.heap.size,i*2+1,none⟩=some (.int .i64 (z (2*i+1))):=(by rw[Kv.tab.cell,Nat.mul_comm,H.out.get _ (by omega)]);have g0:w3.frozen? ⟨w.heap.size,i*2,none⟩=false:=Kv.tab.frozen _;have g1:w3.frozen? ⟨w.heap.size,i*2+1,none⟩=false:=Kv.tab.frozen _;have hls3:w.heap.size<w3.heap.size:=(by omega);clear Kv))
 iterate 2
  .skip
   refine bK 2 bN [] (by kernel_rfl) (by kernel_rfl) ?_
   iterate 2
    refine aC (fun K hK=>?_)
    first
    |(refine .inl ?_
      apply Exists.intro
      refine⟨cX,?_,hK _ _ _ _ ?_⟩
      .simp only[bJ,bM]
       refine⟨?_,fun w9 Gq _=>?_⟩
       .first|rfl|(go_simp;done)
       obtain⟨Gy,Gz⟩:=Gq.all
       first
       |(exact bT 129 _ rfl w.heap.size rfl 129 C _ (Jx.out.on Gq.same).tab underlying129 rfl Hl.out ⟨⟨rfl,trivial⟩,aD.refl _ _⟩)
       |(go_simp
         first
         |exact⟨⟨rfl,trivial⟩,aD.refl _ _⟩
         |(go_at_call 206;exact bS (gX _ _ _)))
      clear hK K
      try simp only[Act.put,List.setIfInBounds_toArray,List.set_cons_zero,List.set_cons_succ])
    |(refine .inr (.inl ⟨?_,hK _ _ _ _ ?_⟩)
      .simp only[bM]
       first|rfl|(go_simp;done)
      clear hK K
      try simp only[Act.put,List.setIfInBounds_toArray,List.set_cons_zero,List.set_cons_succ])
   refine cP ?_
   simp only[bM]
   intro w9 Gq _
   obtain⟨Gy,Gz⟩:=Gq.all
   simp only[List.drop_succ_cons,List.drop_zero]
   have Iw:=Jx.out.on Gq.same
   have Nh:=Lib.hid Iw
   obtain⟨⟨c0,c1⟩,f0,f1⟩:=Iw.row C
   obtain⟨gA,gB,gC⟩:=Iw.fin C 4 0
   have GA:=Lib.hid gA
   have GB:=Lib.hid gB
   have GC:=Lib.hid gC
   clear gA gB gC Iw
   go_wp2_with (refine wpList_store_row rfl 129 _ _ rfl (w.heap.size+2) C rfl rfl 129 #[.int .i64 0,.int .i64 0,.int .i64 0,.int .i64 0,.int .i64 0,.int .i64 0,.int .i64 0,.int .i64 0,.int .i64 0,.int .i64 0,.int .i64 0,.int .i64 0,.int .i64 0,.int .i64 0,.int .i64 0,.int .i64 0] ?_ ?_ ?_ h1 ?_;(exact Nh.out.res);(exact Hl.out);(rw[Qm.out];rfl))
   exact bodyPost_ret (bY results201 _ _ (w.heap.size+2) (w.heap.size+3) 129 44 C #[.int .i64 4,.int .i64 0] _ _ rfl rfl GA.out GB.out underlying129 rfl Hl.out underlying44 rfl lK) rfl ⟨C,H.out,rfl,GC.out⟩
 .skip
  refine bK 3 bN [] (by kernel_rfl) (by kernel_rfl) ?_
  iterate 3
   refine aC (fun K hK=>?_)
   first
   |(refine .inl ?_
     apply Exists.intro
     refine⟨cX,?_,hK _ _ _ _ ?_⟩
     .simp only[bJ,bM]
      refine⟨?_,fun w9 Gq _=>?_⟩
      .first|rfl|(go_simp;done)
      obtain⟨Gy,Gz⟩:=Gq.all
      first
      |(exact bT 129 _ rfl w.heap.size rfl 129 C _ (Jx.out.on Gq.same).tab underlying129 rfl Hl.out ⟨⟨rfl,trivial⟩,aD.refl _ _⟩)
      |(go_simp
        first
        |exact⟨⟨rfl,trivial⟩,aD.refl _ _⟩
        |(go_at_call 206;exact bS (gX _ _ _)))
     clear hK K
     try simp only[Act.put,List.setIfInBounds_toArray,List.set_cons_zero,List.set_cons_succ])
   |(refine .inr (.inl ⟨?_,hK _ _ _ _ ?_⟩)
     .simp only[bM]
      first|rfl|(go_simp;done)
     clear hK K
     try simp only[Act.put,List.setIfInBounds_toArray,List.set_cons_zero,List.set_cons_succ])
  refine cP ?_
  simp only[bM]
  intro w9 Gq _
  obtain⟨Gy,Gz⟩:=Gq.all
  simp only[List.drop_succ_cons,List.drop_zero]
  have Iw:=Jx.out.on Gq.same
  have Nh:=Lib.hid Iw
  obtain⟨⟨c0,c1⟩,f0,f1⟩:=Iw.row C
  obtain⟨gA,gB,gC⟩:=Iw.fin C 1 (z (2*i+1))
  have GA:=Lib.hid gA
  have GB:=Lib.hid gB
  have GC:=Lib.hid gC
  clear gA gB gC Iw
  go_wp2_with (refine wpList_store_row rfl 129 _ _ rfl (w.heap.size+2) C rfl rfl 129 #[.int .i64 0,.int .i64 0,.int .i64 0,.int .i64 0,.int .i64 0,.int .i64 0,.int .i64 0,.int .i64 0,.int .i64 0,.int .i64 0,.int .i64 0,.int .i64 0,.int .i64 0,.int .i64 0,.int .i64 0,.int .i64 0] ?_ ?_ ?_ h1 ?_;(exact Nh.out.res);(exact Hl.out);(rw[Qm.out];rfl))
  exact bodyPost_ret (bY results201 _ _ (w.heap.size+2) (w.heap.size+3) 129 44 C #[.int .i64 1,.int .i64 (z (2*i+1))] _ _ rfl rfl GA.out GB.out underlying129 rfl Hl.out underlying44 rfl lK) rfl ⟨C,H.out,rfl,GC.out⟩
 .skip
  refine bK 2 bN [] (by kernel_rfl) (by kernel_rfl) ?_
  iterate 2
   refine aC (fun K hK=>?_)
   first
   |(refine .inl ?_
     apply Exists.intro
     refine⟨cX,?_,hK _ _ _ _ ?_⟩
     .simp only[bJ,bM]
      refine⟨?_,fun w9 Gq _=>?_⟩
      .first|rfl|(go_simp;done)
      obtain⟨Gy,Gz⟩:=Gq.all
      first
      |(exact bT 129 _ rfl w.heap.size rfl 129 C _ (Ms.out.on Gq.same).tab underlying129 rfl Hl.out ⟨⟨rfl,trivial⟩,aD.refl _ _⟩)
      |(go_simp
        first
        |exact⟨⟨rfl,trivial⟩,aD.refl _ _⟩
        |(go_at_call 206;exact bS (gX _ _ _)))
     clear hK K
     try simp only[Act.put,List.setIfInBounds_toArray,List.set_cons_zero,List.set_cons_succ])
   |(refine .inr (.inl ⟨?_,hK _ _ _ _ ?_⟩)
     .simp only[bM]
      first|rfl|(go_simp;done)
     clear hK K
     try simp only[Act.put,List.setIfInBounds_toArray,List.set_cons_zero,List.set_cons_succ])
  refine cP ?_
  simp only[bM]
  intro w9 Gq _
  obtain⟨Gy,Gz⟩:=Gq.all
  simp only[List.drop_succ_cons,List.drop_zero]
  have Iw:=Ms.out.on Gq.same
  have Nh:=Lib.hid Iw
  obtain⟨⟨c0,c1⟩,f0,f1⟩:=Iw.row C
  obtain⟨gA,gB,gC⟩:=Iw.fin C 3 0
  have GA:=Lib.hid gA
  have GB:=Lib.hid gB
  have GC:=Lib.hid gC
  clear gA gB gC Iw
  go_wp2_with (refine wpList_store_row rfl 129 _ _ rfl (w.heap.size+2) C rfl rfl 129 #[.int .i64 0,.int .i64 0,.int .i64 0,.int .i64 0,.int .i64 0,.int .i64 0,.int .i64 0,.int .i64 0,.int .i64 0,.int .i64 0,.int .i64 0,.int .i64 0,.int .i64 0,.int .i64 0,.int .i64 0,.int .i64 0] ?_ ?_ ?_ h1 ?_;(exact Nh.out.res);(exact Hl.out);(rw[Qm.out];rfl))
  exact bodyPost_ret (bY results201 _ _ (w.heap.size+2) (w.heap.size+3) 129 44 C #[.int .i64 3,.int .i64 0] _ _ rfl rfl GA.out GB.out underlying129 rfl Hl.out underlying44 rfl lK) rfl ⟨C,H.out,rfl,GC.out⟩
 .have hv:=hs.out
  obtain⟨E,hE⟩:∃E,E=(C.setIfInBounds (i*2) (.int .i64 (key:Int))).setIfInBounds (i*2+1) (.int .i64 v):=⟨_,rfl⟩
  have Ii:eB E 16 (setS z i key v):=by rw[hE];exact vW H.out i (by omega) hv
  have HE:=Lib.hid Ii
  have Om:=Lib.hid hE
  have If:Hid ((prog.info? 129).map (·.size)=some E.size):=by show _=_;rw[Ii.size,rL]
  have Ln:Hid (E.size=16):=Ii.size
  have h2:=Ii.one
  clear Ii hE
  have Jd:=Lib.hid (Ms.out.set_ i (key:Int) v)
  rw[<-Om.out]at Jd
  refine bK 2 bN [] (by kernel_rfl) (by kernel_rfl) ?_
  iterate 2
   refine aC (fun K hK=>?_)
   first
   |(refine .inl ?_
     apply Exists.intro
     refine⟨cX,?_,hK _ _ _ _ ?_⟩
     .simp only[bJ,bM]
      refine⟨?_,fun w9 Gq _=>?_⟩
      .first|rfl|(go_simp;done)
      obtain⟨Gy,Gz⟩:=Gq.all
      first
      |(exact bT 129 _ rfl w.heap.size rfl 129 E _ (Jd.out.on Gq.same).tab underlying129 rfl If.out ⟨⟨rfl,trivial⟩,aD.refl _ _⟩)
      |(go_simp
        first
        |exact⟨⟨rfl,trivial⟩,aD.refl _ _⟩
        |(go_at_call 206;exact bS (gX _ _ _)))
     clear hK K
     try simp only[Act.put,List.setIfInBounds_toArray,List.set_cons_zero,List.set_cons_succ])
   |(refine .inr (.inl ⟨?_,hK _ _ _ _ ?_⟩)
     .simp only[bM]
      first|rfl|(go_simp;done)
     clear hK K
     try simp only[Act.put,List.setIfInBounds_toArray,List.set_cons_zero,List.set_cons_succ])
  refine cP ?_
  simp only[bM]
  intro w9 Gq _
  obtain⟨Gy,Gz⟩:=Gq.all
  simp only[List.drop_succ_cons,List.drop_zero]
  have Iw:=Jd.out.on Gq.same
  have Nh:=Lib.hid Iw
  obtain⟨⟨c0,c1⟩,f0,f1⟩:=Iw.row E
  obtain⟨gA,gB,gC⟩:=Iw.fin E 1 0
  have GA:=Lib.hid gA
  have GB:=Lib.hid gB
  have GC:=Lib.hid gC
  clear gA gB gC Iw
  go_wp2_with (refine wpList_store_row rfl 129 _ _ rfl (w.heap.size+2) E rfl rfl 129 #[.int .i64 0,.int .i64 0,.int .i64 0,.int .i64 0,.int .i64 0,.int .i64 0,.int .i64 0,.int .i64 0,.int .i64 0,.int .i64 0,.int .i64 0,.int .i64 0,.int .i64 0,.int .i64 0,.int .i64 0,.int .i64 0] ?_ ?_ ?_ h2 ?_;(exact Nh.out.res);(exact If.out);(rw[Ln.out];rfl))
  exact bodyPost_ret (bY results201 _ _ (w.heap.size+2) (w.heap.size+3) 129 44 E #[.int .i64 1,.int .i64 0] _ _ rfl rfl GA.out GB.out underlying129 rfl If.out underlying44 rfl lK) rfl ⟨E,HE.out,rfl,GC.out⟩
 .have hv:=hs.out
  obtain⟨E,hE⟩:∃E,E=(C.setIfInBounds (i*2) (.int .i64 (key:Int))).setIfInBounds (i*2+1) (.int .i64 v):=⟨_,rfl⟩
  have Ii:eB E 16 (setS z i key v):=by rw[hE];exact vW H.out i (by omega) hv
  have HE:=Lib.hid Ii
  have Om:=Lib.hid hE
  have If:Hid ((prog.info? 129).map (·.size)=some E.size):=by show _=_;rw[Ii.size,rL]
  have Ln:Hid (E.size=16):=Ii.size
  have h2:=Ii.one
  clear Ii hE
  have Jd:=Lib.hid (Jx.out.set_ i (key:Int) v)
  rw[<-Om.out]at Jd
  refine bK 2 bN [] (by kernel_rfl) (by kernel_rfl) ?_
  iterate 2
   refine aC (fun K hK=>?_)
   first
   |(refine .inl ?_
     apply Exists.intro
     refine⟨cX,?_,hK _ _ _ _ ?_⟩
     .simp only[bJ,bM]
      refine⟨?_,fun w9 Gq _=>?_⟩
      .first|rfl|(go_simp;done)
      obtain⟨Gy,Gz⟩:=Gq.all
      first
      |(exact bT 129 _ rfl w.heap.size rfl 129 E _ (Jd.out.on Gq.same).tab underlying129 rfl If.out ⟨⟨rfl,trivial⟩,aD.refl _ _⟩)
      |(go_simp
        first
        |exact⟨⟨rfl,trivial⟩,aD.refl _ _⟩
        |(go_at_call 206;exact bS (gX _ _ _)))
     clear hK K
     try simp only[Act.put,List.setIfInBounds_toArray,List.set_cons_zero,List.set_cons_succ])
   |(refine .inr (.inl ⟨?_,hK _ _ _ _ ?_⟩)
     .simp only[bM]
      first|rfl|(go_simp;done)
     clear hK K
     try simp only[Act.put,List.setIfInBounds_toArray,List.set_cons_zero,List.set_cons_succ])
  refine cP ?_
  simp only[bM]
  intro w9 Gq _
  obtain⟨Gy,Gz⟩:=Gq.all
  simp only[List.drop_succ_cons,List.drop_zero]
  have Iw:=Jd.out.on Gq.same
  have Nh:=Lib.hid Iw
  obtain⟨⟨c0,c1⟩,f0,f1⟩:=Iw.row E
  obtain⟨gA,gB,gC⟩:=Iw.fin E 1 0
  have GA:=Lib.hid gA
  have GB:=Lib.hid gB
  have GC:=Lib.hid gC
  clear gA gB gC Iw
  go_wp2_with (refine wpList_store_row rfl 129 _ _ rfl (w.heap.size+2) E rfl rfl 129 #[.int .i64 0,.int .i64 0,.int .i64 0,.int .i64 0,.int .i64 0,.int .i64 0,.int .i64 0,.int .i64 0,.int .i64 0,.int .i64 0,.int .i64 0,.int .i64 0,.int .i64 0,.int .i64 0,.int .i64 0,.int .i64 0] ?_ ?_ ?_ h2 ?_;(exact Nh.out.res);(exact If.out);(rw[Ln.out];rfl))
  exact bodyPost_ret (bY results201 _ _ (w.heap.size+2) (w.heap.size+3) 129 44 E #[.int .i64 1,.int .i64 0] _ _ rfl rfl GA.out GB.out underlying129 rfl If.out underlying44 rfl lK) rfl ⟨E,HE.out,rfl,GC.out⟩
 .have hbe:=hs.out.1
  refine Exists.elim hs.out.2 fun D hD=>?_
  have Ji:=Lib.hid hbe
  have HD:=Lib.hid hD
  have If:Hid ((prog.info? 129).map (·.size)=some D.size):=by show _=_;rw[hD.size,rL]
  have Ln:Hid (D.size=16):=hD.size
  have h2:=hD.one
  have hm6:=hbe.m6
  clear hbe hD
  have Kv:=Jx.out.set_ i 0 0
  have hI3:=vW H.out i (k:=0) (v:=0) (by decide) (by decide)
  obtain⟨C3,hC3⟩:∃E,(C.setIfInBounds (i*2) (.int .i64 0)).setIfInBounds (i*2+1) (.int .i64 0)=E:=⟨_,rfl⟩
  rw[hC3]at Kv hI3
  clear hC3 p0 p1 p2 y0 y1 f0 f1 hls Vb Jx
  generalize(w1.setCell ⟨w.heap.size,i*2,none⟩ (.int .i64 0)).setCell ⟨w.heap.size,i*2+1,none⟩ (.int .i64 0)=W3 at*
  have Ms:=Lib.hid Kv
  have Mu:=Lib.hid hI3
  clear Kv hI3
  have Rb:=Ms.out.ans.lt
  go_loopw [9,10] (fun s t wr=>∃x j:Nat,x<=m/\t=.int .i64 (j:Int)/\Hid (j=i+1+x)/\j<=20/\Hid (∃A c,s=.slice A x c/\jX wr W3.heap.size A x c (BY i x))/\Below W3.heap.size W3 wr) (fun _ t _=>30-(intOf t).toNat)
  case atStart=>exact⟨0,i+1,by omega,by go_num,Lib.hid rfl,by omega,Lib.hid ⟨none,0,rfl,jX.nil _ _⟩,Below.refl _ _⟩
  case round=>
   obtain⟨x,j,hxm,rfl,hj,hj20,hex,hb⟩:=hrel
   obtain⟨A,c,rfl,hown⟩:=hex.out
   have HO:=Lib.hid hown
   clear hown hex
   have hL4:=Ms.out.on hb
   have Jd:=Lib.hid hL4
   have hsz4:=hL4.ans.lt
   have Tz:j%8<8:=Nat.mod_lt _ (by decide)
   have hkk:kk i x=j%8:=by rw[hj.out];unfold kk;omega
   have c0:wr.cell? ⟨w.heap.size,j%8*2,none⟩=some (.int .i64 (setS z i 0 0 (2*kk i x))):=by rw[hL4.tab.cell,hkk,Nat.mul_comm,Mu.out.get _ (by omega)]
   clear hL4
   rcases Nat.lt_or_ge x m with hlt|hge
   .have hne:=Ji.out.occ x hlt
    generalize setS z i 0 0 (2*kk i x)=y5 at*
    have d5:(y5 !=0)=true:=by simpa using hne
    have HKK:=Lib.hid hkk
    clear hkk hne
    have hsz5:=hb.size
    go_wp2_with (at_builtin;refine dM rfl (.tmp 95) (.tmp 98) rfl (B:=W3.heap.size) (v:=(j:Int)%8) rfl (HO.out.alloc _) rfl ((aY.new _ _ _).cell 0) (by omega) (by simp;omega) ?_;intro g2 c2 w2 Hb Gt)
    refine⟨⟨x+1,j+1,by omega,by go_num,Lib.hid (by rw[hj.out];omega),by have:=hj.out;omega,Lib.hid ⟨_,_,rfl,?_⟩,(hb.alloc hsz5 _).trans Gt⟩,by simp [intOf];omega⟩
    rw[OZ,HKK.out]
    exact Hb
   .obtain rfl:x=m:=by omega
    have hze:=Ji.out.free
    generalize setS z i 0 0 (2*kk i x)=y5 at*
    have d5:(y5 !=0)=false:=by simpa using hze
    clear hze hkk
    go_wp2
    clear c0
    have hsl:=(HO.out.mono (B':=w.heap.size+4) (by omega)).slo (XX i x)
    have Ng:=Lib.hid hsl
    have Lh:=Jd.out.below
    have hT4:fZ wr w.heap.size 129 (iX z i 0):=fZ.mk' Jd.out.tab Mu.out
    have Wa:=Lib.hid hT4
    clear hsl HO hb hT4
    rename World=>W4
    go_loopw [102] (fun t wr=>∃n:Nat,n<=x/\t=.int .i64 (n:Int)/\Hid (fZ wr w.heap.size 129 (iX z i n))/\Hid (aD (fun b=>b=w.heap.size) W4 wr)) (fun t _=>x-(intOf t).toNat)
    case atStart=>exact⟨0,by omega,rfl,Wa,Lib.hid (aD.refl _ _)⟩
    case round=>
     obtain⟨n,hnx,rfl,hT,hK⟩:=hrel
     have hgl:=hT.out.lt
     have hszr:=hK.out.size
     rcases Nat.lt_or_ge n x with hlt|hge
     .obtain⟨b,off,rfl,hblt,hcell⟩:=Ng.out.sli.at_ (by omega)
      have hbup:=Ng.out.up (by omega) _ rfl
      have hcap:=Ng.out.sli.cap
      have On:=Ng.out.sli.cap63
      have hbs:¬b=w.heap.size:=by show¬b=w.heap.size;have:w.heap.size+4<=b:=hbup;omega
      have cb:wr.cell? ⟨b,off+n,none⟩=some (.int .i64 ((kk i n:Nat):Int)):=(hK.out.cell (p:=⟨b,off+n,none⟩) hblt hbs).trans (by rw[hcell n hlt,EM i x n hlt])
      clear hcell
      have hnx':(n:Int)<x:=by omega
      have Tz:=vD i n
      obtain⟨y1,y2,v1,v2⟩:=Ji.out.bd hlt
      obtain⟨p,Zx,hat,_⟩:=Ji.out.step hlt (Ji.out.run n (by omega))
      have hstep:iX z i (n+1)=setS (setS (iX z i n) (kk i n) 0 0) p (iX z i n (2*kk i n)) (iX z i n (2*kk i n+1)):=by
       show rC (iX z i n) (kk i n)=_
       unfold rC
       rw[hat,Int.toNat_natCast]
      have c0:=hT.out.key Tz
      have c1:=hT.out.val Tz
      generalize hq:kk i n=q at*
      generalize hTT:iX z i n=T at*
      generalize hy:T (2*q)=ky at*
      generalize hvv:T (2*q+1)=vv at*
      have f0:=hT.out.frozen (q*2)
      have f1:=hT.out.frozen (q*2+1)
      have hq8':(q:Int)<8:=by omega
      have HATP:=Lib.hid hat
      have Id:=Lib.hid hstep
      clear hat hstep hTT hy hvv hq
      have hyi: -9223372036854775808<=ky/\ky<=9223372036854775807:=by omega
      have hvi: -9223372036854775808<=vv/\vv<=9223372036854775807:=by omega
      have hU:=Lib.hid ((hT.out.setS q (k:=0) (v:=0) (by decide) (by decide)).alloc (.cells #[.int .i64 ky,.int .i64 vv] 127))
      have hS:aY (((wr.setCell ⟨w.heap.size,q*2,none⟩ (.int .i64 0)).setCell ⟨w.heap.size,q*2+1,none⟩ (.int .i64 0)).alloc (.cells #[.int .i64 ky,.int .i64 vv] 127)) wr.heap.size 127 #[.int .i64 ky,.int .i64 vv]:=aY.newAt _ _ _ (by simp)
      have Jc:=Lib.hid (((hK.out.setCell (p:=⟨w.heap.size,q*2,none⟩) (.inl rfl) (.int .i64 0)).setCell (p:=⟨w.heap.size,q*2+1,none⟩) (.inl rfl) (.int .i64 0)).alloc (.cells #[.int .i64 ky,.int .i64 vv] 127))
      go_wp2
      clear c0 c1 f0 f1 hT hK cb
      generalize((wr.setCell ⟨w.heap.size,q*2,none⟩ (.int .i64 0)).setCell ⟨w.heap.size,q*2+1,none⟩ (.int .i64 0)).alloc (.cells #[.int .i64 ky,.int .i64 vv] 127)=W at*
      have Nm:=hU.out.lt
      have hsl:=hS.lt
      have s0:=hS.cell 0
      have s1:=hS.cell 1
      simp only[List.getElem?_toArray,List.getElem?_cons_zero,List.getElem?_cons_succ]at s0 s1
      obtain⟨CU,hCU,Zy⟩:=hU.out.ex
      have Um:=Lib.hid hCU
      have HIU:=Lib.hid Zy
      have Wb:Hid ((prog.info? 129).map (·.size)=some CU.size):=by show _=_;rw[Zy.size,rL]
      clear hCU Zy hS
      have hp8':(p:Int)<8:=by omega
      have hcall:∀w9,Calls prog 208 #[.agg CU,.int .i64 ky] w9 fun e w'=>e=.returned (.int .i64 (p:Int))/\Below w9.heap.size w9 w':=fun w9=>by
       rw[<-HATP.out]
       exact LX CU _ ky w9 HIU.out (by omega) y2
      have Hn:=Lib.hid hcall
      clear hcall
      have c0:=hU.out.key Zx
      have c1:=hU.out.val Zx
      have f0:=hU.out.frozen (p*2)
      have f1:=hU.out.frozen (p*2+1)
      refine bK 6 bN [] (by kernel_rfl) (by kernel_rfl) ?_
      iterate 6
       refine aC (fun K hK=>?_)
       first
       |(refine .inl ?_
         apply Exists.intro
         refine⟨cX,?_,hK _ _ _ _ ?_⟩
         .simp only[bJ,bM]
          refine⟨?_,fun w9 Gq _=>?_⟩
          .first|rfl|(go_simp;done)
          obtain⟨Gy,Gz⟩:=Gq.all
          first
          |(exact bT 129 _ rfl w.heap.size rfl 129 CU _ (Um.out.below Gq.same Nm) underlying129 rfl Wb.out ⟨⟨rfl,trivial⟩,aD.refl _ _⟩)
          |(go_simp
            first
            |exact⟨⟨rfl,trivial⟩,aD.refl _ _⟩
            |(go_at_call 208;exact bS (Hn.out w9)))
         clear hK K
         try simp only[Act.put,List.setIfInBounds_toArray,List.set_cons_zero,List.set_cons_succ])
       |(refine .inr (.inl ⟨?_,hK _ _ _ _ ?_⟩)
         .simp only[bM]
          first|rfl|(go_simp;done)
         clear hK K
         try simp only[Act.put,List.setIfInBounds_toArray,List.set_cons_zero,List.set_cons_succ])
      refine cP ?_
      simp only[bM]
      intro w9 Gq _
      obtain⟨Gy,Gz⟩:=Gq.all
      go_wp2
      have hbw:=Gq.same
      refine⟨⟨n+1,by omega,by go_num,Lib.hid ?_,Lib.hid (((Jc.out.trans (Gq.mono fun _ h=>h.elim)).setCell (.inl rfl) _).setCell (.inl rfl) _)⟩,by simp [intOf];omega⟩
      rw[Id.out]
      exact(hU.out.below hbw Nm).setS p hyi hvi
     .obtain rfl:n=x:=by omega
      go_wp2
      obtain⟨E,hE,hIE⟩:=hT.out.ex
      obtain rfl:E=D:=hIE.ext HD.out
      have HLZ:Hid (oD w wr 129 E 2 (key:Int) v):=Lib.hid ⟨hE,(hK.out.block _ Jd.out.op.lt (by omega)).trans Jd.out.op,(hK.out.block _ Jd.out.res.lt (by omega)).trans Jd.out.res,(hK.out.block _ Jd.out.ans.lt (by omega)).trans Jd.out.ans,Lh.trans (hK.out.below Lh.size (fun b hb e=>by omega))⟩
      clear hE hIE
      refine bK 3 bN [] (by kernel_rfl) (by kernel_rfl) ?_
      iterate 3
       refine aC (fun K hK=>?_)
       first
       |(refine .inl ?_
         apply Exists.intro
         refine⟨cX,?_,hK _ _ _ _ ?_⟩
         .simp only[bJ,bM]
          refine⟨?_,fun w9 Gq _=>?_⟩
          .first|rfl|(go_simp;done)
          obtain⟨Gy,Gz⟩:=Gq.all
          first
          |(exact bT 129 _ rfl w.heap.size rfl 129 E _ (HLZ.out.on Gq.same).tab underlying129 rfl If.out ⟨⟨rfl,trivial⟩,aD.refl _ _⟩)
          |(go_simp
            first
            |exact⟨⟨rfl,trivial⟩,aD.refl _ _⟩
            |(go_at_call 206;exact bS (gX _ _ _)))
         clear hK K
         try simp only[Act.put,List.setIfInBounds_toArray,List.set_cons_zero,List.set_cons_succ])
       |(refine .inr (.inl ⟨?_,hK _ _ _ _ ?_⟩)
         .simp only[bM]
          first|rfl|(go_simp;done)
         clear hK K
         try simp only[Act.put,List.setIfInBounds_toArray,List.set_cons_zero,List.set_cons_succ])
      refine cP ?_
      simp only[bM]
      intro w9 Gq _
      obtain⟨Gy,Gz⟩:=Gq.all
      simp only[List.drop_succ_cons,List.drop_zero]
      have Iw:=HLZ.out.on Gq.same
      have Nh:=Lib.hid Iw
      obtain⟨⟨c0,c1⟩,f0,f1⟩:=Iw.row E
      obtain⟨gA,gB,gC⟩:=Iw.fin E 1 (z (2*i+1))
      have GA:=Lib.hid gA
      have GB:=Lib.hid gB
      have GC:=Lib.hid gC
      clear gA gB gC Iw
      go_wp2_with (refine wpList_store_row rfl 129 _ _ rfl (w.heap.size+2) E rfl rfl 129 #[.int .i64 0,.int .i64 0,.int .i64 0,.int .i64 0,.int .i64 0,.int .i64 0,.int .i64 0,.int .i64 0,.int .i64 0,.int .i64 0,.int .i64 0,.int .i64 0,.int .i64 0,.int .i64 0,.int .i64 0,.int .i64 0] ?_ ?_ ?_ h2 ?_;(exact Nh.out.res);(exact If.out);(rw[Ln.out];rfl))
      exact bodyPost_ret (bY results201 _ _ (w.heap.size+2) (w.heap.size+3) 129 44 E #[.int .i64 1,.int .i64 (z (2*i+1))] _ _ rfl rfl GA.out GB.out underlying129 rfl If.out underlying44 rfl lK) rfl ⟨E,HD.out,rfl,GC.out⟩
theorem SX(C D:Array Value)(z:Nat->Int)(a k v:Int)(m:Nat)(w:World)(h:eB C 16 z)(hr:cS z=true)(hv: -9223372036854775808<=v/\v<=9223372036854775807)(hm:tG z a k m)(hD:eB D 16 (fJ z a k v m)):
 Calls prog 201 #[.agg C,.agg #[.int .i64 a,.int .i64 k,.int .i64 v]] w fun e w'=>e=.returned (.tuple #[.agg D,.agg #[.int .i64 (fV z a k),.int .i64 (fX z a k)]])/\Below w.heap.size w w':=by
 suffices hs:Calls prog 201 #[.agg C,.agg #[.int .i64 a,.int .i64 k,.int .i64 v]] w (oL (fJ z a k v m) (fV z a k) (fX z a k) w)from hs.mono fun e w' h'=>h'.det hD
 by_cases a6:a=6
 .subst a6
  exact IW C z k v w h
 .by_cases hc:(a=1\/a=2\/a=5)/\1<=k/\k<=1000
  .obtain⟨ha,Hu,Hp⟩:=hc
   obtain⟨key,rfl⟩:=Int.eq_ofNat_of_zero_le (show(0:Int)<=k by omega)
   have q1:1<=key:=by omega
   have q2:key<=1000:=by omega
   obtain⟨i,hi,hat,hor⟩:=nX hr key
   have e:(kF z ((key:Nat):Int).toNat).toNat=i:=by rw[Int.toNat_natCast,hat];rfl
   have hM:a=2->z (2*i)=key->vI z i m:=fun e1 e2=>by have:=hm e1 Hu Hp (by rw[e];exact e2);rwa [e]at this
   by_cases hth:z (2*i)=key
   .have hb:(z (2*i)==0)=false:=by simp;omega
    rcases ha with rfl|rfl|rfl
    .have e1:fJ z 1 key v m=setS z i key v:=by simp [fJ,Hu,Hp,hat,hth]
     have e2:fV z 1 key=1:=by simp [fV,Hu,Hp,hat,hth]
     have e3:fX z 1 key=0:=by simp [fX]
     rw[e1,e2,e3]
     exact mL C z key i v _ w h q1 q2 hi hat rfl hb rfl (.inr (.inr (.inr (.inr (.inl ⟨rfl,rfl,rfl,hv⟩)))))
    .have hB:=hM rfl hth
     have e1:fJ z 2 key v m=iX z i m:=by simp [fJ,Hu,Hp,hat,hth]
     have e2:fV z 2 key=1:=by simp [fV,Hu,Hp,hat,hth]
     have e3:fX z 2 key=z (2*i+1):=by simp [fX,Hu,Hp,hat,hth]
     rw[e1]at hD⊢
     rw[e2,e3]
     exact mL C z key i v _ w h q1 q2 hi hat rfl hb rfl (.inr (.inr (.inr (.inr (.inr ⟨rfl,rfl,m,rfl,hB,D,hD⟩)))))
    .have e1:fJ z 5 key v m=z:=by simp [fJ,hat,hth]
     have e2:fV z 5 key=1:=by simp [fV,Hu,Hp,hat,hth]
     have e3:fX z 5 key=z (2*i+1):=by simp [fX,Hu,Hp,hat,hth]
     rw[e1,e2,e3]
     exact mL C z key i v _ w h q1 q2 hi hat rfl hb rfl (.inr (.inl ⟨rfl,rfl,rfl⟩))
   .have hb:(z (2*i)==0)=true:=by simpa using hor.resolve_left hth
    have Ik:=oO hr
    rcases ha with rfl|rfl|rfl
    .by_cases hl:6<=eV z 8
     .have e1:fJ z 1 key v m=z:=by simp [fJ,hat,hth,hl]
      have e2:fV z 1 key=3:=by simp [fV,Hu,Hp,hat,hth,hl]
      have e3:fX z 1 key=0:=by simp [fX]
      rw[e1,e2,e3]
      exact mL C z key i v _ w h q1 q2 hi hat rfl hb rfl (.inr (.inr (.inl ⟨rfl,rfl,rfl,by simp;omega⟩)))
     .have e1:fJ z 1 key v m=setS z i key v:=by simp [fJ,Hu,Hp,hat,hl]
      have e2:fV z 1 key=1:=by simp [fV,Hu,Hp,hat,hl]
      have e3:fX z 1 key=0:=by simp [fX]
      rw[e1,e2,e3]
      exact mL C z key i v _ w h q1 q2 hi hat rfl hb rfl (.inr (.inr (.inr (.inl ⟨rfl,rfl,rfl,by simp;omega,hv⟩))))
    .have e1:fJ z 2 key v m=z:=by simp [fJ,hat,hth]
     have e2:fV z 2 key=4:=by simp [fV,Hu,Hp,hat,hth]
     have e3:fX z 2 key=0:=by simp [fX,hat,hth]
     rw[e1,e2,e3]
     exact mL C z key i v _ w h q1 q2 hi hat rfl hb rfl (.inl ⟨rfl,.inl rfl,rfl⟩)
    .have e1:fJ z 5 key v m=z:=by simp [fJ,hat,hth]
     have e2:fV z 5 key=4:=by simp [fV,Hu,Hp,hat,hth]
     have e3:fX z 5 key=0:=by simp [fX,hat,hth]
     rw[e1,e2,e3]
     exact mL C z key i v _ w h q1 q2 hi hat rfl hb rfl (.inl ⟨rfl,.inr rfl,rfl⟩)
  .have e1:fJ z a k v m=z:=by simp only[fJ,if_neg hc]
   have e2:fV z a k=5:=by simp only[fV,if_neg hc,if_neg a6]
   have e3:fX z a k=0:=by simp only[fX,if_neg a6];rw[if_neg (by omega)]
   rw[e1,e2,e3]
   exact KG C z a k v w h a6 (by omega)
end
end Go.Proofs.YtplpimkgihnmhaaGreatDoor
