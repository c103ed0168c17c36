/-
  Part of a proof: MThing TabD. For all values.
-/
import Derived.Test.YtplpimkgihnmhaaGreatDoorA06
set_option maxRecDepth 100000
set_option maxHeartbeats 16000000
set_option linter.all false
namespace Go.Proofs.YtplpimkgihnmhaaGreatDoor
open Go.Proofs.Tryz Go.RowKit
section
attribute [local go_sem↓] Go.wp_at_zero Go.wp_at_succ
def AS(key n:Nat):List Int:=(List.range n).map fun k=>(dR key k:Int)
theorem OD(key n:Nat):AS key (n+1)=AS key n++[(dR key n:Int)]:=by
 unfold AS
 rw[List.range_succ,List.map_append]
 rfl
theorem wP(key n j:Nat)(hj:j<n):(AS key n)[j]?.getD 0=dR key j:=by
 unfold AS
 rw[List.getElem?_map,List.getElem?_range hj]
 rfl
theorem XH(key n:Nat):nJ (AS key n):=fun i=>by
 rcases Nat.lt_or_ge i n with h|h
 .rw[wP key n i h]
  have:=mY key i
  omega
 rw[List.getElem?_eq_none (by simp [AS];omega)]
 decide
theorem yQ(key i:Nat)(hi:i<8):∃j,j<8/\dR key j=i:=by
 refine⟨(i+8-key*5%8)%8,Nat.mod_lt _ aJ,?_⟩
 unfold dR
 omega
theorem LQ(key:Nat)(w:World)(hk:key<=1000):
 Calls prog 203 #[key] w fun e w'=>∃A c,e=.returned (.slice A 8 c)/\kC w' w A 8 c (AS key 8)/\Below w w w':=by
 have Hu:(key:Int)<=1000:=I
 go_enter func203,ntmps203
 go_wp2
 go_loopw [3,5] (fun s i wr=>∃k:Nat,k<=8/\i=.int .i64 k/\Below w w wr/\Hid (∃A c,s=.slice A k c/\jX wr w A k c (AS key k))) (fun _ i _=>8-(intOf i).toNat)
 case atStart=>exact⟨0,I,rfl,Below.refl _ _,aH ⟨none,0,rfl,jX.nil _ _⟩⟩
 case round=>
  obtain⟨k,Md,rfl,hb,hex⟩:=hrel
  obtain⟨A,c,rfl,hown⟩:=hex.out
  have HO:=aH hown
  clear hown hex
  have hsz:=hb.size
  by_cases hlt:k<8
  .have b1:(k:Int)<8:=I
   have hr:((key:Int)*5%8+k)%8=((dR key k:Nat):Int):=by unfold dR;omega
   go_wp2_with (at_builtin;refine dM rfl (.tmp 8) (.tmp 15) rfl (B:=w) (v:=((dR key k:Nat):Int)) rfl (HO.alloc _) rfl ((aY.new _ _ _).cell 0) I (by simp;omega) ?_;intro g2 c2 w2 Hb Gt)
   go_roundw
   case rel=>exact⟨k+1,I,aG,(hb.alloc hsz _).trans Gt,aH ⟨_,_,rfl,by rw[OD];exact Hb⟩⟩
   case measure=>simp [intOf];omega
  obtain rfl:k=8:=I
  go_wp2
  go_ret
  exact⟨A,c,rfl,HO.slo (XH key 8),hb⟩
theorem rP(C:Array Value)(z:Nat->Int)(w:World)(h:eB C 16 z):
 Calls prog 204 #[.agg C] w fun e w'=>e=.returned (eV z 8)/\Below w w w':=by
 have H:=aH h
 clear h
 have Lv:Hid (aY (w.alloc (.cells C 129)) w 129 C):=aY.new _ _ _
 go_enter func204,ntmps204
 go_wp2
 go_loopw [3,5] (fun n i wr=>∃k:Nat,k<=8/\i=.int .i64 k/\n=.int .i64 (eV z k)/\Below (w,1) (w.alloc (.cells C 129)) wr) (fun _ i _=>8-(intOf i).toNat)
 case atStart=>exact⟨0,I,rfl,rfl,Below.refl _ _⟩
 case round=>
  obtain⟨k,hk,rfl,rfl,hb⟩:=hrel
  by_cases Md:k<8
  .have b1:(k:Int)<8:=I
   have hcell:wr.cell? (w.heap.size,k*2)=(z (2*k)):=(hb.cell (p:=⟨w.heap.size,k*2,none⟩) (by simp)).trans (by rw[Nat.mul_comm,Lv.cell,H.get _ I])
   have hls:=lU z k
   have hlb:=sQ z k
   have HLS:=aH hls
   clear hls
   generalize hy:z (2*k)=y at*
   by_cases Jq:y=0
   .have hyb:(y !=0)=false:=by simpa using Jq
    have hys:eV z (k+1)=eV z k:=by rw[HLS.out,iN (by simpa using Jq)];omega
    have Xd:=aH hys
    clear hys Jq
    go_wp2
    go_roundw
    case rel=>exact⟨k+1,I,aG,by rw[Xd.out],hb⟩
    case measure=>simp [intOf];omega
   have hyb:(y !=0)=true:=by simpa using Jq
   have hys:eV z (k+1)=eV z k+1:=by rw[HLS.out,iP (by simpa using Jq)]
   have Xd:=aH hys
   clear hys Jq
   go_wp2
   go_roundw
   case rel=>exact⟨k+1,I,aG,by rw[Xd.out],hb⟩
   case measure=>simp [intOf];omega
  obtain rfl:k=8:=I
  go_wp2
  go_ret
  exact⟨rfl,Below.trans (by go_grown) (hb.mono I)⟩
theorem pD{C:Array Value}{z:Nat->Int}(h:eB C 16 z)(k:Nat)(hk:k<8)(w:World):(Instr.index 129 (.agg C) k).run prog w=.ok (.agg #[(z (2*k)),(z (2*k+1))]) w:=by
 have hp:=h.pair (2*k) I
 have h8:(k:Int)<8:=I
 have s2:∀w,(sizeOf 127).run prog w=.ok 2 w:=fun w=>by kernel_rfl
 have a2:∀w,(isAgg 127).run prog w=.ok true w:=fun w=>by kernel_rfl
 simp [Instr.index,asIntOf,run_underlying underlying129,part,a2,s2]
 rw[iP hk,Nat.mul_comm k 2,hp]
theorem PB{z:Nat->Int}{key i j:Nat}(hj:j<8)(hi:i<8)(hz:z (2*i)=key)(hno:∀j',j'<j->gL z key j'=false)(h:dR key j=i):kF z key=i:=by
 have hh:gL z key j=true:=by unfold gL;rw[h];simp [hz]
 unfold kF
 rw[mC hj hh hno]
 show(dR key j:Int)=i
 rw[h]
theorem JH{z:Nat->Int}{key i j:Nat}(hj:j<8)(hno:∀j',j'<j->gL z key j'=false)(hh:gL z key j=true)(h:dR key j≠i):kF z key≠i:=by
 unfold kF
 rw[mC hj hh hno]
 simp only[ne_eq]
 omega
theorem NY{z:Nat->Int}{key i:Nat}(hi:i<8)(hz:z (2*i)=key)(hno:∀j',j'<8->gL z key j'=false):False:=by
 obtain⟨j,hj,hr⟩:=yQ key i hi
 have:=hno j hj
 unfold gL at this
 rw[hr]at this
 simp [hz]at this
set_option linter.unusedSimpArgs false in
theorem AX(C:Array Value)(z:Nat->Int)(w:World)(h:eB C 16 z):
 Calls prog 192 #[.agg C] w fun e w'=>e=.returned (cS z)/\Below w w w':=by
 have H:=aH h
 have hs:=h.size
 have hi:(prog.info? 129).map (·.size)=some C.size:=by rw[hs];kernel_rfl
 have HI:=aH hi
 clear hi hs h
 have HU:Hid (prog.underlying 129=_):=underlying129
 have Lv:Hid (aY (w.alloc (.cells C 129)) w 129 C):=aY.new _ _ _
 go_enter func192,ntmps192
 go_wp2_with (refine wpList_load_row rfl 129 _ rfl w rfl 129 C (0,0) _ ?_ HU.out rfl ?_ ?_;(exact Lv.out);(exact HI.out))
 go_loopw [8] (fun i wr=>∃k:Nat,k<=8/\i=.int .i64 k/\Below (w,1) (w.alloc (.cells C 129)) wr/\Hid (∀j,j<k->iL z j=true)) (fun i _=>8-(intOf i).toNat)
 case atStart=>exact⟨0,I,rfl,Below.refl _ _,fun j hj=>absurd hj I⟩
 case round=>
  obtain⟨k,hk,rfl,hb,hall⟩:=hrel
  rename World=>w5
  have hsz:w.heap.size+1<=w5:=by have:=hb.size;simpa using this
  by_cases Md:k<8
  .have b1:(k:Int)<8:=I
   have hix:=pD H.out k Md
   have hbd:=H.out.bd (2*k) I
   have HS:Hid (iL z k=decide (0<=z (2*k)/\z (2*k)<=1000/\0<=z (2*k+1)/\z (2*k+1)<=4294967295/\(z (2*k)=0->z (2*k+1)=0)/\(z (2*k)≠0->kF z (z (2*k)).toNat=k))):=rfl
   have Rx:Hid (iL z k=false->cS z=false):=fun h=>AD Md h
   obtain⟨y,hy⟩:∃y,z (2*k)=y:=⟨_,rfl⟩
   have HY:=aH hy
   rw[hy]at HS hix hbd
   clear hy
   generalize hv:z (2*k+1)=v at*
   clear hv
   by_cases hq:0<=y/\y<=1000/\0<=v/\v<=4294967295/\(y=0->v=0)
   .obtain⟨q1,q2,q3,q4,q5⟩:=hq
    have Vp:bV y 0 1000=true:=by simp [bV];omega
    have Zg:bV v 0 4294967295=true:=by simp [bV];omega
    obtain⟨key,rfl⟩:=Int.eq_ofNat_of_zero_le q1
    by_cases Jq:key=0
    .subst Jq
     have hv0:v=0:=q5 rfl
     subst hv0
     go_wp2_with (go_at_call 55;refine(bQ _ _ _ _).mono ?_;rintro e w' ⟨rfl,rfl⟩)
     go_roundw
     case rel=>exact⟨k+1,I,aG,hb.alloc I _,aH fun j hj=>by
      rcases Nat.lt_or_ge j k with h|h
      .exact hall.out j h
      .obtain rfl:j=k:=I
       rw[HS.out]
       simp⟩
     case measure=>simp [intOf];omega
    .have Ny:((key:Int)==0)=false:=by simp;omega
     have Hu:key<=1000:=I
     have hR:=LQ key
     have HRow:=aH hR
     clear hR
     go_wp2_with (first
      |(go_at_call 55;refine(bQ _ _ _ _).mono ?_;rintro e w' ⟨rfl,rfl⟩)
      |(go_at_call 203;refine(HRow.out _ Hu).mono ?_;rintro e w2 ⟨A2,c2,rfl,hslo,Gt⟩))
     have hzk:z (2*k)=key:=HY.out
     have HZK:=aH hzk
     clear hzk
     obtain⟨b,off,rfl,hblt,hcell⟩:=hslo.sli.at_ I
     have HC:=aH hcell
     clear hcell
     have Hh:w5.heap.size+1<=w2:=by have:=Gt.size;simpa using this
     have hbx:=Gt.mono (show w.heap.size+1<=_ by simp;omega)
     have hb1x:Below (w,1) w5 (w5.alloc (.cells #[key,v] 127)):=(Below.refl _ _).alloc I _
     have Hf:Below (w,1) (w.alloc (.cells C 129)) w2:=hb.trans (hb1x.trans hbx)
     have hkey:w2.cell? w5=key:=(Gt.cell (p:=⟨w5.heap.size,0,none⟩) (by simp)).trans ((aY.new w5 127 #[key,v]).cell 0)
     clear hslo Gt hbx hb1x
     go_loopw [39] (fun jv wr=>∃j:Nat,j<=8/\jv=.int .i64 j/\Below w2 w2 wr/\Hid (∀j',j'<j->gL z key j'=false)) (fun jv _=>8-(intOf jv).toNat)
     case atStart=>exact⟨0,I,rfl,Below.refl _ _,fun j hj=>absurd hj I⟩
     case round=>
      obtain⟨j,hj,rfl,hbq,hno⟩:=hrel
      by_cases hj8:j<8
      .have b2:(j:Int)<8:=I
       have hrl:=mY key j
       have c1:wr.cell? (b,off+j)=((dR key j:Nat):Int):=(hbq.cell (p:=⟨b,off+j,none⟩) hblt).trans (by rw[HC.out j hj8,wP key 8 j hj8])
       have c2:wr.cell? w5=key:=(hbq.cell (p:=⟨w5.heap.size,0,none⟩) (by show w5.heap.size<w2;omega)).trans hkey
       have c3:wr.cell? (w.heap.size,dR key j*2)=(z (2*dR key j)):=(hbq.cell (p:=⟨w.heap.size,dR key j*2,none⟩) (by show w.heap.size<w2;omega)).trans ((Hf.cell (p:=⟨w.heap.size,dR key j*2,none⟩) (by simp)).trans (by rw[Nat.mul_comm,Lv.out.cell,H.out.get _ I]))
       have HH:Hid (gL z key j=decide (z (2*dR key j)=key\/z (2*dR key j)=0)):=rfl
       have Pu:Hid (dR key j=k->kF z key=k):=fun hh=>PB hj8 Md HZK.out hno.out hh
       have HMI:Hid (gL z key j=true->dR key j≠k->kF z key≠k):=fun h1 h2=>JH hj8 hno.out h1 h2
       have s1:w.heap.size<wr:=by have:=hbq.size;omega
       have s2:w5.heap.size<wr:=by have:=hbq.size;omega
       generalize hr:dR key j=r at*
       have HR:=aH hr
       clear hr
       have hr8:(r:Int)<8:=I
       by_cases hrk:r=k
       .have d1:((r:Int)==k)=true:=by simp [hrk]
        have hat:=Pu.out hrk
        have Lz:=aH hat
        clear hat hrk
        go_wp2
        go_roundw
        case rel=>exact⟨k+1,I,aG,Hf.trans (hbq.mono I),aH fun j' hj'=>by
         rcases Nat.lt_or_ge j' k with h|h
         .exact hall.out j' h
         .obtain rfl:j'=k:=I
          rw[HS.out]
          have:=Lz.out
          simp [this]
          omega⟩
        case measure=>simp [intOf];omega
       .have d1:((r:Int)==k)=false:=by simp;omega
        generalize hyr:z (2*r)=yr at*
        clear hyr
        by_cases hz:yr=key\/yr=0
        .have hne:kF z key≠k:=HMI.out (by rw[HH.out];simpa using hz) hrk
         have hf:cS z=false:=Rx.out (by rw[HS.out];simp [Jq,hne])
         have HF:=aH hf
         clear hf hne hrk
         have hz':=aH hz
         clear hz
         by_cases Ib:yr=0
         .have d2:(yr==0)=true:=by simpa using Ib
          clear Ib
          go_wp2
          refine bK 14 bN [] J J ?_
          iterate 14
           refine aC (fun K hK=>?_)
           first
           |(refine .inl ?_
             apply Exists.intro
             refine⟨cX,?_,hK _ _ _ _ ?_⟩
             .simp only[bJ,bM]
              refine⟨?_,fun w9 Gq _=>?_⟩
              .first|rfl|(go_simp;done)
              obtain⟨Gy,Gz⟩:=Gq.all
              go_simp
              first
              |exact⟨⟨rfl,trivial⟩,aD.refl _ _⟩
             clear hK K
             try simp only[Act.put,List.setIfInBounds_toArray,List.set_cons_zero,List.set_cons_succ])
           |(refine .inr (.inl ⟨?_,hK _ _ _ _ ?_⟩)
             .simp only[bM]
              first|rfl|(go_simp;done)
             clear hK K
             try simp only[Act.put,List.setIfInBounds_toArray,List.set_cons_zero,List.set_cons_succ])
          refine cP ?_
          simp only[bM]
          intro w9 Gq _
          obtain⟨Gy,Gz⟩:=Gq.all
          go_wp2
          apply_assumption
          go_wp2
          go_ret
          exact⟨dF (by rw[HF.out]),Below.trans (by go_grown) ((Hf.trans ((hbq.trans (Gq.same.mono hbq.size)).mono I)).mono I)⟩
         .have d2:(yr==0)=false:=by simpa using Ib
          have d3:yr=key:=by rcases hz'.out with h|h
                             .exact h
                             .exact absurd h Ib
          have d4:(yr==(key:Int))=true:=by simpa using d3
          clear Ib d3
          go_wp2
          refine bK 14 bN [] J J ?_
          iterate 14
           refine aC (fun K hK=>?_)
           first
           |(refine .inl ?_
             apply Exists.intro
             refine⟨cX,?_,hK _ _ _ _ ?_⟩
             .simp only[bJ,bM]
              refine⟨?_,fun w9 Gq _=>?_⟩
              .first|rfl|(go_simp;done)
              obtain⟨Gy,Gz⟩:=Gq.all
              go_simp
              first
              |exact⟨⟨rfl,trivial⟩,aD.refl _ _⟩
             clear hK K
             try simp only[Act.put,List.setIfInBounds_toArray,List.set_cons_zero,List.set_cons_succ])
           |(refine .inr (.inl ⟨?_,hK _ _ _ _ ?_⟩)
             .simp only[bM]
              first|rfl|(go_simp;done)
             clear hK K
             try simp only[Act.put,List.setIfInBounds_toArray,List.set_cons_zero,List.set_cons_succ])
          refine cP ?_
          simp only[bM]
          intro w9 Gq _
          obtain⟨Gy,Gz⟩:=Gq.all
          go_wp2
          apply_assumption
          go_wp2
          go_ret
          exact⟨dF (by rw[HF.out]),Below.trans (by go_grown) ((Hf.trans ((hbq.trans (Gq.same.mono hbq.size)).mono I)).mono I)⟩
        .have hno':gL z key j=false:=by rw[HH.out];simpa using hz
         have HNO':=aH hno'
         have d2:(yr==0)=false:=by simp;omega
         have d4:(yr==(key:Int))=false:=by simp;omega
         clear hno' hz
         go_wp2
         refine bK 14 bN [] J J ?_
         iterate 14
          refine aC (fun K hK=>?_)
          first
          |(refine .inl ?_
            apply Exists.intro
            refine⟨cX,?_,hK _ _ _ _ ?_⟩
            .simp only[bJ,bM]
             refine⟨?_,fun w9 Gq _=>?_⟩
             .first|rfl|(go_simp;done)
             obtain⟨Gy,Gz⟩:=Gq.all
             go_simp
             first
             |exact⟨⟨rfl,trivial⟩,aD.refl _ _⟩
            clear hK K
            try simp only[Act.put,List.setIfInBounds_toArray,List.set_cons_zero,List.set_cons_succ])
          |(refine .inr (.inl ⟨?_,hK _ _ _ _ ?_⟩)
            .simp only[bM]
             first|rfl|(go_simp;done)
            clear hK K
            try simp only[Act.put,List.setIfInBounds_toArray,List.set_cons_zero,List.set_cons_succ])
         refine cP ?_
         simp only[bM]
         intro w9 Gq _
         obtain⟨Gy,Gz⟩:=Gq.all
         go_wp2
         apply_assumption
         go_wp2
         go_roundw
         case rel=>exact⟨j+1,I,aG,hbq.trans (Gq.same.mono hbq.size),aH fun j' hj'=>by
          rcases Nat.lt_or_ge j' j with h|h
          .exact hno.out j' h
          .obtain rfl:j'=j:=I
           exact HNO'.out⟩
         case measure=>simp [intOf];omega
      .exfalso
       obtain rfl:j=8:=I
       exact NY Md HZK.out hno.out
   .have hf:cS z=false:=Rx.out (by rw[HS.out];simp only[decide_eq_false_iff_not];intro h;exact hq ⟨h.1,h.2.1,h.2.2.1,h.2.2.2.1,h.2.2.2.2.1⟩)
    have HF:=aH hf
    clear hf
    have HQ:=aH hq
    clear hq
    go_wp2_with (go_at_call 55;refine(bQ _ _ _ _).mono ?_;rintro e w' ⟨rfl,rfl⟩)
    all_goals first
     |(go_ret
       exact⟨dF (by rw[HF.out]),Below.trans (by go_grown) ((hb.alloc I _).mono I)⟩)
     |(exfalso
       apply HQ.out
       simp only[bV,decide_eq_true_eq,decide_eq_false_iff_not,Bool.not_eq_true',Bool.not_eq_false',beq_iff_eq,bne_iff_ne,beq_eq_false_iff_ne,bne_eq_false_iff_eq,ne_eq]at*
       omega)
  .obtain rfl:k=8:=I
   have Xe:=aH (Lv.out.below hb (by simp))
   have hlb:=sQ z 8
   obtain⟨l,hl⟩:∃l,eV z 8=l:=⟨_,rfl⟩
   rw[hl]at hlb
   have HL:=aH hl
   clear hl
   go_wp2_with (first
    |(refine wpList_load_row rfl 129 _ rfl w rfl 129 C (0,0) _ ?_ HU.out rfl ?_ ?_;(exact Xe.out);(exact HI.out))
    |(go_at_call 204;refine(rP C z _ H.out).mono ?_;rintro e w2 ⟨rfl,Gt⟩;rw[HL.out]))
   go_ret
   have hall':=hall.out
   exact⟨dF (by
    by_cases hle:l<=6
    .rw[rU (by rw[HL.out];exact hle) hall']
     simpa using hle
    .have e:cS z=false:=by
      unfold cS
      rw[Bool.and_eq_false_iff]
      left
      rw[HL.out]
      simp;omega
     rw[e]
     simpa using hle),Below.trans (by go_grown) ((hb.trans (Gt.mono I)).mono I)⟩
theorem bT{P:Program}{o:Oper}{a:Act}{w:World}{T:Value->World->Prop}(ty:TypeId)(x:Operand)(ho:o.op=.load ty x)(g:Nat)(hx:a.eval x=.pointer (some ⟨g,0,none⟩))
 (t:TypeId) (cs:Array Value) (d:TypeDesc) (hg:aY w g t cs) (hu:P.underlying ty=some d) (hd:(match d with|.struct _|.array _ _=>true|_=>false)=true) (hi:(P.info? ty).map (·.size)=some cs.size)
 (hT:T (.agg cs) w):eQ P o a w T:=by
 refine sA (u:=.agg cs) ?_ hT
 unfold execOp
 simp only[ho,hx,Instr.loadAt,Instr.sureAddr,Sem.run_bind,Sem.run_pure,Result.andThen_ok,run_loadVar_row w g t ty cs (0,0) d hg hu hd hi]
theorem eB.congr{C:Array Value}{n:Nat}{z z':Nat->Int}(h:eB C n z)(e:∀i,i<n->z' i=z i):eB C n z':=
 ⟨h.size,fun i hi=>by rw[e i hi];exact h.get i hi,fun i hi=>by rw[e i hi];exact h.bd i hi⟩
theorem eB.set_{C:Array Value}{n k:Nat}{z:Nat->Int}(h:eB C n z){v:Int}(hv: -9223372036854775808<=v/\v<=9223372036854775807):eB (C.setIfInBounds k v) n (fun i=>if i=k then v else z i):=
 ⟨by simp [h.size],fun i hi=>by
  rw[Array.getElem?_setIfInBounds]
  by_cases hk:k=i
  .subst hk
   rw[iP rfl,iP (by rw[h.size];exact hi),iP rfl]
  .rw[iN hk,iN (fun e=>hk e.symm)]
   exact h.get i hi,fun i hi=>by
  by_cases hk:i=k
  .rw[iP hk];exact hv
  rw[iN hk];exact h.bd i hi⟩
theorem eB.zero(n:Nat):eB (Array.replicate n (0:Int)) n (fun _=>0):=
 ⟨by simp,fun i hi=>by simp [hi],fun _ _=>by decide⟩
theorem eB.ext{C D:Array Value}{n:Nat}{z:Nat->Int}(h:eB C n z)(k:eB D n z):C=D:=by
 apply Array.ext_getElem?
 intro i
 by_cases hi:i<n
 .rw[h.get i hi,k.get i hi]
 rw[Array.getElem?_eq_none (by rw[h.size];omega),Array.getElem?_eq_none (by rw[k.size];omega)]
theorem tL:(prog.info? 284).map (·.size)=some 16:=J
structure fZ (w:World) (g:Nat) (t:TypeId) (z:Nat->Int):Prop where
 ex:∃C,aY w g t C/\eB C 16 z
section
variable{w w':World}{g:Nat}{t:TypeId}{z:Nat->Int}
theorem fZ.mk'{C:Array Value}(h:aY w g t C)(k:eB C 16 z):fZ w g t z:=⟨C,h,k⟩
theorem fZ.lt(h:fZ w g t z):g<w:=by obtain⟨C,hb,_⟩:=h.ex;exact hb.lt
theorem fZ.cell(h:fZ w g t z){i:Nat}(hi:i<16):w.cell? (g,i)=(z i):=by
 obtain⟨C,hb,hc⟩:=h.ex;rw[hb.cell];exact hc.get i hi
theorem fZ.key(h:fZ w g t z){i:Nat}(hi:i<8):w.cell? (g,i*2)=(z (2*i)):=by rw[Nat.mul_comm];exact h.cell I
theorem fZ.val(h:fZ w g t z){i:Nat}(hi:i<8):w.cell? (g,i*2+1)=(z (2*i+1)):=by rw[Nat.mul_comm];exact h.cell I
theorem fZ.frozen(h:fZ w g t z)(i:Nat):w.frozen? ⟨g,i,none⟩=false:=by obtain⟨C,hb,_⟩:=h.ex;exact hb.frozen i
theorem fZ.below{B:Nat}(h:fZ w g t z)(hb:Below B w w')(hg:g<B):fZ w' g t z:=by obtain⟨C,h1,h2⟩:=h.ex;exact⟨C,h1.below hb hg,h2⟩
theorem fZ.alloc(h:fZ w g t z)(o:Obj):fZ (w.alloc o) g t z:=by obtain⟨C,h1,h2⟩:=h.ex;exact⟨C,h1.alloc o,h2⟩
theorem fZ.setS(h:fZ w g t z)(i:Nat){k v:Int}(hk: -9223372036854775808<=k/\k<=9223372036854775807)(hv: -9223372036854775808<=v/\v<=9223372036854775807):
 fZ ((w.setCell (g,i*2) k).setCell (g,i*2+1) v) g t (setS z i k v):=by
 obtain⟨C,h1,h2⟩:=h.ex
 refine⟨_,(h1.set_ _ _).set_ _ _,((h2.set_ hk).set_ hv).congr (fun j _=>?_)⟩
 unfold Proofs.YtplpimkgihnmhaaGreatDoor.setS
 by_cases e1:j=i*2+1
 .subst e1;rw[iN I,iP I,iP rfl]
 by_cases e2:j=i*2
 .subst e2;rw[iP I,iN e1,iP rfl]
 rw[iN I,iN I,iN e1,iN e2]
end
theorem JK(C D:Array Value)(z:Nat->Int)(i m:Nat)(w:World)(h:eB C 16 z)(b:vI z i m)(hD:eB D 16 (iX z i m)):
 Calls prog 185 #[.agg C,i] w fun e w'=>e=.returned (.agg D)/\Below w w w':=by
 have HB:=aH b
 have hi8:=b.hi
 have H:=aH h
 have hDs:=aH hD.size
 have h1:=hD.one
 have HD:=aH hD
 have hm6:=b.m6
 clear h b hD
 have hi8':(i:Int)<8:=I
 have Zh:Hid (((i:Int)+1)%8=((kk i 0:Nat):Int)):=by show _=_;unfold kk;omega
 have Pv:Hid (fZ (w.alloc (.cells C 284)) w 284 z):=aH (fZ.mk' (aY.new _ _ _) H)
 have k0:C[i*2]? =some (.int .i64 (z (2*i))):=by rw[Nat.mul_comm];exact H.get _ I
 have k1:C[i*2+1]? =some (.int .i64 (z (2*i+1))):=by rw[Nat.mul_comm];exact H.get _ I
 go_enter func185,ntmps185
 go_wp2
 have hT1:fZ ((w.alloc (.cells ((C.setIfInBounds (i*2) (0:Int)).setIfInBounds (i*2+1) (0:Int)) 284)).alloc (.cells (16:Int) 284)) w 284 (setS z i 0 0):=by
  refine fZ.mk' ((aY.new _ _ _).alloc _) (((H.set_ aJ).set_ aJ).congr (fun x _=>?_))
  unfold setS
  by_cases e1:x=i*2+1
  .subst e1;rw[iN I,iP I,iP rfl]
  by_cases e2:x=i*2
  .subst e2;rw[iP I,iN e1,iP rfl]
  rw[iN I,iN I,iN e1,iN e2]
 have Ih:=aH hT1
 clear hT1
 go_loopw [5] (fun s wr=>∃j:Nat,j<=m/\s=.int .i64 ((kk i j:Nat):Int)/\Hid (fZ wr w 284 (iX z i j))/\Hid (aY wr (w,1) 284 (16:Int))/\Below w w wr) (fun s _=>8-((intOf s).toNat+7-i)%8)
 case atStart=>exact⟨0,I,jW Zh,Ih,aH (aY.newAt _ _ _ (by simp)),by go_grown⟩
 case round=>
  obtain⟨j,hjm,rfl,hT,hZ,hb⟩:=hrel
  have hgl:=hT.lt
  have hzl:=hZ.lt
  by_cases hj:j<m
  .have Tz:=vD i j
   have hnx:(((kk i j:Nat):Int)+1)%8=((kk i (j+1):Nat):Int):=by unfold kk;omega
   have hme:8-(kk i (j+1)+7-i)%8<8-(kk i j+7-i)%8:=by unfold kk;omega
   obtain⟨y1,y2,v1,v2⟩:=HB.bd hj
   have hT2:=HB.run j I
   obtain⟨p,Zx,hat,_⟩:=HB.step hj hT2
   have hstep:iX z i (j+1)=setS (setS (iX z i j) (kk i j) 0 0) p (iX z i j (2*kk i j)) (iX z i j (2*kk i j+1)):=by
    show rC (iX z i j) (kk i j)=_
    unfold rC
    rw[hat,Int.toNat_natCast]
   have c0:=hT.key Tz
   have c1:=hT.val Tz
   clear hT2
   have hmm:m<=6:=hm6
   generalize hq:kk i j=q at*
   generalize hTT:iX z i j=T at*
   generalize hy:T (2*q)=y at*
   generalize hv:T (2*q+1)=v at*
   have f0:=hT.frozen (q*2)
   have f1:=hT.frozen (q*2+1)
   have hyb:(y !=0)=true:=by simp;omega
   have hq8':(q:Int)<8:=I
   have Lz:=aH hat
   have Id:=aH hstep
   have HNX:=aH hnx
   have HQ:=aH hq
   have HME:=aH hme
   clear hat hstep hTT hy hv hnx hq hme
   have hyi: -9223372036854775808<=y/\y<=9223372036854775807:=I
   have hvi: -9223372036854775808<=v/\v<=9223372036854775807:=I
   have hU:=aH ((hT.setS q (k:=0) (v:=0) aJ aJ).alloc (.cells #[y,v] 282))
   have hS:aY (((wr.setCell (w.heap.size,q*2) (0:Int)).setCell (w.heap.size,q*2+1) (0:Int)).alloc (.cells #[y,v] 282)) wr 282 #[y,v]:=aY.newAt _ _ _ (by simp)
   have hZ2:=aH (((hZ.far (p:=⟨w.heap.size,q*2,none⟩) (by simp) (0:Int)).far (p:=⟨w.heap.size,q*2+1,none⟩) (by simp) (0:Int)).alloc (.cells #[y,v] 282))
   have Gt:Below w w (((wr.setCell (w.heap.size,q*2) (0:Int)).setCell (w.heap.size,q*2+1) (0:Int)).alloc (.cells #[y,v] 282)):=by go_grown
   go_wp2
   clear c0 c1 f0 f1 hT hZ hb
   generalize((wr.setCell (w.heap.size,q*2) (0:Int)).setCell (w.heap.size,q*2+1) (0:Int)).alloc (.cells #[y,v] 282)=W at*
   have Nm:=hU.lt
   have hsl:=hS.lt
   have s0:=hS.cell 0
   have s1:=hS.cell 1
   simp only[List.getElem?_toArray,List.getElem?_cons_zero,List.getElem?_cons_succ]at s0 s1
   obtain⟨CU,hCU,Zy⟩:=hU.ex
   have Um:=aH hCU
   have HIU:=aH Zy
   clear hCU Zy hS
   have hp8':(p:Int)<8:=I
   have hcall:∀w9,Below W W w9->Calls prog 184 #[w,y] w9 fun e w'=>e=.returned p/\Below w9 w9 w':=fun w9 h9=>by
    rw[<-Lz.out]
    exact VI CU _ w y w9 HIU (Um.below h9 Nm) I y2
   have Hn:=aH hcall
   clear hcall
   have c0:=hU.key Zx
   have c1:=hU.val Zx
   have f0:=hU.frozen (p*2)
   have f1:=hU.frozen (p*2+1)
   refine aA 5 ?_
   iterate 5
    first
    |(refine aR1 ?_;constructor
      .intro w9 Gq Gy Gz
       go_simp
       first
       |exact aE
       |(go_at_call 184;exact bS (Hn.out w9 Gq.same)))
    |refine aU ?_
   refine bZ ?_
   intro w9 Gq Gy Gz
   go_wp2
   have hbw:=Gq.same
   refine⟨⟨j+1,I,jW HNX,aH ?_,aH (((hZ2.below hbw I).far (by simp) _).far (by simp) _),((Gt.trans (hbw.mono Gt.size)).setCell (by simp) _).setCell (by simp) _⟩,?_⟩
   .rw[Id.out]
    exact(hU.below hbw Nm).setS p hyi hvi
   have h1:=HME.out
   have h2:=HNX.out
   simp only[RowKit.intOf,Array.getD_eq_getD_getElem?]at*
   simp [intOf]
   omega
  obtain rfl:j=m:=I
  have c0:=hT.key (vD i j)
  rw[HB.end_]at c0
  obtain⟨E,hE,hIE⟩:=hT.ex
  obtain rfl:E=D:=hIE.ext HD
  have Tz:=vD i j
  have Vq:=aH hE
  clear hE hIE
  generalize kk i j=q at*
  have hq8':(q:Int)<8:=I
  go_wp2_with (first
   |(refine wpList_load_row rfl 284 _ rfl w rfl 284 E (0,0) _ ?ha underlying284 rfl ?Gs ?_)
   |(refine wpList_store_row rfl 284 _ _ rfl (w,1) E rfl rfl 284 (16:Int) ?hg ?hj ?ho h1 ?_))
  case ha=>exact Vq
  case Gs=>rw[tL,hDs.out]
  case hg=>exact hZ
  case hj=>rw[tL,hDs.out]
  case ho=>rw[hDs.out];rfl
  refine bodyPost_ret (results_cell_row results185 _ _ (w.heap.size+1) 284 E (0,0) _ rfl (hZ.setRow E) underlying284 rfl (by rw[tL,hDs.out])) rfl ⟨rfl,aL hb (by omega) _⟩
theorem xQ(w:World):(Instr.makeSlice 91 (17:Int) (17:Int)).run prog w=.ok (.slice (some ⟨w.heap.size,0,none⟩) 17 17) (w.alloc (.cells (Array.replicate 17 (.int .u64 0)) 23)):=J
structure lD (C:Array Value) (kind:Int) (A:Option Addr) (n c:Nat) (d:Nat->Int) (N:Int):Prop where
 size:C.size=19
 kind_:C[0]? =some (.int .i64 kind)
 list:C[1]? =some (.slice A n c)
 slot:∀i,i<16->C[2+i]? =some (.int .i64 (d i))
 num:C[18]? =some (.int .i64 N)
def iT(n:Nat)(xs:List Int)(i:Nat):Int:=if i=0 then n else if i<=n then xs[i-1]?.getD 0 else 0
def tE(n k:Nat)(xs:List Int)(i:Nat):Int:=if i=0 then n else if i<=k then xs[i-1]?.getD 0 else 0
def oK(z:Nat->Int)(w:World)(e:Ending)(w':World):Prop:=
 ∃g D,e=.returned (.slice (some ⟨g,0,none⟩) 17 17)/\aY w' g 23 D/\cH D 17 z/\w<=g/\Below w w w'
theorem uY(C:Array Value)(A:Option Addr)(n c:Nat)(d:Nat->Int)(N:Int)(w:World)(h:lD C 6 A n c d N)(hN:0<=N/\N<=9223372036854775807):
 Calls prog 85 #[.agg C] w (oK (fun i=>if i=0 then N else 0) w):=by
 have k0:=h.kind_
 have k18:=h.num
 have hmk:=xQ
 have hw:N%18446744073709551616=N:=I
 have HU:Hid (cH ((Array.replicate 17 (.int .u64 0)).setIfInBounds 0 [N]) 17 (fun i=>if i=0 then N else 0)):=aH ((cH.zero 17).set_ (k:=0) I)
 clear h
 go_enter func85,ntmps85
 go_wp2
 go_ret
 exact⟨w+1,_,rfl,aY.newAt _ _ _ (by simp),HU.out,I,by go_grown⟩
theorem wN(C:Array Value)(kind:Int)(A:Option Addr)(n c:Nat)(xs:List Int)(d:Nat->Int)(N:Int)(w:World)(h:lD C kind A n c d N)(hl:fI w A n c xs)(hn:n<=16)(hx:∀i:Nat,i<n->0<=xs[i]?.getD 0)
 (h5:kind≠5) (h6:kind≠6):
 Calls prog 85 #[.agg C] w (oK (iT n xs) w):=by
 have k0:=h.kind_
 have k1:=h.list
 have hmk:=xQ
 have hw:(n:Int)%18446744073709551616=n:=I
 have e5:(kind==5)=false:=by simpa using h5
 have e6:(kind==6)=false:=by simpa using h6
 have HU:Hid (cH ((Array.replicate 17 (.int .u64 0)).setIfInBounds 0 [n]) 17 (tE n 0 xs)):=aH (((cH.zero 17).set_ (k:=0) (v:=n) I).congr (fun i hi=>by
  unfold tE
  by_cases h0:i=0
  .rw[iP h0,iP h0]
  rw[iN h0,iN h0,iN I]))
 have HX:=aH hx
 have HL:=aH hl
 clear h h5 h6 hx hl
 go_enter func85,ntmps85
 go_wp2
 go_loopw [20] (fun i wr=>∃k:Nat,k<=n/\i=.int .i64 k/\Hid (∃D,aY wr (w,1) 23 D/\cH D 17 (tE n k xs))/\Below w w wr) (fun i _=>n-(intOf i).toNat)
 case atStart=>exact⟨0,I,rfl,aH ⟨_,aY.newAt _ _ _ (by simp),HU.out⟩,by go_grown⟩
 case round=>
  obtain⟨k,hk,rfl,hD,hb⟩:=hrel
  by_cases hkn:k<n
  .have b1:(k:Int)<n:=I
   obtain⟨D,hB,hU⟩:=hD.out
   clear hD
   obtain⟨b,off,rfl,hblt,hcell⟩:=HL.at_ I
   have Iz:wr.cell? (b,off+k)=(xs[k]?.getD 0):=(hb.cell (p:=⟨b,off+k,none⟩) hblt).trans (hcell k hkn)
   have Xg:=HL.bd k
   have Ua:=HX.out k hkn
   have hnc:=HL.cap
   have c63:=HL.cap63
   clear hcell
   have hq:=hB.cell (k+1)
   rw[hU.get (k+1) I]at hq
   have hf:=hB.frozen (k+1)
   have HB:=aH hB
   have Pw:=aH hU
   generalize hv:xs[k]?.getD 0=v at Iz Xg Ua
   have HV:=aH hv
   clear hB hU hv
   have Zg:v%18446744073709551616=v:=I
   go_wp2
   go_roundw
   case rel=>exact⟨k+1,I,aG,aH ⟨_,HB.set_ (k+1) _,(Pw.set_ (k:=k+1) (v:=v) I).congr (fun i hi=>by
    have hv:=HV.out
    unfold tE
    by_cases h0:i=k+1
    .subst h0
     rw[iP rfl,iN I,iP I,Nat.add_sub_cancel,hv]
    rw[iN h0]
    by_cases h1:i=0
    .rw[iP h1,iP h1]
    rw[iN h1,iN h1]
    by_cases h2:i<=k
    .rw[iP h2,iP I]
    rw[iN h2,iN I])⟩,hb.setCell (by show w.heap.size<=w+1;omega) _⟩
   case measure=>simp [intOf];omega
  obtain rfl:k=n:=I
  go_wp2
  go_ret
  obtain⟨D,hB,hU⟩:=hD.out
  exact⟨w+1,D,rfl,hB,hU,I,hb⟩
def eF(k:Nat)(d:Nat->Int)(i:Nat):Int:=if i<2*k then d i else 0
theorem BU:(prog.info? 129).map (·.size)=some 16:=J
theorem vC(C:Array Value)(A:Option Addr)(n c:Nat)(d:Nat->Int)(N:Int)(w:World)(h:lD C 5 A n c d N)(hd:∀i,i<16->0<=d i/\d i<=9223372036854775807):
 Calls prog 85 #[.agg C] w (oK (eF 8 d) w):=by
 have k0:=h.kind_
 have hmk:=xQ
 obtain⟨D,hD⟩:=aO (C.extract 2 18)
 have hI:eB D 16 d:=by
  have hs:=h.size
  refine⟨by rw[hD];simp;omega,fun i hi=>?_,fun i hi=>by have:=hd i hi;omega⟩
  rw[hD,Array.getElem?_extract,iP I]
  exact h.slot i hi
 have HI:=aH hI
 have HS:=aH hI.size
 have HD:=aH hD
 have HB:=aH hd
 have HU:Hid (cH (Array.replicate 17 (.int .u64 0)) 17 (eF 0 d)):=aH ((cH.zero 17).congr (fun i hi=>by unfold eF;rw[iN I]))
 clear h hd hD hI
 go_enter func85,ntmps85
 go_wp2_with (refine wpList_load_mid rfl 129 _ rfl w 2 rfl D.toList _ ?hc underlying129 rfl ?hi ?_)
 case hc=>
  rw[HD.out]
  exact World.rangeAt_of_block (t:=131) (fr:=(0,0)) (((aY.new w 131 C).alloc _)) 2 16
 case hi=>rw[BU,Array.length_toList,HS.out]
 go_wp2
 go_loopw [36] (fun i wr=>∃k:Nat,k<=8/\i=.int .i64 k/\Hid (∃E,aY wr (w,1) 23 E/\cH E 17 (eF k d))/\Below w w wr) (fun i _=>8-(intOf i).toNat)
 case atStart=>exact⟨0,I,rfl,aH ⟨_,aY.newAt _ _ _ (by simp),HU.out⟩,by go_grown⟩
 case round=>
  obtain⟨k,hk,rfl,hE,hb⟩:=hrel
  by_cases Md:k<8
  .have b1:(k:Int)<8:=I
   obtain⟨E,hB,hU⟩:=hE.out
   clear hE
   have hix:=pD HI k Md
   have hx:=HB.out (2*k) I
   have hy:=HB.out (2*k+1) I
   have HK:Hid (∀i,eF (k+1) d i=if i=2*k+1 then d (2*k+1)else if i=2*k then d (2*k)else eF k d i):=aH fun i=>by
    unfold eF
    by_cases h1:i=2*k+1
    .subst h1
     rw[iP I,iP rfl]
    rw[iN h1]
    by_cases h2:i=2*k
    .subst h2
     rw[iP I,iP rfl]
    rw[iN h2]
    by_cases h3:i<2*k
    .rw[iP h3,iP I]
    rw[iN h3,iN I]
   generalize hdx:d (2*k)=x at hx hix HK
   generalize hdy:d (2*k+1)=y at hy hix HK
   have HDX:=aH hdx
   have HDY:=aH hdy
   clear hdx hdy
   have hwx:x%18446744073709551616=x:=I
   have hwy:y%18446744073709551616=y:=I
   have q0:=(hB.alloc (.cells #[x,y] 127)).cell (2*k)
   rw[hU.get (2*k) I]at q0
   have q1:=(hB.alloc (.cells #[x,y] 127)).cell (2*k+1)
   rw[hU.get (2*k+1) I]at q1
   have f0:=(hB.alloc (.cells #[x,y] 127)).frozen (2*k)
   have f1:=(hB.alloc (.cells #[x,y] 127)).frozen (2*k+1)
   have s0:=(aY.new wr 127 #[x,y]).cell 0
   have s1:=(aY.new wr 127 #[x,y]).cell 1
   simp only[List.getElem?_toArray,List.getElem?_cons_zero,List.getElem?_cons_succ]at s0 s1
   have hne:w.heap.size+1≠wr:=by have:=hB.lt;omega
   have Ki:=aH (hB.alloc (.cells #[x,y] 127))
   have HBB:=aH (hb.alloc hb.size (.cells #[x,y] 127))
   have HUU:=aH hU
   clear hB hU hb
   go_wp2
   generalize wr.alloc (.cells #[x,y] 127)=w5 at*
   generalize wr.heap.size=gs at*
   go_region
   apply_assumption
   go_wp2
   go_roundw
   case rel=>exact⟨k+1,I,aG,aH ⟨_,(Ki.set_ (2*k) _).set_ (2*k+1) _,((HUU.set_ (k:=2*k) (v:=x) I).set_ (k:=2*k+1) (v:=y) I).congr (fun i hi=>HK.out i)⟩,
    ((HBB.setCell (p:=⟨w+1,2*k,none⟩) (by show w.heap.size<=w+1;omega) _).setCell (p:=⟨w+1,2*k+1,none⟩) (by show w.heap.size<=w+1;omega) _).drew⟩
   case measure=>simp [intOf];omega
  obtain rfl:k=8:=I
  go_wp2
  go_ret
  obtain⟨E,hB,hU⟩:=hE.out
  exact⟨w+1,E,rfl,hB,hU,I,hb⟩
end
section
attribute [local go_sem ↓] Go.wp_at_zero Go.wp_at_succ
def oL(z:Nat->Int)(code val:Int)(w:World)(e:Ending)(w':World):Prop:=
 ∃D,eB D 16 z/\e=.returned (.tuple #[.agg D,.agg #[.int .i64 code,.int .i64 val]])/\Below w.heap.size w w'
theorem oL.det{z:Nat->Int}{code val:Int}{w w':World}{e:Ending}{D:Array Value}(h:oL z code val w e w')(hD:eB D 16 z):e=.returned (.tuple #[.agg D,.agg #[.int .i64 code,.int .i64 val]])/\Below w.heap.size w w':=by
 obtain⟨E,hE,he,hb⟩:=h
 rw[hE.ext hD]at he
 exact⟨he,hb⟩
theorem bY{P:Program}{fn:Func}{p q:Tmp}{ty tz:TypeId}(h:fn.results= #[.cell p ty,.cell q tz])(tmps:Array Value)(w:World)(g g':Nat)(t t':TypeId)(cs cs':Array Value)(d d':TypeDesc)
 (hp:tmps.getD p undef=.pointer (some ⟨g,0,none⟩)) (hq:tmps.getD q undef=.pointer (some ⟨g',0,none⟩)) (hg:aY w g t cs) (hg':aY w g' t' cs')
 (hu:P.underlying ty=some d) (hd:(match d with|.struct _|.array _ _=>true|_=>false)=true) (hi:(P.info? ty).map (·.size)=some cs.size)
 (hu':P.underlying tz=some d') (hd':(match d' with|.struct _|.array _ _=>true|_=>false)=true) (hi':(P.info? tz).map (·.size)=some cs'.size):
 (results fn tmps).run P w=.ok (.tuple #[.agg cs,.agg cs']) w:=by
 have hp':tmps[p]?.getD undef=.pointer (some ⟨g,0,none⟩):=by simpa using hp
 have hq':tmps[q]?.getD undef=.pointer (some ⟨g',0,none⟩):=by simpa using hq
 simp [results,h,hp',hq',asAddr,run_loadVar_row w g t ty cs (0,0) d hg hu hd hi,run_loadVar_row w g' t' tz cs' (0,0) d' hg' hu' hd' hi']
theorem dN{c:Bool}{p:Prop}(h:c=false/\p)(hc:c=true):False:=by rw[hc]at h;cases h.1
theorem fD{S:Nat->Prop}{w:World}{g:Nat}(h:S g\/w.heap.size<=g)(cs:Array Value):aD S w (w.setRow g cs):=
 ⟨rfl,rfl,rfl,by simp [World.setRow],fun k hk hs=>setRow_other w g k cs (by
  rintro rfl
  rcases h with h|h
  .exact hs h
  .omega)⟩
theorem dS{P:Program}{o:Oper}{a:Act}{w:World}{T:Value->World->Prop}(ty:TypeId)(x y:Operand)(ho:o.op=.store ty x y)(g:Nat)(cells:Array Value)(hx:a.eval x=.pointer (some ⟨g,0,none⟩))(hy:a.eval y=.agg cells)
 (t:TypeId) (old:Array Value) (hg:aY w g t old) (hi:(P.info? ty).map (·.size)=some cells.size) (hold:old.size=cells.size) (h1:cells.all (·.oneCell')=true)
 (hT:T undef (w.setRow g cells)):eQ P o a w T:=by
 unfold eQ execOp
 simp only[ho,hx,hy,Instr.storeAt,Instr.sureAddr,Sem.run_bind,Sem.run_pure,Result.andThen_ok,run_storeVar_row w g t ty old cells hg hi hold h1]
 exact hT
theorem eM{P:Program}{ops:Array Oper}{rest:List Oper}{o:Oper}{a:Act}{w:World}{Q:Exit->Act->World->Prop}(hw:Region.wanted o (yielded ops a.tmps)=true)(ty:TypeId)(x:Operand)(ho:o.op=.load ty x)
 (g:Nat) (hx:a.eval x=.pointer (some ⟨g,0,none⟩)) (t:TypeId) (cs:Array Value) (fr:Nat×Nat) (d:TypeDesc) (hg:w.heap[g]? =some (.cells cs t fr))
 (hu:P.underlying ty=some d) (hd:(match d with|.struct _|.array _ _=>true|_=>false)=true) (hi:(P.info? ty).map (·.size)=some cs.size)
 (h:wpList P ops Q rest (a.put o.dst (.agg cs)) w):wpList P ops Q (o::rest) a w:=
 wpList_step fun K hK=>by rw[if_pos hw];exact wp_load_row ty x ho g hx t cs fr d hg hu hd hi (hK _ _ h)
theorem lK:(prog.info? 44).map (·.size)=some 2:=by kernel_rfl
structure oD (w W:World) (ts:TypeId) (C:Array Value) (a k v:Int):Prop where
 tab:aY W w.heap.size ts C
 op:aY W (w.heap.size+1) 39 #[.int .i64 a,.int .i64 k,.int .i64 v]
 res:aY W (w.heap.size+2) ts #[.int .i64 0,.int .i64 0,.int .i64 0,.int .i64 0,.int .i64 0,.int .i64 0,.int .i64 0,.int .i64 0,.int .i64 0,.int .i64 0,.int .i64 0,.int .i64 0,.int .i64 0,.int .i64 0,.int .i64 0,.int .i64 0]
 ans:aY W (w.heap.size+3) 44 #[.int .i64 0,.int .i64 0]
 below:Below w.heap.size w W
theorem qP(w:World)(ts:TypeId)(C:Array Value)(a k v:Int):
 oD w ((((w.alloc (.cells C ts)).alloc (.cells #[.int .i64 a,.int .i64 k,.int .i64 v] 39)).alloc (.cells #[.int .i64 0,.int .i64 0,.int .i64 0,.int .i64 0,.int .i64 0,.int .i64 0,.int .i64 0,.int .i64 0,.int .i64 0,.int .i64 0,.int .i64 0,.int .i64 0,.int .i64 0,.int .i64 0,.int .i64 0,.int .i64 0] ts)).alloc (.cells #[.int .i64 0,.int .i64 0] 44)) ts C a k v:=
 ⟨(((aY.new _ _ _).alloc _).alloc _).alloc _,((aY.newAt _ _ _ (by simp)).alloc _).alloc _,(aY.newAt _ _ _ (by simp)).alloc _,aY.newAt _ _ _ (by simp),by go_grown⟩
theorem oD.on{w W W':World}{ts:TypeId}{C:Array Value}{a k v:Int}(h:oD w W ts C a k v)(hb:Below W.heap.size W W'):oD w W' ts C a k v:=
 ⟨h.tab.below hb h.tab.lt,h.op.below hb h.op.lt,h.res.below hb h.res.lt,h.ans.below hb h.ans.lt,h.below.trans (hb.mono h.below.size)⟩
theorem oD.ops{w W:World}{ts:TypeId}{C:Array Value}{a k v:Int}(h:oD w W ts C a k v):
 (W.cell? ⟨w.heap.size+1,0,none⟩=some (.int .i64 a)/\W.cell? ⟨w.heap.size+1,1,none⟩=some (.int .i64 k)/\W.cell? ⟨w.heap.size+1,2,none⟩=some (.int .i64 v))/\
 (W.cell? ⟨w.heap.size+3,0,none⟩=some (.int .i64 0)/\W.cell? ⟨w.heap.size+3,1,none⟩=some (.int .i64 0)/\W.frozen? ⟨w.heap.size+3,0,none⟩=false/\W.frozen? ⟨w.heap.size+3,1,none⟩=false)/\w.heap.size+3<W.heap.size:=
 ⟨⟨h.op.cell 0,h.op.cell 1,h.op.cell 2⟩,⟨h.ans.cell 0,h.ans.cell 1,h.ans.frozen 0,h.ans.frozen 1⟩,h.ans.lt⟩
theorem oD.row{w W:World}{ts:TypeId}{C:Array Value}{a k v:Int}(h:oD w W ts C a k v)(D:Array Value):
 (((W.setRow (w.heap.size+2) D).cell? ⟨w.heap.size+3,0,none⟩=some (.int .i64 0)/\(W.setRow (w.heap.size+2) D).cell? ⟨w.heap.size+3,1,none⟩=some (.int .i64 0))/\
 ((W.setRow (w.heap.size+2) D).frozen? ⟨w.heap.size+3,0,none⟩=false/\(W.setRow (w.heap.size+2) D).frozen? ⟨w.heap.size+3,1,none⟩=false)):=by
 have hb:aY (W.setRow (w.heap.size+2) D) (w.heap.size+3) 44 #[.int .i64 0,.int .i64 0]:=(setRow_other W _ _ D (by omega)).trans h.ans
 exact⟨⟨hb.cell 0,hb.cell 1⟩,⟨hb.frozen 0,hb.frozen 1⟩⟩
theorem oD.fin{w W:World}{ts:TypeId}{C:Array Value}{a k v:Int}(h:oD w W ts C a k v)(D:Array Value)(c l:Int):
 aY (((W.setRow (w.heap.size+2) D).setCell ⟨w.heap.size+3,0,none⟩ (.int .i64 c)).setCell ⟨w.heap.size+3,1,none⟩ (.int .i64 l)) (w.heap.size+2) ts D/\
 aY (((W.setRow (w.heap.size+2) D).setCell ⟨w.heap.size+3,0,none⟩ (.int .i64 c)).setCell ⟨w.heap.size+3,1,none⟩ (.int .i64 l)) (w.heap.size+3) 44 #[.int .i64 c,.int .i64 l]/\
 Below w.heap.size w (((W.setRow (w.heap.size+2) D).setCell ⟨w.heap.size+3,0,none⟩ (.int .i64 c)).setCell ⟨w.heap.size+3,1,none⟩ (.int .i64 l)):=by
 have hb:aY (W.setRow (w.heap.size+2) D) (w.heap.size+3) 44 #[.int .i64 0,.int .i64 0]:=(setRow_other W _ _ D (by omega)).trans h.ans
 exact⟨((h.res.setRow D).far (by simp) _).far (by simp) _,(hb.set_ _ _).set_ _ _,((aL h.below (by omega) D).setCell (by show w.heap.size<=w.heap.size+3;omega) _).setCell (by show w.heap.size<=w.heap.size+3;omega) _⟩
theorem OT(C:Array Value)(z:Nat->Int)(k v:Int)(w:World)(h:eB C 16 z):
 Calls prog 159 #[.agg C,.agg #[.int .i64 6,.int .i64 k,.int .i64 v]] w (oL z 1 (eV z 8) w):=by
 have H:=Lib.hid h
 have hI:=h.size
 have HI:Hid ((prog.info? 284).map (·.size)=some C.size):=by show _=_;rw[hI,tL]
 have HJ:Hid (C.size=16):=hI
 have h1:=h.one
 clear h hI
 go_enter func159,ntmps159
 go_upto_region 1 with(fail)
 have hL:=qP w 284 C 6 k v
 generalize(((w.alloc (.cells C 284)).alloc (.cells #[.int .i64 6,.int .i64 k,.int .i64 v] 39)).alloc (.cells #[.int .i64 0,.int .i64 0,.int .i64 0,.int .i64 0,.int .i64 0,.int .i64 0,.int .i64 0,.int .i64 0,.int .i64 0,.int .i64 0,.int .i64 0,.int .i64 0,.int .i64 0,.int .i64 0,.int .i64 0,.int .i64 0] 284)).alloc (.cells #[.int .i64 0,.int .i64 0] 44)=W at*
 have HL:=Lib.hid hL
 obtain⟨⟨o0,o1,o2⟩,⟨a0,a1,b0,b1⟩,hsz⟩:=hL.ops
 clear hL
 go_wp2
 refine bK 5 (fun b=>b=w.heap.size+2) [4] (by kernel_rfl) (by kernel_rfl) ?_
 iterate 4
  refine aC (fun K hK=>?_)
  refine .inl ?_
  apply Exists.intro
  refine⟨cX,?_,hK _ _ _ _ ?_⟩
  .simp only[bJ,bM]
   refine⟨?_,fun w9 Gq _=>?_⟩
   .first|rfl|(go_simp;done)
   first
   |exact bT 284 _ rfl w.heap.size rfl 284 C _ ((Gq.block w.heap.size HL.out.tab.lt (by omega)).trans HL.out.tab) underlying284 rfl HI.out ⟨⟨rfl,trivial⟩,aD.refl _ _⟩
   |(go_simp
     first
     |exact⟨⟨rfl,trivial⟩,aD.refl _ _⟩
     |(go_at_call 183;exact bS (vP C z _ H.out)))
  clear hK K
  try simp only[Act.put,List.setIfInBounds_toArray,List.set_cons_zero,List.set_cons_succ]
 refine aC (fun K hK=>?_)
 refine .inl ⟨undef,fun _ w'=>aY w' (w.heap.size+2) 284 C,?_,hK _ _ _ _ ?_⟩
 .simp only[bJ,bM]
  refine⟨?_,fun w9 Gq Gw=>?_⟩
  .first|rfl|(go_simp;done)
  have Ie:aY w9 (w.heap.size+2) 284 #[.int .i64 0,.int .i64 0,.int .i64 0,.int .i64 0,.int .i64 0,.int .i64 0,.int .i64 0,.int .i64 0,.int .i64 0,.int .i64 0,.int .i64 0,.int .i64 0,.int .i64 0,.int .i64 0,.int .i64 0,.int .i64 0]:=(Gw.1.block _ HL.out.res.lt (fun h=>dN h (by kernel_rfl))).trans HL.out.res
  exact dS 284 _ _ rfl (w.heap.size+2) C rfl rfl 284 #[.int .i64 0,.int .i64 0,.int .i64 0,.int .i64 0,.int .i64 0,.int .i64 0,.int .i64 0,.int .i64 0,.int .i64 0,.int .i64 0,.int .i64 0,.int .i64 0,.int .i64 0,.int .i64 0,.int .i64 0,.int .i64 0] Ie HI.out (by rw[HJ.out];rfl) h1 ⟨⟨rfl,Ie.setRow C⟩,fD (.inl ⟨by decide,rfl⟩) _⟩
 clear hK K
 refine cP ?_
 simp only[bM]
 intro w9 Gq hmet
 obtain⟨w0,k0,k1,hF⟩:=hmet.1 rfl
 have Ie:aY w9 (w.heap.size+2) 284 C:=(k1.block _ hF.lt (fun h=>dN h (by kernel_rfl))).trans hF
 have hans:aY w9 (w.heap.size+3) 44 #[.int .i64 0,.int .i64 0]:=(Gq.block _ HL.out.ans.lt (by omega)).trans HL.out.ans
 have Ia:Below w.heap.size w w9:=HL.out.below.trans (Gq.below HL.out.below.size (fun b hb e=>by omega))
 have hsz9:=hans.lt
 have c0:=hans.cell 0
 have c1:=hans.cell 1
 simp only[List.getElem?_toArray,List.getElem?_cons_zero,List.getElem?_cons_succ]at c0 c1
 have f0:=hans.frozen 0
 have f1:=hans.frozen 1
 have Jk:=Lib.hid Ie
 have Lw:=Lib.hid hans
 clear hmet hF Ie hans k0 k1 a0 a1 b0 b1 o0 o1 o2
 go_wp2
 refine bodyPost_ret (bY results159 _ _ (w.heap.size+2) (w.heap.size+3) 284 44 C #[.int .i64 1,.int .i64 (eV z 8)] _ _ rfl rfl ((Jk.out.far (by simp) _).far (by simp) _) ((Lw.out.set_ 0 _).set_ 1 _) underlying284 rfl HI.out underlying44 rfl lK) rfl ⟨C,H.out,rfl,(Ia.setCell (by simp;omega) _).setCell (by simp;omega) _⟩
theorem oD.set_{w W:World}{ts:TypeId}{C:Array Value}{a k v:Int}(h:oD w W ts C a k v)(i:Nat)(x y:Int):
 oD w ((W.setCell ⟨w.heap.size,i*2,none⟩ (.int .i64 x)).setCell ⟨w.heap.size,i*2+1,none⟩ (.int .i64 y)) ts ((C.setIfInBounds (i*2) (.int .i64 x)).setIfInBounds (i*2+1) (.int .i64 y)) a k v:=
 ⟨(h.tab.set_ _ _).set_ _ _,(h.op.far (by simp) _).far (by simp) _,(h.res.far (by simp) _).far (by simp) _,(h.ans.far (by simp) _).far (by simp) _,(h.below.setCell (by simp) _).setCell (by simp) _⟩
theorem oD.setTab{w W:World}{ts:TypeId}{C:Array Value}{a k v:Int}(h:oD w W ts C a k v)(D:Array Value):oD w (W.setRow w.heap.size D) ts D a k v:=
 ⟨h.tab.setRow D,(setRow_other W _ _ D (by omega)).trans h.op,(setRow_other W _ _ D (by omega)).trans h.res,(setRow_other W _ _ D (by omega)).trans h.ans,aL h.below (Nat.le_refl _) D⟩
theorem oD.drewN{w W:World}{ts:TypeId}{C:Array Value}{a k v:Int}(h:oD w W ts C a k v)(n:Nat):oD w (W.drewN n) ts C a k v:=⟨h.tab.drewN n,h.op.drewN n,h.res.drewN n,h.ans.drewN n,cZ h.below n⟩
theorem vW{C:Array Value}{z:Nat->Int}(h:eB C 16 z)(i:Nat){k v:Int}(hk: -9223372036854775808<=k/\k<=9223372036854775807)(hv: -9223372036854775808<=v/\v<=9223372036854775807):
 eB ((C.setIfInBounds (i*2) (.int .i64 k)).setIfInBounds (i*2+1) (.int .i64 v)) 16 (setS z i k v):=((h.set_ hk).set_ hv).congr (fun j _=>by
 unfold setS
 by_cases e1:j=i*2+1
 .subst e1;rw[if_neg (by omega),if_pos (by omega),if_pos rfl]
 .by_cases e2:j=i*2
  .subst e2;rw[if_pos (by omega),if_neg e1,if_pos rfl]
  .rw[if_neg (by omega),if_neg (by omega),if_neg e1,if_neg e2])
theorem nX{z:Nat->Int}(h:cS z=true)(key:Nat):∃i:Nat,i<8/\kF z key=(i:Int)/\(z (2*i)=key\/z (2*i)=0):=by
 have hx:∃x,x<8/\z (2*x)=0:=by
  by_cases hall:∀x,x<8->z (2*x)≠0
  .have:=oO h
   rw[AG hall]at this
   omega
  .simp only[Classical.not_forall,ne_eq,Classical.not_not]at hall
   obtain⟨x,h1,h2⟩:=hall
   exact⟨x,h1,h2⟩
 obtain⟨x,hx8,Im⟩:=hx
 obtain⟨d,hd,hr⟩:=yQ key x hx8
 obtain⟨a,_,hat,hh⟩:=EP (z:=z) (key:=key) hd (by rw[hr];exact Im)
 refine⟨dR key a,mY _ _,hat,?_⟩
 unfold gL at hh
 simpa using hh
theorem OP(C:Array Value)(z:Nat->Int)(a k v:Int)(w:World)(h:eB C 16 z)(h6:a≠6)(hb:¬(a=1\/a=2\/a=5)\/k<1\/1000<k):
 Calls prog 159 #[.agg C,.agg #[.int .i64 a,.int .i64 k,.int .i64 v]] w (oL z 5 0 w):=by
 have H:=Lib.hid h
 have hI:=h.size
 have Hl:Hid ((prog.info? 284).map (·.size)=some C.size):=by show _=_;rw[hI,tL]
 have Qm:Hid (C.size=16):=hI
 have h1:=h.one
 clear h hI
 have d6:(a==6)=false:=by simpa using h6
 have HB:=Lib.hid hb
 clear hb h6
 go_enter func159,ntmps159
 go_upto_region 1 with(fail)
 have hL:=qP w 284 C a k v
 generalize(((w.alloc (.cells C 284)).alloc (.cells #[.int .i64 a,.int .i64 k,.int .i64 v] 39)).alloc (.cells #[.int .i64 0,.int .i64 0,.int .i64 0,.int .i64 0,.int .i64 0,.int .i64 0,.int .i64 0,.int .i64 0,.int .i64 0,.int .i64 0,.int .i64 0,.int .i64 0,.int .i64 0,.int .i64 0,.int .i64 0,.int .i64 0] 284)).alloc (.cells #[.int .i64 0,.int .i64 0] 44)=W at*
 have Nz:=Lib.hid hL
 obtain⟨⟨o0,o1,o2⟩,⟨a0,a1,b0,b1⟩,hsz⟩:=hL.ops
 clear hL
 go_wp2_with (first
  |(refine wpList_load_row rfl 284 _ rfl w.heap.size rfl 284 C (0,0) _ ?_ underlying284 rfl ?_ ?_;(exact Nz.out.tab);(exact Hl.out))
  |(refine wpList_store_row rfl 284 _ _ rfl (w.heap.size+2) C rfl rfl 284 #[.int .i64 0,.int .i64 0,.int .i64 0,.int .i64 0,.int .i64 0,.int .i64 0,.int .i64 0,.int .i64 0,.int .i64 0,.int .i64 0,.int .i64 0,.int .i64 0,.int .i64 0,.int .i64 0,.int .i64 0,.int .i64 0] ?_ ?_ ?_ h1 ?_;(exact Nz.out.res);(exact Hl.out);(rw[Qm.out];rfl);obtain⟨⟨c0,c1⟩,f0,f1⟩:=Nz.out.row C;obtain⟨gA,gB,gC⟩:=Nz.out.fin C 5 0;have GA:=Lib.hid gA;have GB:=Lib.hid gB;have GC:=Lib.hid gC;clear gA gB gC)
  |(go_at_call 184;exfalso;have hh:=HB.out;simp only[bne_iff_ne,bne_eq_false_iff_eq,beq_iff_eq,beq_eq_false_iff_ne,ne_eq]at*;omega))
 all_goals exact bodyPost_ret (bY results159 _ _ (w.heap.size+2) (w.heap.size+3) 284 44 C #[.int .i64 5,.int .i64 0] _ _ rfl rfl GA.out GB.out underlying284 rfl Hl.out underlying44 rfl lK) rfl ⟨C,H.out,rfl,GC.out⟩
theorem oN{j:Int}{b:Bool}{R:Ending->World->Prop}(C:Array Value)(z:Nat->Int)(key i:Nat)(v y:Int)(w:World)(h:eB C 16 z)(Ny:1<=key)(Hu:key<=1000)(hi8:i<8)(hat:kF z key=(i:Int))(hy:z (2*i)=y)(hth:(y==(key:Int))=b)
 (hc:(b=false/\(j=2\/j=5)/\R=oL z 4 0 w)\/
   (b=true/\j=5/\R=oL z 1 (z (2*i+1)) w)\/
   (b=false/\j=1/\R=oL z 3 0 w/\Hid (6<=eV z 8))\/
   (b=false/\j=1/\R=oL (setS z i key v) 1 0 w/\Hid (eV z 8<6/\-9223372036854775808<=v/\v<=9223372036854775807))\/
   (b=true/\j=1/\R=oL (setS z i key v) 1 0 w/\Hid (-9223372036854775808<=v/\v<=9223372036854775807))\/
   (b=true/\j=2/\∃m,R=oL (iX z i m) 1 (z (2*i+1)) w/\Hid (vI z i m/\∃D,eB D 16 (iX z i m)))):
 Calls prog 159 #[.agg C,.agg #[.int .i64 j,.int .i64 (key:Int),.int .i64 v]] w R:=by
 have q:Tg j:=rfl
 have H:=Lib.hid h
 have hI:=h.size
 have Hl:Hid ((prog.info? 284).map (·.size)=some C.size):=by show _=_;rw[hI,tL]
 have Qm:Hid (C.size=16):=hI
 have h1:=h.one
 clear h hI
 have Lz:=Lib.hid hat
 have HY:=Lib.hid hy
 have hi8':(i:Int)<8:=by omega
 have Ma:(1:Int)<=key:=by omega
 have Ol:(key:Int)<=1000:=by omega
 clear hat hy
 rcases hc with⟨rfl,hj,rfl⟩|⟨rfl,rfl,rfl⟩|⟨rfl,rfl,rfl,hs⟩|⟨rfl,rfl,rfl,hs⟩|⟨rfl,rfl,rfl,hs⟩|⟨rfl,rfl,m,rfl,hs⟩
 case' inl=>rcases hj with rfl|rfl
 all_goals
  go_enter func159,ntmps159
  go_upto_region 1 with(fail)
  have hL:=qP w 284 C q key v
  generalize(((w.alloc (.cells C 284)).alloc (.cells #[.int .i64 q,.int .i64 (key:Int),.int .i64 v] 39)).alloc (.cells #[.int .i64 0,.int .i64 0,.int .i64 0,.int .i64 0,.int .i64 0,.int .i64 0,.int .i64 0,.int .i64 0,.int .i64 0,.int .i64 0,.int .i64 0,.int .i64 0,.int .i64 0,.int .i64 0,.int .i64 0,.int .i64 0] 284)).alloc (.cells #[.int .i64 0,.int .i64 0] 44)=W at*
  have Nz:=Lib.hid hL
  obtain⟨⟨o0,o1,o2⟩,_,hsz⟩:=hL.ops
  clear hL
  go_wp2_with (go_at_call 184;refine(TH C z w.heap.size key _ H.out Nz.out.tab Hu).mono ?_;rintro e w1 ⟨rfl,Gs⟩;rw[Lz.out])
  have Ry:=Nz.out.on Gs
  have Jx:=Lib.hid Ry
  obtain⟨⟨p0,p1,p2⟩,_,Vb⟩:=Ry.ops
  have y0:w1.cell? ⟨w.heap.size,i*2,none⟩=some (.int .i64 y):=by rw[Ry.tab.cell,Nat.mul_comm,H.out.get _ (by omega),HY.out]
  clear Ry o0 o1 o2 hsz Nz
  go_quiet (fail)
  have Xh:=Jx.out.drewN nq
  generalize w1.drewN nq=W2 at*
  have It:=Lib.hid Xh
  clear p0 p1 p2 y0 Gs
  obtain⟨⟨p0,p1,p2⟩,_,Xj⟩:=Xh.ops
  have y0:W2.cell? ⟨w.heap.size,i*2,none⟩=some (.int .i64 y):=by rw[Xh.tab.cell,Nat.mul_comm,H.out.get _ (by omega),HY.out]
  have y1:W2.cell? ⟨w.heap.size,i*2+1,none⟩=some (.int .i64 (z (2*i+1))):=by rw[Xh.tab.cell,Nat.mul_comm,H.out.get _ (by omega)]
  have f0:W2.frozen? ⟨w.heap.size,i*2,none⟩=false:=Xh.tab.frozen _
  have f1:W2.frozen? ⟨w.heap.size,i*2+1,none⟩=false:=Xh.tab.frozen _
  have hls:w.heap.size<W2.heap.size:=by omega
  clear Xh Vb
 iterate 2
  .have h1':=h1
   go_wp2_with (first
    |(refine wpList_load_row rfl 284 _ rfl w.heap.size rfl 284 C (0,0) _ ?_ underlying284 rfl ?_ ?_;(exact It.out.tab);(exact Hl.out))
    |(refine wpList_store_row rfl 284 _ _ rfl (w.heap.size+2) C rfl rfl 284 #[.int .i64 0,.int .i64 0,.int .i64 0,.int .i64 0,.int .i64 0,.int .i64 0,.int .i64 0,.int .i64 0,.int .i64 0,.int .i64 0,.int .i64 0,.int .i64 0,.int .i64 0,.int .i64 0,.int .i64 0,.int .i64 0] ?_ ?_ ?_ h1 ?_;(exact It.out.res);(exact Hl.out);(rw[Qm.out];rfl);obtain⟨⟨c0,c1⟩,f0,f1⟩:=It.out.row C;obtain⟨gA,gB,gC⟩:=It.out.fin C 4 0;have GA:=Lib.hid gA;have GB:=Lib.hid gB;have GC:=Lib.hid gC;clear gA gB gC))
   exact bodyPost_ret (bY results159 _ _ (w.heap.size+2) (w.heap.size+3) 284 44 C #[.int .i64 4,.int .i64 0] _ _ rfl rfl GA.out GB.out underlying284 rfl Hl.out underlying44 rfl lK) rfl ⟨C,H.out,rfl,GC.out⟩
 .go_wp2_with (first
   |(refine wpList_load_row rfl 284 _ rfl w.heap.size rfl 284 C (0,0) _ ?_ underlying284 rfl ?_ ?_;(exact It.out.tab);(exact Hl.out))
   |(refine wpList_store_row rfl 284 _ _ rfl (w.heap.size+2) C rfl rfl 284 #[.int .i64 0,.int .i64 0,.int .i64 0,.int .i64 0,.int .i64 0,.int .i64 0,.int .i64 0,.int .i64 0,.int .i64 0,.int .i64 0,.int .i64 0,.int .i64 0,.int .i64 0,.int .i64 0,.int .i64 0,.int .i64 0] ?_ ?_ ?_ h1 ?_;(exact It.out.res);(exact Hl.out);(rw[Qm.out];rfl);obtain⟨⟨c0,c1⟩,f0,f1⟩:=It.out.row C;obtain⟨gA,gB,gC⟩:=It.out.fin C 1 (z (2*i+1));have GA:=Lib.hid gA;have GB:=Lib.hid gB;have GC:=Lib.hid gC;clear gA gB gC))
  exact bodyPost_ret (bY results159 _ _ (w.heap.size+2) (w.heap.size+3) 284 44 C #[.int .i64 1,.int .i64 (z (2*i+1))] _ _ rfl rfl GA.out GB.out underlying284 rfl Hl.out underlying44 rfl lK) rfl ⟨C,H.out,rfl,GC.out⟩
 .have Ik:=hs.out
  generalize hl:eV z 8=l at Ik
  have Sl:=Lib.hid hl
  clear hl
  go_wp2_with (first
   |(refine eM ?_ 284 _ rfl w.heap.size rfl 284 C (0,0) _ ?_ underlying284 rfl ?_ ?_;(first|rfl|(go_simp;done));(exact It.out.tab);(exact Hl.out))
   |(go_at_call 183;refine(vP C z _ H.out).mono ?_;rintro e w3 ⟨rfl,He⟩;rw[Sl.out];have Kv:=It.out.on He;have Ms:=Lib.hid Kv;obtain⟨⟨q0,q1,q2⟩,_,Rb⟩:=Kv.ops;have x0:w3.cell? ⟨w.heap.size,i*2,none⟩=some (.int .i64 y):=(by rw[Kv.tab.cell,Nat.mul_comm,H.out.get _ (by omega),HY.out]);have x1:w3.cell? ⟨w.heap.size,i*2+1,none⟩=some (.int .i64 (z (2*i+1))):=(by rw[Kv.tab.cell,Nat.mul_comm,H.out.get _ (by omega)]);have g0:w3.frozen? ⟨w.heap.size,i*2,none⟩=false:=Kv.tab.frozen _;have g1:w3.frozen? ⟨w.heap.size,i*2+1,none⟩=false:=Kv.tab.frozen _;have hls3:w.heap.size<w3.heap.size:=(by omega);clear Kv)
   |(refine wpList_load_row rfl 284 _ rfl w.heap.size rfl 284 C (0,0) _ ?_ underlying284 rfl ?_ ?_;(exact Ms.out.tab);(exact Hl.out))
   |(refine wpList_store_row rfl 284 _ _ rfl (w.heap.size+2) C rfl rfl 284 #[.int .i64 0,.int .i64 0,.int .i64 0,.int .i64 0,.int .i64 0,.int .i64 0,.int .i64 0,.int .i64 0,.int .i64 0,.int .i64 0,.int .i64 0,.int .i64 0,.int .i64 0,.int .i64 0,.int .i64 0,.int .i64 0] ?_ ?_ ?_ h1 ?_;(exact Ms.out.res);(exact Hl.out);(rw[Qm.out];rfl);obtain⟨⟨c0,c1⟩,f0,f1⟩:=Ms.out.row C;obtain⟨gA,gB,gC⟩:=Ms.out.fin C 3 0;have GA:=Lib.hid gA;have GB:=Lib.hid gB;have GC:=Lib.hid gC;clear gA gB gC))
  exact bodyPost_ret (bY results159 _ _ (w.heap.size+2) (w.heap.size+3) 284 44 C #[.int .i64 3,.int .i64 0] _ _ rfl rfl GA.out GB.out underlying284 rfl Hl.out underlying44 rfl lK) rfl ⟨C,H.out,rfl,GC.out⟩
 .have hv:=hs.out.2
  have Ik:=hs.out.1
  generalize hl:eV z 8=l at Ik
  have Sl:=Lib.hid hl
  clear hl
  obtain⟨E,hE⟩:∃E,E=(C.setIfInBounds (i*2) (.int .i64 (key:Int))).setIfInBounds (i*2+1) (.int .i64 v):=⟨_,rfl⟩
  have Ii:eB E 16 (setS z i key v):=by rw[hE];exact vW H.out i (by omega) hv
  have HE:=Lib.hid Ii
  have Om:=Lib.hid hE
  have If:Hid ((prog.info? 284).map (·.size)=some E.size):=by show _=_;rw[Ii.size,tL]
  have Ln:Hid (E.size=16):=Ii.size
  have h2:=Ii.one
  clear Ii hE
  go_wp2_with (first
   |(refine eM ?_ 284 _ rfl w.heap.size rfl 284 C (0,0) _ ?_ underlying284 rfl ?_ ?_;(first|rfl|(go_simp;done));(exact It.out.tab);(exact Hl.out))
   |(go_at_call 183;refine(vP C z _ H.out).mono ?_;rintro e w3 ⟨rfl,He⟩;rw[Sl.out];have Kv:=It.out.on He;have Ms:=Lib.hid Kv;obtain⟨⟨q0,q1,q2⟩,_,Rb⟩:=Kv.ops;have x0:w3.cell? ⟨w.heap.size,i*2,none⟩=some (.int .i64 y):=(by rw[Kv.tab.cell,Nat.mul_comm,H.out.get _ (by omega),HY.out]);have x1:w3.cell? ⟨w.heap.size,i*2+1,none⟩=some (.int .i64 (z (2*i+1))):=(by rw[Kv.tab.cell,Nat.mul_comm,H.out.get _ (by omega)]);have g0:w3.frozen? ⟨w.heap.size,i*2,none⟩=false:=Kv.tab.frozen _;have g1:w3.frozen? ⟨w.heap.size,i*2+1,none⟩=false:=Kv.tab.frozen _;have hls3:w.heap.size<w3.heap.size:=(by omega);have Jd:=Lib.hid (Kv.set_ i (key:Int) v);rw[<-Om.out]at Jd;clear Kv)
   |(refine wpList_load_row rfl 284 _ rfl w.heap.size rfl 284 E (0,0) _ ?_ underlying284 rfl ?_ ?_;(exact Jd.out.tab);(exact If.out))
   |(refine wpList_store_row rfl 284 _ _ rfl (w.heap.size+2) E rfl rfl 284 #[.int .i64 0,.int .i64 0,.int .i64 0,.int .i64 0,.int .i64 0,.int .i64 0,.int .i64 0,.int .i64 0,.int .i64 0,.int .i64 0,.int .i64 0,.int .i64 0,.int .i64 0,.int .i64 0,.int .i64 0,.int .i64 0] ?_ ?_ ?_ h2 ?_;(exact Jd.out.res);(exact If.out);(rw[Ln.out];rfl);obtain⟨⟨c0,c1⟩,f0,f1⟩:=Jd.out.row E;obtain⟨gA,gB,gC⟩:=Jd.out.fin E 1 0;have GA:=Lib.hid gA;have GB:=Lib.hid gB;have GC:=Lib.hid gC;clear gA gB gC))
  exact bodyPost_ret (bY results159 _ _ (w.heap.size+2) (w.heap.size+3) 284 44 E #[.int .i64 1,.int .i64 0] _ _ rfl rfl GA.out GB.out underlying284 rfl If.out underlying44 rfl lK) rfl ⟨E,HE.out,rfl,GC.out⟩
 .have hv:=hs.out
  obtain⟨E,hE⟩:∃E,E=(C.setIfInBounds (i*2) (.int .i64 (key:Int))).setIfInBounds (i*2+1) (.int .i64 v):=⟨_,rfl⟩
  have Ii:eB E 16 (setS z i key v):=by rw[hE];exact vW H.out i (by omega) hv
  have HE:=Lib.hid Ii
  have Om:=Lib.hid hE
  have If:Hid ((prog.info? 284).map (·.size)=some E.size):=by show _=_;rw[Ii.size,tL]
  have Ln:Hid (E.size=16):=Ii.size
  have h2:=Ii.one
  clear Ii hE
  have Jd:=Lib.hid (It.out.set_ i (key:Int) v)
  rw[<-Om.out]at Jd
  go_wp2_with (first
   |(refine wpList_load_row rfl 284 _ rfl w.heap.size rfl 284 E (0,0) _ ?_ underlying284 rfl ?_ ?_;(exact Jd.out.tab);(exact If.out))
   |(refine wpList_store_row rfl 284 _ _ rfl (w.heap.size+2) E rfl rfl 284 #[.int .i64 0,.int .i64 0,.int .i64 0,.int .i64 0,.int .i64 0,.int .i64 0,.int .i64 0,.int .i64 0,.int .i64 0,.int .i64 0,.int .i64 0,.int .i64 0,.int .i64 0,.int .i64 0,.int .i64 0,.int .i64 0] ?_ ?_ ?_ h2 ?_;(exact Jd.out.res);(exact If.out);(rw[Ln.out];rfl);obtain⟨⟨c0,c1⟩,f0,f1⟩:=Jd.out.row E;obtain⟨gA,gB,gC⟩:=Jd.out.fin E 1 0;have GA:=Lib.hid gA;have GB:=Lib.hid gB;have GC:=Lib.hid gC;clear gA gB gC))
  exact bodyPost_ret (bY results159 _ _ (w.heap.size+2) (w.heap.size+3) 284 44 E #[.int .i64 1,.int .i64 0] _ _ rfl rfl GA.out GB.out underlying284 rfl If.out underlying44 rfl lK) rfl ⟨E,HE.out,rfl,GC.out⟩
 .have hbe:=hs.out.1
  refine Exists.elim hs.out.2 fun D hD=>?_
  have Ji:=Lib.hid hbe
  have HD:=Lib.hid hD
  have If:Hid ((prog.info? 284).map (·.size)=some D.size):=by show _=_;rw[hD.size,tL]
  have Ln:Hid (D.size=16):=hD.size
  have h2:=hD.one
  clear hbe hD
  go_wp2_with (first
   |(refine wpList_load_row rfl 284 _ rfl w.heap.size rfl 284 C (0,0) _ ?_ underlying284 rfl ?_ ?_;(exact It.out.tab);(exact Hl.out))
   |(go_at_call 185;refine(JK C D z i m _ H.out Ji.out HD.out).mono ?_;rintro e w5 ⟨rfl,Pz⟩;have Qn:=Lib.hid (It.out.on Pz);have Lg:=Lib.hid ((It.out.on Pz).setTab D))
   |(refine wpList_store_row rfl 284 _ _ rfl w.heap.size D rfl rfl 284 C ?_ ?_ ?_ h2 ?_;(exact Qn.out.tab);(exact If.out);(rw[Qm.out,Ln.out]))
   |(refine wpList_load_row rfl 284 _ rfl w.heap.size rfl 284 D (0,0) _ ?_ underlying284 rfl ?_ ?_;(exact Lg.out.tab);(exact If.out))
   |(refine wpList_store_row rfl 284 _ _ rfl (w.heap.size+2) D rfl rfl 284 #[.int .i64 0,.int .i64 0,.int .i64 0,.int .i64 0,.int .i64 0,.int .i64 0,.int .i64 0,.int .i64 0,.int .i64 0,.int .i64 0,.int .i64 0,.int .i64 0,.int .i64 0,.int .i64 0,.int .i64 0,.int .i64 0] ?_ ?_ ?_ h2 ?_;(exact Lg.out.res);(exact If.out);(rw[Ln.out];rfl);obtain⟨⟨c0,c1⟩,f0,f1⟩:=Lg.out.row D;obtain⟨gA,gB,gC⟩:=Lg.out.fin D 1 (z (2*i+1));have GA:=Lib.hid gA;have GB:=Lib.hid gB;have GC:=Lib.hid gC;clear gA gB gC))
  exact bodyPost_ret (bY results159 _ _ (w.heap.size+2) (w.heap.size+3) 284 44 D #[.int .i64 1,.int .i64 (z (2*i+1))] _ _ rfl rfl GA.out GB.out underlying284 rfl If.out underlying44 rfl lK) rfl ⟨D,HD.out,rfl,GC.out⟩
def fJ(z:Nat->Int)(a k v:Int)(m:Nat):Nat->Int:=
 if(a=1\/a=2\/a=5)/\1<=k/\k<=1000 then
  (if a=1 then(if z (2*(kF z k.toNat).toNat)≠k/\6<=eV z 8 then z else setS z (kF z k.toNat).toNat k v)
   else if z (2*(kF z k.toNat).toNat)≠k then z else if a=2 then iX z (kF z k.toNat).toNat m else z)
 else z
def fV(z:Nat->Int)(a k:Int):Int:=
 if a=6 then 1 else if(a=1\/a=2\/a=5)/\1<=k/\k<=1000 then
  (if a=1 then(if z (2*(kF z k.toNat).toNat)≠k/\6<=eV z 8 then 3 else 1)
   else if z (2*(kF z k.toNat).toNat)≠k then 4 else 1)
 else 5
def fX(z:Nat->Int)(a k:Int):Int:=
 if a=6 then eV z 8 else if(a=2\/a=5)/\1<=k/\k<=1000 then
  (if z (2*(kF z k.toNat).toNat)≠k then 0 else z (2*(kF z k.toNat).toNat+1))
 else 0
def tG(z:Nat->Int)(a k:Int)(m:Nat):Prop:=a=2->1<=k->k<=1000->z (2*(kF z k.toNat).toNat)=k->vI z (kF z k.toNat).toNat m
theorem DG{z:Nat->Int}(h:cS z=true)(a k:Int):∃m,tG z a k m:=by
 by_cases hc:a=2/\1<=k/\k<=1000/\z (2*(kF z k.toNat).toNat)=k
 .obtain⟨i,hi,hat,_⟩:=nX h k.toNat
  have e:(kF z k.toNat).toNat=i:=by rw[hat];rfl
  obtain⟨_,hk,_,hz⟩:=hc
  rw[e]at hz
  obtain⟨m,hm⟩:=JQ h hi (by omega)
  exact⟨m,fun _ _ _ _=>by rw[e];exact hm⟩
 .exact⟨0,fun h1 h2 h3 h4=>absurd ⟨h1,h2,h3,h4⟩ hc⟩
theorem YE(C D:Array Value)(z:Nat->Int)(a k v:Int)(m:Nat)(w:World)(h:eB C 16 z)(hr:cS z=true)(hv: -9223372036854775808<=v/\v<=9223372036854775807)(hm:tG z a k m)(hD:eB D 16 (fJ z a k v m)):
 Calls prog 159 #[.agg C,.agg #[.int .i64 a,.int .i64 k,.int .i64 v]] w fun e w'=>e=.returned (.tuple #[.agg D,.agg #[.int .i64 (fV z a k),.int .i64 (fX z a k)]])/\Below w.heap.size w w':=by
 suffices hs:Calls prog 159 #[.agg C,.agg #[.int .i64 a,.int .i64 k,.int .i64 v]] w (oL (fJ z a k v m) (fV z a k) (fX z a k) w)from hs.mono fun e w' h'=>h'.det hD
 by_cases a6:a=6
 .subst a6
  exact OT C z k v w h
 .by_cases hc:(a=1\/a=2\/a=5)/\1<=k/\k<=1000
  .obtain⟨ha,Hu,Hp⟩:=hc
   obtain⟨key,rfl⟩:=Int.eq_ofNat_of_zero_le (show(0:Int)<=k by omega)
   have q1:1<=key:=by omega
   have q2:key<=1000:=by omega
   obtain⟨i,hi,hat,hor⟩:=nX hr key
   have e:(kF z ((key:Nat):Int).toNat).toNat=i:=by rw[Int.toNat_natCast,hat];rfl
   have hM:a=2->z (2*i)=key->vI z i m:=fun e1 e2=>by have:=hm e1 Hu Hp (by rw[e];exact e2);rwa [e]at this
   by_cases hth:z (2*i)=key
   .have hb:(z (2*i)==(key:Int))=true:=by simpa using hth
    rcases ha with rfl|rfl|rfl
    .have e1:fJ z 1 key v m=setS z i key v:=by simp [fJ,Hu,Hp,hat,hth]
     have e2:fV z 1 key=1:=by simp [fV,Hu,Hp,hat,hth]
     have e3:fX z 1 key=0:=by simp [fX]
     rw[e1,e2,e3]
     exact oN C z key i v _ w h q1 q2 hi hat rfl hb (.inr (.inr (.inr (.inr (.inl ⟨rfl,rfl,rfl,hv⟩)))))
    .have hB:=hM rfl hth
     have e1:fJ z 2 key v m=iX z i m:=by simp [fJ,Hu,Hp,hat,hth]
     have e2:fV z 2 key=1:=by simp [fV,Hu,Hp,hat,hth]
     have e3:fX z 2 key=z (2*i+1):=by simp [fX,Hu,Hp,hat,hth]
     rw[e1]at hD⊢
     rw[e2,e3]
     exact oN C z key i v _ w h q1 q2 hi hat rfl hb (.inr (.inr (.inr (.inr (.inr ⟨rfl,rfl,m,rfl,hB,D,hD⟩)))))
    .have e1:fJ z 5 key v m=z:=by simp [fJ,hat,hth]
     have e2:fV z 5 key=1:=by simp [fV,Hu,Hp,hat,hth]
     have e3:fX z 5 key=z (2*i+1):=by simp [fX,Hu,Hp,hat,hth]
     rw[e1,e2,e3]
     exact oN C z key i v _ w h q1 q2 hi hat rfl hb (.inr (.inl ⟨rfl,rfl,rfl⟩))
   .have hb:(z (2*i)==(key:Int))=false:=by simpa using hth
    rcases ha with rfl|rfl|rfl
    .by_cases hl:6<=eV z 8
     .have e1:fJ z 1 key v m=z:=by simp [fJ,hat,hth,hl]
      have e2:fV z 1 key=3:=by simp [fV,Hu,Hp,hat,hth,hl]
      have e3:fX z 1 key=0:=by simp [fX]
      rw[e1,e2,e3]
      exact oN C z key i v _ w h q1 q2 hi hat rfl hb (.inr (.inr (.inl ⟨rfl,rfl,rfl,hl⟩)))
     .have e1:fJ z 1 key v m=setS z i key v:=by simp [fJ,Hu,Hp,hat,hl]
      have e2:fV z 1 key=1:=by simp [fV,Hu,Hp,hat,hl]
      have e3:fX z 1 key=0:=by simp [fX]
      rw[e1,e2,e3]
      exact oN C z key i v _ w h q1 q2 hi hat rfl hb (.inr (.inr (.inr (.inl ⟨rfl,rfl,rfl,by omega,hv⟩))))
    .have e1:fJ z 2 key v m=z:=by simp [fJ,hat,hth]
     have e2:fV z 2 key=4:=by simp [fV,Hu,Hp,hat,hth]
     have e3:fX z 2 key=0:=by simp [fX,hat,hth]
     rw[e1,e2,e3]
     exact oN C z key i v _ w h q1 q2 hi hat rfl hb (.inl ⟨rfl,.inl rfl,rfl⟩)
    .have e1:fJ z 5 key v m=z:=by simp [fJ,hat,hth]
     have e2:fV z 5 key=4:=by simp [fV,Hu,Hp,hat,hth]
     have e3:fX z 5 key=0:=by simp [fX,hat,hth]
     rw[e1,e2,e3]
     exact oN C z key i v _ w h q1 q2 hi hat rfl hb (.inl ⟨rfl,.inr rfl,rfl⟩)
  .have e1:fJ z a k v m=z:=by simp only[fJ,if_neg hc]
   have e2:fV z a k=5:=by simp only[fV,if_neg hc,if_neg a6]
   have e3:fX z a k=0:=by simp only[fX,if_neg a6];rw[if_neg (by omega)]
   rw[e1,e2,e3]
   exact OP C z a k v w h a6 (by omega)
end
end Go.Proofs.YtplpimkgihnmhaaGreatDoor
