/-
  Part of a proof: StX Ram. For all values.
-/
import Derived.Test.YtplpimkgihnmhaaGreatDoorA21
set_option maxRecDepth 100000
set_option maxHeartbeats 1000000
set_option linter.all false
namespace Go.Proofs.YtplpimkgihnmhaaGreatDoor
open Go.Proofs.Tryz Go.RowKit
section
attribute [local go_sem↓] Go.wp_at_zero Go.wp_at_succ
theorem IM(s:cN)(t:Nat):(prog.info? 120).map (·.size)=some (xR s t).toList.length:=by rw[zY,Array.length_toList,xR,dJ]
theorem wS(s:cN)(t k:Nat)(hk:k<9)(w:World):(Instr.index 120 (.agg (xR s t)) k).run prog w=.ok (s.want t k) w:=by
 have h9:(k:Int)<9:=I
 have hp:(xR s t)[k]? =some (.bool (s.want t k)):=cW hk
 simp [Instr.index,asIntOf,run_underlying underlying120,part,underlying4,isAgg,Sem.run_bind,hk,h9,hp]
theorem Aw:(prog.info? 120).map (·.size)=some (oV 9).size:=by rw[zY];rfl
theorem FX(g t:Nat)(s:cN)(w:World)(hb:aY w g 123 (nI s))(ht:t<4)(hfe:s.fe<=1000000000):
 Calls prog 98 #[(g,0),t] w fun e w'=>e=.returned .nilIface/\aY w' g 123 (nI (s.fence t))/\aD (nQ g) w w':=by
 have HB:=aH hb
 clear hb
 have d3:decide ((t:Int)<0)=false:=by simp
 have d4:decide ((4:Int)<=t)=false:=by simp;omega
 have l9:(t:Int)<4:=I
 go_enter func98,ntmps98
 go_wp2_with (refine wpList_load_mid rfl 120 _ rfl g (144+t*9) rfl (xR s t).toList _ (GR HB ht) underlying120 rfl (IM _ _) ?_)
 go_loopw [20] (fun i wr=>∃k:Nat,k<=9/\i=.int .i64 k/\Hid (aY wr g 123 (nI (s.lands t k)))/\Hid (aD (nQ g) w wr)) (fun i _=>9-(intOf i).toNat)
 case atStart=>exact⟨0,I,rfl,aH (by rw[cN.lands0];exact HB),aH (aD.refl _ _)⟩
 case round=>
  obtain⟨k,hk,rfl,HR,HK⟩:=hrel
  by_cases Ls:k<9
  .have b1:(k:Int)<9:=I
   have hix:=wS s t k Ls
   by_cases hw:s.want t k=true
   .have HY:=aH (s.lands_yes hw)
    rw[hw]at hix
    clear hw
    generalize hS:s.lands t k=S at*
    clear hS
    go_wp2
    refine aA 11 ?_
    iterate 11
     first
     |(refine aR1 ?_;constructor
       .intro w9 Gq Gy Gz
        first
        |(exact eG 118 _ rfl g (k*8) rfl (sF S.now (k*8)) _ (MF (HR.below Gq.same HR.lt) Ls) underlying118 rfl (zT _ _) aE)
        |(go_simp
          first
          |exact aE))
     |refine aU ?_
    refine bZ ?_
    intro w9 Gq Gy Gz
    simp only[List.drop_succ_cons,List.drop_zero]
    have Od:=aH (HR.below Gq.same HR.lt)
    have Qq:Hid (aD (nQ g) w w9):=aH (HK.trans (aD.of_same Gq.same))
    clear Gq
    go_wp2_with (with_reducible refine oI 118 g (72+k*8) (sF S.now (k*8)) J J (CX Od.out (by rw[xY];omega)) (zT _ _) (OK _ _) ?_)
    go_roundw
    case rel=>exact⟨k+1,I,aG,aH (by rw[<-HY.out,<-QG S Ls];exact Od.setCells),aH (yT Qq _ _)⟩
    case measure=>simp [intOf];omega
   have Oh:s.want t k=false:=by simpa using hw
   have HY:=aH (s.lands_no Oh)
   rw[Oh]at hix
   clear hw Oh
   go_wp2
   go_roundw
   case rel=>exact⟨k+1,I,aG,aH (by rw[<-HY.out];exact HR),HK⟩
   case measure=>simp [intOf];omega
  obtain rfl:k=9:=I
  have HC:Hid (aY (wr.setCells g (144+t*9) (oV 9).toList) g 123 (nI ((s.lands t 9).quiet t))):=aH (by
   have h:=aY.setCells (vs:=(oV 9).toList) (o:=144+t*9) HR
   rw[OM _ ht]at h
   exact h)
  have Hk:(wr.setCells g (144+t*9) (oV 9).toList).cell? (g,181)=s.fe:=by
   rw[HC.cell,Ap]
   rfl
  have Ja:(wr.setCells g (144+t*9) (oV 9).toList).frozen? ⟨g,181,none⟩=false:=HC.frozen _
  go_wp2_with (with_reducible refine oI 120 g (144+t*9) (oV 9) J J (CX HR.out (by rw[oV,dJ];omega)) Aw (GN 9) ?_)
  go_ret
  refine⟨rfl,?_,qC (yT HK _ _) _⟩
  have h:=HC.set_ 181 ((s.fe+1:Nat):Int)
  rw[XC]at h
  exact(show((s.fe+1:Nat):Int)=(s.fe:Int)+1 from by omega)▸h
theorem IQ(g i:Nat)(E:Array Value)(z:Nat->Int)(w:World)(hb:aY w g 34 E)(h:cH E 16 z)(hi:i<16):
 Calls prog 27 #[(g,0),i] w fun e w'=>e=.returned (.tuple #[[z i],.nilIface])/\w=w':=by
 have hc:w.cell? (g,i)=[z i]:=by rw[hb.cell,h.get i hi]
 have d1:decide ((16:Int)<=i)=false:=by simp;omega
 have i16:(i:Int)<16:=I
 clear hb h
 go_enter func27,ntmps27
 go_wp2
 go_ret2
 exact⟨rfl,rfl⟩
theorem IH(g i:Nat)(v:Int)(E:Array Value)(z:Nat->Int)(w:World)(hb:aY w g 34 E)(h:cH E 16 z)(hi:i<16):
 Calls prog 78 #[(g,0),i,[v]] w fun e w'=>e=.returned .nilIface/\w'=w.setCell (g,i) [v]:=by
 have hc:w.cell? (g,i)=[z i]:=by rw[hb.cell,h.get i hi]
 have hf:w.frozen? ⟨g,i,none⟩=false:=hb.frozen i
 have d1:decide ((16:Int)<=i)=false:=by simp;omega
 have i16:(i:Int)<16:=I
 clear hb h
 go_enter func78,ntmps78
 go_wp2
 go_ret
 exact⟨rfl,rfl⟩
theorem KM(g i:Nat)(o v:Int)(E:Array Value)(z:Nat->Int)(w:World)(hb:aY w g 34 E)(h:cH E 16 z)(hi:i<16)(hz:(z i==o)=false):
 Calls prog 91 #[(g,0),i,[o],[v]] w fun e w'=>e=.returned (.tuple #[false,.nilIface])/\w=w':=by
 have hc:w.cell? (g,i)=[z i]:=by rw[hb.cell,h.get i hi]
 have d1:decide ((16:Int)<=i)=false:=by simp;omega
 have i16:(i:Int)<16:=I
 have d2:(z i !=o)=true:=by simpa using hz
 generalize z i=y at hc hz d2
 clear hb h
 go_enter func91,ntmps91
 go_wp2
 go_ret2
 exact⟨rfl,rfl⟩
theorem CN(g i:Nat)(o v:Int)(E:Array Value)(z:Nat->Int)(w:World)(hb:aY w g 34 E)(h:cH E 16 z)(hi:i<16)(hz:(z i==o)=true):
 Calls prog 91 #[(g,0),i,[o],[v]] w fun e w'=>e=.returned (.tuple #[true,.nilIface])/\w'=w.setCell (g,i) [v]:=by
 have hc:w.cell? (g,i)=[z i]:=by rw[hb.cell,h.get i hi]
 have hf:w.frozen? ⟨g,i,none⟩=false:=hb.frozen i
 have d1:decide ((16:Int)<=i)=false:=by simp;omega
 have i16:(i:Int)<16:=I
 have d2:(z i !=o)=false:=by simpa using hz
 generalize z i=y at hc hz d2
 clear hb h
 go_enter func91,ntmps91
 go_wp2
 go_ret2
 exact⟨rfl,rfl⟩
end
end Go.Proofs.YtplpimkgihnmhaaGreatDoor
