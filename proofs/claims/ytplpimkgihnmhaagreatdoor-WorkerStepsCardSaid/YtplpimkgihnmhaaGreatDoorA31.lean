/-
  Part of a proof: StS StT. For all values.
-/
import Derived.Test.YtplpimkgihnmhaaGreatDoorA23
set_option maxRecDepth 100000
set_option maxHeartbeats 1000000
set_option linter.all false
namespace Go.Proofs.YtplpimkgihnmhaaGreatDoor
open Go.Proofs.Tryz Go.RowKit
section
open Go.Maps
attribute [local go_sem↓] Go.wp_at_zero Go.wp_at_succ
def cN.landK(s:cN)(l k:Nat):cN:={s with good:=fun i=>if i<k/\i/8=l then s.now i else s.good i}
theorem Bj(s:cN)(l:Nat):s.landK l 0=s:=by simp [cN.landK]
theorem MK(s:cN){l k:Nat}(h:k/8=l):{s.landK l k with good:=fun i=>if i=k then s.now k else(s.landK l k).good i}=s.landK l (k+1):=by
 show cN.mk s.now (fun i=>if i=k then s.now k else(if i<k/\i/8=l then s.now i else s.good i)) s.want s.fl s.fe=cN.mk s.now (fun i=>if i<k+1/\i/8=l then s.now i else s.good i) s.want s.fl s.fe
 congr 1
 funext i
 by_cases e:i=k
 .subst e;simp [h]
 by_cases e2:i<k
 .have:i<k+1:=I
  simp [e,e2,this]
 have:¬i<k+1:=I
 simp [e,e2,this]
theorem UE(s:cN){l k:Nat}(h:¬k/8=l):s.landK l k=s.landK l (k+1):=by
 unfold cN.landK
 congr 1
 funext i
 by_cases e:i=k
 .subst e;simp [h]
 by_cases e2:i<k
 .have:i<k+1:=I
  simp [e2,this]
 have:¬i<k+1:=I
 simp [e2,this]
theorem PG(s:cN)(l m:Nat):kD (s.landK l 72) m=kD (s.land l) m:=jJ fun j hj=>by
 rw[xZ,xZ]
 by_cases c1:j<72
 .rw[iP c1,iP c1];rfl
 rw[iN c1,iN c1]
 by_cases c2:j<144
 .rw[iP c2,iP c2]
  have:j-72<72:=I
  simp [cN.landK,cN.land,this]
 rw[iN c2,iN c2];rfl
theorem XP(h m l:Nat)(s:cN)(w:World)(hb:aY w h 74 (kD s m))(hl:l<9):
 Calls prog 81 #[(h,0),l] w fun e w'=>e=.returned (.tuple #[])/\aY w' h 74 (kD (s.land l) m)/\aD (nQ h) w w':=by
 have HB:=aH hb
 clear hb
 go_enter func81,ntmps81
 go_wp2
 go_loopw [5] (fun i wr=>∃k:Nat,k<=72/\i=.int .i64 k/\Hid (aY wr h 74 (kD (s.landK l k) m))/\Hid (aD (nQ h) w wr)) (fun i _=>72-(intOf i).toNat)
 case atStart=>exact⟨0,I,rfl,aH (by rw[Bj];exact HB),aH (aD.refl _ _)⟩
 case round=>
  obtain⟨k,hk,rfl,HR,HK⟩:=hrel
  by_cases Ls:k<72
  .have b1:(k:Int)<72:=I
   by_cases hw:k/8=l
   .have q:((k:Int)/8==(l:Int))=true:=by simp;omega
    have HY:=aH (MK s hw)
    have c1:wr.cell? (h,k)=[s.now k]:=by rw[HR.cell,KU _ _ Ls];rfl
    have c2:wr.cell? (h,72+k)=[(s.landK l k).good k]:=by rw[HR.cell,UL _ _ Ls]
    have f2:wr.frozen? ⟨h,72+k,none⟩=false:=HR.frozen _
    have HX:=aH (MB (s.landK l k) m (s.now k) Ls)
    generalize(s.landK l k).good k=v2 at c2
    clear hw
    have hlt:=HR.lt
    have HNK:Hid ((s.landK l k).now k=s.now k):=aH rfl
    generalize s.now k=v1 at*
    go_wp2
    refine aA 11 ?_
    iterate 11
     first
     |(refine aR1 ?_;constructor
       .intro w9 Gq Gy Gz
        go_simp
        first
        |exact aE)
     |refine aU ?_
    refine bZ ?_
    intro w9 Gq Gy Gz
    simp only[List.drop_succ_cons,List.drop_zero]
    have c2':=(Gq.same.cell (p:=⟨h,72+k,none⟩) HR.lt).trans c2
    have f2':=(Gq.same.frozen (p:=⟨h,72+k,none⟩) HR.lt).trans f2
    have Od:=aH (HR.below Gq.same HR.lt)
    have Qq:=aH (HK.trans (aD.of_same Gq.same))
    clear Gq Gy Gz c1 c2 f2
    go_wp2
    go_roundw
    case rel=>exact⟨k+1,I,aG,aH (by rw[<-HY.out,<-HX.out];exact Od.set_ (72+k) _),aH (qC Qq _)⟩
    case measure=>simp [intOf];omega
   have q:((k:Int)/8==(l:Int))=false:=by simp;omega
   have HY:=aH (UE s hw)
   clear hw
   go_wp2
   go_roundw
   case rel=>exact⟨k+1,I,aG,aH (by rw[<-HY.out];exact HR),HK⟩
   case measure=>simp [intOf];omega
  obtain rfl:k=72:=I
  go_wp2
  refine bodyPost_end (v:=.tuple #[]) (by simp [results,results81,go_sem]) rfl ⟨rfl,by rw[<-PG];exact HR,HK.out⟩
def NC(h m:Nat):Nat->Prop:=fun b=>b=h\/b=m
theorem pU{a lo hi:Int}(h:lo<=a/\a<=hi):bV a lo hi=true:=by simp [bV,h.1,h.2]
theorem QM{f:Nat->Nat->Bool}{gm n t l:Nat}{w':World}{D:DataW Unit}(h:w'.ownsMap prog 315 (plainElem prog 4) gm n (D.put (PL t l) (.lit (.bool true))))(hm:IsMap D)(ht:t<4)(hl:l<9)
 (hD:∀t l,t<4->l<9->D.atKey (PL t l) (.lit (.bool false))=.lit (.bool (f t l))):gP (fun t' l'=>if t'=t/\l'=l then true else f t' l') gm n w':=
 ⟨_,h,fun t' l' ht' hl'=>by
   by_cases e:t'=t/\l'=l
   .obtain⟨rfl,rfl⟩:=e
    rw[atKey_put_same hm (Cb _ _)]
    simp
   rw[atKey_put_other (fun e2=>e (LM ht' hl' ht hl e2)),hD t' l' ht' hl']
   simp only[e,if_false]⟩
theorem RU{f:Nat->Nat->Bool}{gm n t l:Nat}{w':World}{D:DataW Unit}(h:w'.ownsMap prog 315 (plainElem prog 4) gm n (D.del (PL t l)))(ht:t<4)(hl:l<9)
 (hD:∀t l,t<4->l<9->D.atKey (PL t l) (.lit (.bool false))=.lit (.bool (f t l))):gP (fun t' l'=>if t'=t/\l'=l then false else f t' l') gm n w':=
 ⟨_,h,fun t' l' ht' hl'=>by
   by_cases e:t'=t/\l'=l
   .obtain⟨rfl,rfl⟩:=e
    rw[atKey_del_same]
    simp
   rw[atKey_del_other (fun e2=>e (LM ht' hl' ht hl e2)),hD t' l' ht' hl']
   simp only[e,if_false]⟩
theorem uQ{w w':World}{b:Nat}(hg:w.grownBy w' (some b)):aD (nQ b) w w':=
 ⟨hg.os,hg.tape,hg.output,hg.size,fun k hk hn=>hg.block k hk (fun e=>hn (Option.some.inj e))⟩
theorem xH(h m n t l:Nat)(s:cN)(w:World)(hb:aY w h 74 (kD s m))(hm:gP s.want m n w)(hne:h≠m)(ht:t<4)(hl:l<9)(hfl:s.fl<=1000000000)(hn:n<=1000000000):
 Calls prog 173 #[(h,0),t,l] w fun e w'=>e=.returned (0:Int)/\aY w' h 74 (kD (s.flush t l) m)/\gP (s.flush t l).want m (n+1) w'/\aD (NC h m) w w':=by
 have HW:=aH (fun w=>bQ (t:Int) 0 3 w)
 have HV:=aH (fun w=>bQ (l:Int) 0 8 w)
 rw[pU I]at HW
 rw[pU I]at HV
 have c1:w.cell? (h,145)=s.fl:=by rw[hb.cell,Cd]
 have f1:w.frozen? ⟨h,145,none⟩=false:=hb.frozen _
 have c2:w.cell? (h,144)=some (.map (some m)):=by rw[hb.cell,BP]
 have HB:=Lib.hid hb
 obtain⟨D,ho,hD⟩:=hm
 have Vi:(w.setCell ⟨h,145,none⟩ (.int .i64 ((s.fl:Int)+1))).ownsMap prog 315 (plainElem prog 4) m n D:=ho.setCell (fun e=>hne e.symm) _
 have HO:=Lib.hid Vi
 have HMP:=Lib.hid ho.isMap
 have HD:=Lib.hid hD
 have HMX:Hid (n<maxLen):=Lib.hid (by unfold maxLen;omega)
 have HKY:=Lib.hid (IG ht hl)
 clear hb ho Vi hD
 go_enter func173,ntmps173
 go_wp2_with (first
  |(go_at_call 55;first|(with_reducible refine(HW.out _).mono ?_;rintro e w1 ⟨rfl,rfl⟩)|(with_reducible refine(HV.out _).mono ?_;rintro e w1 ⟨rfl,rfl⟩))
  |(at_mapUpdate;with_reducible refine JJ 72 315 4 Au underlying72 (plainElem prog 4) m n D (.agg #[.int .i64 t,.int .i64 l]) (.bool true) (PL t l) (by kernel_rfl) (by kernel_rfl) (by kernel_rfl) HO.out HMX.out HKY.out (.lit (.bool true)) [] (plainElem_bool underlying4 true) ?_;intro w4 Jw Ij))
 go_ret
 have Jf:=uQ Ij
 refine⟨rfl,?_,QM Jw HMP ht hl HD,?_⟩
 .have h1:=HB.set_ 145 (.int .i64 ((s.fl:Int)+1))
  have e1:=WC s m (s.fl+1)
  rw[show(((s.fl+1:Nat)):Int)=(s.fl:Int)+1 by omega]at e1
  rw[e1]at h1
  exact h1.kept Jf hne
 exact((aD.refl _ _).setCell (p:=⟨h,145,none⟩) (.inl (.inl rfl)) _).trans (Jf.mono fun b hb=>.inr hb)
section
variable{P:Program}{ops:Array Oper}{rest:List Oper}{a:Act}{w:World}{Q:Exit->Act->World->Prop}{ty':TypeId}{pos:String}{af:Array Edge}
theorem XS{H:Type}{mm x:Operand}{d:Option Tmp}(t:TypeId)(k e:TypeId)(K:Keyed P k)(ht:P.underlying t=some (.map k e))(R:Value->Option (DataW H×List MemPlace))(b n:Nat)(D:DataW H)
 (key:Value) (kl:Lit) (hm:a.eval mm=.map (some b)) (hx:a.eval x=key) (hown:w.ownsMap P k R b n D) (hkey:keyOf P k key=some kl)
 (hK:∀w',w'.ownsMap P k R b n (D.del kl)->w.mapTurned w' b->wpList P ops Q rest (a.put d (.tuple #[])) w'):
 wpList P ops Q ({dst:=d,op:=.call {callee:=.builtin .delete,args:= #[mm,x],argTypes:= #[t,k]},type:=ty',pos:=pos,after:=af,guard:=none}::rest) a w:=
 wpList_delete_own w rfl mm x t k rfl e K ht R b n D hm hown key kl hx hkey hK
end
def lE(f:Nat->Nat->Bool)(t k:Nat)(t' l':Nat):Bool:=if t'=t/\l'<k then false else f t' l'
theorem JX(f:Nat->Nat->Bool)(t k:Nat):(fun t' l'=>if t'=t/\l'=k then false else lE f t k t' l')=lE f t (k+1):=by
 funext t' l'
 unfold lE
 by_cases e:t'=t
 .by_cases e2:l'=k
  .simp [e,e2]
  by_cases e3:l'<k
  .have:l'<k+1:=I
   simp [e,e2,e3,this]
  have:¬l'<k+1:=I
  simp [e,e2,e3,this]
 simp [e]
theorem NI(f:Nat->Nat->Bool)(t k:Nat)(h:f t k=false):lE f t k=lE f t (k+1):=by
 funext t' l'
 unfold lE
 by_cases e:t'=t
 .by_cases e2:l'=k
  .subst e2;subst e;simp [h]
  by_cases e3:l'<k
  .have:l'<k+1:=I
   simp [e,e3,this]
  have:¬l'<k+1:=I
  simp [e,e3,this]
 simp [e]
theorem wG(h m n t:Nat)(s:cN)(w:World)(hb:aY w h 74 (kD s m))(hm:gP s.want m n w)(hne:h≠m)(ht:t<4)(hfe:s.fe<=1000000000):
 Calls prog 175 #[.pointer (some ⟨h,0,none⟩),.int .i64 t] w fun e w'=>e=.returned (.int .i64 0)/\aY w' h 74 (kD (s.fence t) m)/\gP (s.fence t).want m n w'/\aD (NC h m) w w':=by
 have HW:=Lib.hid (fun w=>bQ (t:Int) 0 3 w)
 rw[pU (by omega)]at HW
 have c1:w.cell? ⟨h,146,none⟩=some (.int .i64 (s.fe:Int)):=by rw[hb.cell,Bu]
 have f1:w.frozen? ⟨h,146,none⟩=false:=hb.frozen _
 have Hc:Hid (aY (w.setCell ⟨h,146,none⟩ (.int .i64 ((s.fe:Int)+1))) h 74 (kD {s with fe:=s.fe+1} m)):=Lib.hid (by
  have h1:=hb.set_ 146 (.int .i64 ((s.fe:Int)+1))
  have e1:=WZ s m (s.fe+1)
  rw[show(((s.fe+1:Nat)):Int)=(s.fe:Int)+1 by omega]at e1
  rwa [e1]at h1)
 have Hj:Hid (aD (NC h m) w (w.setCell ⟨h,146,none⟩ (.int .i64 ((s.fe:Int)+1)))):=Lib.hid ((aD.refl _ _).setCell (p:=⟨h,146,none⟩) (.inl (.inl rfl)) _)
 have HM1:Hid (gP s.want m n (w.setCell ⟨h,146,none⟩ (.int .i64 ((s.fe:Int)+1)))):=Lib.hid (hm.kept (qC (aD.refl (nQ h) w) _) (fun e=>hne e.symm))
 clear hb hm
 go_enter func175,ntmps175
 go_wp2_with (go_at_call 55;with_reducible refine(HW.out _).mono ?_;rintro e w1 ⟨rfl,rfl⟩)
 generalize w.setCell ⟨h,146,none⟩ (.int .i64 ((s.fe:Int)+1))=W1 at*
 have HFE:Hid ((({s with fe:=s.fe+1}:cN).lands t 9).quiet t=s.fence t):=aH rfl
 have HWN:Hid (s.want=({s with fe:=s.fe+1}:cN).want):=aH rfl
 rw[HWN.out]at HM1
 clear c1 f1 HWN
 generalize({s with fe:=s.fe+1}:cN)=S at*
 go_loopw [16] (fun i wr=>∃k:Nat,k<=9/\i=.int .i64 k/\Hid (aY wr h 74 (kD (S.lands t k) m))/\Hid (gP (lE S.want t k) m n wr)/\Hid (aD (NC h m) w wr)) (fun i _=>9-(intOf i).toNat)
 case atStart=>exact⟨0,I,rfl,aH (by rw[cN.lands0];exact Hc),aH (HM1.congr (fun t' l' _ _=>by simp [lE])),Hj⟩
 case round=>
  obtain⟨k,hk,rfl,HR,HM,HK⟩:=hrel
  by_cases Ls:k<9
  .have b1:(k:Int)<9:=I
   have hlk:=HM.look ht Ls
   have hq:lE S.want t k t k=S.want t k:=by simp [lE]
   rw[hq]at hlk
   have cm:wr.cell? (h,144)=some (.map (some m)):=by rw[HR.cell,BP]
   by_cases hw:S.want t k=true
   .have HY:=aH (S.lands_yes hw)
    have HQ:=aH (JX S.want t k)
    rw[hw]at hlk
    clear hw hq
    generalize hS:S.lands t k=S1 at*
    clear hS
    go_wp2_with fail
    with_reducible refine(XP h m k S1 _ HR.out Ls).mono ?_
    rintro e w2 ⟨rfl,Gt,Hp⟩
    have cm2:=(Gt.cell 144).trans (BP _ _)
    obtain⟨D,ho,hD⟩:=HM.kept Hp (fun e=>hne e.symm)
    have HO:=aH ho
    have HD:=aH hD
    have Hf:=aH Gt
    have Hy:=aH (HK.trans (Hp.mono fun b hb=>.inl hb))
    have HKY:=aH (IG ht Ls)
    clear ho hD Gt Hp cm hlk HR HM HK
    go_wp2_with (at_delete;with_reducible refine XS 72 315 4 Au underlying72 (plainElem prog 4) m n D (.agg #[t,k]) (PL t k) J J HO.out HKY.out ?_;intro w4 Jw Tt)
    have Jf:=vE Tt
    have Kj:=aH (Hf.kept Jf hne)
    have Se:=aH (RU Jw ht Ls HD)
    have Pi:=aH (Hy.trans (Jf.mono fun b hb=>.inr hb))
    clear Jw Tt Jf
    go_roundw
    case rel=>exact⟨k+1,I,aG,aH (by rw[<-HY.out];exact Kj),aH (by rw[<-HQ.out];exact Se),Pi⟩
    case measure=>simp [intOf];omega
   have Oh:S.want t k=false:=by simpa using hw
   have HY:=aH (S.lands_no Oh)
   have HQ:=aH (NI S.want t k Oh)
   rw[Oh]at hlk
   clear hw Oh hq
   go_wp2
   go_roundw
   case rel=>exact⟨k+1,I,aG,aH (by rw[<-HY.out];exact HR),aH (by rw[<-HQ.out];exact HM),HK⟩
   case measure=>simp [intOf];omega
  obtain rfl:k=9:=I
  go_wp2
  go_ret
  refine⟨rfl,?_,?_,HK.out⟩
  .rw[<-HFE.out];exact HR
  rw[<-HFE.out]
  exact HM.congr (fun t' l' _ hl'=>by
   show(if t'=t then false else S.want t' l')=lE S.want t 9 t' l'
   simp [lE,hl'])
theorem yX(f:Nat->Int):(prog.info? 71).map (·.size)=some (jB f).size:=by rw[jB,dJ];kernel_rfl
theorem Bk(m:Nat):(zeroCells74).setIfInBounds 144 (.map (some m))=kD cN.new m:=J
theorem Eg(w:World):Calls prog 57 #[] w fun e w'=>∃h m,e=.returned (.pointer (some ⟨h,0,none⟩))/\w.heap.size<=h/\w.heap.size<=m/\h≠m/\aY w' h 74 (kD cN.new m)/\gP cN.new.want m 0 w'/\Below w.heap.size w w':=by
 have hmm:= @run_makeMap prog
 have HZ:=aH Bk
 go_enter func57,ntmps57
 go_wp2
 go_ret
 refine⟨w+1,w.heap.size,rfl,I,I,I,?_,?_,by go_grown⟩
 .rw[HZ.out]
  exact aY.newAt _ _ _ (by simp)
 exact(gP.start w).kept (S:=nQ (w,1)) ((aD.refl _ _).alloc _) (fun e=>by unfold nQ at e;omega)
end
end Go.Proofs.YtplpimkgihnmhaaGreatDoor
