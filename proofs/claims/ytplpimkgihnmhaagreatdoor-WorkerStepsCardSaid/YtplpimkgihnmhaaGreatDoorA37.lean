/-
  Part of a proof: ShH ShT ShDi ShRs ShV ShC ShQ ShZ. For all values.
-/
import Derived.Test.YtplpimkgihnmhaaGreatDoorA34
import Derived.Test.YtplpimkgihnmhaaGreatDoorA35
import Derived.Test.YtplpimkgihnmhaaGreatDoorA36
set_option maxRecDepth 100000
set_option maxHeartbeats 1000000
set_option linter.all false
namespace Go.Proofs.YtplpimkgihnmhaaGreatDoor
open Go.Proofs.Tryz Go.RowKit
section
attribute [local go_sem↓] Go.wp_at_zero Go.wp_at_succ
theorem Br(x:Int)(h0:0<=x)(h1:x<18446744073709551616):∃er,∀w:World,Calls prog 96 #[[x]] w fun e w'=>e=.returned (.tuple #[.agg #[(IV x),(KE x),(ID x)],er])/\Below w w w':=by
 obtain⟨y,rfl⟩:=Int.eq_ofNat_of_zero_le h0
 refine⟨gS (jN (cB ((y/65536/4294967296:Nat):Int) ((y/4294967296%65536:Nat):Int) ((y%4294967296:Nat):Int)) 3),fun w=>(Ah y (y/65536/4294967296) (y/4294967296%65536) (y%4294967296) w I rfl rfl rfl).mono ?_⟩
 rintro e w' ⟨rfl,hb⟩
 refine⟨?_,hb⟩
 have e1:((y/65536/4294967296:Nat):Int)=(y:Int)/4294967296/65536:=I
 have e2:((y/4294967296%65536:Nat):Int)=(y:Int)/4294967296%65536:=I
 have e3:((y%4294967296:Nat):Int)=(y:Int)%4294967296:=I
 unfold IV KE ID
 rw[e1,e2,e3]
 rfl
theorem Ax(x:Int)(h0:0<=x)(h1:x<18446744073709551616):∃er,∀w:World,Calls prog 99 #[[x]] w fun e w'=>e=.returned (.tuple #[.agg #[(rZ x),(tU x)],er])/\Below w w w':=by
 obtain⟨y,rfl⟩:=Int.eq_ofNat_of_zero_le h0
 refine⟨gS (jN (fU ((y/4294967296:Nat):Int) ((y%4294967296:Nat):Int)) 3),fun w=>(sN y (y/4294967296) (y%4294967296) w I rfl rfl).mono ?_⟩
 rintro e w' ⟨rfl,hb⟩
 refine⟨?_,hb⟩
 have e1:((y/4294967296:Nat):Int)=(y:Int)/4294967296:=I
 have e3:((y%4294967296:Nat):Int)=(y:Int)%4294967296:=I
 unfold rZ tU yI
 rw[e1,e3]
 rfl
section
variable{w:World}{tag:Nat->Nat}{t gw gm gs:Nat}{θ:cQ}{A D:Option Addr}{ca cd:Nat}{m:Nat->Int}{s:cN}
theorem OI(hW:gJ w tag t θ gw A ca D cd)(hR:fE w tag m gm)(hS:iQ w tag s gs)(ht:t<4)(d:θ.does=7)(hi:θ.i<4)(Hr:0<θ.na)(hx:eE θ.r/\(∀i,i<32->0<=θ.r i/\θ.r i<18446744073709551616)/\jL (θ.fill (m (2+2*θ.i))).asks θ.na/\θ.na<=4/\θ.r 28+θ.na<=1099511627776/\θ.r 27+1<=1099511627776)(hg:mR w)(h0:tag 2=0):
 Calls prog 63 #[(gw,0),(gm,0),(gs,0)] w fun e w'=>e=.returned (.tuple #[])/\iZ w tag t gw gm gs (stp t m s θ) w':=by
 rw[show stp t m s θ=⟨m,s,((θ.fill (m (2+2*θ.i))).next 4 8).all t,false⟩ by simp only[stp,d]]
 have hbd:0<=m (2+2*θ.i)/\m (2+2*θ.i)<18446744073709551616:=by
  obtain⟨_,E,_,hu⟩:=hR
  exact hu.bd _ I
 obtain⟨ga,hga⟩:∃ga,A=some ⟨ga,0,none⟩:=by
  obtain⟨_,h2⟩:=hW.asks.own
  rcases h2 with⟨h2,_⟩|⟨g',cap,cur,hv,_⟩
  .simp only[Value.slice.injEq]at h2;omega
  simp only[Value.slice.injEq]at hv;exact⟨g',hv.1⟩
 subst hga
 have H0:=aH (WS.start hW hR hS)
 have HT:=aH ht
 have hlt:=H0.lt
 have c1:w.cell? (gw,1)=(7:Int):=H0.c1 d
 have c7:w.cell? (gw,7)=θ.i:=H0.c 7 I
 have Wi:w.cell? (gw,41)=some (.slice (some ⟨ga,0,none⟩) θ.na ca):=H0.c 41 I
 have hng:¬cI ga gw:=fun e=>H0.wk.neA ⟨_,rfl,e.symm⟩
 have HV:=aH (H0.rload (i:=2+2*θ.i) I (2+2*(θ.i:Int)) I)
 have HFC:Hid (∀W,cU W 0 181 5 (some ⟨ga,0,none⟩) θ.na ca (eH θ.asks θ.na)->∀j,j<3->(W.cell? (ga,(θ.na-1)*5+2+j)).isSome=true/\W.frozen? ⟨ga,(θ.na-1)*5+2+j,none⟩=false):=aH (fun W ho j hj=>by
  obtain⟨h1,h2⟩:=ho.own
  rcases h2 with⟨h2,_⟩|⟨g',cap,cur,hv,_,hg,hc,_,hs,_⟩
  .simp at h2
  simp only[Value.slice.injEq,Option.some.injEq,Addr.mk.injEq]at hv
  obtain⟨⟨rfl,_,_⟩,_,rfl⟩:=hv
  have hb:aY W ga 181 cur:=hg
  refine⟨?_,hb.frozen _⟩
  rw[hb.cell,Array.getElem?_eq_getElem (by rw[hs];omega)]
  rfl)
 have HD:=aH d
 have Ip:=aH hx
 have HG:=aH hg
 have Wc:=aH h0
 have hna:=hx.2.2.2.1
 have Qv:Hid (((θ.fill (m (2+2*θ.i))).next 4 8).does=(if(θ.fill (m (2+2*θ.i))).i+1=4 then 8 else 6)/\((θ.fill (m (2+2*θ.i))).next 4 8).r=(θ.fill (m (2+2*θ.i))).r/\((θ.fill (m (2+2*θ.i))).next 4 8).asks=(θ.fill (m (2+2*θ.i))).asks/\((θ.fill (m (2+2*θ.i))).next 4 8).na=(θ.fill (m (2+2*θ.i))).na):=aH (by unfold cQ.next;split<;>first|exact⟨rfl,rfl,rfl,rfl⟩|exact⟨rfl,rfl,rfl,rfl⟩)
 obtain⟨er,ho⟩:=Br (m (2+2*θ.i)) hbd.1 hbd.2
 have HO:=aH ho
 have hnp:=Hr
 obtain⟨n,hn⟩:∃n,θ.na=n+1:=⟨θ.na-1,I⟩
 have Lj:θ.na-1=n:=I
 rw[Lj]at HFC
 rw[hn]at Wi
 have hnz:(n:Int)<=3:=I
 have knn:(n:Int)<(n:Int)+1:=I
 have k1:IntKind.i64.wrap (n:Int)=n:=dE I I
 generalize m (2+2*θ.i)=x at*
 clear hW hR hS hx hg h0 d Hr ho
 go_enter func63,ntmps63
 go_wp2_with fail
 with_reducible refine HV.out.mono ?_
 rintro e w1 ⟨rfl,rfl⟩
 clear hn hna
 go_wp2
 refine bK 18 (cI ga) [17] J J ?_
 iterate 11
  refine aR ?_;constructor
  .intro w9 Gq Gw
   refine aS ?_
   have q41:=(Gq.cell (p:=⟨gw,41,none⟩) hlt hng).trans Wi
   refine aW ?_
   go_simp
   first
   |exact aE
 first|(with_reducible refine aC (fun K hK=>?_))|(refine aC (fun K hK=>?_))
 refine .inl ?_
 apply Exists.intro
 refine⟨cX,?_,hK _ _ _ _ ?_⟩
 .simp only[bJ,bM]
  refine⟨?_,fun w9 Gq Gw=>?_⟩
  .first|rfl|(go_simp;done)
  go_simp
  first
  |exact aE
  |(go_at_call 96;exact bS (HO.out _))
 iterate 5
  clear hK K
  refine aN ?_
  first|(with_reducible refine aC (fun K hK=>?_))|(refine aC (fun K hK=>?_))
  refine .inl ?_
  apply Exists.intro
  refine⟨cX,?_,hK _ _ _ _ ?_⟩
  .simp only[bJ,bM]
   refine⟨?_,fun w9 Gq Gw=>?_⟩
   .first|rfl|(go_simp;done)
   go_simp
   first
   |exact aE
 clear hK K
 refine aN ?_
 refine bA undef (fun _ w'=>WS w w' tag t {θ with asks:=(θ.fill x).asks} gw (some ⟨ga,0,none⟩) ca D cd m gm s gs) ?_ ?_
 .intro w9 Gq Gw
  refine aS ?_
  have HX:=aH (H0.below (cA Gw.1 J))
  have HY:=aH (HX.fill hnp x)
  have Lq:Hid (w9.there ga (n*5+2) 3):=aH (fun j hj=>HFC.out w9 HX.wk.asks j hj)
  refine aW ?_
  refine dA 39 _ _ rfl ga (n*5+2) #[(IV x),(KE x),(ID x)] rfl rfl Lq J J ?_
  rw[Lj]at HY
  exact⟨⟨rfl,HY.out⟩,(cE (S:=cI ga) (.inl rfl) _ _).mono fun b hb=>⟨aJ,hb⟩⟩
 refine aZ ?_
 rintro w9 Gq hmet
 refine aQ ?_
 refine aS ?_
 obtain⟨wx,k0,k1,hf⟩:=hmet.1 rfl
 have H1:=aH (hf.below (cA k1 J))
 clear hmet hf k0 k1 wx
 obtain⟨w1,rfl⟩:=aO w9
 have Qd:w1.cell? (gw,1)=(7:Int):=H1.c1 HD
 have Nq:=H1.f 1
 have hlb:=H1.lt
 have H2:Hid (WS w (w1.setCell (gw,1) (6:Int)) tag t (θ.fill x) gw (some ⟨ga,0,none⟩) ca D cd m gm s gs):=aH (H1.does 6)
 have H2n:=aH H2.k
 have HN:=aH (H2.next 4 8 (by show θ.i<100;omega) 4 8 rfl rfl)
 refine aW ?_
 go_wp2_with fail
 with_reducible refine HN.out.mono ?_
 rintro e w2 ⟨rfl,h2⟩
 have To:=aH (QI h2 (by rw[Qv.out.1];split<;>omega) HT HG Wc (fun _=>by rw[Qv.out.2.1,Qv.out.2.2.1,Qv.out.2.2.2];exact Ip))
 clear h2 HN
 go_wp2_with fail
 with_reducible refine To.out.mono ?_
 rintro e w3 ⟨rfl,h3⟩
 have HF:=aH h3
 clear h3 To
 go_wp2
 refine bodyPost_end (v:=.tuple #[]) (by simp [results,results63,go_sem]) rfl ⟨rfl,HF.out⟩
theorem RN(hW:gJ w tag t θ gw A ca D cd)(hR:fE w tag m gm)(hS:iQ w tag s gs)(ht:t<4)(d:θ.does=17):
 Calls prog 66 #[(gw,0),(gm,0),(gs,0)] w fun e w'=>e=.returned false/\iZ w tag t gw gm gs (stp t m s θ) w':=by
 rw[show stp t m s θ=⟨m,s,{θ with ver:=(m 1).toNat,does:=18},false⟩ by simp only[stp,d]]
 have H0:=aH (WS.start hW hR hS)
 obtain⟨V,hV⟩:∃V:Nat,m 1=(V:Int):=by
  obtain⟨_,E,_,hu⟩:=hR
  exact Int.eq_ofNat_of_zero_le (hu.bd 1 I).1
 have HV:=aH (H0.rload (i:=1) I 1 rfl)
 rw[hV]at HV
 rw[hV,show((V:Int)).toNat=V from rfl]
 have c1:w.cell? (gw,1)=(17:Int):=H0.c1 d
 have c8:w.cell? (gw,8)=[θ.ver]:=H0.c 8 I
 have f1:=H0.f 1
 have f8:=H0.f 8
 have hlt:=H0.lt
 have H1:=aH (H0.own (θ':={θ with ver:=V}) (LP _ _ _ _ V) rfl rfl rfl)
 have HF:=aH ((H1.does 18).out false)
 clear hW hR hS H1 d hV
 go_enter func66,ntmps66
 go_wp2_with fail
 with_reducible refine HV.out.mono ?_
 rintro e w1 ⟨rfl,rfl⟩
 go_wp2
 go_ret
 exact⟨rfl,HF.out⟩
theorem RE(hW:gJ w tag t θ gw A ca D cd)(hR:fE w tag m gm)(hS:iQ w tag s gs)(ht:t<4)(d:θ.does=18):
 Calls prog 66 #[(gw,0),(gm,0),(gs,0)] w fun e w'=>e=.returned false/\iZ w tag t gw gm gs (stp t m s θ) w':=by
 rw[show stp t m s θ=⟨m,s,{θ with seen:=fun j=>if j=0 then s.now (dU θ.ver+26)else θ.seen j,does:=19},false⟩ by simp only[stp,d]]
 have H0:=aH (WS.start hW hR hS)
 have c1:w.cell? (gw,1)=(18:Int):=H0.c1 d
 have hlt:=H0.lt
 have HD:=aH d
 obtain⟨B,hB⟩:=aO (dU θ.ver:Nat)
 have Jg:B<=40:=by rw[hB];unfold dU;omega
 have HB:=aH hB
 rw[<-hB]
 obtain⟨x,hx⟩:=aO (s.now (B+26))
 have Yp:=aH hx
 rw[<-hx]
 have kb:IntKind.i64.wrap ((B:Int)+26)=(B:Int)+26:=dE I I
 have kt:IntKind.i64.wrap ((B:Int)+26+(t:Int))=(B:Int)+26+t:=dE I I
 clear hB hx hW hR hS d
 go_enter func66,ntmps66
 go_wp2
 refine bK 16 (cI gw) [15] J J ?_
 iterate 11
  refine aR ?_;constructor
  .intro w9 Gq Gw
   refine aS ?_
   have HX:=aH (H0.below (cA Gw.1 J))
   have q8:w9.cell? (gw,8)=[θ.ver]:=HX.c 8 I
   have q0:w9.cell? (gw,0)=t:=HX.c 0 I
   refine aW ?_
   go_simp
   first
   |exact aE
   |(go_at_call 92;exact bS (qU θ.ver _ rfl B HB _))
   |(go_at_call 26;exact bS (HX.sloadB (a:=B+26) I ((B:Int)+26) I Yp))
 iterate 4
  refine aR ?_;constructor
  .intro w9 Gq Gw
   go_simp
   first
   |exact aE
 refine bA undef (fun _ w'=>WS w w' tag t {θ with seen:=fun j=>if j=0 then x else θ.seen j} gw A ca D cd m gm s gs) ?_ ?_
 .intro w9 Gq Gw
  refine aS ?_
  have HX:=aH (H0.below (cA Gw.1 J))
  have q9:w9.cell? (gw,43)=[θ.seen 0]:=by rw[HX.wk.blk.cell];exact mV _ _ _ _ (j:=0) I
  have f9:=HX.f 43
  have HY:=aH (HX.own (θ':={θ with seen:=fun j=>if j=0 then x else θ.seen j}) (pM _ _ _ _ (n:=0) I x) rfl rfl rfl)
  refine aW ?_
  go_simp
  exact⟨⟨rfl,HY.out⟩,(bP _ gw _ _).mono fun b hb=>by first|exact hb|exact⟨aJ,hb⟩⟩
 refine aZ ?_
 rintro w9 Gq hmet
 refine aQ ?_
 refine aS ?_
 obtain⟨wx,k0,k1,hf⟩:=hmet.1 rfl
 have H1:=aH (hf.below (cA k1 J))
 clear hmet hf k0 k1 wx
 obtain⟨w1,rfl⟩:=aO w9
 have Qd:w1.cell? (gw,1)=(18:Int):=H1.c1 HD
 have Nq:=H1.f 1
 have hlb:=H1.lt
 have HF:=aH ((H1.does 19).out false)
 refine aW ?_
 go_wp2
 go_ret
 exact⟨rfl,HF.out⟩
theorem SM(hW:gJ w tag t θ gw A ca D cd)(hR:fE w tag m gm)(hS:iQ w tag s gs)(ht:t<4)(d:θ.does=19):
 Calls prog 66 #[(gw,0),(gm,0),(gs,0)] w fun e w'=>e=.returned false/\iZ w tag t gw gm gs (stp t m s θ) w':=by
 rw[show stp t m s θ=⟨m,s,{θ with seen:=fun j=>if j=1 then s.now (dU θ.ver+18+t)else θ.seen j,does:=20},false⟩ by simp only[stp,d]]
 have H0:=aH (WS.start hW hR hS)
 have c1:w.cell? (gw,1)=(19:Int):=H0.c1 d
 have hlt:=H0.lt
 have HD:=aH d
 obtain⟨B,hB⟩:=aO (dU θ.ver:Nat)
 have Jg:B<=40:=by rw[hB];unfold dU;omega
 have HB:=aH hB
 rw[<-hB]
 obtain⟨x,hx⟩:=aO (s.now (B+18+t))
 have Yp:=aH hx
 rw[<-hx]
 have kb:IntKind.i64.wrap ((B:Int)+18)=(B:Int)+18:=dE I I
 have kt:IntKind.i64.wrap ((B:Int)+18+(t:Int))=(B:Int)+18+t:=dE I I
 clear hB hx hW hR hS d
 go_enter func66,ntmps66
 go_wp2
 refine bK 21 (cI gw) [20] J J ?_
 iterate 16
  refine aR ?_;constructor
  .intro w9 Gq Gw
   refine aS ?_
   have HX:=aH (H0.below (cA Gw.1 J))
   have q8:w9.cell? (gw,8)=[θ.ver]:=HX.c 8 I
   have q0:w9.cell? (gw,0)=t:=HX.c 0 I
   refine aW ?_
   go_simp
   first
   |exact aE
   |(go_at_call 92;exact bS (qU θ.ver _ rfl B HB _))
   |(go_at_call 26;exact bS (HX.sloadB (a:=B+18+t) I ((B:Int)+18+t) I Yp))
 iterate 4
  refine aR ?_;constructor
  .intro w9 Gq Gw
   go_simp
   first
   |exact aE
 refine bA undef (fun _ w'=>WS w w' tag t {θ with seen:=fun j=>if j=1 then x else θ.seen j} gw A ca D cd m gm s gs) ?_ ?_
 .intro w9 Gq Gw
  refine aS ?_
  have HX:=aH (H0.below (cA Gw.1 J))
  have q9:w9.cell? (gw,44)=[θ.seen 1]:=by rw[HX.wk.blk.cell];exact mV _ _ _ _ (j:=1) I
  have f9:=HX.f 44
  have HY:=aH (HX.own (θ':={θ with seen:=fun j=>if j=1 then x else θ.seen j}) (pM _ _ _ _ (n:=1) I x) rfl rfl rfl)
  refine aW ?_
  go_simp
  exact⟨⟨rfl,HY.out⟩,(bP _ gw _ _).mono fun b hb=>by first|exact hb|exact⟨aJ,hb⟩⟩
 refine aZ ?_
 rintro w9 Gq hmet
 refine aQ ?_
 refine aS ?_
 obtain⟨wx,k0,k1,hf⟩:=hmet.1 rfl
 have H1:=aH (hf.below (cA k1 J))
 clear hmet hf k0 k1 wx
 obtain⟨w1,rfl⟩:=aO w9
 have Qd:w1.cell? (gw,1)=(19:Int):=H1.c1 HD
 have Nq:=H1.f 1
 have hlb:=H1.lt
 have HF:=aH ((H1.does 20).out false)
 refine aW ?_
 go_wp2
 go_ret
 exact⟨rfl,HF.out⟩
theorem QY(hW:gJ w tag t θ gw A ca D cd)(hR:fE w tag m gm)(hS:iQ w tag s gs)(ht:t<4)(d:θ.does=20):
 Calls prog 66 #[(gw,0),(gm,0),(gs,0)] w fun e w'=>e=.returned false/\iZ w tag t gw gm gs (stp t m s θ) w':=by
 rw[show stp t m s θ=⟨m,s,{θ with seen:=fun j=>if j=2 then s.now (dU θ.ver+22+t)else θ.seen j,does:=21},false⟩ by simp only[stp,d]]
 have H0:=aH (WS.start hW hR hS)
 have c1:w.cell? (gw,1)=(20:Int):=H0.c1 d
 have hlt:=H0.lt
 have HD:=aH d
 obtain⟨B,hB⟩:=aO (dU θ.ver:Nat)
 have Jg:B<=40:=by rw[hB];unfold dU;omega
 have HB:=aH hB
 rw[<-hB]
 obtain⟨x,hx⟩:=aO (s.now (B+22+t))
 have Yp:=aH hx
 rw[<-hx]
 have kb:IntKind.i64.wrap ((B:Int)+22)=(B:Int)+22:=dE I I
 have kt:IntKind.i64.wrap ((B:Int)+22+(t:Int))=(B:Int)+22+t:=dE I I
 clear hB hx hW hR hS d
 go_enter func66,ntmps66
 go_wp2
 refine bK 21 (cI gw) [20] J J ?_
 iterate 16
  refine aR ?_;constructor
  .intro w9 Gq Gw
   refine aS ?_
   have HX:=aH (H0.below (cA Gw.1 J))
   have q8:w9.cell? (gw,8)=[θ.ver]:=HX.c 8 I
   have q0:w9.cell? (gw,0)=t:=HX.c 0 I
   refine aW ?_
   go_simp
   first
   |exact aE
   |(go_at_call 92;exact bS (qU θ.ver _ rfl B HB _))
   |(go_at_call 26;exact bS (HX.sloadB (a:=B+22+t) I ((B:Int)+22+t) I Yp))
 iterate 4
  refine aR ?_;constructor
  .intro w9 Gq Gw
   go_simp
   first
   |exact aE
 refine bA undef (fun _ w'=>WS w w' tag t {θ with seen:=fun j=>if j=2 then x else θ.seen j} gw A ca D cd m gm s gs) ?_ ?_
 .intro w9 Gq Gw
  refine aS ?_
  have HX:=aH (H0.below (cA Gw.1 J))
  have q9:w9.cell? (gw,45)=[θ.seen 2]:=by rw[HX.wk.blk.cell];exact mV _ _ _ _ (j:=2) I
  have f9:=HX.f 45
  have HY:=aH (HX.own (θ':={θ with seen:=fun j=>if j=2 then x else θ.seen j}) (pM _ _ _ _ (n:=2) I x) rfl rfl rfl)
  refine aW ?_
  go_simp
  exact⟨⟨rfl,HY.out⟩,(bP _ gw _ _).mono fun b hb=>by first|exact hb|exact⟨aJ,hb⟩⟩
 refine aZ ?_
 rintro w9 Gq hmet
 refine aQ ?_
 refine aS ?_
 obtain⟨wx,k0,k1,hf⟩:=hmet.1 rfl
 have H1:=aH (hf.below (cA k1 J))
 clear hmet hf k0 k1 wx
 obtain⟨w1,rfl⟩:=aO w9
 have Qd:w1.cell? (gw,1)=(20:Int):=H1.c1 HD
 have Nq:=H1.f 1
 have hlb:=H1.lt
 have HF:=aH ((H1.does 21).out false)
 refine aW ?_
 go_wp2
 go_ret
 exact⟨rfl,HF.out⟩
theorem RF{x:Int}{t:Nat}(h0:0<=x)(h1:x<18446744073709551616)(ht:t<4):∃(y b:Nat),x=(y:Int)/\b<=1/\bits BinOp.and IntKind.u64 ((y:Int)/2^t) 1=(b:Int)/\(if gO x.toNat t=true then(1:Int)else 0)=(b:Int):=by
 obtain⟨y,rfl⟩:=Int.eq_ofNat_of_zero_le h0
 refine⟨y,y/2^t%2,rfl,I,KS y t I,?_⟩
 have e:gO (y:Int).toNat t=decide (y/2^t%2=1):=by
  unfold gO
  rw[Bool.eq_iff_iff,decide_eq_true_iff,decide_eq_true_iff]
  simp
  omega
 rw[e]
 by_cases h:y/2^t%2=1
 .rw[iP (decide_eq_true h),h];rfl
 rw[iN (by simpa using h),show y/2^t%2=0 by omega];rfl
theorem MQ{sd:Bool}(hW:gJ w tag t θ gw A ca D cd)(hR:fE w tag m gm)(hS:iQ w tag s gs)(ht:t<4)(d:θ.does=21)(hsb:∀j,j<3->0<=θ.seen j/\θ.seen j<18446744073709551616)(hsd:θ.said=sd)(hz:m 1≠θ.ver):
 Calls prog 66 #[(gw,0),(gm,0),(gs,0)] w fun e w'=>e=.returned false/\iZ w tag t gw gm gs (stp t m s θ) w':=by
 obtain⟨n,hsn⟩:∃n,(sd=true/\n=3)\/(sd=false/\n=1):=by
  cases sd
  .exact⟨1,.inr ⟨rfl,rfl⟩⟩
  exact⟨3,.inl ⟨rfl,rfl⟩⟩
 rw[show stp t m s θ=⟨m,s,θ.go n,false⟩ by simp only[stp,d];rw[iN (fun h=>hz h.1),hsd];rcases hsn with⟨rfl,rfl⟩|⟨rfl,rfl⟩<;>rfl]
 have H0:=aH (WS.start hW hR hS)
 have HV:=aH (H0.out.rload (i:=1) I 1 rfl)
 have c1:w.cell? (gw,1)=(21:Int):=H0.out.c1 d
 have c8:w.cell? (gw,8)=[θ.ver]:=H0.out.c 8 I
 have c0:w.cell? (gw,0)=t:=H0.out.c 0 I
 have c5:w.cell? (gw,5)=θ.tg:=H0.out.c 5 I
 have hlt:=H0.out.lt
 have HD:=aH d
 have HSD:=aH hsd
 have hzz:¬m 1=(θ.ver:Int):=hz
 generalize m 1=x at*
 clear hW hR hS d hsd hsb hz
 have HSN:=aH hsn
 clear hsn
 go_enter func66,ntmps66
 go_wp2_with fail
 with_reducible refine HV.out.mono ?_
 rintro e w1 ⟨rfl,rfl⟩
 go_wp2
 refine aA 25 ?_
 iterate 7
  refine aR ?_;constructor
  .intro w9 Gq Gw
   refine aS ?_
   obtain⟨Gy,Gz⟩:=Gq.all
   refine aW ?_
   go_simp
   first
   |exact aE
 iterate 17
  refine aU ?_
 refine aR ?_;constructor
 .intro w9 Gq Gw
  go_simp
  first
  |exact aE
 refine aZ ?_
 rintro w9 Gq hmet
 refine aQ ?_
 refine aS ?_
 have H1:=aH (H0.out.below Gq.same)
 have hlb:=H1.out.lt
 clear hmet
 obtain⟨w1,rfl⟩:=aO w9
 have Qd:w1.cell? (gw,1)=(21:Int):=H1.out.c1 HD.out
 have Nq:=H1.out.f 1
 have c6b:w1.cell? (gw,6)=sd:=by rw[H1.out.c 6 I];show some (Value.bool θ.said)=_;rw[HSD.out]
 have H2:=aH (H1.out.does 3)
 have Of:=aH (H2.out.out false)
 have H3:=aH (H2.out.does 1)
 have HF:=aH (H3.out.out false)
 have hsn:=HSN.out
 rcases hsn with⟨rfl,rfl⟩|⟨rfl,rfl⟩
 all_goals
  refine aW ?_
  go_wp2
  go_ret
  first
  |exact⟨rfl,HF.out⟩
  |exact⟨rfl,Of.out⟩
theorem OA{sd:Bool}(hW:gJ w tag t θ gw A ca D cd)(hR:fE w tag m gm)(hS:iQ w tag s gs)(ht:t<4)(d:θ.does=21)(hsb:∀j,j<3->0<=θ.seen j/\θ.seen j<18446744073709551616)(hsd:θ.said=sd)(hv:m 1=θ.ver)(hz:¬(if gO (θ.seen 0).toNat t=true then(1:Int)else 0)=θ.tg):
 Calls prog 66 #[(gw,0),(gm,0),(gs,0)] w fun e w'=>e=.returned false/\iZ w tag t gw gm gs (stp t m s θ) w':=by
 obtain⟨n,hsn⟩:∃n,(sd=true/\n=3)\/(sd=false/\n=1):=by
  cases sd
  .exact⟨1,.inr ⟨rfl,rfl⟩⟩
  exact⟨3,.inl ⟨rfl,rfl⟩⟩
 rw[show stp t m s θ=⟨m,s,θ.go n,false⟩ by simp only[stp,d];rw[iN (fun h=>hz h.2),hsd];rcases hsn with⟨rfl,rfl⟩|⟨rfl,rfl⟩<;>rfl]
 have H0:=aH (WS.start hW hR hS)
 have HV:=aH (H0.out.rload (i:=1) I 1 rfl)
 have c1:w.cell? (gw,1)=(21:Int):=H0.out.c1 d
 have c8:w.cell? (gw,8)=[θ.ver]:=H0.out.c 8 I
 have c0:w.cell? (gw,0)=t:=H0.out.c 0 I
 have c5:w.cell? (gw,5)=θ.tg:=H0.out.c 5 I
 have hlt:=H0.out.lt
 have HD:=aH d
 have c43:w.cell? (gw,43)=[θ.seen 0]:=by rw[H0.out.wk.blk.cell];exact mV _ _ _ _ (j:=0) I
 obtain⟨y,b,hy,Gs,hb,he⟩:=RF (hsb 0 I).1 (hsb 0 I).2 ht
 rw[he]at hz
 rw[hy]at c43
 have kw:IntKind.i64.wrap (b:Int)=(b:Int):=dE I I
 have HSD:=aH hsd
 rw[hv]at HV
 clear hW hR hS d hsd hsb he hy hv
 have HSN:=aH hsn
 clear hsn
 go_enter func66,ntmps66
 go_wp2_with fail
 with_reducible refine HV.out.mono ?_
 rintro e w1 ⟨rfl,rfl⟩
 go_wp2
 refine aA 25 ?_
 iterate 25
  refine aR ?_;constructor
  .intro w9 Gq Gw
   refine aS ?_
   obtain⟨Gy,Gz⟩:=Gq.all
   refine aW ?_
   go_simp
   first
   |exact aE
 refine aZ ?_
 rintro w9 Gq hmet
 refine aQ ?_
 refine aS ?_
 have H1:=aH (H0.out.below Gq.same)
 have hlb:=H1.out.lt
 clear hmet
 obtain⟨w1,rfl⟩:=aO w9
 have Qd:w1.cell? (gw,1)=(21:Int):=H1.out.c1 HD.out
 have Nq:=H1.out.f 1
 have c6b:w1.cell? (gw,6)=sd:=by rw[H1.out.c 6 I];show some (Value.bool θ.said)=_;rw[HSD.out]
 have H2:=aH (H1.out.does 3)
 have Of:=aH (H2.out.out false)
 have H3:=aH (H2.out.does 1)
 have HF:=aH (H3.out.out false)
 have hsn:=HSN.out
 rcases hsn with⟨rfl,rfl⟩|⟨rfl,rfl⟩
 all_goals
  refine aW ?_
  go_wp2
  go_ret
  first
  |exact⟨rfl,HF.out⟩
  |exact⟨rfl,Of.out⟩
theorem OS(hW:gJ w tag t θ gw A ca D cd)(hR:fE w tag m gm)(hS:iQ w tag s gs)(ht:t<4)(d:θ.does=21)(hsb:∀j,j<3->0<=θ.seen j/\θ.seen j<18446744073709551616)(hv:m 1=θ.ver)(hz:(if gO (θ.seen 0).toNat t=true then(1:Int)else 0)=θ.tg):
 Calls prog 66 #[(gw,0),(gm,0),(gs,0)] w fun e w'=>e=.returned true/\iZ w tag t gw gm gs (stp t m s θ) w':=by
 rw[show stp t m s θ=⟨m,s,{θ with o1:=rZ (θ.seen 1),o2:=tU (θ.seen 1),wn:=PS (θ.seen 2),does:=0},true⟩ by simp only[stp,d];rw[iP ⟨hv,hz⟩]]
 have H0:=aH (WS.start hW hR hS)
 have HV:=aH (H0.rload (i:=1) I 1 rfl)
 have c1:w.cell? (gw,1)=(21:Int):=H0.c1 d
 have c8:w.cell? (gw,8)=[θ.ver]:=H0.c 8 I
 have c0:w.cell? (gw,0)=t:=H0.c 0 I
 have c5:w.cell? (gw,5)=θ.tg:=H0.c 5 I
 have hlt:=H0.lt
 have HD:=aH d
 have c43:w.cell? (gw,43)=[θ.seen 0]:=by rw[H0.wk.blk.cell];exact mV _ _ _ _ (j:=0) I
 obtain⟨y,b,hy,Gs,hb,he⟩:=RF (hsb 0 I).1 (hsb 0 I).2 ht
 rw[he]at hz
 rw[hy]at c43
 have kw:IntKind.i64.wrap (b:Int)=(b:Int):=dE I I
 rw[hv]at HV
 rw[<-hz]at c5
 obtain⟨er,hto⟩:=Ax _ (hsb 1 I).1 (hsb 1 I).2
 have HTO:=aH hto
 have HAI:Hid (PS (θ.seen 2)=wrap64 (θ.seen 2)):=aH (by have:=hsb 2 I;unfold PS wrap64;split<;>omega)
 clear hW hR hS d hsb he hy hv hto hz
 go_enter func66,ntmps66
 go_wp2_with fail
 with_reducible refine HV.out.mono ?_
 rintro e w1 ⟨rfl,rfl⟩
 go_wp2
 refine aA 25 ?_
 iterate 25
  refine aR ?_;constructor
  .intro w9 Gq Gw
   refine aS ?_
   obtain⟨Gy,Gz⟩:=Gq.all
   refine aW ?_
   go_simp
   first
   |exact aE
 refine aZ ?_
 rintro w9 Gq hmet
 refine aQ ?_
 refine aS ?_
 have H1:=aH (H0.below Gq.same)
 clear hmet
 obtain⟨w1,rfl⟩:=aO w9
 have Uw:=H1.lt
 have c44:w1.cell? (gw,44)=[θ.seen 1]:=by rw[H1.wk.blk.cell];exact mV _ _ _ _ (j:=1) I
 refine aW ?_
 go_wp2_with fail
 with_reducible refine(HTO.out _).mono ?_
 rintro e w2 ⟨rfl,Gt⟩
 have H2:=aH (H1.below Gt)
 clear Gt
 have H3:Hid (WS w ((w2.setCell (gw,46) (rZ (θ.seen 1))).setCell (gw,47) (tU (θ.seen 1))) tag t {θ with o1:=rZ (θ.seen 1),o2:=tU (θ.seen 1)} gw A ca D cd m gm s gs):=aH (H2.owns (LE _ _ _ _ _ _) rfl rfl rfl)
 have Jn:=H2.lt
 have c46:w2.cell? (gw,46)=θ.o1:=H2.c 46 I
 have c47:w2.cell? (gw,47)=θ.o2:=H2.c 47 I
 have c45:w2.cell? (gw,45)=[θ.seen 2]:=by rw[H2.wk.blk.cell];exact mV _ _ _ _ (j:=2) I
 have c48:w2.cell? (gw,48)=θ.wn:=H2.c 48 I
 have f46:=H2.f 46
 have f47:=H2.f 47
 have f48:=H2.f 48
 have Qd:w2.cell? (gw,1)=(21:Int):=H2.c1 HD
 have Nq:=H2.f 1
 have H4:=aH (H3.own (θ':={θ with o1:=rZ (θ.seen 1),o2:=tU (θ.seen 1),wn:=PS (θ.seen 2)}) (RB _ _ _ _ _) rfl rfl rfl)
 have HF:=aH ((H4.does 0).out true)
 rw[HAI.out]at HF
 clear H4
 go_wp2
 go_ret
 exact⟨rfl,by rw[HAI.out];exact HF⟩
end
section
variable{w:World}{gw gm gs d:Nat}{P:World->Prop}
theorem vR(c1:w.cell? (gw,1)=d)(h1:1<=d)(h2:d<=3)(H:Calls prog 62 #[(gw,0),(gm,0)] w fun e w'=>e=.returned (.tuple #[])/\P w'):
 Calls prog 23 #[(gw,0),(gm,0),(gs,0)] w fun e w'=>e=.returned false/\P w':=by
 have q1:¬(d:Int)=0:=I
 have q2:(d:Int)<=3:=I
 have HH:=aH H
 clear H
 go_enter func23,ntmps23
 go_wp2_with fail
 with_reducible refine HH.out.mono ?_
 rintro e w1 ⟨rfl,hp⟩
 have HP:=aH hp
 clear hp
 go_wp2
 go_ret
 exact⟨rfl,HP.out⟩
theorem kI(c1:w.cell? (gw,1)=d)(h1:4<=d)(h2:d<=7)(H:Calls prog 63 #[(gw,0),(gm,0),(gs,0)] w fun e w'=>e=.returned (.tuple #[])/\P w'):
 Calls prog 23 #[(gw,0),(gm,0),(gs,0)] w fun e w'=>e=.returned false/\P w':=by
 have q1:¬(d:Int)=0:=I
 have q2:¬(d:Int)<=3:=I
 have q3:(d:Int)<=7:=I
 have HH:=aH H
 clear H
 go_enter func23,ntmps23
 go_wp2_with fail
 with_reducible refine HH.out.mono ?_
 rintro e w1 ⟨rfl,hp⟩
 have HP:=aH hp
 clear hp
 go_wp2
 go_ret
 exact⟨rfl,HP.out⟩
theorem oC(c1:w.cell? (gw,1)=d)(h1:8<=d)(h2:d<=13)(H:Calls prog 64 #[(gw,0),(gs,0)] w fun e w'=>e=.returned (.tuple #[])/\P w'):
 Calls prog 23 #[(gw,0),(gm,0),(gs,0)] w fun e w'=>e=.returned false/\P w':=by
 have q1:¬(d:Int)=0:=I
 have q2:¬(d:Int)<=3:=I
 have q3:¬(d:Int)<=7:=I
 have q4:(d:Int)<=13:=I
 have HH:=aH H
 clear H
 go_enter func23,ntmps23
 go_wp2_with fail
 with_reducible refine HH.out.mono ?_
 rintro e w1 ⟨rfl,hp⟩
 have HP:=aH hp
 clear hp
 go_wp2
 go_ret
 exact⟨rfl,HP.out⟩
theorem xK{b:Bool}(c1:w.cell? (gw,1)=d)(h1:14<=d)(h2:d<=16)(H:Calls prog 65 #[(gw,0),(gm,0)] w fun e w'=>e=.returned b/\P w'):
 Calls prog 23 #[(gw,0),(gm,0),(gs,0)] w fun e w'=>e=.returned b/\P w':=by
 have q1:¬(d:Int)=0:=I
 have q2:¬(d:Int)<=3:=I
 have q3:¬(d:Int)<=7:=I
 have q4:¬(d:Int)<=13:=I
 have q5:(d:Int)<=16:=I
 have HH:=aH H
 clear H
 go_enter func23,ntmps23
 go_wp2_with fail
 with_reducible refine HH.out.mono ?_
 rintro e w1 ⟨rfl,hp⟩
 have HP:=aH hp
 clear hp
 go_wp2
 go_ret
 exact⟨rfl,HP.out⟩
theorem mW{b:Bool}(c1:w.cell? (gw,1)=d)(h1:17<=d)(H:Calls prog 66 #[(gw,0),(gm,0),(gs,0)] w fun e w'=>e=.returned b/\P w'):
 Calls prog 23 #[(gw,0),(gm,0),(gs,0)] w fun e w'=>e=.returned b/\P w':=by
 have q1:¬(d:Int)=0:=I
 have q2:¬(d:Int)<=3:=I
 have q3:¬(d:Int)<=7:=I
 have q4:¬(d:Int)<=13:=I
 have q5:¬(d:Int)<=16:=I
 have HH:=aH H
 clear H
 go_enter func23,ntmps23
 go_wp2_with fail
 with_reducible refine HH.out.mono ?_
 rintro e w1 ⟨rfl,hp⟩
 have HP:=aH hp
 clear hp
 go_wp2
 go_ret
 exact⟨rfl,HP.out⟩
end
theorem wY{m:Nat->Int}{θ:cQ}(hi:θ.i<4)(hk:jL θ.asks (θ.na-1))(h0:θ.asks (θ.na-1) 0=θ.i)(hg:θ.asks (θ.na-1) 1=0\/θ.asks (θ.na-1) 1=1){x a k v:Int}(ho:gQ a k v)(hx:x=fN a k v):jL (θ.fill x).asks θ.na:=by
 obtain⟨x1,x2,x3⟩:=EZ ho
 intro j hj
 have f0:∀j,(θ.fill x).asks j 0=θ.asks j 0:=fun j=>iN I
 have f1:∀j,(θ.fill x).asks j 1=θ.asks j 1:=fun j=>iN I
 have f2:∀j,j+1≠θ.na->∀c,(θ.fill x).asks j c=θ.asks j c:=fun j h c=>iN (fun q=>h q.1)
 have g2:∀j,j+1=θ.na->(θ.fill x).asks j 2=IV x:=fun j h=>(iP ⟨h,I⟩).trans (iP rfl)
 have g3:∀j,j+1=θ.na->(θ.fill x).asks j 3=KE x:=fun j h=>(iP ⟨h,I⟩).trans ((iN aJ).trans (iP rfl))
 have g4:∀j,j+1=θ.na->(θ.fill x).asks j 4=ID x:=fun j h=>(iP ⟨h,I⟩).trans ((iN aJ).trans (iN aJ))
 rw[f0,f1]
 by_cases q:j+1=θ.na
 .rw[g2 j q,g3 j q,g4 j q]
  have ej:j=θ.na-1:=I
  rw[ej,h0,hx,x1,x2,x3]
  exact⟨I,I,hg,ho⟩
 rw[f2 j q,f2 j q,f2 j q]
 exact hk j I
section
variable{w:World}{tag:Nat->Nat}{t gw gm gs:Nat}{A D:Option Addr}{ca cd:Nat}{m:Nat->Int}{s:cN}{th:Nat->cQ}{V:Nat}
def qG(θ:cQ):Prop:=∀j,j<3->0<=θ.seen j/\θ.seen j<18446744073709551616
end
end
section
def sE(of:Nat->List (List Value))(θ:cQ):Nat->List (List Value):=if θ.does=11 then(fun v=>if v=θ.ver+1 then θ.deeds else of v)else of
def TW(w:World)(tag:Nat->Nat)(t:Nat)(last:Int)(e:mG)(gs mp:Nat)(pt:Nat->Nat)(st:Int)(E O:Value)(go n:Nat)(of:Nat->List (List Value))(θ:cQ)(L:ZV)(w':World):Prop:=
 ∃wm tagm n',n'<=n+1/\Kg (CM t) w tag wm tagm/\KO wm tagm go n' (sE of θ)/\gE wm tagm t last e gs mp pt st E O L w'
section
variable{w:World}{tag:Nat->Nat}{t:Nat}{θ:cQ}{last:Int}{e:mG}{gs mp:Nat}{m:Nat->Int}{pt:Nat->Nat}{s:cN}{st:Int}{E O:Value}{R:Option Addr}{cr:Nat}{D:Option Addr}{cd:Nat}{rows:List (List Value)}{cs:List Cl}{r:List Value}{c:Cl}{th:Nat->cQ}{V:Nat}{go n:Nat}{of:Nat->List (List Value)}
theorem gG(hof:KO w tag go n of)(hd:θ.does≠11){L:ZV}{k:Nat}(h:∃N caps,r=td k (fv N caps)/\Calls prog N caps w fun e' w'=>e'=.returned (.tuple #[])/\gE w tag t last e gs mp pt st E O L w'):
 ∃N caps,r=td k (fv N caps)/\Calls prog N caps w fun e' w'=>e'=.returned (.tuple #[])/\TW w tag t last e gs mp pt st E O go n of θ L w':=by
 obtain⟨N,caps,h1,h2⟩:=h
 refine⟨N,caps,h1,h2.mono ?_⟩
 rintro e' w' ⟨h3,h4⟩
 exact⟨h3,w,tag,n,I,Kg.refl _ _ _,by unfold sE;rw[iN hd];exact hof,h4⟩
theorem Fs(h:eX m s th V)(d0:(th t).does≠0)(H:RC w tag w tag t (th t) last e gs mp m pt s st E O R cr D cd rows cs false)(hcs:gF (th t)=c::cs)(hr:c.At w tag e r)(hn:iF w tag t (th t) e)(hO:O=.map (some go))(hof:KO w tag go n of)(hn4:n<=1000000000)
 (hV:4*V+4<=1099511627776) (hfl:s.fl<=1000000000) (hfe:s.fe<=1000000000) (hsb:qG (th t)):
 ∃N caps,r=td (th t).does (fv N caps)/\Calls prog N caps w fun e' w'=>e'=.returned (.tuple #[])/\TW w tag t last e gs mp pt st E O go n of (th t) (stp t m s (th t)) w':=by
 have ht:=H.t4
 obtain⟨hop,htg⟩:=h.op t ht d0
 have Ta:=h.does t ht
 have hH:bO (th t).does->fO m s V t (th t):=fun hin=>(h.holder ht hin).2.1
 have Vz:=(h.ram 1 I).1
 have hnow:∀i,i<72->0<=s.now i/\s.now i<18446744073709551616:=fun i hi=>h.ok.now i hi
 generalize hθ:th t=θ at*
 have hd:θ.does=1\/θ.does=2\/θ.does=3\/θ.does=4\/θ.does=5\/θ.does=6\/θ.does=7\/θ.does=8\/θ.does=9\/θ.does=10\/θ.does=11\/θ.does=12\/θ.does=13\/θ.does=14\/θ.does=15\/θ.does=16\/θ.does=17\/θ.does=18\/θ.does=19\/θ.does=20\/θ.does=21:=I
 have hs3:=hsb
 have He:(0<=θ.seen 0/\θ.seen 0<18446744073709551616)/\(0<=θ.seen 1/\θ.seen 1<18446744073709551616)/\(0<=θ.seen 2/\θ.seen 2<18446744073709551616):=⟨hsb 0 I,hsb 1 I,hsb 2 I⟩
 rcases hd with d|d|d|d|d|d|d|d|d|d|d|d|d|d|d|d|d|d|d|d|d
 all_goals(rw[d];unfold gF at hcs;simp only[d]at hcs)
 .cases hcs;exact gG (θ:=θ) hof I (SC H hn d hr hop)
 .cases hcs;exact gG (θ:=θ) hof I (RZ H hn d hr htg)
 .cases hcs
  by_cases hz:m 0=0
  .exact gG (θ:=θ) hof I (UN H hn d hr hz)
  exact gG (θ:=θ) hof I (UZ H hn d hr hz)
 .cases hcs;exact gG (θ:=θ) hof I (VN H hn d hr Vz)
 .have hh:=hH (by unfold bO;omega)
  unfold fO at hh
  simp only[d]at hh
  rw[uT hh.2.2.1]at hcs
  cases hcs
  have hx:=hnow (dU θ.ver+θ.i) (by unfold dU;omega)
  by_cases Qi:θ.i=31
  .exact gG (θ:=θ) hof I (RW H hn d hr Qi hh.2.1 hx)
  exact gG (θ:=θ) hof I (TK H hn d hr (by have:=hh.2.2.1;omega) hh.2.1 hx)
 .cases hcs
  have hh:=hH (by unfold bO;omega)
  unfold fO at hh
  simp only[d]at hh
  obtain⟨hv,hi,hna,hq,hk⟩:=hh
  obtain⟨r1,r2,r3,r4⟩:=tK h.ok h.rec_ hq
  have hc:vV θ:=⟨r1,hk,I,I,I,I⟩
  have ha:=(h.asks θ.i hi).1
  by_cases hz:m (3+2*θ.i)≠0/\m (3+2*θ.i)-1≠jA θ.r θ.i
  .exact gG (θ:=θ) hof I (UV H hn d hr hi ha hz)
  exact gG (θ:=θ) hof I (VC H hn d hr hi ha hz hc)
 .cases hcs
  have hh:=hH (by unfold bO;omega)
  unfold fO at hh
  simp only[d]at hh
  obtain⟨hv,hi,Lj,hna,hq,hk,Xa,Tu,hw⟩:=hh
  obtain⟨r1,r2,r3,r4⟩:=tK h.ok h.rec_ hq
  obtain⟨a,k,v,ho,hxx⟩:=(h.asks θ.i hi).2 hw
  have hc:vV (θ.fill (m (2+2*θ.i))):=⟨r1,wY (m:=m) hi hk Xa Tu ho hxx,by show θ.na<=4;omega,by show θ.r 28+θ.na<=_;omega,by show θ.r 27+1<=_;omega,by show θ.ver<=_;omega⟩
  exact gG (θ:=θ) hof I (TI H hn d hr hi I I Xa Tu (h.ram (2+2*θ.i) I) hc)
 .have hh:=hH (by unfold bO;omega)
  unfold fO at hh
  simp only[d]at hh
  rw[uR _ hh.2.2.1]at hcs
  cases hcs
  exact gG (θ:=θ) hof I (RY H hn d hr hh.2.2.1 (by have:=hh.2.1;omega))
 .have hh:=hH (by unfold bO;omega)
  unfold fO at hh
  simp only[d]at hh
  rw[uV _ hh.2.2.1]at hcs
  cases hcs
  exact gG (θ:=θ) hof I (YG H hn d hr hh.2.2.1 hfl)
 .cases hcs;exact gG (θ:=θ) hof I (YP H hn d hr hfe)
 .cases hcs
  have hh:=hH (by unfold bO;omega)
  unfold fO at hh
  simp only[d]at hh
  obtain⟨N,caps,h1,h2⟩:=UT H hn d hr hO hof hn4 (by have:=hh.2.1;omega)
  refine⟨N,caps,h1,h2.mono ?_⟩
  rintro e' w' ⟨h3,h4,h5,h6⟩
  exact⟨h3,w',tag,n+1,I,h4,by unfold sE;rw[iP d];exact h5,h6⟩
 .cases hcs;exact gG (θ:=θ) hof I (PX H hn d hr hfl)
 .cases hcs;exact gG (θ:=θ) hof I (VF H hn d hr hfe)
 .cases hcs;exact gG (θ:=θ) hof I (WG H hn d hr)
 .cases hcs;exact gG (θ:=θ) hof I (OG H hn d hr)
 .cases hcs;exact gG (θ:=θ) hof I (RV H hn d hr)
 .cases hcs;exact gG (θ:=θ) hof I (RH H hn d hr Vz)
 .cases hcs;exact gG (θ:=θ) hof I (TZ H hn d hr)
 .cases hcs;exact gG (θ:=θ) hof I (TY H hn d hr)
 .cases hcs;exact gG (θ:=θ) hof I (SQ H hn d hr)
 cases hcs
 by_cases hv:m 1=θ.ver
 .cases hb:gO (θ.seen 0).toNat t with
  |true=>
   rcases htg with hg|hg
   .exact gG (θ:=θ) hof I (yW H hn d hr He hv hb hg (.inl ⟨rfl,rfl⟩))
   .exact gG (θ:=θ) hof I (yS H hn d hr He hv hb hg (.inl ⟨rfl,rfl⟩))
  |false=>
   rcases htg with hg|hg
   .exact gG (θ:=θ) hof I (yS H hn d hr He hv hb hg (.inr ⟨rfl,rfl⟩))
   .exact gG (θ:=θ) hof I (yW H hn d hr He hv hb hg (.inr ⟨rfl,rfl⟩))
 exact gG (θ:=θ) hof I (OB H hn d hr He hv)
end
def VQ(w:World)(tag:Nat->Nat)(t:Nat)(θ:cQ)(last:Int)(p q:Nat)(fin:Bool):Prop:=
 ∃e R cr D cd rows,lT w tag t θ last q R cr D cd rows fin/\dD w tag e (gF θ) rows/\iF w tag t θ e/\e.p=p/\e.q=q
theorem VQ.kept{w w':World}{tag tag':Nat->Nat}{S:Nat->Prop}{t:Nat}{θ:cQ}{last:Int}{p q:Nat}{fin:Bool}(h:VQ w tag t θ last p q fin)(hk:aD S w w')(ht:bI w tag tag')(hS:ZP S tag t):VQ w' tag' t θ last p q fin:=by
 obtain⟨e,R,cr,D,cd,rows,h1,h2,h3,h4,h5⟩:=h
 exact⟨e,R,cr,D,cd,rows,h1.kept hk ht (fun b hb=>(hS b hb).2.2.1) (fun b hb=>(hS b hb).2.2.2.1) (fun b hb=>(hS b hb).2.1),h2.kept hk ht (fun b hb=>(hS b hb).1),h3.kept hk ht hS,h4,h5⟩
structure RS (X:Nat->Prop) (w:World) (tag:Nat->Nat) (m:Nat->Int) (s:cN) (th:Nat->cQ) (tgl:Nat->Int) (fins:Nat->Bool) (st:Nat) (hist:List (List Value)) (of:Nat->List (List Value)) (p gs mp go n:Nat) (pt:Nat->Nat) (H:Option Addr) (ch:Nat):Prop where
 sh:aY w p 68 (yJ gs m pt (st:Int) (.slice H hist.length ch) (.map (some go)))
 st_:aY w gs 74 (kD s mp)
 wm:gP s.want mp s.fl w
 om:KO w tag go n of
 hi:cU w 0 61 9 H hist.length ch hist
 tp:tag p=102
 ts:tag gs=100
 tm:tag mp=101
 tH:∀b,iI H b->tag b=103
 th_:∀t,t<4->X t->VQ w tag t (th t) (tgl t) p (pt t) (fins t)
def IR(_:Nat):Prop:=True
def TP(t u:Nat):Prop:=u≠t
section
variable{X:Nat->Prop}{w w':World}{tag tag':Nat->Nat}{m:Nat->Int}{s:cN}{th:Nat->cQ}{tgl:Nat->Int}{fins:Nat->Bool}{st:Nat}{hist:List (List Value)}{of of':Nat->List (List Value)}{p gs mp go n n':Nat}{pt:Nat->Nat}{H:Option Addr}{ch:Nat}{S:Nat->Prop}{t:Nat}{θ:cQ}
theorem RS.kept(h:RS X w tag m s th tgl fins st hist of p gs mp go n pt H ch)(hk:aD S w w')(ht:bI w tag tag')(hS:∀b,S b->tag b<100):RS X w' tag' m s th tgl fins st hist of p gs mp go n pt H ch:=
 ⟨(hk.block p h.sh.lt fun e=>by have:=hS p e;have:=h.tp;omega).trans h.sh,(hk.block gs h.st_.lt fun e=>by have:=hS gs e;have:=h.ts;omega).trans h.st_,h.wm.kept hk (fun e=>by have:=hS mp e;have:=h.tm;omega),h.om.kept hk ht (fun b e=>by have:=hS b e;omega),h.hi.keptT hk h.tH (fun b e=>by have:=hS b e;omega),
   (ht p h.sh.lt).trans h.tp,(ht gs h.st_.lt).trans h.ts,(ht mp h.wm.lt).trans h.tm,h.hi.tagT ht h.tH,fun t h4 hx=>(h.th_ t h4 hx).kept hk ht (fun b e=>by have:=hS b e;omega)⟩
theorem RS.below(h:RS X w tag m s th tgl fins st hist of p gs mp go n pt H ch)(hb:Below w w w')(ht:bI w tag tag'):RS X w' tag' m s th tgl fins st hist of p gs mp go n pt H ch:=h.kept (S:=bN) (aD.of_same hb) ht (fun _ x=>x.elim)
theorem RS.less(h:RS IR w tag m s th tgl fins st hist of p gs mp go n pt H ch)(Y:Nat->Prop):RS Y w tag m s th tgl fins st hist of p gs mp go n pt H ch:=⟨h.sh,h.st_,h.wm,h.om,h.hi,h.tp,h.ts,h.tm,h.tH,fun t h4 _=>h.th_ t h4 trivial⟩
theorem RS.own(h:RS (TP t) w tag m s th tgl fins st hist of p gs mp go n pt H ch)(h4:t<4)(hk:aD S w w')(ht:bI w tag tag')(hS:∀b,S b->tag b=110+t\/tag b=120+t\/rR t (tag b)):RS (TP t) w' tag' m s th tgl fins st hist of p gs mp go n pt H ch:=by
 have hn:∀b,S b->tag b≠100/\tag b≠101/\tag b≠102/\tag b≠103/\tag b≠104/\tag b≠105/\tag b≠106:=fun b hb=>by have:=hS b hb;unfold rR at this;omega
 refine⟨(hk.block p h.sh.lt fun e=>(hn _ e).2.2.1 h.tp).trans h.sh,(hk.block gs h.st_.lt fun e=>(hn _ e).1 h.ts).trans h.st_,h.wm.kept hk (fun e=>(hn _ e).2.1 h.tm),h.om.kept hk ht (fun b e=>⟨(hn b e).2.2.2.2.1,(hn b e).2.2.2.2.2.1⟩),h.hi.keptT hk h.tH (fun b e=>(hn b e).2.2.2.1),
  (ht p h.sh.lt).trans h.tp,(ht gs h.st_.lt).trans h.ts,(ht mp h.wm.lt).trans h.tm,h.hi.tagT ht h.tH,fun u hu hx=>(h.th_ u hu hx).kept hk ht (fun b e=>?_)⟩
 have h1:=hS b e
 have h2:=hn b e
 have h3:u≠t:=hx
 unfold rR at h1
 omega
theorem RS.put(h:RS (TP t) w tag m s th tgl fins st hist of p gs mp go n pt H ch){last:Int}{fin:Bool}(hθ:VQ w tag t θ last p (pt t) fin):RS IR w tag m s (jG th t θ) (fun u=>if u=t then last else tgl u) (fun u=>if u=t then fin else fins u) st hist of p gs mp go n pt H ch:=
 ⟨h.sh,h.st_,h.wm,h.om,h.hi,h.tp,h.ts,h.tm,h.tH,fun u hu _=>by
  by_cases e:u=t
  .subst e
   rw[cD,iP rfl,iP rfl];exact hθ
  rw[dK _ _ e,iN e,iN e];exact h.th_ u hu e⟩
theorem RS.rc(h:RS X w tag m s th tgl fins st hist of p gs mp go n pt H ch)(h4:t<4){e:mG}(hp:e.p=p){last:Int}{R:Option Addr}{cr:Nat}{D:Option Addr}{cd:Nat}{rows:List (List Value)}{cs:List Cl}{fin:Bool}(hth:lT w tag t θ last e.q R cr D cd rows fin)(hrs:dD w tag e cs rows):
 RC w tag w tag t θ last e gs mp m pt s (st:Int) (.slice H hist.length ch) (.map (some go)) R cr D cd rows cs fin:=
 ⟨Kg.refl _ _ _,by rw[hp];exact h.sh,h.st_,h.wm,by rw[hp];exact h.tp,h.ts,h.tm,hth,hrs,h4⟩
theorem RS.back(h:RS (TP t) w tag m s th tgl fins st hist of p gs mp go n pt H ch)(h4:t<4){e:mG}(hp:e.p=p)(hq:e.q=pt t){last:Int}{L:ZV}(ho:TW w tag t last e gs mp pt (st:Int) (.slice H hist.length ch) (.map (some go)) go n of θ L w'):
 ∃tag' n',n'<=n+1/\Kg (CM t) w tag w' tag'/\RS IR w' tag' L.m L.s (jG th t L.t) (fun u=>if u=t then last else tgl u) (fun u=>if u=t then L.fin else fins u) st hist (sE of θ) p gs mp go n' pt H ch:=by
 obtain⟨wm,tagm,n',hn,Hu,hof,tag',env,R,cr,D,cd,rows,hrc,hen,hep,heq⟩:=ho
 have Hp:=Hu.trans (hrc.k.mono fun k hk=>(Or.inl hk:CM t k))
 refine⟨tag',n',hn,Hp,?_⟩
 have Hr:∀b,CM t (tag b)->tag b≠103/\tag b≠105/\tag b≠106/\∀u,u<4->u≠t->tag b≠110+u/\tag b≠120+u/\tag b≠130+u/\tag b≠140+u/\tag b≠150+u/\tag b≠160+u/\tag b≠170+u/\tag b≠180+u/\tag b≠190+u:=fun b hb=>by
  unfold CM yL at hb
  refine⟨I,I,I,fun u hu hne=>by omega⟩
 have hX:RS (TP t) w' tag' L.m L.s th tgl fins st hist (sE of θ) p gs mp go n' pt H ch:=by
  refine⟨by have:=hrc.sh;rw[hep,hp]at this;exact this,hrc.st_,hrc.wm,hof.kept hrc.k.k hrc.k.t (fun b hb=>by unfold yL at hb;omega),h.hi.keptT Hp.k h.tH (fun b e=>(Hr b e).1),by have:=hrc.tp;rw[hep,hp]at this;exact this,hrc.ts,hrc.tm,h.hi.tagT Hp.t h.tH,fun u hu hx=>(h.th_ u hu hx).kept Hp.k Hp.t (fun b e=>?_)⟩
  obtain⟨a1,a2,a3,a4⟩:=Hr b e
  have a5:=a4 u hu hx
  exact⟨a3,a2,a5⟩
 have hth:=hrc.th
 rw[heq,hq]at hth
 exact hX.put ⟨env,R,cr,D,cd,rows,hth,hrc.rs,hen,hep.trans hp,heq.trans hq⟩
end
end
section
attribute [local go_sem↓] Go.wp_at_zero Go.wp_at_succ
section
variable{w w':World}{tag:Nat->Nat}{t:Nat}{θ:cQ}{gw:Nat}{A:Option Addr}{ca:Nat}{D:Option Addr}{cd:Nat}
theorem Ai:(prog.info? 46).map (·.size)=some 49:=J
theorem WT(t:Nat)(θ:cQ)(A D:Value):(prog.info? 46).map (·.size)=some (kE t θ A D).size:=by rw[Ai,sL]
theorem WI{c:Prop}[Decidable c]{a b:Value}(ha:a.oneCell'=true)(hb:b.oneCell'=true):(if c then a else b).oneCell'=true:=by split<;>assumption
theorem WQ(t:Nat)(θ:cQ)(A D:Option Addr)(n c n' c':Nat)(i:Nat):(zI t θ (.slice A n c) (.slice D n' c') i).oneCell'=true:=by
 unfold zI
 repeat refine WI rfl ?_
 rfl
theorem ZD(t:Nat)(θ:cQ)(A D:Option Addr)(n c n' c':Nat):(kE t θ (.slice A n c) (.slice D n' c')).all (·.oneCell')=true:=qH fun i _=>WQ t θ A D n c n' c' i
def vB(t:Nat)(a k v tg:Int):Array Value:=kE t (cQ.call a k v tg false) (.slice none 0 0) (.slice none 0 0)
theorem UX(t:Nat)(a k v tg:Int):vB t a k v tg= #[.int .i64 t,.int .i64 1,.int .i64 a,.int .i64 k,.int .i64 v,.int .i64 tg,.bool false,.int .i64 0,.int .u64 0,.int .u64 0,.int .u64 0,.int .u64 0,.int .u64 0,.int .u64 0,.int .u64 0,.int .u64 0,.int .u64 0,.int .u64 0,.int .u64 0,.int .u64 0,.int .u64 0,.int .u64 0,.int .u64 0,.int .u64 0,.int .u64 0,.int .u64 0,.int .u64 0,.int .u64 0,.int .u64 0,.int .u64 0,.int .u64 0,.int .u64 0,.int .u64 0,.int .u64 0,.int .u64 0,.int .u64 0,.int .u64 0,.int .u64 0,.int .u64 0,.int .u64 0,.int .u64 0,.slice none 0 0,.slice none 0 0,.int .u64 0,.int .u64 0,.int .u64 0,.int .i64 0,.int .i64 0,.int .i64 0]:=rfl
theorem Bc(hW:gJ w tag t θ gw A ca D cd)(a k v tg:Int)(again:Bool):
 Calls prog 21 #[(gw,0),.agg #[a,k,v],tg,again] w fun e w'=>e=.returned (.tuple #[])/\gJ w' tag t (cQ.call a k v tg again) gw none 0 none 0/\aD (cI gw) w w':=by
 have HW:=aH (hW.kept (S:=bN) (w':=w.alloc (.cells #[a,k,v] 39)) (aD.of_same ((Below.refl _ _).alloc (Nat.le_refl _) _)) (bI.refl _ _) (fun _ x=>x.elim) (fun _ x=>x.elim) (fun _ x=>x.elim))
 have c0:(w.alloc (.cells #[a,k,v] 39)).cell? (gw,0)=t:=mS HW.blk 0 I
 have HO:=aH (aY.new w 39 #[a,k,v])
 have o0:(w.alloc (.cells #[a,k,v] 39)).cell? w=a:=HO.cell 0
 have o1:(w.alloc (.cells #[a,k,v] 39)).cell? (w.heap.size,1)=k:=HO.cell 1
 have o2:(w.alloc (.cells #[a,k,v] 39)).cell? (w.heap.size,2)=v:=HO.cell 2
 have hlt:=HW.blk.lt
 have hltw:=hW.blk.lt
 have hlo:w<(w.alloc (.cells #[a,k,v] 39)).heap.size:=by simp
 have HKw:Hid (aD (cI gw) w (w.alloc (.cells #[a,k,v] 39))):=aH (aD.of_same ((Below.refl _ _).alloc (Nat.le_refl _) _))
 clear hW
 go_enter func21,ntmps21
 go_upto_region 1 with(fail)
 show Code.wp _ _ _ _ (w.alloc (.cells #[a,k,v] 39))
 generalize Vp:w.alloc (.cells #[a,k,v] 39)=w1 at*
 generalize w.heap.size=b0 at*
 clear Vp
 refine aA 8 ?_
 iterate 7
  refine aR ?_;constructor
  .intro w9 Gq Gw
   refine aS ?_
   obtain⟨Gy,Gz⟩:=Gq.all
   refine aW ?_
   go_simp
   first
   |exact aE
 refine bA (.agg (vB t a k v tg)) cX ?_ ?_
 .intro w9 Gq Gw
  refine aS ?_
  rw[UX]
  refine aW ?_
  go_simp
  exact aE
 refine aZ ?_
 rintro w9 Gq hmet
 refine aQ ?_
 refine aS ?_
 have Jk:=aH (HW.blk.below Gq.same hlt)
 have Qq:=aH (HKw.trans (aD.of_same Gq.same))
 have HS:Hid (gJ (w9.setRow gw (vB t a k v tg)) tag t (cQ.call a k v tg false) gw none 0 none 0):=aH ⟨Jk.setRow _,cU.nil _ _ _ _,cU.nil _ _ _ _,HW.tg,(by rintro b ⟨a,ha,_⟩;cases ha),(by rintro b ⟨a,ha,_⟩;cases ha)⟩
 have HK10:Hid (aD (cI gw) w (w9.setRow gw (vB t a k v tg))):=aH (Qq.trans (jD _ _ _))
 have Ph:Hid ((vB t a k v tg).all (·.oneCell')=true):=aH (ZD _ _ _ _ _ _ _ _)
 have HI:Hid ((prog.info? 46).map (·.size)=some (vB t a k v tg).size):=aH (WT _ _ _ _)
 have HE:Hid ((kE t θ (.slice A θ.na ca) (.slice D θ.deeds.length cd)).size=(vB t a k v tg).size):=aH (by rw[sL];exact(sL _ _ _ _).symm)
 clear hmet
 refine aW ?_
 generalize vB t a k v tg=C at*
 have hl3:=HS.blk.lt
 have c1:(w9.setRow gw C).cell? (gw,1)=(1:Int):=mS HS.blk 1 I
 have f1:=HS.blk.frozen 1
 cases again with
 |false=>
  go_wp2_with (with_reducible refine fK 46 gw C 46 (kE t θ (.slice A θ.na ca) (.slice D θ.deeds.length cd)) J J Jk.out HI.out HE.out Ph.out ?_)
  refine bodyPost_end (v:=.tuple #[]) (by simp [results,results21,go_sem]) rfl ⟨rfl,HS.out,HK10.out⟩
 |true=>
  have Oo:Hid (gJ ((w9.setRow gw C).setCell (gw,1) (17:Int)) tag t (cQ.call a k v tg true) gw none 0 none 0):=aH (by
   have hb:=HS.blk.set_ 1 ((17:Nat):Int)
   rw[wE]at hb
   exact⟨hb,cU.nil _ _ _ _,cU.nil _ _ _ _,HS.tg,HS.tA,HS.tD⟩)
  have HK11:=aH (HK10.setCell (p:=⟨gw,1,none⟩) (.inl rfl) (17:Int))
  go_wp2_with (with_reducible refine fK 46 gw C 46 (kE t θ (.slice A θ.na ca) (.slice D θ.deeds.length cd)) J J Jk.out HI.out HE.out Ph.out ?_)
  refine bodyPost_end (v:=.tuple #[]) (by simp [results,results21,go_sem]) rfl ⟨rfl,Oo.out,HK11.out⟩
end
theorem YC:(prog.info? 61).map (fun i=>(i.zero,i.size,i.bytes))=some (some (.agg (9:Int)),9,72):=J
theorem EH:∃i0,prog.info? 61=some i0/\i0.zero=some (.agg (9:Int))/\i0.size=9/\i0.bytes=72:=by
 have h:=YC
 cases hq:prog.info? 61 with
 |none=>simp [hq]at h
 |some i=>simp [hq]at h;exact⟨i,rfl,h.1,h.2.1,h.2.2⟩
theorem Fw(gw t:Nat)(θ:cQ)(A D:Value)(w:World)(h:aY w gw 46 (kE t θ A D)):Calls prog 25 #[(gw,0)] w fun e w'=>e=.returned (.tuple #[.agg #[θ.o1,θ.o2],θ.wn])/\Below w w w':=by
 have c46:w.cell? (gw,46)=θ.o1:=mS h 46 I
 have c47:w.cell? (gw,47)=θ.o2:=mS h 47 I
 have c48:w.cell? (gw,48)=θ.wn:=mS h 48 I
 have hlt:=h.lt
 clear h
 have HB:=aH (aY.new w 44 (2:Int))
 have Hq:Hid (Below w w (w.alloc (.cells (2:Int) 44))):=aH ((Below.refl _ _).alloc (Nat.le_refl _) _)
 have c46':=(Hq.cell (p:=⟨gw,46,none⟩) hlt).trans c46
 have c47':=(Hq.cell (p:=⟨gw,47,none⟩) hlt).trans c47
 have c48':=(Hq.cell (p:=⟨gw,48,none⟩) hlt).trans c48
 have Ig:=Nat.lt_of_lt_of_le hlt Hq.size
 clear c46 c47 c48
 go_enter func25,ntmps25
 go_upto_region 1 with(fail)
 show Code.wp _ _ _ _ (w.alloc (.cells (2:Int) 44))
 generalize Vp:w.alloc (.cells (2:Int) 44)=w1 at*
 generalize Mz:w.heap.size=b0 at*
 clear Vp
 have hng:¬cI b0 gw:=fun e=>by have e':gw=b0:=e;omega
 refine bK 9 (cI b0) [8] J J ?_
 iterate 8
  refine aR ?_;constructor
  .intro w9 Gq Gw
   refine aS ?_
   have q46:=(Gq.cell (p:=⟨gw,46,none⟩) Ig hng).trans c46'
   have q47:=(Gq.cell (p:=⟨gw,47,none⟩) Ig hng).trans c47'
   have q48:=(Gq.cell (p:=⟨gw,48,none⟩) Ig hng).trans c48'
   refine aW ?_
   go_simp
   first
   |exact aE
 refine bA undef (fun _ w'=>aY w' b0 44 #[θ.o1,θ.o2]) ?_ ?_
 .intro w9 Gq Gw
  refine aS ?_
  have HX:=aH (HB.below (cA Gw.1 J) HB.lt)
  have r0:=HX.cell 0
  have r1:=HX.cell 1
  have e0:=HX.frozen 0
  have e1:=HX.frozen 1
  simp only[List.getElem?_toArray,List.getElem?_cons_zero,List.getElem?_cons_succ]at r0 r1
  refine aW ?_
  go_simp
  exact⟨⟨rfl,(HX.set_ 0 θ.o1).set_ 1 θ.o2⟩,((bP _ b0 0 _).setCell (p:=⟨b0,1,none⟩) (.inl rfl) _).mono fun b hb=>by first|exact hb|exact⟨aJ,hb⟩⟩
 refine aZ ?_
 rintro w9 Gq hmet
 refine aQ ?_
 refine aS ?_
 obtain⟨wx,k0,k1,hf⟩:=hmet.1 rfl
 have Na:=aH (hf.below (cA k1 J) hf.lt)
 have Ht:Hid (Below b0 w w9):=aH (Hq.trans (Gq.below (by rw[<-Mz];simpa using Hq.size) (fun b hb e=>by have e':b=b0:=e;omega)))
 clear hmet hf k0 k1 wx Gq
 refine aW ?_
 go_wp2
 refine bodyPost_ret (bR results25 _ _ b0 44 #[θ.o1,θ.o2] _ θ.wn rfl rfl Na underlying44 rfl eU) rfl ⟨rfl,by rw[Mz];exact Ht⟩
section
variable{w:World}{tag:Nat->Nat}{m:Nat->Int}{s:cN}{th:Nat->cQ}{tgl:Nat->Int}{st:Nat}{hist dl:List (List Value)}{p gm gs:Nat}{gw:Nat->Nat}{H:Option Addr}{ch:Nat}{E:Option Addr}{ce:Nat}
def LB(w:World)(tag:Nat->Nat)(b:Nat)(ty:TypeId)(cs:Array Value):Prop:=tag b=0/\aY w b ty cs
theorem LB.kept{w w':World}{tag tag':Nat->Nat}{S:Nat->Prop}{b:Nat}{ty:TypeId}{cs:Array Value}(h:LB w tag b ty cs)(hk:aD S w w')(ht:bI w tag tag')(hS:∀b,S b->tag b≠0):LB w' tag' b ty cs:=
 ⟨(ht b h.2.lt).trans h.1,(hk.block b h.2.lt fun e=>hS b e h.1).trans h.2⟩
theorem LB.below{w w':World}{tag:Nat->Nat}{b:Nat}{ty:TypeId}{cs:Array Value}(h:LB w tag b ty cs)(hb:Below w w w'):LB w' tag b ty cs:=h.kept (S:=bN) (aD.of_same hb) (bI.refl _ _) (fun _ x=>x.elim)
theorem LB.cell{w:World}{tag:Nat->Nat}{b:Nat}{ty:TypeId}{cs:Array Value}(h:LB w tag b ty cs)(i:Nat):w.cell? (b,i)=cs[i]? :=h.2.cell i
end
def AR(σ:pH):Prop:=∀t,t<4->qG (σ.th t)
theorem NK(a k v tg:Int)(b:Bool):qG (cQ.call a k v tg b):=fun j hj=>⟨Int.le_refl 0,by show(0:Int)<_;omega⟩
theorem UF{t:Nat}{m:Nat->Int}{s:cN}{θ:cQ}(ht:t<4)(ho:s.Ok)(h:qG θ):qG (stp t m s θ).t:=by
 have hn:∀n d,qG (θ.next n d):=fun n d=>by unfold cQ.next;split<;>exact h
 have ha:∀θ':cQ,qG θ'->qG (θ'.all t):=fun θ' h'=>by unfold cQ.all;split<;>exact h'
 have hb:∀v i,i<32->dU v+i<72:=fun v i hi=>by unfold dU;omega
 unfold stp
 split
 case h_5=>unfold cQ.next;split<;>exact h
 case h_6=>split;exact h;exact ha _ (hn _ _)
 case h_7=>exact ha _ (by unfold cQ.next;split<;>exact h)
 case h_18=>
  intro j hj
  show 0<=(if j=0 then _ else _)/\(if j=0 then _ else _)<_
  split
  .exact ho.now _ (hb _ _ I)
  exact h j hj
 case h_19=>
  intro j hj
  show 0<=(if j=1 then _ else _)/\(if j=1 then _ else _)<_
  split
  .rw[Nat.add_assoc];exact ho.now _ (hb _ _ I)
  exact h j hj
 case h_20=>
  intro j hj
  show 0<=(if j=2 then _ else _)/\(if j=2 then _ else _)<_
  split
  .rw[Nat.add_assoc];exact ho.now _ (hb _ _ I)
  exact h j hj
 all_goals first|exact h|exact hn _ _|(split<;>first|exact h|(split<;>exact h))
theorem De(k:Int):AR (pH.new k):=fun t _=>fun j hj=>⟨Int.le_refl 0,by show(0:Int)<_;omega⟩
theorem NH{σ:pH}(h:AR σ)(t:Nat)(a k v:Int):AR (σ.call t a k v):=fun u hu=>by
 show qG (jG _ _ _ u)
 by_cases e:u=t
 .subst e;rw[cD];exact NK _ _ _ _ _
 rw[dK _ _ e];exact h u hu
theorem PK{σ:pH}(h:AR σ)(ho:σ.s.Ok){t:Nat}(ht:t<4):AR (σ.step t):=fun u hu=>by
 show qG (jG _ _ _ u)
 by_cases e:u=t
 .subst e;rw[cD];exact UF ht ho (h u hu)
 rw[dK _ _ e];exact h u hu
theorem VJ(t:Nat)(m:Nat->Int)(s:cN)(θ:cQ):(stp t m s θ).t.a=θ.a/\(stp t m s θ).t.k=θ.k/\(stp t m s θ).t.v=θ.v/\(stp t m s θ).t.tg=θ.tg:=by
 have hn:∀(θ':cQ) n d,(θ'.next n d).a=θ'.a/\(θ'.next n d).k=θ'.k/\(θ'.next n d).v=θ'.v/\(θ'.next n d).tg=θ'.tg:=fun θ' n d=>by unfold cQ.next;split<;>exact⟨rfl,rfl,rfl,rfl⟩
 have ha:∀(θ':cQ),(θ'.all t).a=θ'.a/\(θ'.all t).k=θ'.k/\(θ'.all t).v=θ'.v/\(θ'.all t).tg=θ'.tg:=fun θ'=>by unfold cQ.all;split<;>exact⟨rfl,rfl,rfl,rfl⟩
 unfold stp
 split<;>(try split)<;>(try split)<;>first
  |exact⟨rfl,rfl,rfl,rfl⟩
  |exact hn _ _ _
  |(obtain⟨a1,a2,a3,a4⟩:=ha (θ.next 4 8);obtain⟨b1,b2,b3,b4⟩:=hn θ 4 8;exact⟨a1.trans b1,a2.trans b2,a3.trans b3,a4.trans b4⟩)
  |(obtain⟨a1,a2,a3,a4⟩:=ha ((θ.fill (m (2+2*θ.i))).next 4 8);obtain⟨b1,b2,b3,b4⟩:=hn (θ.fill (m (2+2*θ.i))) 4 8;exact⟨a1.trans b1,a2.trans b2,a3.trans b3,a4.trans b4⟩)
end
end Go.Proofs.YtplpimkgihnmhaaGreatDoor
