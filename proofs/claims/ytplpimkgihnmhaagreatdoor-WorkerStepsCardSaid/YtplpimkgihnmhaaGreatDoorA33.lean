/-
  Part of a proof: ShCb ShCc ShCd ShCe ShCf. For all values.
-/
import Derived.Test.YtplpimkgihnmhaaGreatDoorA32
set_option maxRecDepth 100000
set_option maxHeartbeats 400000
set_option linter.all false
namespace Go.Proofs.YtplpimkgihnmhaaGreatDoor
open Go.Proofs.Tryz Go.RowKit
section
attribute [local go_sem↓] Go.wp_at_zero Go.wp_at_succ
section
variable{w:World}{tag:Nat->Nat}{t:Nat}{θ:cQ}{last:Int}{e:mG}{gs mp:Nat}{m:Nat->Int}{pt:Nat->Nat}{s:cN}{st:Int}{E O:Value}{R:Option Addr}{cr:Nat}{D:Option Addr}{cd:Nat}{rows:List (List Value)}{cs:List Cl}{r:List Value}
theorem YG(H:RC w tag w tag t θ last e gs mp m pt s st E O R cr D cd rows (jP (θ.ver+1) (θ.i+1)++qI (θ.ver+1)) false)(hn:iF w tag t θ e)(d:θ.does=9)(hr:(Cl.wish (θ.ver+1) θ.i).At w tag e r)(Nk:θ.i<4)(hfl:s.fl<=1000000000):
 ∃N caps,r=td 9 (fv N caps)/\Calls prog N caps w fun e' w'=>e'=.returned (.tuple #[])/\gE w tag t last e gs mp pt st E O (stp t m s θ) w':=by
 obtain⟨bp,bq,bv,bi,rfl,hp,hq,hv,hi⟩:=hr
 refine⟨_,_,rfl,?_⟩
 simp only[cR]
 rw[show stp t m s θ=⟨m,s.flush t (dU (θ.ver+1)/8+θ.i),θ.next 4 10,false⟩ by simp only[stp,d]]
 have h4:=H.t4
 have HH:=aH H
 have cbp:w.cell? (bp,0)=(e.p,0):=hp.cell
 have lbp:=hp.2.lt
 have cbq:w.cell? (bq,0)=(e.q,0):=hq.cell
 have lbq:=hq.2.lt
 have cbv:=hv.cell
 have lbv:=hv.2.lt
 have cbi:=hi.cell
 have lbi:=hi.2.lt
 have p0:=H.cp0
 have lp:=H.sh.lt
 have ls:=H.st_.lt
 have q0:=H.cth 0 (fun _ _=>rfl)
 have lq:=H.th.blk.lt
 have hne:gs≠mp:=fun e=>by have h1:=H.ts;have h2:=H.tm;rw[e]at h1;omega
 obtain⟨B,hB⟩:=aO (dU (θ.ver+1):Nat)
 have Jg:B=8\/B=40:=by rw[hB];unfold dU;omega
 have Lz:=aH (fun W=>ZY (θ.ver+1) _ rfl B hB W)
 rw[<-hB]
 clear hB
 obtain⟨Q,hQ,hQ5⟩:∃Q:Nat,B/8=Q/\Q<=5:=⟨B/8,rfl,I⟩
 rw[hQ]
 have kd:(B:Int).tdiv 8=(Q:Int):=by rw[<-hQ];rcases Jg with rfl|rfl<;>rfl
 have kd2:(B:Int)/8=(Q:Int):=I
 have k0:IntKind.i64.wrap (Q:Int)=(Q:Int):=dE I I
 have kb:IntKind.i64.wrap ((Q:Int)+(θ.i:Int))=(Q:Int)+θ.i:=dE I I
 have Zw:=aH (fun(w':World) (h:RC w tag w' tag t θ last e gs mp m pt (s.flush t (Q+θ.i)) st E O R cr D cd rows (jP (θ.ver+1) (θ.i+1)++qI (θ.ver+1)) false)=>show gE w tag t last e gs mp pt st E O ⟨m,s.flush t (Q+θ.i),θ.next 4 10,false⟩ w' from by
  by_cases Qi:θ.i+1=4
  .have e1:θ.next 4 10={θ with i:=0,does:=10}:=iP Qi
   rw[e1]
   refine(h.as (θ':={θ with i:=0,does:=10}) (fun _ _=>rfl) rfl).out ?_ (by simp only[iF]) ⟨rfl,rfl⟩
   rw[Qi];rfl
  have e1:θ.next 4 10={θ with i:=θ.i+1}:=iN Qi
  rw[e1]
  exact(h.as (θ':={θ with i:=θ.i+1}) (fun _ _=>rfl) rfl).out (by simp only[gF,d]) (by simp only[iF,d]) ⟨rfl,rfl⟩)
 generalize hV:((θ.ver+1:Nat):Int)=V at cbv Lz
 clear hQ hV Jg
 clear H hn d hp hq hv hi
 go_enter func172,ntmps172
 go_wp2
 refine aA 13 ?_
 iterate 13
  first
  |(refine aR1 ?_;constructor
    .intro w9 Gq Gy Gz
     go_simp
     first
     |exact aE
     |(go_at_call 72;exact bS (Lz.out _)))
  |refine aU ?_
 refine bZ ?_
 intro w9 Gq Gy Gz
 refine aS ?_
 have H1:=aH (HH.keep1 Gq)
 have hcc:=xH gs mp s.fl t (Q+θ.i) s w9 H1.st_ H1.wm hne h4 I hfl hfl
 rw[show((Q+θ.i:Nat):Int)=(Q:Int)+θ.i by omega]at hcc
 have HC:=aH hcc
 clear hcc
 clear Gq Gy Gz cbp cbq cbv cbi p0 q0
 refine aW ?_
 simp only[List.drop_succ_cons,List.drop_zero,List.drop]
 go_wp2_with fail
 with_reducible refine HC.out.mono ?_
 rintro e2 w2 ⟨rfl,h1,h2,h3⟩
 have HF:=aH (Zw.out _ (H1.store (s':=s.flush t (Q+θ.i)) h1 h2 h3))
 clear h1 h2 h3
 go_wp2
 refine bodyPost_end (v:=.tuple #[]) (by simp [results,results172,go_sem]) rfl ?_
 exact⟨rfl,HF.out⟩
theorem TZ(H:RC w tag w tag t θ last e gs mp m pt s st E O R cr D cd rows [.look3,.look4,.look5] false)(hn:iF w tag t θ e)(d:θ.does=18)(hr:(Cl.look2).At w tag e r):
 ∃N caps,r=td 18 (fv N caps)/\Calls prog N caps w fun e' w'=>e'=.returned (.tuple #[])/\gE w tag t last e gs mp pt st E O (stp t m s θ) w':=by
 obtain⟨bp,rfl,hp⟩:=hr
 refine⟨_,_,rfl,?_⟩
 simp only[cR]
 rw[show stp t m s θ=⟨m,s,{θ with seen:=fun j=>if j=0 then s.now (dU θ.ver+26)else θ.seen j,does:=19},false⟩ by simp only[stp,d]]
 have h4:=H.t4
 have HH:=aH H
 have cbp:w.cell? (bp,0)=(e.p,0):=hp.cell
 have lbp:=hp.2.lt
 have p0:=H.cp0
 have lp:=H.sh.lt
 have ls:=H.st_.lt
 obtain⟨B,hB⟩:=aO (dU θ.ver:Nat)
 have Jg:B=8\/B=40:=by rw[hB];unfold dU;omega
 have Lz:=aH (fun W=>ZY θ.ver _ rfl B hB W)
 rw[<-hB]
 clear hB
 simp only[iF,d]at hn
 obtain⟨n1,n2,n3,n4⟩:=hn
 have cv:w.cell? (e.v,0)=[θ.ver]:=by rw[n1.2.cell];rfl
 have lv:=n1.2.lt
 have HN:=aH (And.intro n1 (And.intro n2 (And.intro n3 n4)))
 have Jj:∀b,cI e.g b->tag b=170+t:=fun b hb=>by rw[show b=e.g from hb];exact n2.1
 have Nb:=aH Jj
 have kb:IntKind.i64.wrap ((B:Int)+26)=(B:Int)+26:=dE I I
 have kc:(B:Int)+26<72:=I
 have kc0:0<=(B:Int)+26:=I
 have kn:((B:Int)+26).toNat=B+26:=I
 have cn:w.cell? (gs,B+26)=[s.now (B+26)]:=H.cnow I
 obtain⟨X,hX⟩:=aO (s.now (B+26):Int)
 rw[<-hX]at cn
 have HX:=aH hX
 clear H n1 n2 n3 n4 d Jj hX
 go_enter func109,ntmps109
 go_wp2
 refine aA 11 ?_
 iterate 11
  first
  |(refine aR1 ?_;constructor
    .intro w9 Gq Gy Gz
     go_simp
     first
     |exact aE
     |(go_at_call 72;exact bS (Lz.out _)))
  |refine aU ?_
 refine bZ ?_
 intro w9 Gq Gy Gz
 refine aS ?_
 have H1:=aH (HH.keep1 Gq)
 have hNk:=HN.out
 obtain⟨m1,m2,m3,m4⟩:=hNk
 have m1:=m1.kept (S:=bN) Gq (bI.refl _ _) (fun _ x=>x.elim)
 have m2:=m2.kept (S:=bN) Gq (bI.refl _ _) (fun _ x=>x.elim)
 have m3:=m3.kept (S:=bN) Gq (bI.refl _ _) (fun _ x=>x.elim)
 have m4:=m4.kept (S:=bN) Gq (bI.refl _ _) (fun _ x=>x.elim)
 have cg:w9.cell? (e.g,0)=some (.int .u64 0):=by rw[m2.2.cell];rfl
 have fg:=m2.2.frozen 0
 have hk:=bP w9 e.g 0 [X]
 have HF:Hid (gE w tag t last e gs mp pt st E O ⟨m,s,{θ with seen:=fun j=>if j=0 then s.now (B+26)else θ.seen j,does:=19},false⟩ (w9.setCell (e.g,0) [X])):=aH (((H1.kept hk (bI.refl _ _) (fun b hb=>by have:=Nb.out b hb;unfold rR;omega)).as (θ':={θ with seen:=fun j=>if j=0 then s.now (B+26)else θ.seen j,does:=19}) (fun _ _=>rfl) rfl).out rfl (by
  show _/\_
  refine⟨m1.kept hk (bI.refl _ _) (fun b hb=>by have:=Nb.out b hb;omega),⟨m2.1,by rw[HX.out];exact m2.2.set_ 0 _⟩,m3.kept hk (bI.refl _ _) (fun b hb=>by have:=Nb.out b hb;omega),m4.kept hk (bI.refl _ _) (fun b hb=>by have:=Nb.out b hb;omega)⟩) ⟨rfl,rfl⟩)
 clear m1 m2 m3 m4 hk
 clear Gq Gy Gz
 refine aW ?_
 simp only[List.drop_succ_cons,List.drop_zero,List.drop]
 go_wp2
 refine bodyPost_end (v:=.tuple #[]) (by simp [results,results109,go_sem]) rfl ?_
 exact⟨rfl,HF.out⟩
theorem TY(H:RC w tag w tag t θ last e gs mp m pt s st E O R cr D cd rows [.look4,.look5] false)(hn:iF w tag t θ e)(d:θ.does=19)(hr:(Cl.look3).At w tag e r):
 ∃N caps,r=td 19 (fv N caps)/\Calls prog N caps w fun e' w'=>e'=.returned (.tuple #[])/\gE w tag t last e gs mp pt st E O (stp t m s θ) w':=by
 obtain⟨bp,bq,rfl,hp,hq⟩:=hr
 refine⟨_,_,rfl,?_⟩
 simp only[cR]
 rw[show stp t m s θ=⟨m,s,{θ with seen:=fun j=>if j=1 then s.now (dU θ.ver+18+t)else θ.seen j,does:=20},false⟩ by simp only[stp,d]]
 have h4:=H.t4
 have HH:=aH H
 have cbp:w.cell? (bp,0)=(e.p,0):=hp.cell
 have lbp:=hp.2.lt
 have cbq:w.cell? (bq,0)=(e.q,0):=hq.cell
 have lbq:=hq.2.lt
 have q0:=H.cth 0 (fun _ _=>rfl)
 have lq:=H.th.blk.lt
 have p0:=H.cp0
 have lp:=H.sh.lt
 have ls:=H.st_.lt
 obtain⟨B,hB⟩:=aO (dU θ.ver:Nat)
 have Jg:B=8\/B=40:=by rw[hB];unfold dU;omega
 have Lz:=aH (fun W=>ZY θ.ver _ rfl B hB W)
 rw[<-hB]
 clear hB
 simp only[iF,d]at hn
 obtain⟨n1,n2,n3,n4⟩:=hn
 have cv:w.cell? (e.v,0)=[θ.ver]:=by rw[n1.2.cell];rfl
 have lv:=n1.2.lt
 have HN:=aH (And.intro n1 (And.intro n2 (And.intro n3 n4)))
 have Jj:∀b,cI e.a b->tag b=180+t:=fun b hb=>by rw[show b=e.a from hb];exact n3.1
 have Nb:=aH Jj
 have kb:IntKind.i64.wrap ((B:Int)+18)=(B:Int)+18:=dE I I
 have kb2:IntKind.i64.wrap ((B:Int)+18+(t:Int))=(B:Int)+18+t:=dE I I
 have kc:(B:Int)+18+(t:Int)<72:=I
 have kc0:0<=(B:Int)+18+(t:Int):=I
 have kn:((B:Int)+18+(t:Int)).toNat=B+18+t:=I
 have cn:w.cell? (gs,B+18+t)=[s.now (B+18+t)]:=H.cnow I
 obtain⟨X,hX⟩:=aO (s.now (B+18+t):Int)
 rw[<-hX]at cn
 have HX:=aH hX
 clear H n1 n2 n3 n4 d Jj hX
 go_enter func110,ntmps110
 go_wp2
 refine aA 16 ?_
 iterate 16
  first
  |(refine aR1 ?_;constructor
    .intro w9 Gq Gy Gz
     go_simp
     first
     |exact aE
     |(go_at_call 72;exact bS (Lz.out _)))
  |refine aU ?_
 refine bZ ?_
 intro w9 Gq Gy Gz
 refine aS ?_
 have H1:=aH (HH.keep1 Gq)
 have hNk:=HN.out
 obtain⟨m1,m2,m3,m4⟩:=hNk
 have m1:=m1.kept (S:=bN) Gq (bI.refl _ _) (fun _ x=>x.elim)
 have m2:=m2.kept (S:=bN) Gq (bI.refl _ _) (fun _ x=>x.elim)
 have m3:=m3.kept (S:=bN) Gq (bI.refl _ _) (fun _ x=>x.elim)
 have m4:=m4.kept (S:=bN) Gq (bI.refl _ _) (fun _ x=>x.elim)
 have cg:w9.cell? (e.a,0)=some (.int .u64 0):=by rw[m3.2.cell];rfl
 have fg:=m3.2.frozen 0
 have hk:=bP w9 e.a 0 [X]
 have HF:Hid (gE w tag t last e gs mp pt st E O ⟨m,s,{θ with seen:=fun j=>if j=1 then s.now (B+18+t)else θ.seen j,does:=20},false⟩ (w9.setCell (e.a,0) [X])):=aH (((H1.kept hk (bI.refl _ _) (fun b hb=>by have:=Nb.out b hb;unfold rR;omega)).as (θ':={θ with seen:=fun j=>if j=1 then s.now (B+18+t)else θ.seen j,does:=20}) (fun _ _=>rfl) rfl).out rfl (by
  show _/\_
  refine⟨m1.kept hk (bI.refl _ _) (fun b hb=>by have:=Nb.out b hb;omega),m2.kept hk (bI.refl _ _) (fun b hb=>by have:=Nb.out b hb;omega),⟨m3.1,by rw[HX.out];exact m3.2.set_ 0 _⟩,m4.kept hk (bI.refl _ _) (fun b hb=>by have:=Nb.out b hb;omega)⟩) ⟨rfl,rfl⟩)
 clear m1 m2 m3 m4 hk
 clear Gq Gy Gz
 refine aW ?_
 simp only[List.drop_succ_cons,List.drop_zero,List.drop]
 go_wp2
 refine bodyPost_end (v:=.tuple #[]) (by simp [results,results110,go_sem]) rfl ?_
 exact⟨rfl,HF.out⟩
theorem SQ(H:RC w tag w tag t θ last e gs mp m pt s st E O R cr D cd rows [.look5] false)(hn:iF w tag t θ e)(d:θ.does=20)(hr:(Cl.look4).At w tag e r):
 ∃N caps,r=td 20 (fv N caps)/\Calls prog N caps w fun e' w'=>e'=.returned (.tuple #[])/\gE w tag t last e gs mp pt st E O (stp t m s θ) w':=by
 obtain⟨bp,bq,rfl,hp,hq⟩:=hr
 refine⟨_,_,rfl,?_⟩
 simp only[cR]
 rw[show stp t m s θ=⟨m,s,{θ with seen:=fun j=>if j=2 then s.now (dU θ.ver+22+t)else θ.seen j,does:=21},false⟩ by simp only[stp,d]]
 have h4:=H.t4
 have HH:=aH H
 have cbp:w.cell? (bp,0)=(e.p,0):=hp.cell
 have lbp:=hp.2.lt
 have cbq:w.cell? (bq,0)=(e.q,0):=hq.cell
 have lbq:=hq.2.lt
 have q0:=H.cth 0 (fun _ _=>rfl)
 have lq:=H.th.blk.lt
 have p0:=H.cp0
 have lp:=H.sh.lt
 have ls:=H.st_.lt
 obtain⟨B,hB⟩:=aO (dU θ.ver:Nat)
 have Jg:B=8\/B=40:=by rw[hB];unfold dU;omega
 have Lz:=aH (fun W=>ZY θ.ver _ rfl B hB W)
 rw[<-hB]
 clear hB
 simp only[iF,d]at hn
 obtain⟨n1,n2,n3,n4⟩:=hn
 have cv:w.cell? (e.v,0)=[θ.ver]:=by rw[n1.2.cell];rfl
 have lv:=n1.2.lt
 have HN:=aH (And.intro n1 (And.intro n2 (And.intro n3 n4)))
 have Jj:∀b,cI e.n b->tag b=190+t:=fun b hb=>by rw[show b=e.n from hb];exact n4.1
 have Nb:=aH Jj
 have kb:IntKind.i64.wrap ((B:Int)+22)=(B:Int)+22:=dE I I
 have kb2:IntKind.i64.wrap ((B:Int)+22+(t:Int))=(B:Int)+22+t:=dE I I
 have kc:(B:Int)+22+(t:Int)<72:=I
 have kc0:0<=(B:Int)+22+(t:Int):=I
 have kn:((B:Int)+22+(t:Int)).toNat=B+22+t:=I
 have cn:w.cell? (gs,B+22+t)=[s.now (B+22+t)]:=H.cnow I
 obtain⟨X,hX⟩:=aO (s.now (B+22+t):Int)
 rw[<-hX]at cn
 have HX:=aH hX
 clear H n1 n2 n3 n4 d Jj hX
 go_enter func111,ntmps111
 go_wp2
 refine aA 16 ?_
 iterate 16
  first
  |(refine aR1 ?_;constructor
    .intro w9 Gq Gy Gz
     go_simp
     first
     |exact aE
     |(go_at_call 72;exact bS (Lz.out _)))
  |refine aU ?_
 refine bZ ?_
 intro w9 Gq Gy Gz
 refine aS ?_
 have H1:=aH (HH.keep1 Gq)
 have hNk:=HN.out
 obtain⟨m1,m2,m3,m4⟩:=hNk
 have m1:=m1.kept (S:=bN) Gq (bI.refl _ _) (fun _ x=>x.elim)
 have m2:=m2.kept (S:=bN) Gq (bI.refl _ _) (fun _ x=>x.elim)
 have m3:=m3.kept (S:=bN) Gq (bI.refl _ _) (fun _ x=>x.elim)
 have m4:=m4.kept (S:=bN) Gq (bI.refl _ _) (fun _ x=>x.elim)
 have cg:w9.cell? (e.n,0)=some (.int .u64 0):=by rw[m4.2.cell];rfl
 have fg:=m4.2.frozen 0
 have hk:=bP w9 e.n 0 [X]
 have HF:Hid (gE w tag t last e gs mp pt st E O ⟨m,s,{θ with seen:=fun j=>if j=2 then s.now (B+22+t)else θ.seen j,does:=21},false⟩ (w9.setCell (e.n,0) [X])):=aH (((H1.kept hk (bI.refl _ _) (fun b hb=>by have:=Nb.out b hb;unfold rR;omega)).as (θ':={θ with seen:=fun j=>if j=2 then s.now (B+22+t)else θ.seen j,does:=21}) (fun _ _=>rfl) rfl).out rfl (by
  show _/\_
  refine⟨m1.kept hk (bI.refl _ _) (fun b hb=>by have:=Nb.out b hb;omega),m2.kept hk (bI.refl _ _) (fun b hb=>by have:=Nb.out b hb;omega),m3.kept hk (bI.refl _ _) (fun b hb=>by have:=Nb.out b hb;omega),⟨m4.1,by rw[HX.out];exact m4.2.set_ 0 _⟩⟩) ⟨rfl,rfl⟩)
 clear m1 m2 m3 m4 hk
 clear Gq Gy Gz
 refine aW ?_
 simp only[List.drop_succ_cons,List.drop_zero,List.drop]
 go_wp2
 refine bodyPost_end (v:=.tuple #[]) (by simp [results,results111,go_sem]) rfl ?_
 exact⟨rfl,HF.out⟩
end
section
variable{w:World}{tag:Nat->Nat}{t:Nat}{θ:cQ}{last:Int}{e:mG}{gs mp:Nat}{m:Nat->Int}{pt:Nat->Nat}{s:cN}{st:Int}{E O:Value}{R:Option Addr}{cr:Nat}{D:Option Addr}{cd:Nat}{rows:List (List Value)}{cs:List Cl}{r:List Value}
theorem SC(H:RC w tag w tag t θ last e gs mp m pt s st E O R cr D cd rows [.says2,.lock] false)(hn:iF w tag t θ e)(d:θ.does=1)(hr:(Cl.says1).At w tag e r)(ho:gQ θ.a θ.k θ.v):
 ∃N caps,r=td 1 (fv N caps)/\Calls prog N caps w fun e' w'=>e'=.returned (.tuple #[])/\gE w tag t last e gs mp pt st E O (stp t m s θ) w':=by
 obtain⟨bq,bp,rfl,hq,hp⟩:=hr
 refine⟨_,_,rfl,?_⟩
 simp only[cR]
 rw[show stp t m s θ=⟨eI m (2+2*t) (fN θ.a θ.k θ.v),s,θ.go 2,false⟩ by simp only[stp,d]]
 have h4:=H.t4
 have HH:=aH H
 have cbp:w.cell? (bp,0)=(e.p,0):=hp.cell
 have lbp:=hp.2.lt
 have cbq:w.cell? (bq,0)=(e.q,0):=hq.cell
 have lbq:=hq.2.lt
 have p0:=H.cp0
 have lp:=H.sh.lt
 have ls:=H.st_.lt
 have q0:=H.cth 0 (fun _ _=>rfl)
 have lq:=H.th.blk.lt
 have nbp:¬cI e.p bp:=fun z=>by have h1:=hp.1;have h2:=H.tp;rw[show bp=e.p from z]at h1;omega
 have nbq:¬cI e.p bq:=fun z=>by have h1:=hq.1;have h2:=H.tp;rw[show bq=e.p from z]at h1;omega
 have nq:¬cI e.p e.q:=fun z=>by have h1:=H.th.tg;have h2:=H.tp;rw[show e.q=e.p from z]at h1;omega
 have HO:=aH (fun W=>CE θ.a θ.k θ.v W)
 rw[show jI θ.a θ.k θ.v=fN θ.a θ.k θ.v from iP (eN.2 ho)]at HO
 have HRG:Hid (w.rangeAt e.q 2 [.int .i64 θ.a,.int .i64 θ.k,.int .i64 θ.v]):=aH (by
  have:=World.rangeAt_of_block (t:=140) (fr:=(0,0)) H.th.blk 2 3
  exact this)
 have k1:IntKind.i64.wrap (2*(t:Int))=2*t:=dE I I
 have k2:IntKind.i64.wrap (2+2*(t:Int))=2+2*t:=dE I I
 have k3:(2+2*(t:Int)).toNat=2+2*t:=I
 have k4:2+2*(t:Int)<16:=I
 have k5:0<=2+2*(t:Int):=I
 generalize fN θ.a θ.k θ.v=x at*
 clear H hn d ho hp hq
 go_enter func115,ntmps115
 go_wp2
 refine bK 19 (cI e.p) [18] J J ?_
 iterate 10
  refine aR ?_;constructor
  .intro w9 Gq Gw
   refine aS ?_
   have zcbp:=(Gq.cell (p:=⟨bp,0,none⟩) lbp nbp).trans cbp
   have zcbq:=(Gq.cell (p:=⟨bq,0,none⟩) lbq nbq).trans cbq
   have zq0:=(Gq.cell (p:=⟨e.q,0,none⟩) lq nq).trans q0
   refine aW ?_
   go_simp
   first
   |exact aE
 refine bA (.agg #[θ.a,θ.k,θ.v]) cX ?_ ?_
 .intro w9 Gq Gw
  refine aS ?_
  have HX:Hid (w9.rangeAt e.q 2 [.int .i64 θ.a,.int .i64 θ.k,.int .i64 θ.v]):=aH (fun j v hv=>(Gq.cell (p:=⟨e.q,2+j,none⟩) lq nq).trans (HRG.out j v hv))
  refine aW ?_
  refine eG 39 _ rfl e.q 2 rfl #[θ.a,θ.k,θ.v] _ HX underlying39 rfl J aE
 first|(with_reducible refine aC (fun K hK=>?_))|(refine aC (fun K hK=>?_))
 refine .inl ?_
 apply Exists.intro
 refine⟨cX,?_,hK _ _ _ _ ?_⟩
 .simp only[bJ,bM]
  refine⟨?_,fun w9 Gq Gw=>?_⟩
  .first|rfl|(go_simp;done)
  refine aS ?_
  refine aW ?_
  go_simp
  first
  |exact aE
  |(go_at_call 116;exact bS (HO.out _))
 iterate 6
  clear hK K
  refine aN ?_
  first|(with_reducible refine aC (fun K hK=>?_))|(refine aC (fun K hK=>?_))
  refine .inl ?_
  apply Exists.intro
  refine⟨cX,?_,hK _ _ _ _ ?_⟩
  .simp only[bJ,bM]
   refine⟨?_,fun w9 Gq Gw=>?_⟩
   .first|rfl|(go_simp;done)
   refine aS ?_
   have zcbp:=(Gq.cell (p:=⟨bp,0,none⟩) lbp nbp).trans cbp
   have zcbq:=(Gq.cell (p:=⟨bq,0,none⟩) lbq nbq).trans cbq
   have zq0:=(Gq.cell (p:=⟨e.q,0,none⟩) lq nq).trans q0
   refine aW ?_
   go_simp
   first
   |exact aE
 clear hK K
 refine aN ?_
 refine bA undef (fun _ w'=>RC w tag w' tag t θ last e gs mp (eI m (2+2*t) x) pt s st E O R cr D cd rows [.says2,.lock] false) ?_ ?_
 .intro w9 Gq Gw
  refine aS ?_
  have HX:=aH (HH.below (cA Gw.1 J) (bI.refl _ _))
  have Tl:w9.cell? (e.p,1+(2+2*t))=[m (2+2*t)]:=HX.cram I
  have Wm:w9.frozen? ⟨e.p,1+(2+2*t),none⟩=false:=HX.sh.frozen _
  refine aW ?_
  go_simp
  refine⟨⟨rfl,?_⟩,(bP _ e.p _ _).mono fun b hb=>by first|exact hb|exact⟨aJ,hb⟩⟩
  exact HX.setRam (k:=2+2*t) I x
 refine aZ ?_
 rintro w9 Gq hmet
 refine aQ ?_
 refine aS ?_
 obtain⟨wx,k6,k7,hf⟩:=hmet.1 rfl
 have H1:=aH (hf.below (cA k7 J) (bI.refl _ _))
 have HF:=aH ((H1.as (θ':=θ.go 2) (fun _ _=>rfl) rfl).out rfl (by simp only[iF,cQ.go]) ⟨rfl,rfl⟩)
 clear hmet k6 k7 hf Gq
 refine aW ?_
 go_wp2
 refine bodyPost_end (v:=.tuple #[]) (by simp [results,results115,go_sem]) rfl ?_
 exact⟨rfl,HF.out⟩
theorem RZ(H:RC w tag w tag t θ last e gs mp m pt s st E O R cr D cd rows [.lock] false)(hn:iF w tag t θ e)(d:θ.does=2)(hr:(Cl.says2).At w tag e r)(hg:θ.tg=0\/θ.tg=1):
 ∃N caps,r=td 2 (fv N caps)/\Calls prog N caps w fun e' w'=>e'=.returned (.tuple #[])/\gE w tag t last e gs mp pt st E O (stp t m s θ) w':=by
 obtain⟨bq,bp,rfl,hq,hp⟩:=hr
 refine⟨_,_,rfl,?_⟩
 simp only[cR]
 rw[show stp t m s θ=⟨eI m (3+2*t) (θ.tg+1),s,{θ with said:=true,does:=3},false⟩ by simp only[stp,d]]
 have h4:=H.t4
 have HH:=aH H
 have cbp:w.cell? (bp,0)=(e.p,0):=hp.cell
 have lbp:=hp.2.lt
 have cbq:w.cell? (bq,0)=(e.q,0):=hq.cell
 have lbq:=hq.2.lt
 have p0:=H.cp0
 have lp:=H.sh.lt
 have ls:=H.st_.lt
 have q0:=H.cth 0 (fun _ _=>rfl)
 have lq:=H.th.blk.lt
 have nbp:¬cI e.p bp:=fun z=>by have h1:=hp.1;have h2:=H.tp;rw[show bp=e.p from z]at h1;omega
 have nbq:¬cI e.p bq:=fun z=>by have h1:=hq.1;have h2:=H.tp;rw[show bq=e.p from z]at h1;omega
 have nq:¬cI e.p e.q:=fun z=>by have h1:=H.th.tg;have h2:=H.tp;rw[show e.q=e.p from z]at h1;omega
 have q5:=H.cth 5 (fun _ _=>rfl)
 have t1:0<=θ.tg:=I
 have t2:θ.tg<=1:=I
 have k1:IntKind.i64.wrap (2*(t:Int))=2*t:=dE I I
 have k2:IntKind.i64.wrap (2+2*(t:Int))=2+2*t:=dE I I
 have k2b:IntKind.i64.wrap (2+2*(t:Int)+1)=2+2*t+1:=dE I I
 have k3:(2+2*(t:Int)+1).toNat=3+2*t:=I
 have k4:2+2*(t:Int)+1<16:=I
 have k5:0<=2+2*(t:Int)+1:=I
 have k8:IntKind.i64.wrap (θ.tg+1)=θ.tg+1:=dE I I
 have k9:IntKind.u64.wrap (θ.tg+1)=θ.tg+1:=sS I I
 clear hg
 clear H hn d hp hq
 go_enter func117,ntmps117
 go_wp2
 refine bK 19 (cI e.p) [18] J J ?_
 iterate 18
  refine aR ?_;constructor
  .intro w9 Gq Gw
   refine aS ?_
   have zcbp:=(Gq.cell (p:=⟨bp,0,none⟩) lbp nbp).trans cbp
   have zcbq:=(Gq.cell (p:=⟨bq,0,none⟩) lbq nbq).trans cbq
   have zq0:=(Gq.cell (p:=⟨e.q,0,none⟩) lq nq).trans q0
   have zq5:=(Gq.cell (p:=⟨e.q,5,none⟩) lq nq).trans q5
   refine aW ?_
   go_simp
   first
   |exact aE
 refine bA undef (fun _ w'=>RC w tag w' tag t θ last e gs mp (eI m (3+2*t) (θ.tg+1)) pt s st E O R cr D cd rows [.lock] false) ?_ ?_
 .intro w9 Gq Gw
  refine aS ?_
  have HX:=aH (HH.below (cA Gw.1 J) (bI.refl _ _))
  have Tl:w9.cell? (e.p,1+(3+2*t))=[m (3+2*t)]:=HX.cram I
  have Wm:w9.frozen? ⟨e.p,1+(3+2*t),none⟩=false:=HX.sh.frozen _
  refine aW ?_
  go_simp
  refine⟨⟨rfl,?_⟩,(bP _ e.p _ _).mono fun b hb=>by first|exact hb|exact⟨aJ,hb⟩⟩
  exact HX.setRam (k:=3+2*t) I (θ.tg+1)
 refine aZ ?_
 rintro w9 Gq hmet
 refine aQ ?_
 refine aS ?_
 obtain⟨wx,k6,k7,hf⟩:=hmet.1 rfl
 have H1:=aH (hf.below (cA k7 J) (bI.refl _ _))
 have q7:=H1.cth 7 (fun _ _=>rfl)
 have f7:=H1.th.blk.frozen 7
 have HF:=aH ((H1.setTh (θ':={θ with said:=true,does:=3}) 7 true (fun _ _=>rfl) rfl).out rfl (by simp only[iF]) ⟨rfl,rfl⟩)
 clear hmet k6 k7 hf Gq
 refine aW ?_
 go_wp2
 refine bodyPost_end (v:=.tuple #[]) (by simp [results,results117,go_sem]) rfl ?_
 exact⟨rfl,HF.out⟩
theorem UZ(H:RC w tag w tag t θ last e gs mp m pt s st E O R cr D cd rows [] false)(hn:iF w tag t θ e)(d:θ.does=3)(hr:(Cl.lock).At w tag e r)(hz:m 0≠0):
 ∃N caps,r=td 3 (fv N caps)/\Calls prog N caps w fun e' w'=>e'=.returned (.tuple #[])/\gE w tag t last e gs mp pt st E O (stp t m s θ) w':=by
 obtain⟨bp,bq,rfl,hp,hq⟩:=hr
 refine⟨_,_,rfl,?_⟩
 simp only[cR]
 rw[show stp t m s θ=⟨m,s,θ.go 17,false⟩ by simp only[stp,d];rw[iN hz]]
 have h4:=H.t4
 have HH:=aH H
 have hrw:rows=[]:=by have:=H.rs.len;simpa using this
 subst hrw
 have cbp:w.cell? (bp,0)=(e.p,0):=hp.cell
 have lbp:=hp.2.lt
 have cbq:w.cell? (bq,0)=(e.q,0):=hq.cell
 have lbq:=hq.2.lt
 have p0:=H.cp0
 have lp:=H.sh.lt
 have ls:=H.st_.lt
 have Tl:w.cell? (e.p,1)=[m 0]:=H.cram (k:=0) I
 have Wm:w.frozen? ⟨e.p,1,none⟩=false:=H.sh.frozen _
 have Ib:¬m 0=0:=hz
 have HC:=aH (PW H.th e.p h4)
 clear H hn d hz
 go_enter func126,ntmps126
 go_wp2_with fail
 with_reducible refine HC.out.mono ?_
 rintro e2 w2 ⟨rfl,Kb,env,R2,Sk,Ku,hk,hen,hth,hrr,hv,hg,ha,hnn⟩
 have HF:=aH ((((HH.rowed hk hen hth hrr).as (θ':=θ.go 17) (fun _ _=>rfl) rfl).out rfl ⟨hv,hg,ha,hnn⟩ hen))
 clear hk hen hth hrr hv hg ha hnn HC
 go_wp2
 refine bodyPost_ret (v:=.tuple #[]) (by simp [results,results126,go_sem]) rfl ?_
 exact⟨rfl,HF.out⟩
theorem UN(H:RC w tag w tag t θ last e gs mp m pt s st E O R cr D cd rows [] false)(hn:iF w tag t θ e)(d:θ.does=3)(hr:(Cl.lock).At w tag e r)(hz:m 0=0):
 ∃N caps,r=td 3 (fv N caps)/\Calls prog N caps w fun e' w'=>e'=.returned (.tuple #[])/\gE w tag t last e gs mp pt st E O (stp t m s θ) w':=by
 obtain⟨bp,bq,rfl,hp,hq⟩:=hr
 refine⟨_,_,rfl,?_⟩
 simp only[cR]
 rw[show stp t m s θ=⟨eI m 0 (t+1),s,θ.go 4,false⟩ by simp only[stp,d];rw[iP hz]]
 have h4:=H.t4
 have HH:=aH H
 have hrw:rows=[]:=by have:=H.rs.len;simpa using this
 subst hrw
 have cbp:w.cell? (bp,0)=(e.p,0):=hp.cell
 have lbp:=hp.2.lt
 have cbq:w.cell? (bq,0)=(e.q,0):=hq.cell
 have lbq:=hq.2.lt
 have p0:=H.cp0
 have lp:=H.sh.lt
 have ls:=H.st_.lt
 have q0:=H.cth 0 (fun _ _=>rfl)
 have lq:=H.th.blk.lt
 have Tl:w.cell? (e.p,1)=some (.int .u64 0):=by rw[<-hz];exact H.cram (k:=0) I
 have k1:IntKind.i64.wrap ((t:Int)+1)=(t:Int)+1:=dE I I
 have k2:IntKind.u64.wrap ((t:Int)+1)=(t:Int)+1:=sS I I
 clear H hn d hz
 go_enter func126,ntmps126
 go_wp2
 refine aA 9 ?_
 iterate 9
  first
  |(refine aR1 ?_;constructor
    .intro w9 Gq Gy Gz
     go_simp
     first
     |exact aE)
  |refine aU ?_
 refine bZ ?_
 intro w9 Gq Gy Gz
 refine aS ?_
 have H1:=aH (HH.keep1 Gq)
 have Rn:w9.cell? (e.p,1)=[m 0]:=H1.cram (k:=0) I
 have fr1:w9.frozen? ⟨e.p,1,none⟩=false:=H1.sh.frozen _
 have H2:=aH (H1.setRam (k:=0) I ((t:Int)+1))
 have cbp9:=(Gq.cell (p:=⟨bp,0,none⟩) lbp (fun x=>x)).trans cbp
 have cbq9:=(Gq.cell (p:=⟨bq,0,none⟩) lbq (fun x=>x)).trans cbq
 have n1:¬bp=e.p:=fun z=>by have h1:=hp.1;have h2:=HH.tp;rw[z]at h1;omega
 have n2:¬bq=e.p:=fun z=>by have h1:=hq.1;have h2:=HH.tp;rw[z]at h1;omega
 have n3:¬e.p=bp:=fun z=>n1 z.symm
 have n4:¬e.p=bq:=fun z=>n2 z.symm
 have HC:=aH (Do H2.th e.p h4)
 clear cbp cbq p0 q0 Tl
 clear Gq Gy Gz
 refine aW ?_
 simp only[List.drop_succ_cons,List.drop_zero,List.drop]
 go_wp2_with fail
 with_reducible refine HC.out.mono ?_
 rintro e2 w2 ⟨rfl,Kb,env,R2,Sk,Ku,hk,hen,hth,hrr,hv,hl,hw⟩
 have HF:=aH ((((H2.rowed hk hen hth hrr).as (θ':=θ.go 4) (fun _ _=>rfl) rfl).out rfl ⟨hv,hl,hw⟩ hen))
 clear hk hen hth hrr hv hl hw HC
 go_wp2
 refine bodyPost_end (v:=.tuple #[]) (by simp [results,results126,go_sem]) rfl ?_
 exact⟨rfl,HF.out⟩
end
section
variable{w:World}{tag:Nat->Nat}{t:Nat}{θ:cQ}{last:Int}{e:mG}{gs mp:Nat}{m:Nat->Int}{pt:Nat->Nat}{s:cN}{st:Int}{E O:Value}{R:Option Addr}{cr:Nat}{D:Option Addr}{cd:Nat}{rows:List (List Value)}{cs:List Cl}{r:List Value}
theorem TK(H:RC w tag w tag t θ last e gs mp m pt s st E O R cr D cd rows (kG (θ.i+1)) false)(hn:iF w tag t θ e)(d:θ.does=5)(hr:(Cl.copy θ.i).At w tag e r)(Nk:θ.i<31)(hna:θ.na=0)(hxb:0<=s.now (dU θ.ver+θ.i)/\s.now (dU θ.ver+θ.i)<18446744073709551616):
 ∃N caps,r=td 5 (fv N caps)/\Calls prog N caps w fun e' w'=>e'=.returned (.tuple #[])/\gE w tag t last e gs mp pt st E O (stp t m s θ) w':=by
 obtain⟨bp,bi,bw,bq,rfl,hp,hi,hw,hq⟩:=hr
 refine⟨_,_,rfl,?_⟩
 simp only[cR]
 rw[show stp t m s θ=⟨m,s,{θ with r:=fun j=>if j=θ.i then s.now (dU θ.ver+θ.i)else θ.r j,i:=θ.i+1},false⟩ by simp only[stp,d];congr 1;exact iN (by show¬θ.i+1=32;omega)]
 have h4:=H.t4
 have HH:=aH H
 simp only[iF,d]at hn
 obtain⟨n1,n2,z,n3,n4⟩:=hn
 have cbp:w.cell? (bp,0)=(e.p,0):=hp.cell
 have lbp:=hp.2.lt
 have cbq:w.cell? (bq,0)=(e.q,0):=hq.cell
 have lbq:=hq.2.lt
 have cbw:w.cell? (bw,0)=some (.slice (some ⟨e.w,0,none⟩) 32 32):=hw.cell
 have lbw:=hw.2.lt
 have cbi:=hi.cell
 have lbi:=hi.2.lt
 have p0:=H.cp0
 have lp:=H.sh.lt
 have ls:=H.st_.lt
 have cv:w.cell? (e.v,0)=[θ.ver]:=by rw[n1.2.cell];rfl
 have lv:=n1.2.lt
 obtain⟨wt,We,wb,wu⟩:=n3
 have lw:=wb.lt
 obtain⟨B,hB⟩:=aO (dU θ.ver:Nat)
 have Jg:B=8\/B=40:=by rw[hB];unfold dU;omega
 have Lz:=aH (fun W=>ZY θ.ver _ rfl B hB W)
 have Jg:B<=40:=I
 have Qe:=hxb
 have HBS:=aH hB
 rw[<-hB]at Qe
 clear hB
 obtain⟨X,hX⟩:=aO (s.now (B+θ.i):Int)
 have cn:w.cell? (gs,B+θ.i)=[X]:=by rw[hX];exact H.cnow I
 have hXb:0<=X/\X<18446744073709551616:=by rw[hX];exact Qe
 have HX:Hid (X=s.now (dU θ.ver+θ.i)):=aH (by rw[hX,HBS.out])
 have cwi:w.cell? (e.w,θ.i)=[z θ.i]:=by rw[wb.cell,wu.get _ I]
 have nw:∀b,tag b=106->¬b=e.w:=fun b h z=>by rw[z]at h;omega
 have x1:=nw _ hp.1
 have x2:=nw _ hq.1
 have x3:=nw _ hw.1
 have x4:=nw _ hi.1
 have HN:=aH (And.intro n1 n2)
 have HD:=aH d
 have Tm:=aH (show lF w tag t e.w z from⟨wt,We,wb,wu⟩)
 have HZ:=aH n4
 have HHI:=aH Nk
 have Yj:=aH hna
 have HXB:=aH hXb
 have kb:IntKind.i64.wrap ((B:Int)+(θ.i:Int))=(B:Int)+(θ.i:Int):=dE I I
 have kc:(B:Int)+(θ.i:Int)<72:=I
 have kc0:0<=(B:Int)+(θ.i:Int):=I
 have kn:((B:Int)+(θ.i:Int)).toNat=B+θ.i:=I
 have i32:(θ.i:Int)<32:=I
 have i31:¬(θ.i:Int)=31:=I
 clear H d n1 n2 n4 wt wb wu hX hxb Qe hXb nw hna Nk hp hq hw hi
 go_enter func138,ntmps138
 go_wp2
 refine aA 14 ?_
 iterate 14
  first
  |(refine aR1 ?_;constructor
    .intro w9 Gq Gy Gz
     go_simp
     first
     |exact aE
     |(go_at_call 72;exact bS (Lz.out _)))
  |refine aU ?_
 refine bZ ?_
 intro w9 Gq Gy Gz
 refine aS ?_
 have H1:=aH (HH.keep1 Gq)
 have Hq:=aH (Tm.kept (S:=bN) Gq (bI.refl _ _) (fun _ x=>x.elim))
 have ci9:=(Gq.cell (p:=⟨bi,0,none⟩) lbi (fun x=>x)).trans cbi
 have cp9:=(Gq.cell (p:=⟨bp,0,none⟩) lbp (fun x=>x)).trans cbp
 have Ui:=(Gq.cell (p:=⟨bq,0,none⟩) lbq (fun x=>x)).trans cbq
 have cw9:=(Gq.cell (p:=⟨bw,0,none⟩) lbw (fun x=>x)).trans cbw
 have cz9:=(Gq.cell (p:=⟨e.w,θ.i,none⟩) lw (fun x=>x)).trans cwi
 have fz9:w9.frozen? ⟨e.w,θ.i,none⟩=false:=by obtain⟨_,_,hb,_⟩:=Hq.out;exact hb.frozen _
 have y1:¬e.w=bp:=fun z=>x1 z.symm
 have y2:¬e.w=bq:=fun z=>x2 z.symm
 have y3:¬e.w=bw:=fun z=>x3 z.symm
 have y4:¬e.w=bi:=fun z=>x4 z.symm
 have hk:=bP w9 e.w θ.i [X]
 have ht:∀b,cI e.w b->tag b=150+t:=fun b hb=>by rw[show b=e.w from hb];exact Tm.out.1
 have H2:=aH (H1.kept hk (bI.refl _ _) (fun b hb=>by have:=ht b hb;unfold rR;omega))
 have Py:=aH (And.intro ((HN.out.1.kept (S:=bN) Gq (bI.refl _ _) (fun _ x=>x.elim)).kept hk (bI.refl _ _) (fun b hb=>by have:=ht b hb;omega)) ((HN.out.2.kept (S:=bN) Gq (bI.refl _ _) (fun _ x=>x.elim)).kept hk (bI.refl _ _) (fun b hb=>by have:=ht b hb;omega)))
 have Ht:Hid (lF (w9.setCell (e.w,θ.i) [X]) tag t e.w (fun j=>if j=θ.i then X else z j)):=aH (by
  obtain⟨h1,E1,h2,h3⟩:=Hq.out
  exact⟨h1,_,h2.set_ θ.i _,h3.set_ HXB⟩)
 clear hk ht Hq HN Tm
 clear Gq Gy Gz
 refine aW ?_
 simp only[List.drop_succ_cons,List.drop_zero,List.drop]
 clear cbp cbq cbw cbi cv cn cwi p0
 have HF:Hid (gE w tag t last e gs mp pt st E O ⟨m,s,{θ with r:=fun j=>if j=θ.i then s.now (dU θ.ver+θ.i)else θ.r j,i:=θ.i+1},false⟩ (w9.setCell (e.w,θ.i) [X])):=aH ((H2.as (θ':={θ with r:=fun j=>if j=θ.i then s.now (dU θ.ver+θ.i)else θ.r j,i:=θ.i+1}) (fun _ _=>rfl) rfl).out (by simp only[gF,HD.out]) (by
  simp only[iF,HD.out]
  refine⟨Py.out.1,Py.out.2,_,Ht.out,fun j hj=>?_⟩
  by_cases hj2:j=θ.i
  .rw[iP hj2,iP hj2,HX.out]
  rw[iN hj2,iN hj2]
  exact HZ j I) ⟨rfl,rfl⟩)
 go_wp2
 refine bodyPost_end (v:=.tuple #[]) (by simp [results,results138,go_sem]) rfl ?_
 exact⟨rfl,HF.out⟩
theorem RW(H:RC w tag w tag t θ last e gs mp m pt s st E O R cr D cd rows (kG (θ.i+1)) false)(hn:iF w tag t θ e)(d:θ.does=5)(hr:(Cl.copy θ.i).At w tag e r)(Nk:θ.i=31)(hna:θ.na=0)(hxb:0<=s.now (dU θ.ver+θ.i)/\s.now (dU θ.ver+θ.i)<18446744073709551616):
 ∃N caps,r=td 5 (fv N caps)/\Calls prog N caps w fun e' w'=>e'=.returned (.tuple #[])/\gE w tag t last e gs mp pt st E O (stp t m s θ) w':=by
 obtain⟨bp,bi,bw,bq,rfl,hp,hi,hw,hq⟩:=hr
 refine⟨_,_,rfl,?_⟩
 simp only[cR]
 rw[show stp t m s θ=⟨m,s,{θ with r:=fun j=>if j=θ.i then s.now (dU θ.ver+θ.i)else θ.r j,i:=0,does:=6},false⟩ by simp only[stp,d];congr 1;exact iP (by show θ.i+1=32;omega)]
 have h4:=H.t4
 have HH:=aH H
 simp only[iF,d]at hn
 obtain⟨n1,n2,z,n3,n4⟩:=hn
 have hrw:rows=[]:=by have:=H.rs.len;rw[show kG (θ.i+1)=[] by rw[Nk];rfl]at this;simpa using this
 subst hrw
 have hi31:=Nk
 have cbp:w.cell? (bp,0)=(e.p,0):=hp.cell
 have lbp:=hp.2.lt
 have cbq:w.cell? (bq,0)=(e.q,0):=hq.cell
 have lbq:=hq.2.lt
 have cbw:w.cell? (bw,0)=some (.slice (some ⟨e.w,0,none⟩) 32 32):=hw.cell
 have lbw:=hw.2.lt
 have cbi:=hi.cell
 have lbi:=hi.2.lt
 have p0:=H.cp0
 have lp:=H.sh.lt
 have ls:=H.st_.lt
 have cv:w.cell? (e.v,0)=[θ.ver]:=by rw[n1.2.cell];rfl
 have lv:=n1.2.lt
 obtain⟨wt,We,wb,wu⟩:=n3
 have lw:=wb.lt
 obtain⟨B,hB⟩:=aO (dU θ.ver:Nat)
 have Jg:B=8\/B=40:=by rw[hB];unfold dU;omega
 have Lz:=aH (fun W=>ZY θ.ver _ rfl B hB W)
 have Jg:B<=40:=I
 have Qe:=hxb
 have HBS:=aH hB
 rw[<-hB]at Qe
 clear hB
 obtain⟨X,hX⟩:=aO (s.now (B+θ.i):Int)
 have cn:w.cell? (gs,B+θ.i)=[X]:=by rw[hX];exact H.cnow I
 have hXb:0<=X/\X<18446744073709551616:=by rw[hX];exact Qe
 have HX:Hid (X=s.now (dU θ.ver+θ.i)):=aH (by rw[hX,HBS.out])
 have cwi:w.cell? (e.w,θ.i)=[z θ.i]:=by rw[wb.cell,wu.get _ I]
 have nw:∀b,tag b=106->¬b=e.w:=fun b h z=>by rw[z]at h;omega
 have x1:=nw _ hp.1
 have x2:=nw _ hq.1
 have x3:=nw _ hw.1
 have x4:=nw _ hi.1
 have HN:=aH (And.intro n1 n2)
 have Tm:=aH (show lF w tag t e.w z from⟨wt,We,wb,wu⟩)
 have HZ:=aH n4
 have HHI:=aH Nk
 have Yj:=aH hna
 have HXB:=aH hXb
 rw[Nk]at cbi cn cwi
 have kb:IntKind.i64.wrap ((B:Int)+31)=(B:Int)+31:=dE I I
 have kc:(B:Int)+31<72:=I
 have kc0:0<=(B:Int)+31:=I
 have kn:((B:Int)+31).toNat=B+31:=I
 clear H d n1 n2 n4 wt wb wu hX hxb Qe hXb nw hna Nk hi31 hp hq hw hi
 go_enter func138,ntmps138
 go_wp2
 refine aA 14 ?_
 iterate 14
  first
  |(refine aR1 ?_;constructor
    .intro w9 Gq Gy Gz
     go_simp
     first
     |exact aE
     |(go_at_call 72;exact bS (Lz.out _)))
  |refine aU ?_
 refine bZ ?_
 intro w9 Gq Gy Gz
 refine aS ?_
 have H1:=aH (HH.keep1 Gq)
 have Hq:=aH (Tm.kept (S:=bN) Gq (bI.refl _ _) (fun _ x=>x.elim))
 have ci9:w9.cell? (bi,0)=(31:Int):=(Gq.cell (p:=⟨bi,0,none⟩) lbi (fun x=>x)).trans cbi
 have cp9:=(Gq.cell (p:=⟨bp,0,none⟩) lbp (fun x=>x)).trans cbp
 have Ui:=(Gq.cell (p:=⟨bq,0,none⟩) lbq (fun x=>x)).trans cbq
 have cw9:=(Gq.cell (p:=⟨bw,0,none⟩) lbw (fun x=>x)).trans cbw
 have cz9:=(Gq.cell (p:=⟨e.w,31,none⟩) lw (fun x=>x)).trans cwi
 have fz9:w9.frozen? ⟨e.w,31,none⟩=false:=by obtain⟨_,_,hb,_⟩:=Hq.out;exact hb.frozen _
 have y1:¬e.w=bp:=fun z=>x1 z.symm
 have y2:¬e.w=bq:=fun z=>x2 z.symm
 have y3:¬e.w=bw:=fun z=>x3 z.symm
 have y4:¬e.w=bi:=fun z=>x4 z.symm
 have hk:=bP w9 e.w 31 [X]
 have ht:∀b,cI e.w b->tag b=150+t:=fun b hb=>by rw[show b=e.w from hb];exact Tm.out.1
 have H2:=aH (H1.kept hk (bI.refl _ _) (fun b hb=>by have:=ht b hb;unfold rR;omega))
 have Py:=aH (And.intro ((HN.out.1.kept (S:=bN) Gq (bI.refl _ _) (fun _ x=>x.elim)).kept hk (bI.refl _ _) (fun b hb=>by have:=ht b hb;omega)) ((HN.out.2.kept (S:=bN) Gq (bI.refl _ _) (fun _ x=>x.elim)).kept hk (bI.refl _ _) (fun b hb=>by have:=ht b hb;omega)))
 have Ht:Hid (lF (w9.setCell (e.w,31) [X]) tag t e.w (fun j=>if j=31 then X else z j)):=aH (by
  obtain⟨h1,E1,h2,h3⟩:=Hq.out
  exact⟨h1,_,h2.set_ 31 _,h3.set_ HXB⟩)
 clear hk ht Hq HN Tm
 clear Gq Gy Gz
 refine aW ?_
 simp only[List.drop_succ_cons,List.drop_zero,List.drop]
 clear cbp cbq cbw cbi cv cn cwi p0
 have HC:=aH (zP e H2.th 0 0 rfl I h4)
 go_wp2_with fail
 with_reducible refine HC.out.mono ?_
 rintro e2 w2 ⟨rfl,Kb,R2,Sk,Ku,hk,hth,hrr⟩
 have HF:Hid (gE w tag t last e gs mp pt st E O ⟨m,s,{θ with r:=fun j=>if j=θ.i then s.now (dU θ.ver+θ.i)else θ.r j,i:=0,does:=6},false⟩ w2):=aH (((H2.rowed hk ⟨rfl,rfl⟩ hth hrr).as (θ':={θ with r:=fun j=>if j=θ.i then s.now (dU θ.ver+θ.i)else θ.r j,i:=0,does:=6}) (fun _ _=>rfl) rfl).out rfl (by
  show _/\_
  have hnt:∀b,eJ t (tag b)->tag b=110+t\/tag b=120+t:=fun b hb=>hb
  refine⟨Py.out.1.kept hk.k hk.t (fun b hb=>by have:=hnt b hb;omega),?_,?_⟩
  .show rN _ _ _ _ (eH θ.asks θ.na)
   rw[Yj.out]
   exact Py.out.2.kept hk.k hk.t (fun b hb=>by have:=hnt b hb;omega)
  obtain⟨h1,E1,h2,h3⟩:=Ht.kept hk.k hk.t (fun b hb=>by have:=hnt b hb;omega)
  refine⟨h1,E1,h2,h3.congr fun j hj=>?_⟩
  show(if j=θ.i then s.now (dU θ.ver+θ.i)else θ.r j)=if j=31 then X else z j
  by_cases hj2:j=θ.i
  .rw[iP hj2,iP (by rw[hj2,HHI.out]),HX.out]
  rw[iN hj2,iN (by rw[<-HHI.out];exact hj2)]
  exact(HZ.out j (by have:=HHI.out;omega)).symm) ⟨rfl,rfl⟩)
 clear hk hth hrr HC
 go_wp2
 refine bodyPost_end (v:=.tuple #[]) (by simp [results,results138,go_sem]) rfl ?_
 exact⟨rfl,HF.out⟩
end
end
section
section
variable{w0 w:World}{Gu tag:Nat->Nat}{t:Nat}{θ:cQ}{last:Int}{e:mG}{gs mp:Nat}{m:Nat->Int}{pt:Nat->Nat}{s:cN}{st:Int}{E O:Value}{R:Option Addr}{cr:Nat}{D:Option Addr}{cd:Nat}{rows:List (List Value)}{cs:List Cl}{r:List Value}
structure vV (θ:cQ):Prop where
 ok:eE θ.r
 asks:jL θ.asks θ.na
 na:θ.na<=4
 cnt:θ.r 28+θ.na<=1099511627776
 ver:θ.r 27+1<=1099511627776
 vb:θ.ver<=1099511627776
theorem ZX(H:RC w0 Gu w tag t θ last e gs mp m pt s st E O R cr D cd [] cs false)(d:θ.does=6)(hv:oM w tag e.v (130+t) θ.ver)(hL:rN w tag t e.l (eH θ.asks θ.na))(hW:lF w tag t e.w θ.r)(hi:θ.i<4)(j:Int)(hj:j=(θ.i:Int)+1)(hc:vV θ):
 Calls prog 139 #[(e.p,0),(e.q,0),j,(e.l,0),.slice (some ⟨e.w,0,none⟩) 32 32,(e.v,0)] w fun e2 w'=>e2=.returned (.tuple #[])/\gE w0 Gu t last e gs mp pt st E O ⟨m,s,(θ.next 4 8).all t,false⟩ w':=by
 have hnt:∀b,eJ t (tag b)->tag b=110+t\/tag b=120+t:=fun b hb=>hb
 by_cases h4:θ.i+1=4
 .have e1:(θ.next 4 8).all t={θ.recked t with i:=0,does:=8}:=by
   have:θ.next 4 8={θ with i:=0,does:=8}:=iP h4
   rw[this];rfl
  rw[e1]
  refine(OR e H.th (θ.i+1) j I h4 H.t4 hv hL hW hc.ok hc.asks hc.na hc.cnt hc.ver hc.vb).mono ?_
  rintro e2 w' ⟨rfl,tag',env,R',cr',D',cd',rows',hk,hen,hth,hrs,hw⟩
  refine⟨rfl,?_⟩
  have h1:=(H.rowed hk hen hth hrs).as (θ':={θ.recked t with i:=0,does:=8}) (fun _ _=>rfl) rfl
  exact h1.out rfl hw hen
 have e1:(θ.next 4 8).all t={θ with i:=θ.i+1}:=by
  have:θ.next 4 8={θ with i:=θ.i+1}:=iN h4
  rw[this]
  exact iN (by show¬θ.does=8;omega)
 rw[e1]
 refine(zP e H.th (θ.i+1) j I I H.t4).mono ?_
 rintro e2 w' ⟨rfl,tag',R',cr',rows',hk,hth,hrs⟩
 refine⟨rfl,?_⟩
 have h1:=(H.rowed hk ⟨rfl,rfl⟩ hth hrs).as (θ':={θ with i:=θ.i+1}) (fun _ _=>rfl) rfl
 refine h1.out (by simp only[gF,d]) ?_ ⟨rfl,rfl⟩
 simp only[iF,d]
 exact⟨hv.kept hk.k hk.t (fun b hb=>by have:=hnt b hb;omega),hL.kept hk.k hk.t (fun b hb=>by have:=hnt b hb;omega),hW.kept hk.k hk.t (fun b hb=>by have:=hnt b hb;omega)⟩
end
end
section
attribute [local go_sem↓] Go.wp_at_zero Go.wp_at_succ
section
variable{w:World}{tag:Nat->Nat}{t:Nat}{θ:cQ}{last:Int}{e:mG}{gs mp:Nat}{m:Nat->Int}{pt:Nat->Nat}{s:cN}{st:Int}{E O:Value}{R:Option Addr}{cr:Nat}{D:Option Addr}{cd:Nat}{rows:List (List Value)}{cs:List Cl}{r:List Value}
theorem VC (H : RC w tag w tag t θ last e gs mp m pt s st E O R cr D cd rows [] false) (hn : iF w tag t θ e) (d : θ.does = 6) (hr : (Cl.asks θ.i).At w tag e r) (Nk : θ.i < 4) (hm : m (3 + 2 * θ.i) = 0 \/ m (3 + 2 * θ.i) = 1 \/ m (3 + 2 * θ.i) = 2) (hz : ¬ (m (3 + 2 * θ.i) ≠ 0 /\ m (3 + 2 * θ.i) - 1 ≠ jA θ.r θ.i)) (hc : vV θ) :
    ∃ N caps, r = td 6 (fv N caps) /\ Calls Tryz.prog N caps w fun e' w' => e' = .returned (.tuple #[]) /\ gE w tag t last e gs mp pt st E O (stp t m s θ) w' := by
  obtain ⟨bp, bi, bw, bq, bl, bv, rfl, hp, hi, hw, hq, hl, hv⟩ := hr
  refine ⟨_, _, rfl, ?_⟩
  simp only [cR]
  rw [show stp t m s θ = ⟨m, s, (θ.next 4 8).all t, false⟩ by simp only [stp, d]; exact if_neg hz]
  have h4 := H.t4
  have HH := Lib.hid H
  simp only [iF, d] at hn
  obtain ⟨n1, n2, n3⟩ := hn
  have hrw : rows = [] := by have := H.rs.len; simpa using this
  subst hrw
  have cbp : w.cell? ⟨bp, 0, none⟩ = some (.pointer (some ⟨e.p, 0, none⟩)) := hp.cell
  have lbp := hp.2.lt
  have cbq : w.cell? ⟨bq, 0, none⟩ = some (.pointer (some ⟨e.q, 0, none⟩)) := hq.cell
  have lbq := hq.2.lt
  have cbw : w.cell? ⟨bw, 0, none⟩ = some (.slice (some ⟨e.w, 0, none⟩) 32 32) := hw.cell
  have lbw := hw.2.lt
  have cbi := hi.cell
  have lbi := hi.2.lt
  have cbl : w.cell? ⟨bl, 0, none⟩ = some (.pointer (some ⟨e.l, 0, none⟩)) := hl.cell
  have lbl := hl.2.lt
  have cbv : w.cell? ⟨bv, 0, none⟩ = some (.pointer (some ⟨e.v, 0, none⟩)) := hv.cell
  have lbv := hv.2.lt
  have p0 := H.cp0
  have lp := H.sh.lt
  have ls := H.st_.lt
  obtain ⟨wt, We, wb, wu⟩ := n3
  have lw := wb.lt
  have Tn : w.cell? ⟨e.w, 26, none⟩ = some (.int .u64 (θ.r 26)) := by rw [wb.cell, wu.get _ (by omega)]
  have hbd := wu.bd 26 (by omega)
  obtain ⟨bb, hbb⟩ : ∃ bb : Bool, bb = gO (θ.r 26).toNat θ.i := ⟨_, rfl⟩
  have Qf : Hid (∀ W, Calls Tryz.prog 102 #[.int .u64 (θ.r 26), .int .i64 (θ.i : Int)] W fun e w' => e = .returned (.bool bb) /\ Below W.heap.size W w') := Lib.hid (fun W => by
    have := kJ (θ.r 26).toNat (θ.i : Int) W (by omega)
    rw [show (((θ.r 26).toNat : Nat) : Int) = θ.r 26 by omega, <- hbb] at this
    exact this)
  have Np : Hid (jA θ.r θ.i = if bb = true then 1 else 0) := Lib.hid (by unfold jA; rw [hbb])
  have Tm := Lib.hid (show lF w tag t e.w θ.r from ⟨wt, We, wb, wu⟩)
  have HN := Lib.hid (And.intro n1 n2)
  have HZ := Lib.hid hz
  obtain ⟨Gv, hG⟩ : ∃ G : Int, G = m (3 + 2 * θ.i) := ⟨_, rfl⟩
  have crg : w.cell? ⟨e.p, 1 + (3 + 2 * θ.i), none⟩ = some (.int .u64 Gv) := by rw [hG]; exact H.cram (k := 3 + 2 * θ.i) (by omega)
  rw [<- hG] at hm HZ
  have HG := Lib.hid hG
  have HM := Lib.hid hm
  have k1 : IntKind.i64.wrap (2 * (θ.i : Int)) = 2 * θ.i := dE (by omega) (by omega)
  have k2 : IntKind.i64.wrap (2 + 2 * (θ.i : Int)) = 2 + 2 * θ.i := dE (by omega) (by omega)
  have k2b : IntKind.i64.wrap (2 + 2 * (θ.i : Int) + 1) = 2 + 2 * θ.i + 1 := dE (by omega) (by omega)
  have k3 : (2 + 2 * (θ.i : Int) + 1).toNat = 3 + 2 * θ.i := by omega
  have k4 : 2 + 2 * (θ.i : Int) + 1 < 16 := by omega
  have k5 : 0 <= 2 + 2 * (θ.i : Int) + 1 := by omega
  have k6 : IntKind.i64.wrap ((θ.i : Int) + 1) = (θ.i : Int) + 1 := dE (by omega) (by omega)
  have a0 : IntKind.i64.wrap 0 = 0 := by decide
  have a1 : IntKind.i64.wrap 1 = 1 := by decide
  have a2 : IntKind.i64.wrap 2 = 2 := by decide
  have HD := Lib.hid d
  have Tc := Lib.hid Nk
  have Pq := Lib.hid (And.intro hp (And.intro hi (And.intro hw (And.intro hq (And.intro hl hv)))))
  have HCR := Lib.hid hc
  clear H d n1 n2 wt wb wu hbd hbb hz hm hG Nk hp hi hw hq hl hv hc
  go_enter Tryz.func152, Tryz.ntmps152
  obtain ⟨B, hB⟩ : ∃ B : Nat, B = w.heap.size := ⟨_, rfl⟩
  have Ji := Lib.hid hB
  clear hB
  go_wp2
  refine hJ 10 bN [] (by kernel_rfl) (by kernel_rfl) ?_
  intro anc HA
  first | (with_reducible refine aI (fun K hK => ?_)) | (refine aI (fun K hK => ?_))
  refine .inl ?_
  apply Exists.intro
  refine ⟨cX, ?_, hK _ _ _ _ ?_⟩
  . simp only [bW, cM]
    refine ⟨?_, fun w9 Gq Gr => ?_⟩
    . first | rfl | (go_simp; done)
    with_reducible refine cC ?_
    have zcbp := (Gq.cell (p := ⟨bp, 0, none⟩) lbp (fun x => x)).trans cbp
    with_reducible refine cL.mk ?_
    go_simp
    first
    | exact ⟨⟨rfl, trivial⟩, aD.refl _ _⟩
  clear hK K
  try simp only [Act.put, List.setIfInBounds_toArray, List.set_cons_zero, List.set_cons_succ]
  first | (with_reducible refine aI (fun K hK => ?_)) | (refine aI (fun K hK => ?_))
  refine .inl ?_
  apply Exists.intro
  refine ⟨cX, ?_, hK _ _ _ _ ?_⟩
  . simp only [bW, cM]
    refine ⟨?_, fun w9 Gq Gr => ?_⟩
    . first | rfl | (go_simp; done)
    with_reducible refine cC ?_
    have zcbi := (Gq.cell (p := ⟨bi, 0, none⟩) lbi (fun x => x)).trans cbi
    with_reducible refine cL.mk ?_
    go_simp
    first
    | exact ⟨⟨rfl, trivial⟩, aD.refl _ _⟩
  clear hK K
  try simp only [Act.put, List.setIfInBounds_toArray, List.set_cons_zero, List.set_cons_succ]
  first | (with_reducible refine aI (fun K hK => ?_)) | (refine aI (fun K hK => ?_))
  refine .inl ?_
  apply Exists.intro
  refine ⟨cX, ?_, hK _ _ _ _ ?_⟩
  . simp only [bW, cM]
    refine ⟨?_, fun w9 Gq Gr => ?_⟩
    . first | rfl | (go_simp; done)
    go_simp
    first
    | exact ⟨⟨rfl, trivial⟩, aD.refl _ _⟩
  clear hK K
  try simp only [Act.put, List.setIfInBounds_toArray, List.set_cons_zero, List.set_cons_succ]
  first | (with_reducible refine aI (fun K hK => ?_)) | (refine aI (fun K hK => ?_))
  refine .inl ?_
  apply Exists.intro
  refine ⟨cX, ?_, hK _ _ _ _ ?_⟩
  . simp only [bW, cM]
    refine ⟨?_, fun w9 Gq Gr => ?_⟩
    . first | rfl | (go_simp; done)
    go_simp
    first
    | exact ⟨⟨rfl, trivial⟩, aD.refl _ _⟩
  clear hK K
  try simp only [Act.put, List.setIfInBounds_toArray, List.set_cons_zero, List.set_cons_succ]
  first | (with_reducible refine aI (fun K hK => ?_)) | (refine aI (fun K hK => ?_))
  refine .inl ?_
  apply Exists.intro
  refine ⟨cX, ?_, hK _ _ _ _ ?_⟩
  . simp only [bW, cM]
    refine ⟨?_, fun w9 Gq Gr => ?_⟩
    . first | rfl | (go_simp; done)
    go_simp
    first
    | exact ⟨⟨rfl, trivial⟩, aD.refl _ _⟩
  clear hK K
  try simp only [Act.put, List.setIfInBounds_toArray, List.set_cons_zero, List.set_cons_succ]
  first | (with_reducible refine aI (fun K hK => ?_)) | (refine aI (fun K hK => ?_))
  refine .inl ?_
  apply Exists.intro
  refine ⟨cX, ?_, hK _ _ _ _ ?_⟩
  . simp only [bW, cM]
    refine ⟨?_, fun w9 Gq Gr => ?_⟩
    . first | rfl | (go_simp; done)
    go_simp
    first
    | exact ⟨⟨rfl, trivial⟩, aD.refl _ _⟩
  clear hK K
  try simp only [Act.put, List.setIfInBounds_toArray, List.set_cons_zero, List.set_cons_succ]
  first | (with_reducible refine aI (fun K hK => ?_)) | (refine aI (fun K hK => ?_))
  refine .inl ?_
  apply Exists.intro
  refine ⟨cX, ?_, hK _ _ _ _ ?_⟩
  . simp only [bW, cM]
    refine ⟨?_, fun w9 Gq Gr => ?_⟩
    . first | rfl | (go_simp; done)
    go_simp
    first
    | exact ⟨⟨rfl, trivial⟩, aD.refl _ _⟩
  clear hK K
  try simp only [Act.put, List.setIfInBounds_toArray, List.set_cons_zero, List.set_cons_succ]
  first | (with_reducible refine aI (fun K hK => ?_)) | (refine aI (fun K hK => ?_))
  refine .inl ?_
  apply Exists.intro
  refine ⟨cX, ?_, hK _ _ _ _ ?_⟩
  . simp only [bW, cM]
    refine ⟨?_, fun w9 Gq Gr => ?_⟩
    . first | rfl | (go_simp; done)
    go_simp
    first
    | exact ⟨⟨rfl, trivial⟩, aD.refl _ _⟩
  clear hK K
  try simp only [Act.put, List.setIfInBounds_toArray, List.set_cons_zero, List.set_cons_succ]
  first | (with_reducible refine aI (fun K hK => ?_)) | (refine aI (fun K hK => ?_))
  refine .inl ?_
  apply Exists.intro
  refine ⟨cX, ?_, hK _ _ _ _ ?_⟩
  . simp only [bW, cM]
    refine ⟨?_, fun w9 Gq Gr => ?_⟩
    . first | rfl | (go_simp; done)
    with_reducible refine cC ?_
    have zcrg := (Gq.cell (p := ⟨e.p, 1 + (3 + 2 * θ.i), none⟩) lp (fun x => x)).trans crg
    with_reducible refine cL.mk ?_
    go_simp
    first
    | exact ⟨⟨rfl, trivial⟩, aD.refl _ _⟩
  clear hK K
  try simp only [Act.put, List.setIfInBounds_toArray, List.set_cons_zero, List.set_cons_succ]
  first | (with_reducible refine aI (fun K hK => ?_)) | (refine aI (fun K hK => ?_))
  refine .inr (.inr ⟨ZB, (fun _ => TN B 23 #[.int .u64 0]), ⟨_, 0, rfl⟩, ?_, hK _ _ _ _ ?_⟩)
  . simp only [bW, cM]
    refine ⟨?_, fun w9 Gq Gr => ?_⟩
    . first | rfl | (go_simp; done)
    with_reducible refine cC ?_
    have Ie : B <= w9.heap.size := by rw [Ji.out]; exact Gq.size
    with_reducible refine cL.mk ?_
    go_simp
    refine ⟨⟨⟨_, rfl⟩, ⟨_, rfl, aY.new _ _ _, Ie⟩⟩, aD.of_same ((Below.refl _ _).alloc (Nat.le_refl _) _)⟩
  clear hK K
  try simp only [Act.put, List.setIfInBounds_toArray, List.set_cons_zero, List.set_cons_succ]
  refine kS ?_
  simp only [cM]
  rintro _ ⟨b9, rfl⟩ w9 Gq hmet
  simp only [List.drop_succ_cons, List.drop_zero, List.drop, Act.put, List.setIfInBounds_toArray, List.set_cons_zero, List.set_cons_succ]
  with_reducible refine cC ?_
  simp only [BX] at hmet
  obtain ⟨wc, kc, kd, b', Kx, hP, Oj⟩ := hmet.1 trivial
  have e9 : b9 = b' := by
    have h := Kx
    simpa using h
  subst e9
  have kd' := (kd.mono (S' := bN) fun b hb => hb.2).same
  have Pp := hP.below kd' hP.lt
  rw [Ji.out] at Oj
  have Hu : aD bN w (w9.setCell ⟨b9, 0, none⟩ (.int .u64 Gv)) := Gq.setCell (p := ⟨b9, 0, none⟩) (.inr Oj) _
  have cg9 : w9.cell? ⟨b9, 0, none⟩ = some (.int .u64 0) := by rw [Pp.cell]; rfl
  have fg9 := Pp.frozen 0
  have Ym := Lib.hid (Pp.set_ 0 (.int .u64 Gv))
  have Sh : Hid (cG w tag 106 b9 = 106 /\ bI w tag (cG w tag 106)) := Lib.hid ⟨dT _ _ _ Oj, cO _ _ _⟩
  have Hj := Lib.hid Hu
  clear hmet Kx kc kd kd' hP Pp Oj Hu Gq
  with_reducible refine cL.mk ?_
  go_wp2
  generalize w9.setCell ⟨b9, 0, none⟩ (.int .u64 Gv) = w1 at *
  generalize cG w tag 106 = Ha at *
  clear cg9 fg9
  have cw1 := (Hj.out.cell (p := ⟨bw, 0, none⟩) lbw (fun x => x)).trans cbw
  have lw1 := Nat.lt_of_lt_of_le lbw Hj.out.size
  have ci1 := (Hj.out.cell (p := ⟨bi, 0, none⟩) lbi (fun x => x)).trans cbi
  have li1 := Nat.lt_of_lt_of_le lbi Hj.out.size
  have Yf := (Hj.out.cell (p := ⟨e.w, 26, none⟩) lw (fun x => x)).trans Tn
  have lx1 := Nat.lt_of_lt_of_le lw Hj.out.size
  refine bK 5 bN [] (by kernel_rfl) (by kernel_rfl) ?_
  iterate 5
    refine aC (fun K hK => ?_)
    first
    | (refine .inl ?_
       apply Exists.intro
       refine ⟨cX, ?_, hK _ _ _ _ ?_⟩
       . simp only [bJ, bM]
         refine ⟨?_, fun w9 Gq _ => ?_⟩
         . first | rfl | (go_simp; done)
         obtain ⟨Gy, Gz⟩ := Gq.all
         go_simp
         first
         | exact ⟨⟨rfl, trivial⟩, aD.refl _ _⟩
         | (go_at_call 102; exact bS (Qf.out _))
       clear hK K
       try simp only [Act.put, List.setIfInBounds_toArray, List.set_cons_zero, List.set_cons_succ])
    | (refine .inr (.inl ⟨?_, hK _ _ _ _ ?_⟩)
       . simp only [bM]
         first | rfl | (go_simp; done)
       clear hK K
       try simp only [Act.put, List.setIfInBounds_toArray, List.set_cons_zero, List.set_cons_succ])
  refine cP ?_
  simp only [bM]
  intro w9 Gq _
  obtain ⟨Gy, Gz⟩ := Gq.all
  with_reducible refine cC ?_
  have Hy := Lib.hid (Hj.out.trans Gq)
  have HG2 := Lib.hid (Ym.out.below Gq.same Ym.out.lt)
  have cg2 : w9.cell? ⟨b9, 0, none⟩ = some (.int .u64 Gv) := HG2.out.cell 0
  clear cw1 lw1 ci1 li1 Yf lx1 Gy Gz Gq Ym Hj
  obtain ⟨w2, Zg⟩ : ∃ w2, w2 = w9 := ⟨_, rfl⟩
  subst Zg
  have H2 := Lib.hid (HH.out.kept Hy.out Sh.out.2 (fun _ x => x.elim))
  have cp2 := (Hy.out.cell (p := ⟨bp, 0, none⟩) lbp (fun x => x)).trans cbp
  have cq2 := (Hy.out.cell (p := ⟨bq, 0, none⟩) lbq (fun x => x)).trans cbq
  have ci2 := (Hy.out.cell (p := ⟨bi, 0, none⟩) lbi (fun x => x)).trans cbi
  have cl2 := (Hy.out.cell (p := ⟨bl, 0, none⟩) lbl (fun x => x)).trans cbl
  have cw2 := (Hy.out.cell (p := ⟨bw, 0, none⟩) lbw (fun x => x)).trans cbw
  have cv2 := (Hy.out.cell (p := ⟨bv, 0, none⟩) lbv (fun x => x)).trans cbv
  have Wn := Lib.hid (And.intro (HN.out.1.kept Hy.out Sh.out.2 (fun _ x => x.elim)) (And.intro (HN.out.2.kept Hy.out Sh.out.2 (fun _ x => x.elim)) (Tm.out.kept Hy.out Sh.out.2 (fun _ x => x.elim))))
  clear cbp cbq cbi cbl cbw cbv crg Tn p0
  have HC := Lib.hid (ZX H2.out HD.out Wn.out.1 Wn.out.2.1 Wn.out.2.2 Tc.out ((θ.i : Int) + 1) rfl HCR.out)
  have HZ2 : Hid (Gv = 0 \/ Gv - 1 = if bb = true then 1 else 0) := Lib.hid (by
    rcases Classical.em (Gv = 0) with h | h
    . exact .inl h
    . refine .inr ?_
      rw [<- Np.out]
      exact Classical.byContradiction fun h2 => HZ.out ⟨h, h2⟩)
  simp only [List.drop_succ_cons, List.drop_zero, List.drop]
  rcases HM.out with h0 | h0 | h0 <;> cases bb
  all_goals subst h0
  all_goals first
    | (exfalso; have := HZ2.out; simp at this; done)
    | (with_reducible refine cL.mk ?_
       go_wp2_with fail
       with_reducible refine HC.out.mono ?_
       rintro e2 w3 ⟨rfl, hR⟩
       have HF := Lib.hid hR
       clear hR HC
       go_wp2
       refine bodyPost_ret (v := .tuple #[]) (by simp [results, Tryz.results152, go_sem]) rfl ?_
       exact ⟨rfl, HF.out⟩)
theorem UV (H : RC w tag w tag t θ last e gs mp m pt s st E O R cr D cd rows [] false) (hn : iF w tag t θ e) (d : θ.does = 6) (hr : (Cl.asks θ.i).At w tag e r) (Nk : θ.i < 4) (hm : m (3 + 2 * θ.i) = 0 \/ m (3 + 2 * θ.i) = 1 \/ m (3 + 2 * θ.i) = 2) (hz : m (3 + 2 * θ.i) ≠ 0 /\ m (3 + 2 * θ.i) - 1 ≠ jA θ.r θ.i) :
    ∃ N caps, r = td 6 (fv N caps) /\ Calls Tryz.prog N caps w fun e' w' => e' = .returned (.tuple #[]) /\ gE w tag t last e gs mp pt st E O (stp t m s θ) w' := by
  obtain ⟨bp, bi, bw, bq, bl, bv, rfl, hp, hi, hw, hq, hl, hv⟩ := hr
  refine ⟨_, _, rfl, ?_⟩
  simp only [cR]
  rw [show stp t m s θ = ⟨m, s, θ.ask (m (3 + 2 * θ.i) - 1), false⟩ by simp only [stp, d]; exact if_pos hz]
  have h4 := H.t4
  have HH := Lib.hid H
  simp only [iF, d] at hn
  obtain ⟨n1, n2, n3⟩ := hn
  have hrw : rows = [] := by have := H.rs.len; simpa using this
  subst hrw
  have cbp : w.cell? ⟨bp, 0, none⟩ = some (.pointer (some ⟨e.p, 0, none⟩)) := hp.cell
  have lbp := hp.2.lt
  have cbq : w.cell? ⟨bq, 0, none⟩ = some (.pointer (some ⟨e.q, 0, none⟩)) := hq.cell
  have lbq := hq.2.lt
  have cbw : w.cell? ⟨bw, 0, none⟩ = some (.slice (some ⟨e.w, 0, none⟩) 32 32) := hw.cell
  have lbw := hw.2.lt
  have cbi := hi.cell
  have lbi := hi.2.lt
  have cbl : w.cell? ⟨bl, 0, none⟩ = some (.pointer (some ⟨e.l, 0, none⟩)) := hl.cell
  have lbl := hl.2.lt
  have cbv : w.cell? ⟨bv, 0, none⟩ = some (.pointer (some ⟨e.v, 0, none⟩)) := hv.cell
  have lbv := hv.2.lt
  have p0 := H.cp0
  have lp := H.sh.lt
  have ls := H.st_.lt
  obtain ⟨wt, We, wb, wu⟩ := n3
  have lw := wb.lt
  have Tn : w.cell? ⟨e.w, 26, none⟩ = some (.int .u64 (θ.r 26)) := by rw [wb.cell, wu.get _ (by omega)]
  have hbd := wu.bd 26 (by omega)
  obtain ⟨bb, hbb⟩ : ∃ bb : Bool, bb = gO (θ.r 26).toNat θ.i := ⟨_, rfl⟩
  have Qf : Hid (∀ W, Calls Tryz.prog 102 #[.int .u64 (θ.r 26), .int .i64 (θ.i : Int)] W fun e w' => e = .returned (.bool bb) /\ Below W.heap.size W w') := Lib.hid (fun W => by
    have := kJ (θ.r 26).toNat (θ.i : Int) W (by omega)
    rw [show (((θ.r 26).toNat : Nat) : Int) = θ.r 26 by omega, <- hbb] at this
    exact this)
  have Np : Hid (jA θ.r θ.i = if bb = true then 1 else 0) := Lib.hid (by unfold jA; rw [hbb])
  have Tm := Lib.hid (show lF w tag t e.w θ.r from ⟨wt, We, wb, wu⟩)
  have HN := Lib.hid (And.intro n1 n2)
  have HZ := Lib.hid hz
  obtain ⟨Gv, hG⟩ : ∃ G : Int, G = m (3 + 2 * θ.i) := ⟨_, rfl⟩
  have crg : w.cell? ⟨e.p, 1 + (3 + 2 * θ.i), none⟩ = some (.int .u64 Gv) := by rw [hG]; exact H.cram (k := 3 + 2 * θ.i) (by omega)
  rw [<- hG] at hm ⊢ HZ
  have HG := Lib.hid hG
  have HM := Lib.hid hm
  have k1 : IntKind.i64.wrap (2 * (θ.i : Int)) = 2 * θ.i := dE (by omega) (by omega)
  have k2 : IntKind.i64.wrap (2 + 2 * (θ.i : Int)) = 2 + 2 * θ.i := dE (by omega) (by omega)
  have k2b : IntKind.i64.wrap (2 + 2 * (θ.i : Int) + 1) = 2 + 2 * θ.i + 1 := dE (by omega) (by omega)
  have k3 : (2 + 2 * (θ.i : Int) + 1).toNat = 3 + 2 * θ.i := by omega
  have k4 : 2 + 2 * (θ.i : Int) + 1 < 16 := by omega
  have k5 : 0 <= 2 + 2 * (θ.i : Int) + 1 := by omega
  have k6 : IntKind.i64.wrap ((θ.i : Int) + 1) = (θ.i : Int) + 1 := dE (by omega) (by omega)
  have a0 : IntKind.i64.wrap 0 = 0 := by decide
  have a1 : IntKind.i64.wrap 1 = 1 := by decide
  have a2 : IntKind.i64.wrap 2 = 2 := by decide
  have HD := Lib.hid d
  have Tc := Lib.hid Nk
  have Pq := Lib.hid (And.intro hp (And.intro hi (And.intro hw (And.intro hq (And.intro hl hv)))))
  clear H d n1 n2 wt wb wu hbd hbb hz hm hG Nk hp hi hw hq hl hv
  go_enter Tryz.func152, Tryz.ntmps152
  obtain ⟨B, hB⟩ : ∃ B : Nat, B = w.heap.size := ⟨_, rfl⟩
  have Ji := Lib.hid hB
  clear hB
  go_wp2
  refine hJ 10 bN [] (by kernel_rfl) (by kernel_rfl) ?_
  intro anc HA
  first | (with_reducible refine aI (fun K hK => ?_)) | (refine aI (fun K hK => ?_))
  refine .inl ?_
  apply Exists.intro
  refine ⟨cX, ?_, hK _ _ _ _ ?_⟩
  . simp only [bW, cM]
    refine ⟨?_, fun w9 Gq Gr => ?_⟩
    . first | rfl | (go_simp; done)
    with_reducible refine cC ?_
    have zcbp := (Gq.cell (p := ⟨bp, 0, none⟩) lbp (fun x => x)).trans cbp
    with_reducible refine cL.mk ?_
    go_simp
    first
    | exact ⟨⟨rfl, trivial⟩, aD.refl _ _⟩
  clear hK K
  try simp only [Act.put, List.setIfInBounds_toArray, List.set_cons_zero, List.set_cons_succ]
  first | (with_reducible refine aI (fun K hK => ?_)) | (refine aI (fun K hK => ?_))
  refine .inl ?_
  apply Exists.intro
  refine ⟨cX, ?_, hK _ _ _ _ ?_⟩
  . simp only [bW, cM]
    refine ⟨?_, fun w9 Gq Gr => ?_⟩
    . first | rfl | (go_simp; done)
    with_reducible refine cC ?_
    have zcbi := (Gq.cell (p := ⟨bi, 0, none⟩) lbi (fun x => x)).trans cbi
    with_reducible refine cL.mk ?_
    go_simp
    first
    | exact ⟨⟨rfl, trivial⟩, aD.refl _ _⟩
  clear hK K
  try simp only [Act.put, List.setIfInBounds_toArray, List.set_cons_zero, List.set_cons_succ]
  first | (with_reducible refine aI (fun K hK => ?_)) | (refine aI (fun K hK => ?_))
  refine .inl ?_
  apply Exists.intro
  refine ⟨cX, ?_, hK _ _ _ _ ?_⟩
  . simp only [bW, cM]
    refine ⟨?_, fun w9 Gq Gr => ?_⟩
    . first | rfl | (go_simp; done)
    go_simp
    first
    | exact ⟨⟨rfl, trivial⟩, aD.refl _ _⟩
  clear hK K
  try simp only [Act.put, List.setIfInBounds_toArray, List.set_cons_zero, List.set_cons_succ]
  first | (with_reducible refine aI (fun K hK => ?_)) | (refine aI (fun K hK => ?_))
  refine .inl ?_
  apply Exists.intro
  refine ⟨cX, ?_, hK _ _ _ _ ?_⟩
  . simp only [bW, cM]
    refine ⟨?_, fun w9 Gq Gr => ?_⟩
    . first | rfl | (go_simp; done)
    go_simp
    first
    | exact ⟨⟨rfl, trivial⟩, aD.refl _ _⟩
  clear hK K
  try simp only [Act.put, List.setIfInBounds_toArray, List.set_cons_zero, List.set_cons_succ]
  first | (with_reducible refine aI (fun K hK => ?_)) | (refine aI (fun K hK => ?_))
  refine .inl ?_
  apply Exists.intro
  refine ⟨cX, ?_, hK _ _ _ _ ?_⟩
  . simp only [bW, cM]
    refine ⟨?_, fun w9 Gq Gr => ?_⟩
    . first | rfl | (go_simp; done)
    go_simp
    first
    | exact ⟨⟨rfl, trivial⟩, aD.refl _ _⟩
  clear hK K
  try simp only [Act.put, List.setIfInBounds_toArray, List.set_cons_zero, List.set_cons_succ]
  first | (with_reducible refine aI (fun K hK => ?_)) | (refine aI (fun K hK => ?_))
  refine .inl ?_
  apply Exists.intro
  refine ⟨cX, ?_, hK _ _ _ _ ?_⟩
  . simp only [bW, cM]
    refine ⟨?_, fun w9 Gq Gr => ?_⟩
    . first | rfl | (go_simp; done)
    go_simp
    first
    | exact ⟨⟨rfl, trivial⟩, aD.refl _ _⟩
  clear hK K
  try simp only [Act.put, List.setIfInBounds_toArray, List.set_cons_zero, List.set_cons_succ]
  first | (with_reducible refine aI (fun K hK => ?_)) | (refine aI (fun K hK => ?_))
  refine .inl ?_
  apply Exists.intro
  refine ⟨cX, ?_, hK _ _ _ _ ?_⟩
  . simp only [bW, cM]
    refine ⟨?_, fun w9 Gq Gr => ?_⟩
    . first | rfl | (go_simp; done)
    go_simp
    first
    | exact ⟨⟨rfl, trivial⟩, aD.refl _ _⟩
  clear hK K
  try simp only [Act.put, List.setIfInBounds_toArray, List.set_cons_zero, List.set_cons_succ]
  first | (with_reducible refine aI (fun K hK => ?_)) | (refine aI (fun K hK => ?_))
  refine .inl ?_
  apply Exists.intro
  refine ⟨cX, ?_, hK _ _ _ _ ?_⟩
  . simp only [bW, cM]
    refine ⟨?_, fun w9 Gq Gr => ?_⟩
    . first | rfl | (go_simp; done)
    go_simp
    first
    | exact ⟨⟨rfl, trivial⟩, aD.refl _ _⟩
  clear hK K
  try simp only [Act.put, List.setIfInBounds_toArray, List.set_cons_zero, List.set_cons_succ]
  first | (with_reducible refine aI (fun K hK => ?_)) | (refine aI (fun K hK => ?_))
  refine .inl ?_
  apply Exists.intro
  refine ⟨cX, ?_, hK _ _ _ _ ?_⟩
  . simp only [bW, cM]
    refine ⟨?_, fun w9 Gq Gr => ?_⟩
    . first | rfl | (go_simp; done)
    with_reducible refine cC ?_
    have zcrg := (Gq.cell (p := ⟨e.p, 1 + (3 + 2 * θ.i), none⟩) lp (fun x => x)).trans crg
    with_reducible refine cL.mk ?_
    go_simp
    first
    | exact ⟨⟨rfl, trivial⟩, aD.refl _ _⟩
  clear hK K
  try simp only [Act.put, List.setIfInBounds_toArray, List.set_cons_zero, List.set_cons_succ]
  first | (with_reducible refine aI (fun K hK => ?_)) | (refine aI (fun K hK => ?_))
  refine .inr (.inr ⟨ZB, (fun _ => TN B 23 #[.int .u64 0]), ⟨_, 0, rfl⟩, ?_, hK _ _ _ _ ?_⟩)
  . simp only [bW, cM]
    refine ⟨?_, fun w9 Gq Gr => ?_⟩
    . first | rfl | (go_simp; done)
    with_reducible refine cC ?_
    have Ie : B <= w9.heap.size := by rw [Ji.out]; exact Gq.size
    with_reducible refine cL.mk ?_
    go_simp
    refine ⟨⟨⟨_, rfl⟩, ⟨_, rfl, aY.new _ _ _, Ie⟩⟩, aD.of_same ((Below.refl _ _).alloc (Nat.le_refl _) _)⟩
  clear hK K
  try simp only [Act.put, List.setIfInBounds_toArray, List.set_cons_zero, List.set_cons_succ]
  refine kS ?_
  simp only [cM]
  rintro _ ⟨b9, rfl⟩ w9 Gq hmet
  simp only [List.drop_succ_cons, List.drop_zero, List.drop, Act.put, List.setIfInBounds_toArray, List.set_cons_zero, List.set_cons_succ]
  with_reducible refine cC ?_
  simp only [BX] at hmet
  obtain ⟨wc, kc, kd, b', Kx, hP, Oj⟩ := hmet.1 trivial
  have e9 : b9 = b' := by
    have h := Kx
    simpa using h
  subst e9
  have kd' := (kd.mono (S' := bN) fun b hb => hb.2).same
  have Pp := hP.below kd' hP.lt
  rw [Ji.out] at Oj
  have Hu : aD bN w (w9.setCell ⟨b9, 0, none⟩ (.int .u64 Gv)) := Gq.setCell (p := ⟨b9, 0, none⟩) (.inr Oj) _
  have cg9 : w9.cell? ⟨b9, 0, none⟩ = some (.int .u64 0) := by rw [Pp.cell]; rfl
  have fg9 := Pp.frozen 0
  have Ym := Lib.hid (Pp.set_ 0 (.int .u64 Gv))
  have Sh : Hid (cG w tag 106 b9 = 106 /\ bI w tag (cG w tag 106)) := Lib.hid ⟨dT _ _ _ Oj, cO _ _ _⟩
  have Hj := Lib.hid Hu
  clear hmet Kx kc kd kd' hP Pp Oj Hu Gq
  with_reducible refine cL.mk ?_
  go_wp2
  generalize w9.setCell ⟨b9, 0, none⟩ (.int .u64 Gv) = w1 at *
  generalize cG w tag 106 = Ha at *
  clear cg9 fg9
  have cw1 := (Hj.out.cell (p := ⟨bw, 0, none⟩) lbw (fun x => x)).trans cbw
  have lw1 := Nat.lt_of_lt_of_le lbw Hj.out.size
  have ci1 := (Hj.out.cell (p := ⟨bi, 0, none⟩) lbi (fun x => x)).trans cbi
  have li1 := Nat.lt_of_lt_of_le lbi Hj.out.size
  have Yf := (Hj.out.cell (p := ⟨e.w, 26, none⟩) lw (fun x => x)).trans Tn
  have lx1 := Nat.lt_of_lt_of_le lw Hj.out.size
  refine bK 5 bN [] (by kernel_rfl) (by kernel_rfl) ?_
  iterate 5
    refine aC (fun K hK => ?_)
    first
    | (refine .inl ?_
       apply Exists.intro
       refine ⟨cX, ?_, hK _ _ _ _ ?_⟩
       . simp only [bJ, bM]
         refine ⟨?_, fun w9 Gq _ => ?_⟩
         . first | rfl | (go_simp; done)
         obtain ⟨Gy, Gz⟩ := Gq.all
         go_simp
         first
         | exact ⟨⟨rfl, trivial⟩, aD.refl _ _⟩
         | (go_at_call 102; exact bS (Qf.out _))
       clear hK K
       try simp only [Act.put, List.setIfInBounds_toArray, List.set_cons_zero, List.set_cons_succ])
    | (refine .inr (.inl ⟨?_, hK _ _ _ _ ?_⟩)
       . simp only [bM]
         first | rfl | (go_simp; done)
       clear hK K
       try simp only [Act.put, List.setIfInBounds_toArray, List.set_cons_zero, List.set_cons_succ])
  refine cP ?_
  simp only [bM]
  intro w9 Gq _
  obtain ⟨Gy, Gz⟩ := Gq.all
  with_reducible refine cC ?_
  have Hy := Lib.hid (Hj.out.trans Gq)
  have HG2 := Lib.hid (Ym.out.below Gq.same Ym.out.lt)
  have cg2 : w9.cell? ⟨b9, 0, none⟩ = some (.int .u64 Gv) := HG2.out.cell 0
  clear cw1 lw1 ci1 li1 Yf lx1 Gy Gz Gq Ym Hj
  obtain ⟨w2, Zg⟩ : ∃ w2, w2 = w9 := ⟨_, rfl⟩
  subst Zg
  have H2 := Lib.hid (HH.out.kept Hy.out Sh.out.2 (fun _ x => x.elim))
  have cp2 := (Hy.out.cell (p := ⟨bp, 0, none⟩) lbp (fun x => x)).trans cbp
  have cq2 := (Hy.out.cell (p := ⟨bq, 0, none⟩) lbq (fun x => x)).trans cbq
  have ci2 := (Hy.out.cell (p := ⟨bi, 0, none⟩) lbi (fun x => x)).trans cbi
  have cl2 := (Hy.out.cell (p := ⟨bl, 0, none⟩) lbl (fun x => x)).trans cbl
  have cw2 := (Hy.out.cell (p := ⟨bw, 0, none⟩) lbw (fun x => x)).trans cbw
  have cv2 := (Hy.out.cell (p := ⟨bv, 0, none⟩) lbv (fun x => x)).trans cbv
  have Wn := Lib.hid (And.intro (HN.out.1.kept Hy.out Sh.out.2 (fun _ x => x.elim)) (And.intro (HN.out.2.kept Hy.out Sh.out.2 (fun _ x => x.elim)) (Tm.out.kept Hy.out Sh.out.2 (fun _ x => x.elim))))
  clear cbp cbq cbi cbl cbw cbv crg Tn p0
  have HC := Lib.hid (jF H2.out.th 7 153 #[.pointer (some ⟨bp, 0, none⟩), .pointer (some ⟨bi, 0, none⟩), .pointer (some ⟨bl, 0, none⟩), .pointer (some ⟨b9, 0, none⟩), .pointer (some ⟨bq, 0, none⟩), .pointer (some ⟨bw, 0, none⟩), .pointer (some ⟨bv, 0, none⟩)] 7 rfl (by simp))
  have HZ2 : Hid (Gv ≠ 0 /\ Gv - 1 ≠ if bb = true then 1 else 0) := Lib.hid (by rw [<- Np.out]; exact HZ.out)
  have lq2 := Nat.lt_of_lt_of_le lbq Hy.out.size
  have HCL := Lib.hid (show (Cl.fetch θ.i (Gv - 1 + 1)).At w2 Ha e (td 7 (fv 153 #[.pointer (some ⟨bp, 0, none⟩), .pointer (some ⟨bi, 0, none⟩), .pointer (some ⟨bl, 0, none⟩), .pointer (some ⟨b9, 0, none⟩), .pointer (some ⟨bq, 0, none⟩), .pointer (some ⟨bw, 0, none⟩), .pointer (some ⟨bv, 0, none⟩)])) from by
    have K : ∀ {b ty v}, RO w tag b ty v -> RO w2 Ha b ty v := fun h => h.kept Hy.out Sh.out.2 (fun _ x => x.elim)
    obtain ⟨y1, y2, y3, y4, y5, y6⟩ := Pq.out
    exact ⟨bp, bi, bl, b9, bq, bw, bv, rfl, K y1, K y2, K y5, ⟨Sh.out.1, by rw [show Gv - 1 + 1 = Gv by omega]; exact HG2.out⟩, K y4, K y3, K y6⟩)
  have Zw := Lib.hid (fun (w3 : World) (Kc : Nat -> Nat) (R3 : Option Addr) (Uj : Nat) (hk : Kg (eJ t) w2 Ha w3 Kc) (hth : lT w3 Kc t θ last e.q R3 Uj D cd ([] ++ [td 7 (fv 153 #[.pointer (some ⟨bp, 0, none⟩), .pointer (some ⟨bi, 0, none⟩), .pointer (some ⟨bl, 0, none⟩), .pointer (some ⟨b9, 0, none⟩), .pointer (some ⟨bq, 0, none⟩), .pointer (some ⟨bw, 0, none⟩), .pointer (some ⟨bv, 0, none⟩)])]) false) => show gE w tag t last e gs mp pt st E O ⟨m, s, θ.ask (Gv - 1), false⟩ w3 from by
    have hnt : ∀ b, eJ t (Ha b) -> Ha b = 110 + t \/ Ha b = 120 + t := fun b hb => hb
    have hrs : dD w3 Kc e [.fetch θ.i (Gv - 1 + 1)] ([] ++ [td 7 (fv 153 #[.pointer (some ⟨bp, 0, none⟩), .pointer (some ⟨bi, 0, none⟩), .pointer (some ⟨bl, 0, none⟩), .pointer (some ⟨b9, 0, none⟩), .pointer (some ⟨bq, 0, none⟩), .pointer (some ⟨bw, 0, none⟩), .pointer (some ⟨bv, 0, none⟩)])]) := ⟨HCL.out.kept hk.k hk.t (fun b hb => by have := hnt b hb; omega), trivial⟩
    have h1 := (H2.out.rowed hk ⟨rfl, rfl⟩ hth hrs).as (θ' := θ.ask (Gv - 1)) (fun _ _ => rfl) rfl
    refine h1.out ?_ ?_ ⟨rfl, rfl⟩
    . show [Cl.fetch θ.i ((if θ.na + 1 - 1 = θ.na then Gv - 1 else θ.asks (θ.na + 1 - 1) 1) + 1)] = _
      rw [if_pos (by omega)]
    . show _ /\ _
      refine ⟨Wn.out.1.kept hk.k hk.t (fun b hb => by have := hnt b hb; omega), ?_, Wn.out.2.2.kept hk.k hk.t (fun b hb => by have := hnt b hb; omega)⟩
      have hl := Wn.out.2.1.kept hk.k hk.t (fun b hb => by have := hnt b hb; omega)
      have e1 : eH (θ.ask (Gv - 1)).asks ((θ.ask (Gv - 1)).na - 1) = eH θ.asks θ.na := by
        show eH _ (θ.na + 1 - 1) = _
        rw [Nat.add_sub_cancel]
        exact pQ (fun j hj c _ => by show (if j = θ.na then _ else _) = _; rw [if_neg (by omega)])
      rw [e1]
      exact hl)
  clear HCL Wn Pq Sh HG2 Hy
  simp only [List.drop_succ_cons, List.drop_zero, List.drop]
  rcases HM.out with h0 | h0 | h0 <;> cases bb
  all_goals subst h0
  all_goals first
    | (exfalso; have := HZ2.out; simp at this; done)
    | (with_reducible refine cL.mk ?_
       have hmf := KH
       go_wp2_with fail
       with_reducible refine HC.out.mono ?_
       rintro e2 w3 ⟨rfl, Kc, R3, Uj, hk, hth⟩
       have HF := Lib.hid (Zw.out _ _ _ _ hk hth)
       clear hk hth HC Zw
       go_wp2
       refine bodyPost_end (v := .tuple #[]) (by simp [results, Tryz.results152, go_sem]) rfl ?_
       exact ⟨rfl, HF.out⟩)
end
end
end Go.Proofs.YtplpimkgihnmhaaGreatDoor
