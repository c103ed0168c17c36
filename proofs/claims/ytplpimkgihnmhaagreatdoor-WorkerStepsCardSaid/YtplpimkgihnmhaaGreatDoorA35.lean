/-
  Part of a proof: ShL ShG. For all values.
-/
import Derived.Test.YtplpimkgihnmhaaGreatDoorA28
set_option maxRecDepth 100000
set_option maxHeartbeats 400000
set_option linter.all false
namespace Go.Proofs.YtplpimkgihnmhaaGreatDoor
open Go.Proofs.Tryz Go.RowKit
section
attribute [local go_sem↓] Go.wp_at_zero Go.wp_at_succ
section
variable{w:World}{tag:Nat->Nat}{t gw gm gs:Nat}{θ:cQ}{A D:Option Addr}{ca cd:Nat}{m:Nat->Int}{s:cN}
theorem Ao(hW:gJ w tag t θ gw A ca D cd)(hR:fE w tag m gm)(hS:iQ w tag s gs)(ht:t<4)(d:θ.does=2)(hg:θ.tg=0\/θ.tg=1):
 Calls prog 62 #[(gw,0),(gm,0)] w fun e w'=>e=.returned (.tuple #[])/\iZ w tag t gw gm gs (stp t m s θ) w':=by
 rw[show stp t m s θ=⟨eI m (3+2*t) (θ.tg+1),s,{θ with said:=true,does:=3},false⟩ by simp only[stp,d]]
 have H0:=aH (WS.start hW hR hS)
 have HD:=aH d
 have c1:w.cell? (gw,1)=(2:Int):=H0.c1 HD
 have c0:w.cell? (gw,0)=t:=H0.c 0 I
 have c5:w.cell? (gw,5)=θ.tg:=H0.c 5 I
 have hlt:=H0.lt
 have f1:=H0.f 1
 have HM:=aH (show fE w tag m gm from hR)
 have hng:¬cI gm gw:=fun e=>by have h1:=hW.tg;have h2:=hR.1;rw[show gw=gm from e]at h1;omega
 have t1:0<=θ.tg:=I
 have t2:θ.tg<=1:=I
 have HG:=aH hg
 clear hg
 have k1:IntKind.i64.wrap (2*(t:Int))=2*t:=dE I I
 have k2:IntKind.i64.wrap (2+2*(t:Int))=2+2*t:=dE I I
 have k3:IntKind.i64.wrap (2+2*(t:Int)+1)=2+2*t+1:=dE I I
 have k4:=sS I I
 have k5:IntKind.u64.wrap (θ.tg+1)=θ.tg+1:=sS I I
 clear hW hR hS d
 go_enter func62,ntmps62
 go_wp2
 refine bK 15 (cI gm) [14] J J ?_
 iterate 14
  refine aR ?_;constructor
  .intro w9 Gq Gw
   refine aS ?_
   have q0:=(Gq.cell (p:=⟨gw,0,none⟩) hlt hng).trans c0
   have q5:=(Gq.cell (p:=⟨gw,5,none⟩) hlt hng).trans c5
   refine aW ?_
   go_simp
   first
   |exact aE
 refine bA (.nilIface) (fun _ w'=>WS w w' tag t θ gw A ca D cd (eI m (3+2*t) (θ.tg+1)) gm s gs) ?_ ?_
 .intro w9 Gq Gw
  refine aS ?_
  have H9:=aH (H0.below (cA Gw.1 J))
  have HV:=aH (H9.rsave (i:=3+2*t) I (x:=θ.tg+1) I (2+2*(t:Int)+1) I)
  refine aW ?_
  go_simp
  go_at_call 78
  refine HV.mono ?_
  rintro e Qw ⟨rfl,h1,h2⟩
  exact⟨_,rfl,⟨rfl,h1⟩,h2⟩
 refine aZ ?_
 rintro w1 Gq hmet
 refine aQ ?_
 refine aS ?_
 obtain⟨wx,k0,k1,hf⟩:=hmet.1 rfl
 have H1:=aH (hf.below (cA k1 J))
 clear hmet hf k0 k1 wx
 refine aW ?_
 have c6:w1.cell? (gw,6)=θ.said:=H1.c 6 I
 have f6:=H1.f 6
 have Uw:=H1.lt
 have H2:=aH (H1.own (θ':={θ with said:=true}) (SH _ _ _ _ true) rfl rfl rfl)
 have Qd:(w1.setCell (gw,6) true).cell? (gw,1)=(2:Int):=H2.c1 HD
 have Nq:=H2.f 1
 have HF:=aH ((H2.does 3).out false)
 go_wp2
 refine bodyPost_end (v:=.tuple #[]) (by simp [results,results62,go_sem]) rfl ⟨rfl,HF.out⟩
theorem XG(hW:gJ w tag t θ gw A ca D cd)(hR:fE w tag m gm)(hS:iQ w tag s gs)(ht:t<4)(d:θ.does=3)(hz:m 0≠0):
 Calls prog 62 #[(gw,0),(gm,0)] w fun e w'=>e=.returned (.tuple #[])/\iZ w tag t gw gm gs (stp t m s θ) w':=by
 rw[show stp t m s θ=⟨m,s,θ.go 17,false⟩ by simp only[stp,d];rw[iN hz]]
 have H0:=aH (WS.start hW hR hS)
 have HD:=aH d
 have c1:w.cell? (gw,1)=(3:Int):=H0.c1 HD
 have c0:w.cell? (gw,0)=t:=H0.c 0 I
 have hlt:=H0.lt
 have f1:=H0.f 1
 have HV:=aH (H0.rswapN (x:=(t:Int)+1) hz)
 have HF:=aH ((H0.does 17).out false)
 clear hz
 clear hW hR hS d
 go_enter func62,ntmps62
 go_wp2_with fail
 with_reducible refine HV.out.mono ?_
 rintro e w1 ⟨rfl,rfl⟩
 go_wp2
 refine bodyPost_ret (v:=.tuple #[]) (by simp [results,results62,go_sem]) rfl ⟨rfl,HF.out⟩
theorem WE(hW:gJ w tag t θ gw A ca D cd)(hR:fE w tag m gm)(hS:iQ w tag s gs)(ht:t<4)(d:θ.does=3)(hz:m 0=0):
 Calls prog 62 #[(gw,0),(gm,0)] w fun e w'=>e=.returned (.tuple #[])/\iZ w tag t gw gm gs (stp t m s θ) w':=by
 rw[show stp t m s θ=⟨eI m 0 (t+1),s,θ.go 4,false⟩ by simp only[stp,d];rw[iP hz]]
 have H0:=aH (WS.start hW hR hS)
 have HD:=aH d
 have c1:w.cell? (gw,1)=(3:Int):=H0.c1 HD
 have c0:w.cell? (gw,0)=t:=H0.c 0 I
 have hlt:=H0.lt
 have f1:=H0.f 1
 have HV:=aH (H0.rswapY (x:=(t:Int)+1) I hz)
 clear hz
 clear hW hR hS d
 go_enter func62,ntmps62
 go_wp2_with fail
 with_reducible refine HV.out.mono ?_
 rintro e w1 ⟨rfl,h1⟩
 have H1:=aH h1
 clear h1 HV
 have Qd:w1.cell? (gw,1)=(3:Int):=H1.c1 HD
 have Nq:=H1.f 1
 have hlb:=H1.lt
 have HF:=aH ((H1.does 4).out false)
 go_wp2
 refine bodyPost_end (v:=.tuple #[]) (by simp [results,results62,go_sem]) rfl ⟨rfl,HF.out⟩
theorem XJ(hW:gJ w tag t θ gw A ca D cd)(hR:fE w tag m gm)(hS:iQ w tag s gs)(ht:t<4)(d:θ.does=8)(hi:θ.i<32)(hv:θ.ver<1099511627776):
 Calls prog 64 #[(gw,0),(gs,0)] w fun e w'=>e=.returned (.tuple #[])/\iZ w tag t gw gm gs (stp t m s θ) w':=by
 rw[show stp t m s θ=⟨m,s.save (dU (θ.ver+1)+θ.i) (θ.r θ.i),θ.next 32 9,false⟩ by simp only[stp,d]]
 have H0:=aH (WS.start hW hR hS)
 have HD:=aH d
 have c1:w.cell? (gw,1)=(8:Int):=H0.c1 HD
 have c7:w.cell? (gw,7)=θ.i:=H0.c 7 I
 have c8:w.cell? (gw,8)=[θ.ver]:=H0.c 8 I
 have hlt:=H0.lt
 have f1:=H0.f 1
 have hng:¬cI gs gw:=fun e=>by have h1:=hW.tg;have h2:=hS.1;rw[show gw=gs from e]at h1;omega
 have c9:w.cell? (gw,9+θ.i)=[θ.r θ.i]:=by rw[H0.wk.blk.cell,ZR _ _ _ _ hi]
 obtain⟨B,hB⟩:=aO (dU (θ.ver+1):Nat)
 have Jg:B<=40:=by rw[hB];unfold dU;omega
 have HB:=aH hB
 rw[<-hB]
 clear hB
 have i32:(θ.i:Int)<32:=I
 have kv:IntKind.u64.wrap ((θ.ver:Int)+1)=(θ.ver:Int)+1:=sS I I
 have kb:IntKind.i64.wrap ((B:Int)+(θ.i:Int))=(B:Int)+θ.i:=dE I I
 clear hW hR hS d
 go_enter func64,ntmps64
 go_wp2
 refine bK 22 (cI gs) [21] J J ?_
 iterate 21
  refine aR ?_;constructor
  .intro w9 Gq Gw
   refine aS ?_
   have q7:=(Gq.cell (p:=⟨gw,7,none⟩) hlt hng).trans c7
   have q8:=(Gq.cell (p:=⟨gw,8,none⟩) hlt hng).trans c8
   have q9:=(Gq.cell (p:=⟨gw,9+θ.i,none⟩) hlt hng).trans c9
   refine aW ?_
   go_simp
   first
   |exact aE
   |(go_at_call 92;exact bS (qU (θ.ver+1) _ I B HB _))
 refine bA (.nilIface) (fun _ w'=>WS w w' tag t θ gw A ca D cd m gm (s.save (B+θ.i) (θ.r θ.i)) gs) ?_ ?_
 .intro w9 Gq Gw
  refine aS ?_
  have H9:=aH (H0.below (cA Gw.1 J))
  have HV:=aH (H9.ssave (a:=B+θ.i) I (θ.r θ.i) ((B:Int)+θ.i) I)
  refine aW ?_
  go_simp
  go_at_call 18
  refine HV.mono ?_
  rintro e Qw ⟨rfl,h1,h2⟩
  exact⟨_,rfl,⟨rfl,h1⟩,h2⟩
 refine aZ ?_
 rintro w1 Gq hmet
 refine aQ ?_
 refine aS ?_
 obtain⟨wx,k0,k1,hf⟩:=hmet.1 rfl
 have H1:=aH (hf.below (cA k1 J))
 clear hmet hf k0 k1 wx
 refine aW ?_
 have HN:=aH (H1.next 32 9 I 32 9 rfl rfl)
 go_wp2_with fail
 with_reducible refine HN.out.mono ?_
 rintro e w2 ⟨rfl,h2⟩
 have HF:=aH (h2.out false)
 clear h2
 go_wp2
 refine bodyPost_end (v:=.tuple #[]) (by simp [results,results64,go_sem]) rfl ⟨rfl,HF.out⟩
theorem YR(hW:gJ w tag t θ gw A ca D cd)(hR:fE w tag m gm)(hS:iQ w tag s gs)(ht:t<4)(d:θ.does=9)(hi:θ.i<4)(hv:θ.ver<1099511627776)(hfl:s.fl<=1000000000):
 Calls prog 64 #[(gw,0),(gs,0)] w fun e w'=>e=.returned (.tuple #[])/\iZ w tag t gw gm gs (stp t m s θ) w':=by
 rw[show stp t m s θ=⟨m,s.flush t (dU (θ.ver+1)/8+θ.i),θ.next 4 10,false⟩ by simp only[stp,d]]
 have H0:=aH (WS.start hW hR hS)
 have HD:=aH d
 have c1:w.cell? (gw,1)=(9:Int):=H0.c1 HD
 have c0:w.cell? (gw,0)=t:=H0.c 0 I
 have c7:w.cell? (gw,7)=θ.i:=H0.c 7 I
 have c8:w.cell? (gw,8)=[θ.ver]:=H0.c 8 I
 have hlt:=H0.lt
 have f1:=H0.f 1
 have hng:¬cI gs gw:=fun e=>by have h1:=hW.tg;have h2:=hS.1;rw[show gw=gs from e]at h1;omega
 obtain⟨B,hB⟩:=aO (dU (θ.ver+1):Nat)
 have Jg:B=8\/B=40:=by rw[hB];unfold dU;omega
 have HB:=aH hB
 rw[<-hB]
 clear hB
 have i32:(θ.i:Int)<4:=I
 have kv:IntKind.u64.wrap ((θ.ver:Int)+1)=(θ.ver:Int)+1:=sS I I
 obtain⟨Q,hQ,hQ5⟩:∃Q:Nat,B/8=Q/\Q<=5:=⟨B/8,rfl,I⟩
 rw[hQ]
 have kd:(B:Int).tdiv 8=(Q:Int):=by rw[<-hQ];rcases Jg with rfl|rfl<;>rfl
 have kd2:(B:Int)/8=(Q:Int):=I
 have k0:IntKind.i64.wrap (Q:Int)=(Q:Int):=dE I I
 have kb:IntKind.i64.wrap ((Q:Int)+(θ.i:Int))=(Q:Int)+θ.i:=dE I I
 clear hQ
 clear hW hR hS d
 go_enter func64,ntmps64
 go_wp2
 refine bK 18 (cI gs) [17] J J ?_
 iterate 17
  refine aR ?_;constructor
  .intro w9 Gq Gw
   refine aS ?_
   have q0:=(Gq.cell (p:=⟨gw,0,none⟩) hlt hng).trans c0
   have q7:=(Gq.cell (p:=⟨gw,7,none⟩) hlt hng).trans c7
   have q8:=(Gq.cell (p:=⟨gw,8,none⟩) hlt hng).trans c8
   refine aW ?_
   go_simp
   first
   |exact aE
   |(go_at_call 92;exact bS (qU (θ.ver+1) _ I B HB _))
 refine bA (.nilIface) (fun _ w'=>WS w w' tag t θ gw A ca D cd m gm (s.flush t (Q+θ.i)) gs) ?_ ?_
 .intro w9 Gq Gw
  refine aS ?_
  have H9:=aH (H0.below (cA Gw.1 J))
  have HV:=aH (H9.flush ht (l:=Q+θ.i) I hfl ((Q:Int)+θ.i) I)
  refine aW ?_
  go_simp
  go_at_call 97
  refine HV.mono ?_
  rintro e Qw ⟨rfl,h1,h2⟩
  exact⟨_,rfl,⟨rfl,h1⟩,h2⟩
 refine aZ ?_
 rintro w1 Gq hmet
 refine aQ ?_
 refine aS ?_
 obtain⟨wx,k0,k1,hf⟩:=hmet.1 rfl
 have H1:=aH (hf.below (cA k1 J))
 clear hmet hf k0 k1 wx
 refine aW ?_
 have HN:=aH (H1.next 4 10 I 4 10 rfl rfl)
 go_wp2_with fail
 with_reducible refine HN.out.mono ?_
 rintro e w2 ⟨rfl,h2⟩
 have HF:=aH (h2.out false)
 clear h2
 go_wp2
 refine bodyPost_end (v:=.tuple #[]) (by simp [results,results64,go_sem]) rfl ⟨rfl,HF.out⟩
theorem QA(hW:gJ w tag t θ gw A ca D cd)(hR:fE w tag m gm)(hS:iQ w tag s gs)(ht:t<4)(d:θ.does=10)(hfe:s.fe<=1000000000):
 Calls prog 64 #[(gw,0),(gs,0)] w fun e w'=>e=.returned (.tuple #[])/\iZ w tag t gw gm gs (stp t m s θ) w':=by
 rw[show stp t m s θ=⟨m,s.fence t,θ.go 11,false⟩ by simp only[stp,d]]
 have H0:=aH (WS.start hW hR hS)
 have HD:=aH d
 have c1:w.cell? (gw,1)=(10:Int):=H0.c1 HD
 have c0:w.cell? (gw,0)=t:=H0.c 0 I
 have hlt:=H0.lt
 have f1:=H0.f 1
 have HV:=aH (H0.fence ht hfe)
 clear hW hR hS d
 go_enter func64,ntmps64
 go_wp2_with fail
 with_reducible refine HV.out.mono ?_
 rintro e w1 ⟨rfl,h1⟩
 have H1:=aH h1
 clear h1 HV
 have Qd:w1.cell? (gw,1)=(10:Int):=H1.c1 HD
 have Nq:=H1.f 1
 have hlb:=H1.lt
 have HF:=aH ((H1.does 11).out false)
 go_wp2
 refine bodyPost_end (v:=.tuple #[]) (by simp [results,results64,go_sem]) rfl ⟨rfl,HF.out⟩
theorem RX(hW:gJ w tag t θ gw A ca D cd)(hR:fE w tag m gm)(hS:iQ w tag s gs)(ht:t<4)(d:θ.does=13)(hfe:s.fe<=1000000000):
 Calls prog 64 #[(gw,0),(gs,0)] w fun e w'=>e=.returned (.tuple #[])/\iZ w tag t gw gm gs (stp t m s θ) w':=by
 rw[show stp t m s θ=⟨m,s.fence t,θ.go 14,false⟩ by simp only[stp,d]]
 have H0:=aH (WS.start hW hR hS)
 have HD:=aH d
 have c1:w.cell? (gw,1)=(13:Int):=H0.c1 HD
 have c0:w.cell? (gw,0)=t:=H0.c 0 I
 have hlt:=H0.lt
 have f1:=H0.f 1
 have HV:=aH (H0.fence ht hfe)
 clear hW hR hS d
 go_enter func64,ntmps64
 go_wp2_with fail
 with_reducible refine HV.out.mono ?_
 rintro e w1 ⟨rfl,h1⟩
 have H1:=aH h1
 clear h1 HV
 have Qd:w1.cell? (gw,1)=(13:Int):=H1.c1 HD
 have Nq:=H1.f 1
 have hlb:=H1.lt
 have HF:=aH ((H1.does 14).out false)
 go_wp2
 refine bodyPost_end (v:=.tuple #[]) (by simp [results,results64,go_sem]) rfl ⟨rfl,HF.out⟩
theorem PY(hW:gJ w tag t θ gw A ca D cd)(hR:fE w tag m gm)(hS:iQ w tag s gs)(ht:t<4)(d:θ.does=11)(hv:θ.ver<1099511627776):
 Calls prog 64 #[(gw,0),(gs,0)] w fun e w'=>e=.returned (.tuple #[])/\iZ w tag t gw gm gs (stp t m s θ) w':=by
 rw[show stp t m s θ=⟨m,s.save 0 (θ.ver+1:Nat),θ.go 12,false⟩ by simp only[stp,d]]
 have H0:=aH (WS.start hW hR hS)
 have HD:=aH d
 have c1:w.cell? (gw,1)=(11:Int):=H0.c1 HD
 have c8:w.cell? (gw,8)=[θ.ver]:=H0.c 8 I
 have hlt:=H0.lt
 have f1:=H0.f 1
 have HV:=aH (H0.ssave (a:=0) I ((θ.ver+1:Nat):Int) 0 rfl)
 rw[show((θ.ver+1:Nat):Int)=(θ.ver:Int)+1 by omega]at HV⊢
 clear hW hR hS d
 go_enter func64,ntmps64
 go_wp2_with fail
 with_reducible refine HV.out.mono ?_
 rintro e w1 ⟨rfl,h1,_⟩
 have H1:=aH h1
 clear h1 HV
 have Qd:w1.cell? (gw,1)=(11:Int):=H1.c1 HD
 have Nq:=H1.f 1
 have hlb:=H1.lt
 have HF:=aH ((H1.does 12).out false)
 go_wp2
 refine bodyPost_end (v:=.tuple #[]) (by simp [results,results64,go_sem]) rfl ⟨rfl,HF.out⟩
theorem UK(hW:gJ w tag t θ gw A ca D cd)(hR:fE w tag m gm)(hS:iQ w tag s gs)(ht:t<4)(d:θ.does=12)(hfl:s.fl<=1000000000):
 Calls prog 64 #[(gw,0),(gs,0)] w fun e w'=>e=.returned (.tuple #[])/\iZ w tag t gw gm gs (stp t m s θ) w':=by
 rw[show stp t m s θ=⟨m,s.flush t 0,θ.go 13,false⟩ by simp only[stp,d]]
 have H0:=aH (WS.start hW hR hS)
 have HD:=aH d
 have c1:w.cell? (gw,1)=(12:Int):=H0.c1 HD
 have c0:w.cell? (gw,0)=t:=H0.c 0 I
 have hlt:=H0.lt
 have f1:=H0.f 1
 have HV:=aH (H0.flush ht (l:=0) I hfl 0 rfl)
 clear hW hR hS d
 go_enter func64,ntmps64
 go_wp2_with fail
 with_reducible refine HV.out.mono ?_
 rintro e w1 ⟨rfl,h1,_⟩
 have H1:=aH h1
 clear h1 HV
 have Qd:w1.cell? (gw,1)=(12:Int):=H1.c1 HD
 have Nq:=H1.f 1
 have hlb:=H1.lt
 have HF:=aH ((H1.does 13).out false)
 go_wp2
 refine bodyPost_end (v:=.tuple #[]) (by simp [results,results64,go_sem]) rfl ⟨rfl,HF.out⟩
theorem SD(hW:gJ w tag t θ gw A ca D cd)(hR:fE w tag m gm)(hS:iQ w tag s gs)(ht:t<4)(d:θ.does=14)(hv:θ.ver<1099511627776):
 Calls prog 65 #[(gw,0),(gm,0)] w fun e w'=>e=.returned false/\iZ w tag t gw gm gs (stp t m s θ) w':=by
 rw[show stp t m s θ=⟨eI m 1 (θ.ver+1:Nat),s,θ.go 15,false⟩ by simp only[stp,d]]
 have H0:=aH (WS.start hW hR hS)
 have HD:=aH d
 have c1:w.cell? (gw,1)=(14:Int):=H0.c1 HD
 have c8:w.cell? (gw,8)=[θ.ver]:=H0.c 8 I
 have hlt:=H0.lt
 have f1:=H0.f 1
 have HV:=aH (H0.rsave (i:=1) I (x:=((θ.ver+1:Nat):Int)) I 1 rfl)
 rw[show((θ.ver+1:Nat):Int)=(θ.ver:Int)+1 by omega]at HV⊢
 clear hW hR hS d
 go_enter func65,ntmps65
 go_wp2_with fail
 with_reducible refine HV.out.mono ?_
 rintro e w1 ⟨rfl,h1,_⟩
 have H1:=aH h1
 clear h1 HV
 have Qd:w1.cell? (gw,1)=(14:Int):=H1.c1 HD
 have Nq:=H1.f 1
 have hlb:=H1.lt
 have HF:=aH ((H1.does 15).out false)
 go_wp2
 go_ret
 exact⟨rfl,HF.out⟩
theorem TA(hW:gJ w tag t θ gw A ca D cd)(hR:fE w tag m gm)(hS:iQ w tag s gs)(ht:t<4)(d:θ.does=15):
 Calls prog 65 #[(gw,0),(gm,0)] w fun e w'=>e=.returned false/\iZ w tag t gw gm gs (stp t m s θ) w':=by
 rw[show stp t m s θ=⟨eI m 0 0,s,θ.go 16,false⟩ by simp only[stp,d]]
 have H0:=aH (WS.start hW hR hS)
 have HD:=aH d
 have c1:w.cell? (gw,1)=(15:Int):=H0.c1 HD
 have hlt:=H0.lt
 have f1:=H0.f 1
 have HV:=aH (H0.rsave (i:=0) I (x:=0) I 0 rfl)
 clear hW hR hS d
 go_enter func65,ntmps65
 go_wp2_with fail
 with_reducible refine HV.out.mono ?_
 rintro e w1 ⟨rfl,h1,_⟩
 have H1:=aH h1
 clear h1 HV
 have Qd:w1.cell? (gw,1)=(15:Int):=H1.c1 HD
 have Nq:=H1.f 1
 have hlb:=H1.lt
 have HF:=aH ((H1.does 16).out false)
 go_wp2
 go_ret
 exact⟨rfl,HF.out⟩
theorem SF(hW:gJ w tag t θ gw A ca D cd)(hR:fE w tag m gm)(hS:iQ w tag s gs)(ht:t<4)(d:θ.does=16):
 Calls prog 65 #[(gw,0),(gm,0)] w fun e w'=>e=.returned true/\iZ w tag t gw gm gs (stp t m s θ) w':=by
 rw[show stp t m s θ=⟨m,s,θ.go 0,true⟩ by simp only[stp,d]]
 have H0:=aH (WS.start hW hR hS)
 have HD:=aH d
 have c1:w.cell? (gw,1)=(16:Int):=H0.c1 HD
 have hlt:=H0.lt
 have f1:=H0.f 1
 have HF:=aH ((H0.does 0).out true)
 clear hW hR hS d
 go_enter func65,ntmps65
 go_wp2
 go_ret
 exact⟨rfl,HF.out⟩
end
section
variable{w0 w:World}{tag:Nat->Nat}{t:Nat}{θ:cQ}{gw:Nat}{A:Option Addr}{ca:Nat}{D:Option Addr}{cd:Nat}{m:Nat->Int}{gm:Nat}{s:cN}{gs:Nat}
theorem WS.err(h:WS w0 w tag t θ gw A ca D cd m gm s gs)(hg:mR w0)(h0:tag 2=0):mR w:=
 (h.k.cell (p:=⟨2,0,none⟩) hg.pos (fun e=>by rcases e with e|e|e|e<;>(have e':tag 2=_:=e;omega))).trans hg
theorem WS.none_(h:WS w0 w tag t θ gw A ca D cd m gm s gs):WS w0 (w.setCell (gw,41) (.slice none 0 0)) tag t {θ with na:=0,asks:=fun _ _=>0} gw none 0 D cd m gm s gs:=by
 have hk:=bP w gw 41 (.slice none 0 0)
 have h1:∀b,cI gw b->tag b=10+t:=fun b hb=>by rw[show b=gw from hb];exact h.wk.tg
 refine⟨⟨?_,cU.nil _ _ _ _,h.wk.deeds.keptT hk h.wk.tD (fun b hb=>by rw[h1 b hb];omega),h.wk.tg,?_,h.wk.tD⟩,h.ram.kept hk (bI.refl _ _) (fun b hb=>by rw[h1 b hb];omega),h.st.kept hk (bI.refl _ _) (fun b hb=>by rw[h1 b hb];omega),h.k.setCell (p:=⟨gw,41,none⟩) (.inl (.inr (.inr (.inl h.wk.tg)))) _⟩
 .have hb:=h.wk.blk.set_ 41 (.slice none 0 0)
  rw[CQ]at hb
  exact hb
 rintro b ⟨a,ha,_⟩
 cases ha
theorem WS.fill{g:Nat}(h:WS w0 w tag t θ gw (some ⟨g,0,none⟩) ca D cd m gm s gs)(hn:0<θ.na)(x:Int):WS w0 (w.setCells g ((θ.na-1)*5+2) [.int .i64 (IV x),.int .i64 (KE x),.int .i64 (ID x)]) tag t {θ with asks:=(θ.fill x).asks} gw (some ⟨g,0,none⟩) ca D cd m gm s gs:=by
 have hk:aD (cI g) w (w.setCells g ((θ.na-1)*5+2) [.int .i64 (IV x),.int .i64 (KE x),.int .i64 (ID x)]):=cE (S:=cI g) (.inl rfl) _ _
 have hg:=h.wk.tA g ⟨_,rfl,rfl⟩
 have h1:∀b,cI g b->tag b=20+t:=fun b hb=>by rw[show b=g from hb];exact hg
 refine⟨⟨?_,?_,h.wk.deeds.keptT hk h.wk.tD (fun b hb=>by rw[h1 b hb];omega),h.wk.tg,h.wk.tA,h.wk.tD⟩,h.ram.kept hk (bI.refl _ _) (fun b hb=>by rw[h1 b hb];omega),h.st.kept hk (bI.refl _ _) (fun b hb=>by rw[h1 b hb];omega),h.k.trans (hk.mono fun b hb=>.inr (.inr (.inr (h1 b hb))))⟩
 .exact(hk.block gw h.wk.blk.lt fun e=>by have:=h1 _ e;have:=h.wk.tg;omega).trans h.wk.blk
 refine h.wk.asks.sets (oE _ _) (xO _ _) fun i hi=>?_
 rw[xJ _ _ _ hi,xJ _ _ _ hi]
 show some (Value.int .i64 (if i/5+1=θ.na/\2<=i%5 then(if i%5=2 then IV x else if i%5=3 then KE x else ID x)else θ.asks (i/5) (i%5)))=_
 by_cases c:i/5+1=θ.na/\2<=i%5
 .have c2:(θ.na-1)*5+2<=i/\i<(θ.na-1)*5+2+3:=I
  refine Eq.trans ?_ (iP c2).symm
  rw[iP c]
  rcases(by omega:i%5=2\/i%5=3\/i%5=4)with e|e|e
  .rw[e,iP rfl,show i-((θ.na-1)*5+2)=0 by omega];rfl
  .rw[e,iN aJ,iP rfl,show i-((θ.na-1)*5+2)=1 by omega];rfl
  rw[e,iN aJ,iN aJ,show i-((θ.na-1)*5+2)=2 by omega];rfl
 have c2:¬((θ.na-1)*5+2<=i/\i<(θ.na-1)*5+2+3):=I
 rw[iN c]
 exact(iN c2).symm
theorem WS.ask{w':World}{A':Option Addr}{ca':Nat}(h:WS w0 w tag t θ gw A ca D cd m gm s gs)(g:Int)(ho:cU w' 0 181 5 A' (θ.na+1) ca' (eH θ.asks θ.na++[[.int .i64 (θ.i:Int),.int .i64 g,.int .i64 0,.int .i64 0,.int .i64 0]]))(hk:aD (iI A) w w')(hA:∀b,iI A' b->iI A b\/w<=b)
 (hS:True):WS w0 (w'.setCell (gw,41) (.slice A' (θ.na+1) ca')) (cG w tag (20+t)) t {θ with asks:=(θ.ask g).asks,na:=θ.na+1} gw A' ca' D cd m gm s gs:=by
 have ht:=cO w tag (20+t)
 have h1:=h.wk.tA
 have Gs:aY w' gw 46 (kE t θ (.slice A θ.na ca) (.slice D θ.deeds.length cd)):=(hk.block gw h.wk.blk.lt fun e=>by have:=h1 _ e;have:=h.wk.tg;omega).trans h.wk.blk
 have hr:eH θ.asks θ.na++[[.int .i64 (θ.i:Int),.int .i64 g,.int .i64 0,.int .i64 0,.int .i64 0]]=eH (θ.ask g).asks (θ.na+1):=by
  have e1:eH (θ.ask g).asks θ.na=eH θ.asks θ.na:=pQ fun j hj c hc=>iN I
  have e2:DJ (θ.ask g).asks θ.na=[.int .i64 (θ.i:Int),.int .i64 g,.int .i64 0,.int .i64 0,.int .i64 0]:=by
   rw[pX]
   simp [cQ.ask]
  rw[xL,e1,e2]
 rw[hr]at ho
 have Hp:=bP w' gw 41 (.slice A' (θ.na+1) ca')
 have hgw:=(ht gw h.wk.blk.lt).trans h.wk.tg
 have h2:∀b,cI gw b->cG w tag (20+t) b=10+t:=fun b hb=>by rw[show b=gw from hb];exact hgw
 have tA':∀b,iI A' b->cG w tag (20+t) b=20+t:=fun b hb=>by
  rcases hA b hb with e|e
  .exact(ht b (by obtain⟨a,ha,rfl⟩:=e;exact(h.wk.asks.lt a ha).2)).trans (h1 b e)
  exact dT _ _ _ e
 have hkk:aD (fun b=>iI A b) w w':=hk
 refine⟨⟨?_,?_,?_,hgw,tA',h.wk.deeds.tagT ht h.wk.tD⟩,?_,?_,?_⟩
 .have hb:=Gs.set_ 41 (.slice A' (θ.na+1) ca')
  rw[CQ]at hb
  exact hb
 .exact ho.keptT Hp tA' (fun b hb=>by rw[h2 b hb];omega)
 .exact(h.wk.deeds.keptT hk h.wk.tD (fun b hb=>by rw[h1 b hb];omega)).keptT Hp (h.wk.deeds.tagT ht h.wk.tD) (fun b hb=>by rw[h2 b hb];omega)
 .exact(h.ram.kept hk ht (fun b hb=>by rw[h1 b hb];omega)).kept Hp (bI.refl _ _) (fun b hb=>by rw[h2 b hb];omega)
 .exact(h.st.kept hk ht (fun b hb=>by rw[h1 b hb];omega)).kept Hp (bI.refl _ _) (fun b hb=>by rw[h2 b hb];omega)
 have k1:=(h.k.trans (hk.mono fun b hb=>.inr (.inr (.inr (h1 b hb))))).retag (fun b hb=>ht b (Nat.lt_of_lt_of_le hb h.k.size))
 exact k1.setCell (p:=⟨gw,41,none⟩) (.inl (.inr (.inr (.inl hgw)))) _
end
section
variable{w0 w:World}{tag:Nat->Nat}{t:Nat}{θ:cQ}{gw:Nat}{A:Option Addr}{ca:Nat}{D:Option Addr}{cd:Nat}{m:Nat->Int}{gm:Nat}{s:cN}{gs:Nat}
theorem WS.sloadB(h:WS w0 w tag t θ gw A ca D cd m gm s gs){a:Nat}(ha:a<72)(a':Int)(e:a'=a){x:Int}(hx:x=s.now a):Calls prog 26 #[(gs,0),a'] w fun e w'=>e=.returned (.tuple #[[x],.nilIface])/\Below w w w':=by
 subst hx
 refine(h.sload ha a' e).mono ?_
 rintro e w' ⟨rfl,rfl⟩
 exact⟨rfl,Below.refl _ _⟩
theorem ZU{z:Nat->Int}{i:Nat}(hi:i<4):AT (z 26).toNat (i:Int)=jA z i:=by
 unfold AT jA
 by_cases hb:gO (z 26).toNat i=true
 .rw[iP ⟨I,I,by simpa using hb⟩,iP hb]
 rw[iN (fun h=>hb (by simpa using h.2.2)),iN hb]
theorem RG(z:Nat->Int)(i:Nat):0<=jA z i/\jA z i<=1:=by unfold jA;split<;>omega
theorem QI(h:WS w0 w tag t θ gw A ca D cd m gm s gs)(hd:θ.does<=21)(ht:t<4)(hg:mR w0)(h0:tag 2=0)
 (hx:θ.does=8->eE θ.r/\(∀i,i<32->0<=θ.r i/\θ.r i<18446744073709551616)/\jL θ.asks θ.na/\θ.na<=4/\θ.r 28+θ.na<=1099511627776/\θ.r 27+1<=1099511627776):
 Calls prog 95 #[(gw,0)] w fun e w'=>e=.returned (.tuple #[])/\iZ w0 tag t gw gm gs ⟨m,s,θ.all t,false⟩ w':=by
 by_cases d:θ.does=8
 .obtain⟨a1,a2,a3,a4,a5,a6⟩:=hx d
  exact Ae h d ht a1 a2 a3 a4 a5 a6 (h.err hg h0)
 refine(Ba h d hd).mono ?_
 rintro e w' ⟨rfl,rfl⟩
 refine⟨rfl,?_⟩
 rw[show θ.all t=θ from iN d]
 exact h.out false
end
section
variable{w:World}{tag:Nat->Nat}{t gw gm gs:Nat}{θ:cQ}{A D:Option Addr}{ca cd:Nat}{m:Nat->Int}{s:cN}
theorem OU(hW:gJ w tag t θ gw A ca D cd)(hR:fE w tag m gm)(hS:iQ w tag s gs)(ht:t<4)(d:θ.does=4):
 Calls prog 63 #[(gw,0),(gm,0),(gs,0)] w fun e w'=>e=.returned (.tuple #[])/\iZ w tag t gw gm gs (stp t m s θ) w':=by
 rw[show stp t m s θ=⟨m,s,{θ with ver:=(m 1).toNat,i:=0,does:=5,na:=0,asks:=fun _ _=>0},false⟩ by simp only[stp,d]]
 have H0:=aH (WS.start hW hR hS)
 have HD:=aH d
 obtain⟨V,hV⟩:∃V:Nat,m 1=(V:Int):=by
  obtain⟨_,E,_,hu⟩:=hR
  exact Int.eq_ofNat_of_zero_le (hu.bd 1 I).1
 have HV:=aH (H0.rload (i:=1) I 1 rfl)
 rw[hV]at HV
 rw[hV,show((V:Int)).toNat=V from rfl]
 have c1:w.cell? (gw,1)=(4:Int):=H0.c1 d
 have c7:w.cell? (gw,7)=θ.i:=H0.c 7 I
 have c8:w.cell? (gw,8)=[θ.ver]:=H0.c 8 I
 have Wi:w.cell? (gw,41)=some (.slice A θ.na ca):=H0.c 41 I
 have f1:=H0.f 1
 have f7:=H0.f 7
 have f8:=H0.f 8
 have f41:=H0.f 41
 have hlt:=H0.lt
 have H1:=aH (H0.own (θ':={θ with ver:=V}) (LP _ _ _ _ V) rfl rfl rfl)
 have H2:=aH (H1.own (θ':={θ with ver:=V,i:=0}) (LL _ _ _ _ 0) rfl rfl rfl)
 have H3:=aH (H2.does 5)
 have HF:=aH (H3.none_.out false)
 clear hW hR hS H1 H2 H3 d hV
 go_enter func63,ntmps63
 go_wp2_with fail
 with_reducible refine HV.out.mono ?_
 rintro e w1 ⟨rfl,rfl⟩
 go_wp2
 refine bodyPost_end (v:=.tuple #[]) (by simp [results,results63,go_sem]) rfl ⟨rfl,HF.out⟩
theorem PJ(hW:gJ w tag t θ gw A ca D cd)(hR:fE w tag m gm)(hS:iQ w tag s gs)(ht:t<4)(d:θ.does=5)(hi:θ.i<32):
 Calls prog 63 #[(gw,0),(gm,0),(gs,0)] w fun e w'=>e=.returned (.tuple #[])/\iZ w tag t gw gm gs (stp t m s θ) w':=by
 rw[show stp t m s θ=⟨m,s,{θ with r:=fun j=>if j=θ.i then s.now (dU θ.ver+θ.i)else θ.r j}.next 32 6,false⟩ by simp only[stp,d]]
 have H0:=aH (WS.start hW hR hS)
 have c1:w.cell? (gw,1)=(5:Int):=H0.c1 d
 have hlt:=H0.lt
 obtain⟨B,hB⟩:=aO (dU θ.ver:Nat)
 have Jg:B<=40:=by rw[hB];unfold dU;omega
 have HB:=aH hB
 rw[<-hB]
 obtain⟨x,hx⟩:=aO (s.now (B+θ.i))
 have Yp:=aH hx
 rw[<-hx]
 have HI:=aH hi
 have i32:(θ.i:Int)<32:=I
 have kb:IntKind.i64.wrap ((B:Int)+(θ.i:Int))=(B:Int)+θ.i:=dE I I
 clear hB hx hW hR hS d
 go_enter func63,ntmps63
 go_wp2
 refine bK 24 (cI gw) [23] J J ?_
 iterate 19
  refine aR ?_;constructor
  .intro w9 Gq Gw
   refine aS ?_
   have HX:=aH (H0.below (cA Gw.1 J))
   have q7:w9.cell? (gw,7)=θ.i:=HX.c 7 I
   have q8:w9.cell? (gw,8)=[θ.ver]:=HX.c 8 I
   refine aW ?_
   go_simp
   first
   |exact aE
   |(go_at_call 92;exact bS (qU θ.ver _ rfl B HB _))
   |(go_at_call 26;exact bS (HX.sloadB (a:=B+θ.i) I ((B:Int)+θ.i) I Yp))
 iterate 4
  refine aR ?_;constructor
  .intro w9 Gq Gw
   go_simp
   first
   |exact aE
 refine bA undef (fun _ w'=>WS w w' tag t {θ with r:=fun j=>if j=θ.i then x else θ.r j} gw A ca D cd m gm s gs) ?_ ?_
 .intro w9 Gq Gw
  refine aS ?_
  have HX:=aH (H0.below (cA Gw.1 J))
  have q9:w9.cell? (gw,9+θ.i)=[θ.r θ.i]:=by rw[HX.wk.blk.cell,ZR _ _ _ _ HI.out]
  have f9:=HX.f (9+θ.i)
  have HY:=aH (HX.own (θ':={θ with r:=fun j=>if j=θ.i then x else θ.r j}) (QN _ _ _ _ HI x) rfl rfl rfl)
  refine aW ?_
  go_simp
  exact⟨⟨rfl,HY.out⟩,(bP _ gw _ _).mono fun b hb=>by first|exact hb|exact⟨aJ,hb⟩⟩
 refine aZ ?_
 rintro w9 Gq hmet
 refine aQ ?_
 refine aS ?_
 obtain⟨wx,k0,k1,hf⟩:=hmet.1 rfl
 have H1:=aH (hf.below (cA k1 J))
 clear hmet hf k0 k1 wx
 have HN:=aH (H1.next 32 6 (by show θ.i<100;omega) 32 6 rfl rfl)
 obtain⟨w1,rfl⟩:=aO w9
 refine aW ?_
 go_wp2_with fail
 with_reducible refine HN.out.mono ?_
 rintro e w2 ⟨rfl,h2⟩
 have HF:=aH (h2.out false)
 clear h2
 go_wp2
 refine bodyPost_end (v:=.tuple #[]) (by simp [results,results63,go_sem]) rfl ⟨rfl,HF.out⟩
theorem IY(hW:gJ w tag t θ gw A ca D cd)(hR:fE w tag m gm)(hS:iQ w tag s gs)(ht:t<4)(d:θ.does=6)(hi:θ.i<4)(hz:m (3+2*θ.i)=0)(hx:eE θ.r/\(∀i,i<32->0<=θ.r i/\θ.r i<18446744073709551616)/\jL θ.asks θ.na/\θ.na<=4/\θ.r 28+θ.na<=1099511627776/\θ.r 27+1<=1099511627776)(hg:mR w)(h0:tag 2=0):
 Calls prog 63 #[(gw,0),(gm,0),(gs,0)] w fun e w'=>e=.returned (.tuple #[])/\iZ w tag t gw gm gs (stp t m s θ) w':=by
 rw[show stp t m s θ=⟨m,s,(θ.next 4 8).all t,false⟩ by simp only[stp,d];rw[iN (fun h=>h.1 hz)]]
 have H0:=aH (WS.start hW hR hS)
 have HT:=aH ht
 have hlt:=H0.lt
 have c1:w.cell? (gw,1)=(6:Int):=H0.c1 d
 have c7:w.cell? (gw,7)=θ.i:=H0.c 7 I
 have hbd:0<=m (3+2*θ.i)/\m (3+2*θ.i)<18446744073709551616:=by
  obtain⟨_,E,_,hu⟩:=hR
  exact hu.bd _ I
 have HV:=aH (H0.rload (i:=3+2*θ.i) I (2+2*(θ.i:Int)+1) I)
 have HD:=aH d
 have Ip:=aH hx
 have HG:=aH hg
 have Wc:=aH h0
 have Qv:Hid ((θ.next 4 8).does=(if θ.i+1=4 then 8 else 6)/\(θ.next 4 8).r=θ.r/\(θ.next 4 8).asks=θ.asks/\(θ.next 4 8).na=θ.na):=aH (by unfold cQ.next;split<;>first|exact⟨rfl,rfl,rfl,rfl⟩|exact⟨d,rfl,rfl,rfl⟩)
 rw[hz]at HV
 clear hW hR hS hx hg h0 d hbd hz
 go_enter func63,ntmps63
 go_wp2_with fail
 with_reducible refine HV.out.mono ?_
 rintro e w1 ⟨rfl,rfl⟩
 go_wp2
 refine aA 17 ?_
 iterate 3
  refine aR ?_;constructor
  .intro w9 Gq Gw
   go_simp
   first
   |exact aE
 iterate 13
  refine aU ?_
 refine aR ?_;constructor
 .intro w9 Gq Gw
  go_simp
  first
  |exact aE
 refine aZ ?_
 rintro w9 Gq hmet
 refine aQ ?_
 refine aS ?_
 have H1:=aH (H0.below Gq.same)
 have c1w:=H1.lt
 clear hmet
 obtain⟨w1,rfl⟩:=aO w9
 have HN:=aH (H1.next 4 8 I 4 8 rfl rfl)
 refine aW ?_
 go_wp2_with fail
 with_reducible refine HN.out.mono ?_
 rintro e w2 ⟨rfl,h2⟩
 have To:=aH (QI h2 (by rw[Qv.out.1];split<;>omega) HT HG Wc (fun _=>by rw[Qv.out.2.1,Qv.out.2.2.1,Qv.out.2.2.2];exact Ip))
 clear h2 HN
 go_wp2_with fail
 with_reducible refine To.out.mono ?_
 rintro e w3 ⟨rfl,h3⟩
 have HF:=aH h3
 clear h3 To
 go_wp2
 refine bodyPost_end (v:=.tuple #[]) (by simp [results,results63,go_sem]) rfl ⟨rfl,HF.out⟩
theorem FP(hW:gJ w tag t θ gw A ca D cd)(hR:fE w tag m gm)(hS:iQ w tag s gs)(ht:t<4)(d:θ.does=6)(hi:θ.i<4)(hz:m (3+2*θ.i)≠0/\m (3+2*θ.i)-1=jA θ.r θ.i)(hx:eE θ.r/\(∀i,i<32->0<=θ.r i/\θ.r i<18446744073709551616)/\jL θ.asks θ.na/\θ.na<=4/\θ.r 28+θ.na<=1099511627776/\θ.r 27+1<=1099511627776)(hg:mR w)(h0:tag 2=0):
 Calls prog 63 #[(gw,0),(gm,0),(gs,0)] w fun e w'=>e=.returned (.tuple #[])/\iZ w tag t gw gm gs (stp t m s θ) w':=by
 rw[show stp t m s θ=⟨m,s,(θ.next 4 8).all t,false⟩ by simp only[stp,d];rw[iN (fun h=>h.2 hz.2)]]
 have H0:=aH (WS.start hW hR hS)
 have HT:=aH ht
 have hlt:=H0.lt
 have c1:w.cell? (gw,1)=(6:Int):=H0.c1 d
 have c7:w.cell? (gw,7)=θ.i:=H0.c 7 I
 have hbd:0<=m (3+2*θ.i)/\m (3+2*θ.i)<18446744073709551616:=by
  obtain⟨_,E,_,hu⟩:=hR
  exact hu.bd _ I
 have HV:=aH (H0.rload (i:=3+2*θ.i) I (2+2*(θ.i:Int)+1) I)
 have HD:=aH d
 have Ip:=aH hx
 have HG:=aH hg
 have Wc:=aH h0
 have Qv:Hid ((θ.next 4 8).does=(if θ.i+1=4 then 8 else 6)/\(θ.next 4 8).r=θ.r/\(θ.next 4 8).asks=θ.asks/\(θ.next 4 8).na=θ.na):=aH (by unfold cQ.next;split<;>first|exact⟨rfl,rfl,rfl,rfl⟩|exact⟨d,rfl,rfl,rfl⟩)
 have hG1:=hz.1
 have htb:=RG θ.r θ.i
 have Np:=aH (fun W=>rI (kT θ.r) θ.r (θ.i:Int) W (xA hx.2.1))
 rw[ZU hi]at Np
 have hG2:=hz.2
 generalize m (3+2*θ.i)=g at*
 generalize jA θ.r θ.i=T at*
 have k1:IntKind.u64.wrap (g-1)=g-1:=sS I I
 have k2:IntKind.i64.wrap (g-1)=g-1:=dE I I
 have k3:(g !=0)=true:=by simpa using hG1
 obtain rfl:T=g-1:=hG2.symm
 clear hW hR hS hx hg h0 d hz hG2
 go_enter func63,ntmps63
 go_wp2_with fail
 with_reducible refine HV.out.mono ?_
 rintro e w1 ⟨rfl,rfl⟩
 go_wp2
 refine aA 17 ?_
 iterate 9
  refine aR ?_;constructor
  .intro w9 Gq Gw
   go_simp
   first
   |exact aE
 first|(with_reducible refine aC (fun K hK=>?_))|(refine aC (fun K hK=>?_))
 refine .inl ⟨.agg (kT θ.r),cX,?_,hK _ _ _ _ ?_⟩
 .simp only[bJ,bM]
  refine⟨?_,fun w9 Gq Gw=>?_⟩
  .first|rfl|(go_simp;done)
  refine aS ?_
  have HX:=aH (sW (H0.below (cA Gw.1 J)).wk.blk)
  refine aW ?_
  refine eG 25 _ rfl gw 9 rfl (kT θ.r) _ HX underlying25 rfl (vU _) aE
 iterate 3
  clear hK K
  refine aN ?_
  first|(with_reducible refine aC (fun K hK=>?_))|(refine aC (fun K hK=>?_))
  refine .inl ?_
  apply Exists.intro
  refine⟨cX,?_,hK _ _ _ _ ?_⟩
  .simp only[bJ,bM]
   refine⟨?_,fun w9 Gq Gw=>?_⟩
   .first|rfl|(go_simp;done)
   go_simp
   first
   |exact aE
 clear hK K
 refine aN ?_
 refine aR ?_;constructor
 .intro w9 Gq Gw
  refine aS ?_
  have q7:w9.cell? (gw,7)=θ.i:=(H0.below (cA Gw.1 J)).c 7 I
  refine aW ?_
  go_simp
  first
  |exact aE
 first|(with_reducible refine aC (fun K hK=>?_))|(refine aC (fun K hK=>?_))
 refine .inl ?_
 apply Exists.intro
 refine⟨cX,?_,hK _ _ _ _ ?_⟩
 .simp only[bJ,bM]
  refine⟨?_,fun w9 Gq Gw=>?_⟩
  .first|rfl|(go_simp;done)
  go_simp
  first
  |exact aE
  |(go_at_call 94;exact bS (Np.out _))
 iterate 2
  clear hK K
  refine aN ?_
  first|(with_reducible refine aC (fun K hK=>?_))|(refine aC (fun K hK=>?_))
  refine .inl ?_
  apply Exists.intro
  refine⟨cX,?_,hK _ _ _ _ ?_⟩
  .simp only[bJ,bM]
   refine⟨?_,fun w9 Gq Gw=>?_⟩
   .first|rfl|(go_simp;done)
   go_simp
   first
   |exact aE
 clear hK K
 refine aN ?_
 refine aZ ?_
 rintro w9 Gq hmet
 refine aQ ?_
 refine aS ?_
 have H1:=aH (H0.below Gq.same)
 have c1w:=H1.lt
 clear hmet
 obtain⟨w1,rfl⟩:=aO w9
 have HN:=aH (H1.next 4 8 I 4 8 rfl rfl)
 refine aW ?_
 go_wp2_with fail
 with_reducible refine HN.out.mono ?_
 rintro e w2 ⟨rfl,h2⟩
 have To:=aH (QI h2 (by rw[Qv.out.1];split<;>omega) HT HG Wc (fun _=>by rw[Qv.out.2.1,Qv.out.2.2.1,Qv.out.2.2.2];exact Ip))
 clear h2 HN
 go_wp2_with fail
 with_reducible refine To.out.mono ?_
 rintro e w3 ⟨rfl,h3⟩
 have HF:=aH h3
 clear h3 To
 go_wp2
 refine bodyPost_end (v:=.tuple #[]) (by simp [results,results63,go_sem]) rfl ⟨rfl,HF.out⟩
theorem GW(hW:gJ w tag t θ gw A ca D cd)(hR:fE w tag m gm)(hS:iQ w tag s gs)(ht:t<4)(d:θ.does=6)(hi:θ.i<4)(hz:m (3+2*θ.i)≠0/\m (3+2*θ.i)-1≠jA θ.r θ.i)(h2:m (3+2*θ.i)<=2)(hx:eE θ.r/\(∀i,i<32->0<=θ.r i/\θ.r i<18446744073709551616)/\jL θ.asks θ.na/\θ.na<=4/\θ.r 28+θ.na<=1099511627776/\θ.r 27+1<=1099511627776)(hg:mR w)(h0:tag 2=0):
 Calls prog 63 #[(gw,0),(gm,0),(gs,0)] w fun e w'=>e=.returned (.tuple #[])/\iZ w tag t gw gm gs (stp t m s θ) w':=by
 rw[show stp t m s θ=⟨m,s,θ.ask (m (3+2*θ.i)-1),false⟩ by simp only[stp,d];rw[iP hz]]
 have H0:=aH (WS.start hW hR hS)
 have HT:=aH ht
 have hlt:=H0.lt
 have c1:w.cell? (gw,1)=(6:Int):=H0.c1 d
 have c7:w.cell? (gw,7)=θ.i:=H0.c 7 I
 have hbd:0<=m (3+2*θ.i)/\m (3+2*θ.i)<18446744073709551616:=by
  obtain⟨_,E,_,hu⟩:=hR
  exact hu.bd _ I
 have HV:=aH (H0.rload (i:=3+2*θ.i) I (2+2*(θ.i:Int)+1) I)
 have HD:=aH d
 have Ip:=aH hx
 have HG:=aH hg
 have Wc:=aH h0
 have hG1:=hz.1
 have htb:=RG θ.r θ.i
 have Np:=aH (fun W=>rI (kT θ.r) θ.r (θ.i:Int) W (xA hx.2.1))
 rw[ZU hi]at Np
 have hG2:=hz.2
 generalize m (3+2*θ.i)=g at*
 generalize jA θ.r θ.i=T at*
 have hna:=hx.2.2.2.1
 have k1:IntKind.u64.wrap (g-1)=g-1:=sS I I
 have k2:IntKind.i64.wrap (g-1)=g-1:=dE I I
 have k3:(g !=0)=true:=by simpa using hG1
 have k4:(g-1 !=T)=true:=by simpa using hG2
 obtain⟨i0,Is,Ib,Io,Hh⟩:=MY
 have HI:=aH Is
 have HZ:=aH Ib
 have HS:=aH Io
 have HY:=aH Hh
 clear hW hR hS hx hg h0 d hz Is Ib Io Hh
 go_enter func63,ntmps63
 go_wp2_with fail
 with_reducible refine HV.out.mono ?_
 rintro e w1 ⟨rfl,rfl⟩
 go_wp2
 refine aA 17 ?_
 iterate 9
  refine aR ?_;constructor
  .intro w9 Gq Gw
   go_simp
   first
   |exact aE
 first|(with_reducible refine aC (fun K hK=>?_))|(refine aC (fun K hK=>?_))
 refine .inl ⟨.agg (kT θ.r),cX,?_,hK _ _ _ _ ?_⟩
 .simp only[bJ,bM]
  refine⟨?_,fun w9 Gq Gw=>?_⟩
  .first|rfl|(go_simp;done)
  refine aS ?_
  have HX:=aH (sW (H0.below (cA Gw.1 J)).wk.blk)
  refine aW ?_
  refine eG 25 _ rfl gw 9 rfl (kT θ.r) _ HX underlying25 rfl (vU _) aE
 iterate 3
  clear hK K
  refine aN ?_
  first|(with_reducible refine aC (fun K hK=>?_))|(refine aC (fun K hK=>?_))
  refine .inl ?_
  apply Exists.intro
  refine⟨cX,?_,hK _ _ _ _ ?_⟩
  .simp only[bJ,bM]
   refine⟨?_,fun w9 Gq Gw=>?_⟩
   .first|rfl|(go_simp;done)
   go_simp
   first
   |exact aE
 clear hK K
 refine aN ?_
 refine aR ?_;constructor
 .intro w9 Gq Gw
  refine aS ?_
  have q7:w9.cell? (gw,7)=θ.i:=(H0.below (cA Gw.1 J)).c 7 I
  refine aW ?_
  go_simp
  first
  |exact aE
 first|(with_reducible refine aC (fun K hK=>?_))|(refine aC (fun K hK=>?_))
 refine .inl ?_
 apply Exists.intro
 refine⟨cX,?_,hK _ _ _ _ ?_⟩
 .simp only[bJ,bM]
  refine⟨?_,fun w9 Gq Gw=>?_⟩
  .first|rfl|(go_simp;done)
  go_simp
  first
  |exact aE
  |(go_at_call 94;exact bS (Np.out _))
 iterate 2
  clear hK K
  refine aN ?_
  first|(with_reducible refine aC (fun K hK=>?_))|(refine aC (fun K hK=>?_))
  refine .inl ?_
  apply Exists.intro
  refine⟨cX,?_,hK _ _ _ _ ?_⟩
  .simp only[bJ,bM]
   refine⟨?_,fun w9 Gq Gw=>?_⟩
   .first|rfl|(go_simp;done)
   go_simp
   first
   |exact aE
 clear hK K
 refine aN ?_
 refine aZ ?_
 rintro w9 Gq hmet
 refine aQ ?_
 refine aS ?_
 have H1:=aH (H0.below Gq.same)
 have c1w:=H1.lt
 clear hmet
 obtain⟨w1,rfl⟩:=aO w9
 have Ig:=H1.lt
 have Wi:w1.cell? (gw,41)=some (.slice A θ.na ca):=H1.c 41 I
 have c7b:w1.cell? (gw,7)=θ.i:=H1.c 7 I
 have hng:=H1.wk.neA
 refine aW ?_
 go_wp2
 refine bK 15 (iI A) [14] J J ?_
 iterate 13
  refine aR ?_;constructor
  .intro w9 Gq Gw
   refine aS ?_
   have q41:=(Gq.cell (p:=⟨gw,41,none⟩) Ig hng).trans Wi
   have q7:=(Gq.cell (p:=⟨gw,7,none⟩) Ig hng).trans c7b
   refine aW ?_
   go_simp
   first
   |exact aE
 refine bC CK (DM 181 [.int .i64 (θ.i:Int),.int .i64 (g-1),.int .i64 0,.int .i64 0,.int .i64 0]) ⟨_,0,rfl⟩ ?_ ?_
 .intro w9 Gq Gr
  go_simp
  exact⟨⟨⟨_,rfl⟩,⟨_,rfl,aY.new _ _ _⟩⟩,aD.of_same ((Below.refl _ _).alloc (Nat.le_refl _) _)⟩
 refine bD (DN (θ.na+1)) (fun v w'=>∃A' c',v=.slice A' (θ.na+1) c'/\cU w' 0 181 5 A' (θ.na+1) c' (eH θ.asks θ.na++[[.int .i64 (θ.i:Int),.int .i64 (g-1),.int .i64 0,.int .i64 0,.int .i64 0]])/\∀b,iI A' b->iI A b\/w1<=b) ⟨_,none,0,rfl⟩ ?_ ?_
 .rintro _ ⟨g9,rfl⟩
  refine⟨aF,fun w9 Gq Gr=>?_⟩
  refine aS ?_
  have Hz:=Gr
  have hmet:=Gr.2
  clear Gr
  obtain⟨w0,k0,k1,g',hv,hblk⟩:=hmet.1 J
  cases hv
  have Sc:=Gq.size
  have Kr:=hblk.below (cA k1 J) hblk.lt
  have Yn:=aH (H1.wk.asks.below (cA Hz.1 J))
  clear hmet Hz hblk k0 k1
  refine aW ?_
  refine iM (.tmp 95) (.tmp 104) rfl underlying40 HI HZ HS HY rfl aJ aJ (A:=A) (n:=θ.na) (c:=ca) (rows:=eH θ.asks θ.na) rfl Yn (g:=g9) (c':=1) rfl (ys:=[.int .i64 (θ.i:Int),.int .i64 (g-1),.int .i64 0,.int .i64 0,.int .i64 0]) rfl ?_ ?_ I (Nat.zero_le _) ?_
  .intro j hj
   rw[Kr.cell j]
   simp
  .intro u hu
   simp only[List.mem_cons,List.not_mem_nil,or_false]at hu
   rcases hu with rfl|rfl|rfl|rfl|rfl<;>rfl
  intro g' cap w' ho hk' hwh
  refine⟨⟨⟨_,_,rfl⟩,⟨_,_,rfl,ho,fun b hb=>?_⟩⟩,hk'.mono fun b hb=>⟨aJ,hb⟩⟩
  obtain⟨a,ha,rfl⟩:=hb
  cases ha
  rcases hwh with⟨a,ha,e⟩|e
  .exact .inl ⟨a,ha,e⟩
  exact .inr (by show w1<=g';omega)
 refine aZ ?_
 rintro _ ⟨A9,c9,rfl⟩ _ ⟨g9,rfl⟩ w9 Gq hmet
 refine aQ ?_
 refine aS ?_
 obtain⟨w0,k0,k1,A8,c8,Rr,hown,hin⟩:=hmet.2.1 rfl
 cases Rr
 have Ht:=aH (H1.ask (g-1) (hown.below (cA k1 J)) Gq hin trivial)
 have c41b:=(Gq.cell (p:=⟨gw,41,none⟩) Ig hng).trans Wi
 have f41b:=(Gq.frozen (p:=⟨gw,41,none⟩) Ig hng).trans (H1.f 41)
 have Pg:=Nat.lt_of_lt_of_le Ig Gq.size
 have c1d:=Ht.c1 HD
 have f1d:=Ht.f 1
 have Vl:Hid (bI w tag (cG w1 tag (20+t))):=aH (fun b hb=>cO w1 tag (20+t) b (Nat.lt_of_lt_of_le hb H1.k.size))
 have HF:=aH ((Ht.does 7).outT Vl false)
 clear hmet hown k0 k1 hin w0
 refine aW ?_
 go_wp2
 refine bodyPost_ret (v:=.tuple #[]) (by simp [results,results63,go_sem]) rfl ⟨rfl,HF.out⟩
end
end
end Go.Proofs.YtplpimkgihnmhaaGreatDoor
