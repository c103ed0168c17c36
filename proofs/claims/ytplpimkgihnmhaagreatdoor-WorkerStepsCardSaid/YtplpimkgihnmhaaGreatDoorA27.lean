/-
  Part of a proof: Ans. For all values.
-/
import Derived.Test.YtplpimkgihnmhaaGreatDoorA08
set_option maxRecDepth 100000
set_option maxHeartbeats 400000
set_option linter.all false
namespace Go.Proofs.YtplpimkgihnmhaaGreatDoor
open Go.Proofs.Tryz Go.RowKit
section
attribute [local go_sem↓] Go.wp_at_zero Go.wp_at_succ
theorem MU(C:Array Value)(z:Nat->Int)(t x p q:Nat)(w:World)(h:cH C 32 z)(ht:t<4)(hx:z (18+t)=(x:Int))(hp:x/4294967296=p)(hq:x%4294967296=q)(hr:fU p q=false):
 Calls prog 120 #[.agg C,t] w fun e w'=>e=.returned (.tuple #[.agg (2:Int),(0:Int),gS 8])/\Below w w w':=by
 have e3:gS 8=.iface 53 (8:Int):=by simp [gS]
 rw[e3]
 clear e3
 have Nl:x<18446744073709551616:=by have:=h.bd (18+t) I;omega
 have htold:∀w,Calls prog 99 #[[x]] w fun e w'=>e=.returned (.tuple #[.agg (2:Int),.iface 53 (3:Int)])/\Below w w w':=fun w=>by
  have:=sN x p q w Nl hp hq
  rw[hr]at this
  simpa [pF,pC,hr,jN,gS]using this
 have HT:=aH htold
 have t4:decide ((4:Int)<=t)=false:=by simp;omega
 have Qp:C[18+t]? =some (.int .u64 x):=by rw[h.get _ I,hx]
 have hi:(18:Int)+t=((18+t:Nat):Int):=I
 clear htold hp hq hr h hx
 generalize hs:18+t=s at*
 have s32:(s:Int)<32:=I
 clear hs ht
 go_enter func120,ntmps120
 go_wp2_with (go_at_call 99;refine(HT.out _).mono ?_;rintro e w3 ⟨rfl,He⟩;have z3:w.heap.size+2<=w3:=(by have:=He.size;simpa using this);obtain⟨Lt,Lx⟩:=cJ He;have m3:w.heap.size+1<w3:=I;have m4:w.heap.size<w3:=I;have n3:¬w.heap.size+1=w3:=I;have n4:¬w3.heap.size=w+1:=I;have hB:Below w w w3:=Below.trans (by go_grown) (He.mono (by simp;omega));have r0:=Lt (w,1) 0 (by simp);have r1:=Lt (w,1) 1 (by simp);have g0:=Lx (w,1) 0 (by simp);have g1:=Lx (w,1) 1 (by simp);simp [go_sem]at r0 r1 g0 g1;clear Lt Lx)
 refine bodyPost_ret (by simp [results,results120,go_sem,r0,r1,m3,n3];try rfl) rfl ?_
 exact⟨rfl,by go_grown⟩
theorem xC(C:Array Value)(z:Nat->Int)(t x p q:Nat)(y v:Int)(w:World)(h:cH C 32 z)(ht:t<4)(hx:z (18+t)=(x:Int))(hy:z (22+t)=y)(hp:x/4294967296=p)(hq:x%4294967296=q)(hr:fU p q=true)
 (hv:(y<=9223372036854775807/\v=y)\/(9223372036854775807<y/\v=wrap64 y)):
 Calls prog 120 #[.agg C,t] w fun e w'=>e=.returned (.tuple #[.agg #[p,q],v,.nilIface])/\Below w w w':=by
 have Nl:x<18446744073709551616:=by have:=h.bd (18+t) I;omega
 have htold:∀w,Calls prog 99 #[[x]] w fun e w'=>e=.returned (.tuple #[.agg #[p,q],.nilIface])/\Below w w w':=fun w=>by
  have:=sN x p q w Nl hp hq
  rw[hr]at this
  simpa [pF,pC,hr,jN,gS]using this
 have HT:=aH htold
 have t4:decide ((4:Int)<=t)=false:=by simp;omega
 obtain⟨y1,y2⟩:=h.bd (22+t) I
 rw[hy]at y1 y2
 have Qp:C[18+t]? =some (.int .u64 x):=by rw[h.get _ I,hx]
 have hd0:C[22+t]? =some (.int .u64 y):=by rw[h.get _ I,hy]
 have hi:(18:Int)+t=((18+t:Nat):Int):=I
 have hj:(22:Int)+t=((22+t:Nat):Int):=I
 have p1:(p:Int)<=4294967295:=I
 have q1:(q:Int)<=4294967295:=I
 clear htold hp hq hr h hx hy
 generalize hs:18+t=s at*
 generalize hu:22+t=u at*
 have s32:(s:Int)<32:=I
 have u32:(u:Int)<32:=I
 clear hs hu ht
 have Jl:Below w w (w.alloc (.cells C 25)):=by go_grown
 rcases hv with⟨Jj,hv2⟩|⟨Jj,hv2⟩
 all_goals
  go_enter func120,ntmps120
  go_wp2_with (go_at_call 99;refine(HT.out _).mono ?_;rintro e w3 ⟨rfl,He⟩;have z3:w.heap.size+2<=w3:=(by have:=He.size;simpa using this);obtain⟨Lt,Lx⟩:=cJ He;have m3:w.heap.size+1<w3:=I;have m4:w.heap.size<w3:=I;have n3:¬w.heap.size+1=w3:=I;have n4:¬w3.heap.size=w+1:=I;have hB:Below w w w3:=Below.trans (by go_grown) (He.mono (by simp;omega));have r0:=Lt (w,1) 0 (by simp);have r1:=Lt (w,1) 1 (by simp);have g0:=Lx (w,1) 0 (by simp);have g1:=Lx (w,1) 1 (by simp);have k0:=Lt w u (by simp;omega);have k1:w3.cell? (w.heap.size,u)=[y]:=(k0.trans (by simp [go_sem,hd0]));simp [go_sem]at r0 r1 g0 g1;clear Lt Lx k0)
  go_region
  go_wp2
  rw[hv2]
  refine bodyPost_ret (by simp [results,results120,go_sem,r0,r1,m3,n3];try rfl) rfl ?_
  exact⟨rfl,by go_grown⟩
end
end Go.Proofs.YtplpimkgihnmhaaGreatDoor
