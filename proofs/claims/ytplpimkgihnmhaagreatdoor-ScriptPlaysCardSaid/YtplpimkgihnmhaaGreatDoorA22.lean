/-
  Parts of a proof. For all values.
-/
import Derived.Test.YtplpimkgihnmhaaGreatDoorA06
set_option maxRecDepth 100000
set_option maxHeartbeats 400000
set_option linter.all false
namespace Go.Proofs.YtplpimkgihnmhaaGreatDoor
open Go.Proofs.Tryz Go.RowKit
section
attribute [local go_sem↓] Go.wp_at_zero Go.wp_at_succ
theorem MU(C:Array Value)(z:Nat->Int)(t x p q:Nat)(w:World)(h:cH C 32 z)(B:t<4)(P:z (18+t)=(x:Int))(O:x/4294967296=p)(N:x%4294967296=q)(T:fU p q=false):
 Calls prog 120 #[.agg C,t] w fun e w'=>e=.returned (.tuple #[.agg (2:Int),(0:Int),gS 8])/\Below w w w':=by
 have S:gS 8=.iface 53 (8:Int):=by simp [gS]
 rw[S];clear S;have U:x<18446744073709551616:=by have:=h.bd (18+t) I;omega
 have Z:∀w,Calls prog 99 #[[x]] w fun e w'=>e=.returned (.tuple #[.agg (2:Int),.iface 53 (3:Int)])/\Below w w w':=fun w=>by
  have:=sN x p q w U O N;rw[T]at this;simpa [pF,pC,T,jN,gS]using this
 have M:=aH Z;have A:decide ((4:Int)<=t)=false:=by simp;omega
 have L:C[18+t]? =some (.int .u64 x):=by rw[h.get _ I,P]
 have y:(18:Int)+t=((18+t:Nat):Int):=I;clear Z O N T h P;generalize D:18+t=s at*;have K:(s:Int)<32:=I;clear D B
 go_enter func120,ntmps120
 go_wp2_with (go_at_call 99;refine(M.out _).mono ?_;rintro e V ⟨rfl,Y⟩;have v:w.heap.size+2<=V:=(by have:=Y.size;simpa using this);obtain⟨X,W⟩:=cJ Y;have H:w.heap.size+1<V:=I;have u:w.heap.size<V:=I;have G:¬w.heap.size+1=V:=I;have r:¬V.heap.size=w+1:=I;have o:Below w w V:=Below.trans (by go_grown) (Y.mono (by simp;omega));have R:=X (w,1) 0 (by simp);have Q:=X (w,1) 1 (by simp);have F:=W (w,1) 0 (by simp);have E:=W (w,1) 1 (by simp);simp [go_sem]at R Q F E;clear X W)
 refine bodyPost_ret (by simp [results,results120,go_sem,R,Q,H,G];try rfl) rfl ?_;exact⟨rfl,by go_grown⟩
theorem xC(C:Array Value)(z:Nat->Int)(t x p q:Nat)(y v:Int)(w:World)(h:cH C 32 z)(j:t<4)(L:z (18+t)=(x:Int))(Q:z (22+t)=y)(K:x/4294967296=p)(H:x%4294967296=q)(P:fU p q=true)
 (i:(y<=9223372036854775807/\v=y)\/(9223372036854775807<y/\v=wrap64 y)):
 Calls prog 120 #[.agg C,t] w fun e w'=>e=.returned (.tuple #[.agg #[p,q],v,.nilIface])/\Below w w w':=by
 have U:x<18446744073709551616:=by have:=h.bd (18+t) I;omega
 have Z:∀w,Calls prog 99 #[[x]] w fun e w'=>e=.returned (.tuple #[.agg #[p,q],.nilIface])/\Below w w w':=fun w=>by
  have:=sN x p q w U K H;rw[P]at this;simpa [pF,pC,P,jN,gS]using this
 have G:=aH Z;have g:decide ((4:Int)<=t)=false:=by simp;omega
 obtain⟨n,m⟩:=h.bd (22+t) I;rw[Q]at n m;have F:C[18+t]? =some (.int .u64 x):=by rw[h.get _ I,L]
 have S:C[22+t]? =some (.int .u64 y):=by rw[h.get _ I,Q]
 have f:(18:Int)+t=((18+t:Nat):Int):=I;have d:(22:Int)+t=((22+t:Nat):Int):=I;have c:(p:Int)<=4294967295:=I;have b:(q:Int)<=4294967295:=I;clear Z K H P h L Q;generalize l:18+t=s at*;generalize k:22+t=u at*;have E:(s:Int)<32:=I;have u32:(u:Int)<32:=I;clear l k j;have D:Below w w (w.alloc (.cells C 25)):=by go_grown
 rcases i with⟨R,T⟩|⟨R,T⟩
 all_goals
  go_enter func120,ntmps120
  go_wp2_with (go_at_call 99;refine(G.out _).mono ?_;rintro e X ⟨rfl,W⟩;have a:w.heap.size+2<=X:=(by have:=W.size;simpa using this);obtain⟨Y,V⟩:=cJ W;have B:w.heap.size+1<X:=I;have m4:w.heap.size<X:=I;have A:¬w.heap.size+1=X:=I;have n4:¬X.heap.size=w+1:=I;have hB:Below w w X:=Below.trans (by go_grown) (W.mono (by simp;omega));have O:=Y (w,1) 0 (by simp);have N:=Y (w,1) 1 (by simp);have r:=V (w,1) 0 (by simp);have o:=V (w,1) 1 (by simp);have M:=Y w u (by simp;omega);have k1:X.cell? (w.heap.size,u)=[y]:=(M.trans (by simp [go_sem,S]));simp [go_sem]at O N r o;clear Y V M)
  go_region
  go_wp2;rw[T];refine bodyPost_ret (by simp [results,results120,go_sem,O,N,B,A];try rfl) rfl ?_;exact⟨rfl,by go_grown⟩
