/-
  Part of a proof: ShSd. For all values.
-/
import Derived.Test.YtplpimkgihnmhaaGreatDoorA55
set_option maxRecDepth 100000
set_option maxHeartbeats 4000000
set_option linter.all false
namespace Go.Proofs.YtplpimkgihnmhaaGreatDoor
open Go.Proofs.Tryz Go.RowKit
section
open Go.Maps
attribute [local go_sem↓] Go.wp_at_zero Go.wp_at_succ
theorem aCe(w:World):(zeroValue 41).run prog w=.ok (.slice none 0 0) w:=J
theorem KO.look{w:World}{tag:Nat->Nat}{go n:Nat}{Y:Nat->List (List Value)}(h:KO w tag go n Y)(v:Nat)(R:v<18446744073709551616):
 ∃A c,(Instr.lookup 66 (.map (some go)) [v] false).run prog w=.ok (.slice A (Y v).length c) w/\cU w 0 159 6 A (Y v).length c (Y v)/\∀b,iI A b->tag b=105:=by
 obtain⟨_,D,X,W⟩:=h;obtain⟨A,c,V,U,T⟩:=W v;obtain⟨u,Q,S,Z⟩:=X.lookup YV underlying66 (aCe w) (zd:=.held (.slice none 0 0)) (zp:=[]) rfl (Ab v R);rw[V]at Z;refine⟨A,c,?_,U,T⟩;unfold yG at Z;simp only[Option.some.injEq,Prod.mk.injEq,DataW.held.injEq]at Z;rw[S,Z.1]
def bU(of:Nat->List (List Value))(k:Nat):List (List Value):=((List.range k).map fun u=>of (u+1)).flatten
theorem IT(Z:Nat->List (List Value))(k:Nat):bU Z (k+1)=bU Z k++Z (k+1):=by
 unfold bU;rw[List.range_succ,List.map_append,List.flatten_append];simp
theorem KF{N:Nat}{F:pH}(Z:lM N F):∀k,k<=F.V->(bU F.of k).length<=4*k
 |0,_=>by simp [bU]
 |k+1,hk=>by
  rw[IT,List.length_append];have h1:=KF Z k I;have Y:=(Z.of_ (k+1) I hk).1;omega
section
variable{w:World}{tag:Nat->Nat}{F:pH}{p gs mp go:Nat}{pt:Nat->Nat}{N:Nat}
theorem aAM(h:kK w tag F p gs go pt)(Z:lM N F)(hN:N<=100000000):
 Calls prog 37 #[(p,0)] w fun e w'=>∃A c,e=.returned (.slice A (aB F.of F.V).length c)/\cU w' w 159 6 A (aB F.of F.V).length c ((aB F.of F.V).map (·.2))/\Below w w w':=by
 have Y:(aB F.of F.V).map (·.2)=bU F.of F.V:=rY _ _;have Q:(aB F.of F.V).length=(bU F.of F.V).length:=by rw[<-Y,List.length_map]
 rw[Y,Q];clear Y Q;have hV:F.V<=100000000:=by have:=Z.ver;have:=Z.stp;omega
 have i:=aH (fun k hk=>KF Z k hk);have P:Hid (∀k,1<=k->k<=F.V->∀r∈F.of k,∀u∈r,u.oneCell'=true):=aH (fun k h1 h2 r S=>CI ((Z.of_ k h1 h2).2 r S));have O:=aH (fun W (hW:kK W tag F p gs go pt)=>Ou hW Z);have HR:=aH h;obtain⟨i0,K,G,E,D⟩:=JV;have HI:=aH K;have HZ:=aH G;have HS:=aH E;have HY:=aH D;clear h Z K G E D;obtain⟨V,T⟩:=aO F.V;rw[<-T]at hV i P O⊢;have zy:=aH T;clear T
 go_enter func37,ntmps37
 go_wp2;obtain⟨R,rfl⟩:=aO (w:World)
 go_loopw [3,4] (fun l v wr=>∃k:Nat,k<=V/\v=.int .u64 ((k:Int)+1)/\Below R R wr/\Hid (∃A c,l=.slice A (bU F.of k).length c/\cU wr R 159 6 A (bU F.of k).length c (bU F.of k))) (fun _ v _=>V+1-(intOf v).toNat)
 case atStart=>exact⟨0,I,rfl,Below.refl _ _,aH ⟨none,0,rfl,cU.nil _ _ _ _⟩⟩
 case round=>
  obtain⟨k,hk,rfl,C,B⟩:=hrel;obtain⟨A1,c1,rfl,ho⟩:=B.out;have q:=aH ho;clear B ho;have U:=aH (HR.below C);have M:=aH (O.out wr U);by_cases zw:k<V
  .have q1:((k:Int)+1)<=V:=I;obtain⟨n,mp,H,ch,hn,S⟩:=U.out;have zx:wr.cell? (p,23)=some (.map (some go)):=by rw[S.sh.cell,Bl]
   have hp:=S.sh.lt;obtain⟨A2,c2,z,y,_⟩:=S.om.look (k+1) I;rw[show(((k+1:Nat):Int))=(k:Int)+1 by omega]at z;have g:=aH y.slr;have f:=aH (P.out (k+1) I I);have a:Hid (bU F.of (k+1)=bU F.of k++F.of (k+1)):=aH (IT _ _);have L:Hid ((bU F.of k).length+(F.of (k+1)).length=(bU F.of (k+1)).length):=aH (by rw[a.out,List.length_append]);have zz:=i.out (k+1) I;have o:=L.out;clear S y hn U;go_wp2_with fail
   with_reducible refine M.out.mono ?_
   rintro e w1 ⟨rfl,rfl⟩
   go_wp2_with (refine pY (.tmp 11) (.tmp 17) rfl rfl underlying41 HI HZ HS HY rfl aJ aJ (A:=A1) (n:=(bU F.of k).length) (c:=c1) (rows:=bU F.of k) rfl q (X:=A2) (k:=(F.of (k+1)).length) (d:=c2) (xs:=F.of (k+1)) rfl g f I C.size ?_;rintro A3 c3 w3 x t s)
   have m:Hid (cU w3 R 159 6 A3 (bU F.of (k+1)).length c3 (bU F.of (k+1))):=aH (by rw[<-L.out,a.out];exact x);have j:Below R R w3:=C.trans (t.below C.size (fun b hb e=>by have:=q.high e;omega));clear x t s z g f;go_wp2;go_roundw
   case rel=>exact⟨k+1,I,aG,j,aH ⟨_,_,rfl,m.out⟩⟩
   case measure=>simp [intOf];omega
  obtain rfl:k=V:=I;have q1:¬((k:Int)+1)<=k:=I;go_wp2_with fail
  with_reducible refine M.out.mono ?_
  rintro e w1 ⟨rfl,rfl⟩;go_wp2;go_ret;exact⟨A1,c1,rfl,q.out,C⟩
