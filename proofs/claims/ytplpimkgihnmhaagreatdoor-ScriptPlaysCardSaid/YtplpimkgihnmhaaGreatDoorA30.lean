/-
  Parts of a proof. For all values.
-/
import Derived.Test.YtplpimkgihnmhaaGreatDoorA17
set_option maxRecDepth 100000
set_option maxHeartbeats 4000000
set_option linter.all false
namespace Go.Proofs.YtplpimkgihnmhaaGreatDoor
open Go.Proofs.Tryz Go.RowKit
section
attribute [local go_sem↓] Go.wp_at_zero Go.wp_at_succ
theorem DO(p Y V:Nat)(C:Array Value)(s:cN)(w:World)(W:aY w p 157 C)(U:C[1]? =some (cR Y))(T:aY w Y 123 (nI s))(S:s.now 0=(V:Int))(P:V<=9223372036854775807):
 Calls prog 41 #[(p,0)] w fun e w'=>e=.returned V/\w=w':=by
 have c1:w.cell? (p,1)=(Y,0):=by rw[W.cell,U];rfl
 have Z:=PA Y 0 s w T I;rw[S]at Z;rw[show((0:Nat):Int)=(0:Int)from rfl]at Z;have X:=aH Z;have R:(V:Int)<=9223372036854775807:=I;clear Z S W U T
 go_enter func41,ntmps41
 go_wp2_with fail
 with_reducible refine X.out.mono ?_
 rintro e Q ⟨rfl,rfl⟩;go_wp2;go_ret;exact⟨rfl,rfl⟩
def aBi(V:Nat):Nat:=8+V%2*32
theorem DP:(prog.info? 25).map (·.size)=some 32:=J
theorem aBK(p T V:Nat)(C:Array Value)(s:cN)(w:World)(h:aY w p 157 C)(U:C[1]? =some (cR T))(g:aY w T 123 (nI s))(f:s.now 0=(V:Int))(d:V<=9223372036854775807)(y:s.Ok)
 (D:Array Value) (u:cH D 32 (fun i=>s.now (aBi V+i))):
 Calls prog 38 #[(p,0)] w fun e w'=>e=.returned (.agg D)/\Below w w w':=by
 obtain⟨B,H,o⟩:∃B:Nat,B=aBi V/\((V:Int)%2=0/\B=8\/(V:Int)%2=1/\B=40):=⟨_,rfl,by unfold aBi;omega⟩;rw[<-H]at u;clear H;have L:=aH h;have K:=aH g;have x:=aH U;have v:=aH u;have Y:=aH u.size;have j:=aH f;have G:=aH y;have a:(0:Int)<=V:=I;have v1:(V:Int)<=9223372036854775807:=I;clear h g U u f y;rcases o with⟨n,H⟩|⟨n,H⟩
 .subst H
  go_enter func38,ntmps38
  go_wp2_with fail
  with_reducible refine(DO p T V C s _ ((L.out.alloc _).alloc _) x.out ((K.out.alloc _).alloc _) j.out d).mono ?_
  rintro e m ⟨rfl,rfl⟩;go_wp2;clear n
  go_loopw [13] (fun i wr=>∃k:Nat,k<=32/\i=.int .i64 k/\Hid (∃E,aY wr (w,1) 25 E/\cH E 32 (fun i=>if i<k then s.now (8+i)else 0))/\Hid (aY wr w 25 (32:Nat))/\Below w w wr) (fun i _=>32-(intOf i).toNat)
  case atStart=>exact⟨0,I,rfl,aH ⟨(32:Nat),aY.newAt _ _ _ (by simp),(cH.zero 32).congr (fun i N=>by simp)⟩,aH ((aY.new _ _ _).alloc _),by go_grown⟩
  case round=>
   obtain⟨k,b,rfl,F,M,W⟩:=hrel;obtain⟨E,X,A⟩:=F.out;clear F;have S:=aH A;clear A;have Z:=aH X;clear X;have t:=W.size;by_cases l:k<32
   .have q:(k:Int)<32:=I;have R:=G.now (8+k) I;have c1:wr.cell? (p,1)=(T,0):=by rw[(L.below W L.lt).cell,x.out];rfl
    have Q:=PA T (8+k) s wr (K.below W K.lt) I;rw[show((8+k:Nat):Int)=8+(k:Int) by omega]at Q;have P:=aH Q;clear Q;have r:wr.cell? ⟨w.heap.size+1,k,none⟩=some (.int .u64 0):=by
     rw[Z.cell,S.get k I,iN I]
    have c:=Z.frozen k;go_wp2_with fail
    with_reducible refine P.out.mono ?_
    rintro e m ⟨rfl,rfl⟩;go_wp2;go_roundw
    case rel=>exact⟨k+1,I,aG,aH ⟨_,Z.set_ k _,(S.set_ R).congr (fun i N=>by
     by_cases U:i=k
     .subst U;simp
     by_cases z:i<k
     .rw[iP I,iN U,iP z]
     rw[iN I,iN U,iN z])⟩,aH (M.far (by simp) _),W.setCell (by simp) _⟩
    case measure=>simp [intOf];omega
   obtain rfl:k=32:=I;have O:=(S.congr (z':=fun i=>s.now (8+i)) (fun i N=>by rw[iP N])).ext v;subst O;have q:¬((32:Nat):Int)<32:=I
   go_wp2_with (first
    |(with_reducible refine lL 25 (w,1) 25 E J Z.out underlying25 J (by rw[DP,Y.out]) ?_)
    |(with_reducible refine fK 25 w E 25 (32:Nat) J J M.out (by rw[DP,Y.out]) (by rw[Y.out];kernel_rfl) v.out.one ?_))
   refine bodyPost_ret (results_cell_row results38 _ _ w 25 E (0,0) _ rfl (M.setRow E) underlying25 rfl (by rw[DP,Y.out])) rfl ⟨rfl,aL W (Nat.le_refl _) _⟩
 subst H
 go_enter func38,ntmps38
 go_wp2_with fail
 with_reducible refine(DO p T V C s _ ((L.out.alloc _).alloc _) x.out ((K.out.alloc _).alloc _) j.out d).mono ?_
 rintro e m ⟨rfl,rfl⟩;go_wp2;clear n
 go_loopw [13] (fun i wr=>∃k:Nat,k<=32/\i=.int .i64 k/\Hid (∃E,aY wr (w,1) 25 E/\cH E 32 (fun i=>if i<k then s.now (40+i)else 0))/\Hid (aY wr w 25 (32:Nat))/\Below w w wr) (fun i _=>32-(intOf i).toNat)
 case atStart=>exact⟨0,I,rfl,aH ⟨(32:Nat),aY.newAt _ _ _ (by simp),(cH.zero 32).congr (fun i N=>by simp)⟩,aH ((aY.new _ _ _).alloc _),by go_grown⟩
 case round=>
  obtain⟨k,b,rfl,F,M,W⟩:=hrel;obtain⟨E,X,A⟩:=F.out;clear F;have S:=aH A;clear A;have Z:=aH X;clear X;have t:=W.size;by_cases l:k<32
  .have q:(k:Int)<32:=I;have R:=G.now (40+k) I;have c1:wr.cell? (p,1)=(T,0):=by rw[(L.below W L.lt).cell,x.out];rfl
   have Q:=PA T (40+k) s wr (K.below W K.lt) (by omega);rw[show((40+k:Nat):Int)=40+(k:Int) by omega]at Q;have P:=Lib.hid Q;clear Q;have r:wr.cell? ⟨w.heap.size+1,k,none⟩=some (.int .u64 0):=by
    rw[Z.cell,S.get k I,iN I]
   have c:=Z.frozen k;go_wp2_with fail
   with_reducible refine P.out.mono ?_
   rintro e m ⟨rfl,rfl⟩;go_wp2;go_roundw
   case rel=>exact⟨k+1,I,aG,aH ⟨_,Z.set_ k _,(S.set_ R).congr (fun i N=>by
    by_cases U:i=k
    .subst U;simp
    by_cases z:i<k
    .rw[iP I,iN U,iP z]
    rw[iN I,iN U,iN z])⟩,aH (M.far (by simp) _),W.setCell (by simp) _⟩
   case measure=>simp [intOf];omega
  obtain rfl:k=32:=I;have O:=(S.congr (z':=fun i=>s.now (40+i)) (fun i N=>by rw[iP N])).ext v;subst O;have q:¬((32:Nat):Int)<32:=I
  go_wp2_with (first
   |(with_reducible refine lL 25 (w,1) 25 E J Z.out underlying25 J (by rw[DP,Y.out]) ?_)
   |(with_reducible refine fK 25 w E 25 (32:Nat) J J M.out (by rw[DP,Y.out]) (by rw[Y.out];kernel_rfl) v.out.one ?_))
  refine bodyPost_ret (results_cell_row results38 _ _ w 25 E (0,0) _ rfl (M.setRow E) underlying25 rfl (by rw[DP,Y.out])) rfl ⟨rfl,aL W (Nat.le_refl _) _⟩
