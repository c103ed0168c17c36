/-
  Parts of a proof. For all values.
-/
import Derived.Test.YtplpimkgihnmhaaGreatDoorA01
set_option maxRecDepth 100000
set_option maxHeartbeats 400000
set_option linter.all false
namespace Go.Proofs.YtplpimkgihnmhaaGreatDoor
open Go.Proofs.Tryz Go.RowKit
section
attribute [local go_sem↓] Go.wp_at_zero Go.wp_at_succ
theorem aAc:(prog.info? 25).map (·.size)=some 32:=J
theorem sR(A:Option Addr)(n c:Nat)(z:Nat->Int)(w:World)(h:qY w A n c z)(s:n<=32)(D:Array Value)(G:cH D 32 (fun i=>if i<n then z i else 0)):
 Calls prog 39 #[.slice A n c] w fun e w'=>e=.returned (.agg D)/\Below w w w':=by
 have H:=aH h;clear h;have U:=aH G;clear G;have T:=U.one;have Z:=aH U.size;have F:0<=(n:Int):=I
 go_enter func39,ntmps39
 go_wp2
 go_loopw [4] (fun i wr=>∃k:Nat,k<=n/\i=.int .i64 k/\Hid (∃E,aY wr (w,1) 25 E/\cH E 32 (fun i=>if i<k then z i else 0))/\Hid (aY wr w 25 (32:Nat))/\Below w w wr) (fun i _=>n-(intOf i).toNat)
 case atStart=>exact⟨0,I,rfl,aH ⟨(32:Nat),aY.newAt _ _ _ (by simp),(cH.zero 32).congr (fun i y=>by simp)⟩,aH ((aY.new _ _ _).alloc _),by go_grown⟩
 case round=>
  obtain⟨k,t,rfl,M,P,V⟩:=hrel;obtain⟨E,X,L⟩:=M.out;clear M;have S:=aH L;clear L;have Y:=aH X;clear X;have N:k<=32:=I;have C:=V.size;by_cases W:k<n
  .obtain⟨b,off,rfl,hblt,hcell⟩:=H.at_ I;have x:=(V.cell (p:=⟨b,off+k,none⟩) hblt).trans (hcell k W);clear hcell;have R:=H.bd k W;have B:wr.cell? ⟨w.heap.size+1,k,none⟩=some (.int .u64 0):=by
    rw[Y.cell,S.get k I,iN I]
   have v:=Y.frozen k;have u:(k:Int)<32:=I;go_wp2;go_roundw
   case rel=>exact⟨k+1,I,aG,aH ⟨_,Y.set_ k _,(S.set_ R).congr (fun i y=>by
    by_cases O:i=k
    .subst O;simp
    by_cases K:i<k
    .rw[iP I,iN O,iP K]
    rw[iN I,iN O,iN K])⟩,aH (P.far (by simp) _),V.setCell (by simp) _⟩
   case measure=>simp [intOf];omega
  obtain rfl:k=n:=I;have Q:=S.ext U;subst Q
  go_wp2_with (first
   |(refine wpList_load_row rfl 25 _ rfl (w,1) rfl 25 E (0,0) _ ?ha underlying25 rfl ?hb1 ?_)
   |(refine wpList_store_row rfl 25 _ _ rfl w E rfl rfl 25 (32:Nat) ?hg ?hj ?ho T ?_))
  case ha=>exact Y
  case hb1=>rw[aAc,Z.out]
  case hg=>exact P
  case hj=>rw[aAc,Z.out]
  case ho=>rw[Z.out];rfl
  refine bodyPost_ret (results_cell_row results39 _ _ w 25 E (0,0) _ rfl (P.setRow E) underlying25 rfl (by rw[aAc,Z.out])) rfl ⟨rfl,aL V (Nat.le_refl _) _⟩
