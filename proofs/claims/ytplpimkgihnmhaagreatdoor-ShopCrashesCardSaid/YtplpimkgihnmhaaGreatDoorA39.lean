/-
  Part of a proof: BatA. For all values.
-/
import Derived.Test.YtplpimkgihnmhaaGreatDoorA16
import Derived.Test.YtplpimkgihnmhaaGreatDoorA38
set_option maxRecDepth 100000
set_option maxHeartbeats 4000000
set_option linter.all false
namespace Go.Proofs.YtplpimkgihnmhaaGreatDoor
open Go.Proofs.Tryz Go.RowKit
section
attribute [local go_sem↓] Go.wp_at_zero Go.wp_at_succ
def aBP(r:List Value):Prop:=∃x0 x1 x2 x3 x4 x5:Int,r=[.int .i64 x0,.int .i64 x1,.int .i64 x2,.int .i64 x3,.int .i64 x4,.int .i64 x5]
theorem pB(A L:Option Addr)(n c c':Nat)(rows:List (List Value))(w:World)(h:FI 6 w A n c rows)(K:FI 6 w L n c' rows)(W:∀r∈rows,aBP r):
 Calls prog 35 #[.slice A n c,.slice L n c'] w fun e w'=>e=.returned true/\Below w w w':=by
 have H:=aH h;have G:=aH K;have F:=aH W;have y:=h.cap;have E:=h.cap63;have D:=h.len;clear h K W
 go_enter func35,ntmps35
 go_wp2
 go_loopw [5] (fun i wr=>∃k:Nat,k<=n/\i=.int .i64 k/\Below w w wr) (fun i _=>n-(intOf i).toNat)
 case atStart=>exact⟨0,I,rfl,Below.refl _ _⟩
 case round=>
  obtain⟨k,d,rfl,V⟩:=hrel;have T:=V.size;by_cases z:k<n
  .obtain⟨b,off,rfl,hblt,hcell⟩:=H.at_ I;obtain⟨U,Y,rfl,X,Z⟩:=G.at_ I;have C:(k:Int)<n:=I;obtain⟨r,W⟩:∃r,rows[k]? =some r:=⟨rows[k]'I,List.getElem?_eq_getElem _⟩;obtain⟨R,Q,P,O,N,M,rfl⟩:=F.out r (List.mem_of_getElem? W);have x:wr.cell? (b,off+k*6)=R:=(V.cell (p:=⟨b,off+k*6,none⟩) hblt).trans (by simpa using hcell k _ W 0 _ rfl);have v:wr.cell? (b,off+k*6+1)=Q:=(V.cell (p:=⟨b,off+k*6+1,none⟩) hblt).trans (by simpa using hcell k _ W 1 _ rfl);have u:wr.cell? (b,off+k*6+2)=P:=(V.cell (p:=⟨b,off+k*6+2,none⟩) hblt).trans (by simpa using hcell k _ W 2 _ rfl);have t:wr.cell? (b,off+k*6+3)=O:=(V.cell (p:=⟨b,off+k*6+3,none⟩) hblt).trans (by simpa using hcell k _ W 3 _ rfl);have s:wr.cell? (b,off+k*6+4)=N:=(V.cell (p:=⟨b,off+k*6+4,none⟩) hblt).trans (by simpa using hcell k _ W 4 _ rfl);have q:wr.cell? (b,off+k*6+5)=M:=(V.cell (p:=⟨b,off+k*6+5,none⟩) hblt).trans (by simpa using hcell k _ W 5 _ rfl);have o:wr.cell? (U,Y+k*6)=R:=(V.cell (p:=⟨U,Y+k*6,none⟩) X).trans (by simpa using Z k _ W 0 _ rfl);have m:wr.cell? (U,Y+k*6+1)=Q:=(V.cell (p:=⟨U,Y+k*6+1,none⟩) X).trans (by simpa using Z k _ W 1 _ rfl);have l:wr.cell? (U,Y+k*6+2)=P:=(V.cell (p:=⟨U,Y+k*6+2,none⟩) X).trans (by simpa using Z k _ W 2 _ rfl);have j:wr.cell? (U,Y+k*6+3)=O:=(V.cell (p:=⟨U,Y+k*6+3,none⟩) X).trans (by simpa using Z k _ W 3 _ rfl);have g:wr.cell? (U,Y+k*6+4)=N:=(V.cell (p:=⟨U,Y+k*6+4,none⟩) X).trans (by simpa using Z k _ W 4 _ rfl);have f:wr.cell? (U,Y+k*6+5)=M:=(V.cell (p:=⟨U,Y+k*6+5,none⟩) X).trans (by simpa using Z k _ W 5 _ rfl);clear hcell Z W;have B:b<wr:=I;have S:U<wr:=I;clear D;go_wp2;refine aA 9 ?_
   iterate 9
    first
    |(refine aR1 ?_;constructor
      .intro w9 hw9 hc9 hf9;go_simp
       first
       |exact aE)
    |refine aU ?_
   refine bZ ?_;intro w9 hw9 hc9 hf9;simp only[List.drop_succ_cons,List.drop_zero,List.drop];go_wp2;go_roundw
   case rel=>exact⟨k+1,I,aG,V.trans (hw9.same.mono T)⟩
   case measure=>simp [intOf];omega
  obtain rfl:k=n:=I;have C:¬(k:Int)<k:=I;go_wp2;go_ret;exact⟨rfl,V⟩
