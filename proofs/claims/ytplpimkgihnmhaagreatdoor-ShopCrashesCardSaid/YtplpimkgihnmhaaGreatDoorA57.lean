/-
  Part of a proof: ShLw. For all values.
-/
import Derived.Test.YtplpimkgihnmhaaGreatDoorA32
import Derived.Test.YtplpimkgihnmhaaGreatDoorA45
set_option maxRecDepth 100000
set_option maxHeartbeats 4000000
set_option linter.all false
namespace Go.Proofs.YtplpimkgihnmhaaGreatDoor
open Go.Proofs.Tryz Go.RowKit
section
attribute [local go_sem↓] Go.wp_at_zero Go.wp_at_succ
theorem lX(A Q:Option Addr)(n c c':Nat)(rows:List (List Value))(w:World)(h:FI 9 w A n c rows)(T:FI 9 w Q n c' rows)(W:dL rows):
 Calls prog 30 #[.slice A n c,.slice Q n c'] w fun e w'=>e=.returned true/\Below w w w':=by
 have H:=aH h;have P:=aH T;have O:=aH W;have E:=h.cap;have N:=h.cap63;have D:=T.cap;have M:=T.cap63;have L:=h.len;clear h T W
 go_enter func30,ntmps30
 go_wp2
 go_loopw [5] (fun i wr=>∃k:Nat,k<=n/\i=.int .i64 k/\Below w w wr) (fun i _=>n-(intOf i).toNat)
 case atStart=>exact⟨0,I,rfl,Below.refl _ _⟩
 case round=>
  obtain⟨k,hk,rfl,V⟩:=hrel;have S:=V.size;by_cases F:k<n
  .obtain⟨b,off,rfl,hblt,hcell⟩:=H.at_ I;obtain⟨U,X,rfl,Y,Z⟩:=P.at_ I;have K:(k:Int)<n:=I;obtain⟨r,W⟩:∃r,rows[k]? =some r:=⟨rows[k]'I,List.getElem?_eq_getElem _⟩;obtain⟨x0,x1,x2,x3,x4,x5,x6,x7,x8,rfl⟩:=O.out r (List.mem_of_getElem? W);have C:=(V.cell (p:=⟨b,off+k*9,none⟩) hblt).trans (by simpa using hcell k _ W 0 _ rfl);have B:=(V.cell (p:=⟨b,off+k*9+1,none⟩) hblt).trans (by simpa using hcell k _ W 1 _ rfl);have z:=(V.cell (p:=⟨b,off+k*9+2,none⟩) hblt).trans (by simpa using hcell k _ W 2 _ rfl);have y:=(V.cell (p:=⟨b,off+k*9+3,none⟩) hblt).trans (by simpa using hcell k _ W 3 _ rfl);have x:=(V.cell (p:=⟨b,off+k*9+4,none⟩) hblt).trans (by simpa using hcell k _ W 4 _ rfl);have v:=(V.cell (p:=⟨b,off+k*9+5,none⟩) hblt).trans (by simpa using hcell k _ W 5 _ rfl);have u:=(V.cell (p:=⟨b,off+k*9+6,none⟩) hblt).trans (by simpa using hcell k _ W 6 _ rfl);have t:=(V.cell (p:=⟨b,off+k*9+7,none⟩) hblt).trans (by simpa using hcell k _ W 7 _ rfl);have s:=(V.cell (p:=⟨b,off+k*9+8,none⟩) hblt).trans (by simpa using hcell k _ W 8 _ rfl);have q:=(V.cell (p:=⟨U,X+k*9,none⟩) Y).trans (by simpa using Z k _ W 0 _ rfl);have o:=(V.cell (p:=⟨U,X+k*9+1,none⟩) Y).trans (by simpa using Z k _ W 1 _ rfl);have m:=(V.cell (p:=⟨U,X+k*9+2,none⟩) Y).trans (by simpa using Z k _ W 2 _ rfl);have l:=(V.cell (p:=⟨U,X+k*9+3,none⟩) Y).trans (by simpa using Z k _ W 3 _ rfl);have j:=(V.cell (p:=⟨U,X+k*9+4,none⟩) Y).trans (by simpa using Z k _ W 4 _ rfl);have g:=(V.cell (p:=⟨U,X+k*9+5,none⟩) Y).trans (by simpa using Z k _ W 5 _ rfl);have f:=(V.cell (p:=⟨U,X+k*9+6,none⟩) Y).trans (by simpa using Z k _ W 6 _ rfl);have d:=(V.cell (p:=⟨U,X+k*9+7,none⟩) Y).trans (by simpa using Z k _ W 7 _ rfl);have a:=(V.cell (p:=⟨U,X+k*9+8,none⟩) Y).trans (by simpa using Z k _ W 8 _ rfl);clear hcell Z W;have G:b<wr:=I;have R:U<wr:=I;clear L;go_wp2;refine aA 9 ?_
   iterate 9
    first
    |(refine aR1 ?_;constructor
      .intro w9 hw9 hc9 hf9;go_simp
       first
       |exact aE)
    |refine aU ?_
   refine bZ ?_;intro w9 hw9 hc9 hf9;simp only[List.drop_succ_cons,List.drop_zero,List.drop];go_wp2;go_roundw
   case rel=>exact⟨k+1,I,aG,V.trans (hw9.same.mono S)⟩
   case measure=>simp [intOf];omega
  obtain rfl:k=n:=I;have K:¬(k:Int)<k:=I;go_wp2;go_ret;exact⟨rfl,V⟩
