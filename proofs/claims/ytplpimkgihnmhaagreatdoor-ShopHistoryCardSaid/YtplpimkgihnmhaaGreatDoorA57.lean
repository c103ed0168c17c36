/-
  Part of a proof: ShLw. For all values.
-/
import Derived.Test.YtplpimkgihnmhaaGreatDoorA32
set_option maxRecDepth 100000
set_option maxHeartbeats 4000000
set_option linter.all false
namespace Go.Proofs.YtplpimkgihnmhaaGreatDoor
open Go.Proofs.Tryz Go.RowKit
section
attribute [local go_sem↓] Go.wp_at_zero Go.wp_at_succ
theorem lX(A P:Option Addr)(n c c':Nat)(rows:List (List Value))(w:World)(h:FI 9 w A n c rows)(S:FI 9 w P n c' rows)(W:dL rows):
 Calls prog 30 #[.slice A n c,.slice P n c'] w fun e w'=>e=.returned true/\Below w w w':=by
 have H:=aH h;have O:=aH S;have N:=aH W;have C:=h.cap;have M:=h.cap63;have B:=S.cap;have L:=S.cap63;have G:=h.len;clear h S W
 go_enter func30,ntmps30
 go_wp2
 go_loopw [5] (fun i wr=>∃k:Nat,k<=n/\i=.int .i64 k/\Below w w wr) (fun i _=>n-(intOf i).toNat)
 case atStart=>exact⟨0,I,rfl,Below.refl _ _⟩
 case round=>
  obtain⟨k,hk,rfl,V⟩:=hrel;have R:=V.size;by_cases D:k<n
  .obtain⟨b,off,rfl,hblt,hcell⟩:=H.out.at_ I;obtain⟨U,X,rfl,Y,Z⟩:=O.out.at_ I;have F:(k:Int)<n:=I;obtain⟨r,W⟩:∃r,rows[k]? =some r:=⟨rows[k]'I,List.getElem?_eq_getElem _⟩;obtain⟨x0,x1,x2,x3,x4,x5,x6,x7,x8,rfl⟩:=N.out r (List.mem_of_getElem? W);have z:=(V.cell (p:=⟨b,off+k*9,none⟩) hblt).trans (by simpa using hcell k _ W 0 _ rfl);have y:=(V.cell (p:=⟨b,off+k*9+1,none⟩) hblt).trans (by simpa using hcell k _ W 1 _ rfl);have x:=(V.cell (p:=⟨b,off+k*9+2,none⟩) hblt).trans (by simpa using hcell k _ W 2 _ rfl);have v:=(V.cell (p:=⟨b,off+k*9+3,none⟩) hblt).trans (by simpa using hcell k _ W 3 _ rfl);have u:=(V.cell (p:=⟨b,off+k*9+4,none⟩) hblt).trans (by simpa using hcell k _ W 4 _ rfl);have t:=(V.cell (p:=⟨b,off+k*9+5,none⟩) hblt).trans (by simpa using hcell k _ W 5 _ rfl);have s:=(V.cell (p:=⟨b,off+k*9+6,none⟩) hblt).trans (by simpa using hcell k _ W 6 _ rfl);have q:=(V.cell (p:=⟨b,off+k*9+7,none⟩) hblt).trans (by simpa using hcell k _ W 7 _ rfl);have o:=(V.cell (p:=⟨b,off+k*9+8,none⟩) hblt).trans (by simpa using hcell k _ W 8 _ rfl);have m:=(V.cell (p:=⟨U,X+k*9,none⟩) Y).trans (by simpa using Z k _ W 0 _ rfl);have l:=(V.cell (p:=⟨U,X+k*9+1,none⟩) Y).trans (by simpa using Z k _ W 1 _ rfl);have j:=(V.cell (p:=⟨U,X+k*9+2,none⟩) Y).trans (by simpa using Z k _ W 2 _ rfl);have g:=(V.cell (p:=⟨U,X+k*9+3,none⟩) Y).trans (by simpa using Z k _ W 3 _ rfl);have f:=(V.cell (p:=⟨U,X+k*9+4,none⟩) Y).trans (by simpa using Z k _ W 4 _ rfl);have d:=(V.cell (p:=⟨U,X+k*9+5,none⟩) Y).trans (by simpa using Z k _ W 5 _ rfl);have a:=(V.cell (p:=⟨U,X+k*9+6,none⟩) Y).trans (by simpa using Z k _ W 6 _ rfl);have e7:=(V.cell (p:=⟨U,X+k*9+7,none⟩) Y).trans (by simpa using Z k _ W 7 _ rfl);have e8:=(V.cell (p:=⟨U,X+k*9+8,none⟩) Y).trans (by simpa using Z k _ W 8 _ rfl);clear hcell Z W;have E:b<wr:=I;have Q:U<wr:=I;clear G;go_wp2;refine bK 9 bN [] J J ?_
   iterate 9
    refine aC (fun K T=>?_)
    first
    |(refine .inl ?_
      apply Exists.intro;refine⟨cX,?_,T _ _ _ _ ?_⟩
      .simp only[bJ,bM];refine⟨?_,fun w9 hw9 _=>?_⟩
       .first|rfl|(go_simp;done)
       obtain⟨hc9,hf9⟩:=hw9.all;go_simp
       first
       |exact⟨⟨rfl,trivial⟩,aD.refl _ _⟩
      clear T K
      try simp only[Act.put,List.setIfInBounds_toArray,List.set_cons_zero,List.set_cons_succ])
    |(refine .inr (.inl ⟨?_,T _ _ _ _ ?_⟩)
      .simp only[bM]
       first|rfl|(go_simp;done)
      clear T K
      try simp only[Act.put,List.setIfInBounds_toArray,List.set_cons_zero,List.set_cons_succ])
   refine cP ?_;simp only[bM];intro w9 hw9 _;obtain⟨hc9,hf9⟩:=hw9.all;simp only[List.drop_succ_cons,List.drop_zero,List.drop];go_wp2;go_roundw
   case rel=>exact⟨k+1,I,aG,V.trans (hw9.same.mono R)⟩
   case measure=>simp [intOf];omega
  .obtain rfl:k=n:=I;have F:¬(k:Int)<k:=I;go_wp2;go_ret;exact⟨rfl,V⟩
