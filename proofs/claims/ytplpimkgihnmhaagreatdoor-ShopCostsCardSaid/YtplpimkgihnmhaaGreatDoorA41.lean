/-
  Part of a proof: StS. For all values.
-/
import Derived.Test.YtplpimkgihnmhaaGreatDoorA24
import Derived.Test.YtplpimkgihnmhaaGreatDoorA40
set_option maxRecDepth 100000
set_option maxHeartbeats 1000000
set_option linter.all false
namespace Go.Proofs.YtplpimkgihnmhaaGreatDoor
open Go.Proofs.Tryz Go.RowKit
section
open Go.Maps
attribute [local go_sem↓] Go.wp_at_zero Go.wp_at_succ
def Mf(s:cN)(l:Nat):Bool:=(List.range 72).any fun i=>decide (i/8=l)&&(s.now i !=s.good i)
theorem aAs(s:cN){l:Nat}(Y:l<9):Mf s l=s.dirty l:=by
 rw[Ov,Bool.eq_iff_iff];simp only[Mf,Hm,List.any_eq_true,List.mem_range,Bool.and_eq_true,decide_eq_true_eq,bne_iff_ne,Bool.not_eq_true',List.all_eq_false,beq_iff_eq];constructor
 .rintro⟨i,hi,h1,h2⟩;exact⟨i%8,I,by rwa [show l*8+i%8=i by omega]⟩
 rintro⟨j,Z,h⟩;exact⟨l*8+j,I,I,h⟩
theorem aCL(h m l:Nat)(s:cN)(w:World)(L:aY w h 74 (kD s m))(A:l<9):
 Calls prog 34 #[(h,0),l] w fun e w'=>e=.returned (s.dirty l)/\Below w w w':=by
 have O:=aH L;have N:=aH (aAs s A);clear L
 go_enter func34,ntmps34
 go_wp2
 go_loopw [6] (fun i wr=>∃k:Nat,k<=72/\i=.int .i64 k/\Hid (Below w w wr)/\Hid (∀j,j<k->j/8=l->s.now j=s.good j)) (fun i _=>72-(intOf i).toNat)
 case atStart=>exact⟨0,I,rfl,aH (Below.refl _ _),aH fun j Q=>absurd Q I⟩
 case round=>
  obtain⟨k,z,rfl,X,P⟩:=hrel;by_cases U:k<72
  .have b1:(k:Int)<72:=I;by_cases S:k/8=l
   .have q:((k:Int)/8==(l:Int))=true:=by simp;omega
    have H:(IntKind.i64.wrap ((k:Int)/8)==(l:Int))=true:=by rw[IntWalk.i64_in _ I];exact q
    have R:=O.out.below X.out O.out.lt;have c1:wr.cell? (h,k)=[s.now k]:=by rw[R.cell,KU _ _ U]
    have M:wr.cell? (h,72+k)=[s.good k]:=by rw[R.cell,UL _ _ U]
    have G:=R.lt;clear R;by_cases T:s.now k=s.good k
    .have W:Hid (∀j,j<k+1->j/8=l->s.now j=s.good j):=aH fun j Q V=>by
      by_cases e:j=k
      .rw[e];exact T
      .exact P.out j I V
     have F:(s.now k !=s.good k)=false:=by simpa using T
     generalize s.now k=C at*;generalize s.good k=B at*;clear S T;go_wp2;refine bK 19 bN [] J J ?_
     iterate 19
      refine aC (fun K Z=>?_)
      first
      |(refine .inl ?_
        apply Exists.intro;refine⟨cX,?_,Z _ _ _ _ ?_⟩
        .simp only[bJ,bM];refine⟨?_,fun w9 hw9 _=>?_⟩
         .first|rfl|(go_simp;done)
         obtain⟨hc9,hf9⟩:=hw9.all;go_simp
         first
         |exact⟨⟨rfl,trivial⟩,aD.refl _ _⟩
        clear Z K
        try simp only[Act.put,List.setIfInBounds_toArray,List.set_cons_zero,List.set_cons_succ])
      |(refine .inr (.inl ⟨?_,Z _ _ _ _ ?_⟩)
        .simp only[bM]
         first|rfl|(go_simp;done)
        clear Z K
        try simp only[Act.put,List.setIfInBounds_toArray,List.set_cons_zero,List.set_cons_succ])
     refine cP ?_;simp only[bM];intro w9 hw9 _;obtain⟨hc9,hf9⟩:=hw9.all;simp only[List.drop_succ_cons,List.drop_zero];have Y:=aH (X.out.trans (hw9.same.mono X.out.size));clear hw9 hc9 hf9 c1 M;go_wp2;go_roundw
     case rel=>exact⟨k+1,I,aG,Y,W⟩
     case measure=>simp [intOf];omega
    .have HT:Hid (s.dirty l=true):=aH (by
      rw[<-N.out,Mf,List.any_eq_true];exact⟨k,by simpa using U,by simp [S,T]⟩)
     have F:(s.now k !=s.good k)=true:=by simpa using T
     generalize s.now k=C at*;generalize s.good k=B at*;clear S T;go_wp2;refine bK 19 bN [] J J ?_
     iterate 19
      refine aC (fun K Z=>?_)
      first
      |(refine .inl ?_
        apply Exists.intro;refine⟨cX,?_,Z _ _ _ _ ?_⟩
        .simp only[bJ,bM];refine⟨?_,fun w9 hw9 _=>?_⟩
         .first|rfl|(go_simp;done)
         obtain⟨hc9,hf9⟩:=hw9.all;go_simp
         first
         |exact⟨⟨rfl,trivial⟩,aD.refl _ _⟩
        clear Z K
        try simp only[Act.put,List.setIfInBounds_toArray,List.set_cons_zero,List.set_cons_succ])
      |(refine .inr (.inl ⟨?_,Z _ _ _ _ ?_⟩)
        .simp only[bM]
         first|rfl|(go_simp;done)
        clear Z K
        try simp only[Act.put,List.setIfInBounds_toArray,List.set_cons_zero,List.set_cons_succ])
     refine cP ?_;simp only[bM];intro w9 hw9 _;obtain⟨hc9,hf9⟩:=hw9.all;simp only[List.drop_succ_cons,List.drop_zero];have Y:=aH (X.out.trans (hw9.same.mono X.out.size));clear hw9 hc9 hf9 c1 M;go_wp2;go_ret;exact⟨dF (by rw[HT.out]),Y.out⟩
   .have q:((k:Int)/8==(l:Int))=false:=by simp;omega
    have H:(IntKind.i64.wrap ((k:Int)/8)==(l:Int))=false:=by rw[IntWalk.i64_in _ I];exact q
    have W:Hid (∀j,j<k+1->j/8=l->s.now j=s.good j):=aH fun j Q V=>by
     by_cases e:j=k
     .rw[e]at V;exact absurd V S
     .exact P.out j I V
    clear S;go_wp2;refine bK 19 bN [] J J ?_
    iterate 19
     refine aC (fun K Z=>?_)
     first
     |(refine .inl ?_
       apply Exists.intro;refine⟨cX,?_,Z _ _ _ _ ?_⟩
       .simp only[bJ,bM];refine⟨?_,fun w9 hw9 _=>?_⟩
        .first|rfl|(go_simp;done)
        obtain⟨hc9,hf9⟩:=hw9.all;go_simp
        first
        |exact⟨⟨rfl,trivial⟩,aD.refl _ _⟩
       clear Z K
       try simp only[Act.put,List.setIfInBounds_toArray,List.set_cons_zero,List.set_cons_succ])
     |(refine .inr (.inl ⟨?_,Z _ _ _ _ ?_⟩)
       .simp only[bM]
        first|rfl|(go_simp;done)
       clear Z K
       try simp only[Act.put,List.setIfInBounds_toArray,List.set_cons_zero,List.set_cons_succ])
    refine cP ?_;simp only[bM];intro w9 hw9 _;obtain⟨hc9,hf9⟩:=hw9.all;simp only[List.drop_succ_cons,List.drop_zero];have Y:=aH (X.out.trans (hw9.same.mono X.out.size));clear hw9 hc9 hf9;go_wp2;go_roundw
    case rel=>exact⟨k+1,I,aG,Y,W⟩
    case measure=>simp [intOf];omega
  .obtain rfl:k=72:=I;have E:Hid (s.dirty l=false):=aH (by
    rw[<-N.out,Mf,List.any_eq_false];intro i D;have V:=P.out i (by simpa using D);by_cases e:i/8=l
    .simp [V e]
    .simp [e])
   go_wp2;go_ret;exact⟨dF (by rw[E.out]),X.out⟩
