/-
  Part of a proof: StW. For all values.
-/
import Derived.Test.YtplpimkgihnmhaaGreatDoorA16
import Derived.Test.YtplpimkgihnmhaaGreatDoorA37
set_option maxRecDepth 100000
set_option maxHeartbeats 400000
set_option linter.all false
namespace Go.Proofs.YtplpimkgihnmhaaGreatDoor
open Go.Proofs.Tryz Go.RowKit
section
attribute [local go_sem↓] Go.wp_at_zero Go.wp_at_succ
theorem aCI(g:Nat)(s:cN)(w:World)(Z:aY w g 123 (nI s)):
 Calls prog 70 #[(g,0)] w fun e w'=>e=.returned (.tuple #[s.fl,s.fe])/\Below w w w':=by
 have Y:w.cell? (g,180)=s.fl:=by rw[Z.cell,Ac s]
 have X:w.cell? (g,181)=s.fe:=by rw[Z.cell,Ap s]
 clear Z
 go_enter func70,ntmps70
 go_wp2
 go_region
 apply_assumption
 go_wp2
 go_ret2
 exact⟨rfl,by go_grown⟩
theorem Ow(g:Nat)(l:Int)(w:World)(W:¬(0<=l/\l<9)):
 Calls prog 71 #[(g,0),l] w fun e w'=>e=.returned false/\Below w w w':=by
 by_cases X:l<0
 .have d:decide (0<=l)=false:=by simp;omega
  go_enter func71,ntmps71
  go_wp2;refine bK 21 bN [] J J ?_
  iterate 21
   refine aC (fun K Z=>?_)
   first
   |(refine .inl ?_
     apply Exists.intro;refine⟨cX,?_,Z _ _ _ _ ?_⟩
     .simp only[bJ,bM];refine⟨?_,fun w9 hw9 _=>?_⟩
      .first|rfl|(go_simp;done)
      obtain⟨hc9,hf9⟩:=hw9.all;go_simp
      first
      |exact⟨⟨rfl,trivial⟩,aD.refl _ _⟩
     clear Z K
     try simp only[Act.put,List.setIfInBounds_toArray,List.set_cons_zero,List.set_cons_succ])
   |(refine .inr (.inl ⟨?_,Z _ _ _ _ ?_⟩)
     .simp only[bM]
      first|rfl|(go_simp;done)
     clear Z K
     try simp only[Act.put,List.setIfInBounds_toArray,List.set_cons_zero,List.set_cons_succ])
  refine cP ?_;simp only[bM];intro w9 hw9 _;obtain⟨hc9,hf9⟩:=hw9.all;go_wp2;go_ret;exact⟨rfl,hw9.same⟩
 .have h1:9<=l:=I;have d:decide (0<=l)=true:=by simp;omega
  have Y:decide (l<9)=false:=by simp;omega
  go_enter func71,ntmps71
  go_wp2;refine bK 21 bN [] J J ?_
  iterate 21
   refine aC (fun K Z=>?_)
   first
   |(refine .inl ?_
     apply Exists.intro;refine⟨cX,?_,Z _ _ _ _ ?_⟩
     .simp only[bJ,bM];refine⟨?_,fun w9 hw9 _=>?_⟩
      .first|rfl|(go_simp;done)
      obtain⟨hc9,hf9⟩:=hw9.all;go_simp
      first
      |exact⟨⟨rfl,trivial⟩,aD.refl _ _⟩
     clear Z K
     try simp only[Act.put,List.setIfInBounds_toArray,List.set_cons_zero,List.set_cons_succ])
   |(refine .inr (.inl ⟨?_,Z _ _ _ _ ?_⟩)
     .simp only[bM]
      first|rfl|(go_simp;done)
     clear Z K
     try simp only[Act.put,List.setIfInBounds_toArray,List.set_cons_zero,List.set_cons_succ])
  refine cP ?_;simp only[bM];intro w9 hw9 _;obtain⟨hc9,hf9⟩:=hw9.all;go_wp2;go_ret;exact⟨rfl,hw9.same⟩
def Hm(f h:Nat->Int)(o:Nat):Bool:=(List.range 8).all fun i=>f (o+i)==h (o+i)
theorem aCJ(f h:Nat->Int)(o:Nat)(w:World):(Op.equalIn 10000 118 (.agg (sF f o)) (.agg (sF h o))).run prog w=.ok (Hm f h o) w:=by
 refine(uH (X:=sF f o) (Y:=sF h o) (x:=fun i=>f (o+i)) (y:=fun i=>h (o+i)) w 9998 8 underlying118 underlying23 (by intro w;kernel_rfl) (fun i Z=>cW Z) (fun i Z=>cW Z)).trans ?_;congr 1;rw[Bool.eq_iff_iff];simp [Hm]
theorem Ov(s:cN)(l:Nat):s.dirty l= !Hm s.now s.good (l*8):=by
 unfold cN.dirty Hm;congr 1;rw[Bool.eq_iff_iff];simp
theorem aAL(g l:Nat)(s:cN)(w:World)(X:aY w g 123 (nI s))(W:l<9):
 Calls prog 71 #[(g,0),l] w fun e w'=>e=.returned (s.dirty l)/\Below w w w':=by
 have Z:=aH X;clear X;have U:decide (0<=(l:Int))=true:=by simp
 have T:decide ((l:Int)<9)=true:=by simp;omega
 have S:(l:Int)<9:=I;have V:=aCJ s.now s.good (l*8);have Y:=aH (Ov s l);generalize Hm s.now s.good (l*8)=q at V Y
 go_enter func71,ntmps71
 go_wp2;refine aA 21 ?_
 iterate 21
  first
  |(refine aR1 ?_;constructor
    .intro w9 hw9 hc9 hf9
     first
     |(first|exact eG 118 _ rfl g (l*8) rfl (sF s.now (l*8)) _ (MF (Z.below hw9.same Z.lt) W) underlying118 rfl (zT _ _) aE|exact eG 118 _ rfl g (72+l*8) rfl (sF s.good (l*8)) _ (FN (Z.below hw9.same Z.lt) W) underlying118 rfl (zT _ _) aE)
     |(go_simp
       first
       |exact aE))
  |refine aU ?_
 refine bZ ?_;intro w9 hw9 hc9 hf9;go_wp2;go_ret;exact⟨dF (by rw[Y.out]),hw9.same⟩
