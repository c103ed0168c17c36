/-
  Part of a proof: ShLw. For all values.
-/
import Derived.Test.YtplpimkgihnmhaaGreatDoorA49
import Derived.Test.YtplpimkgihnmhaaGreatDoorA32
import Derived.Test.YtplpimkgihnmhaaGreatDoorA43
import Derived.Test.YtplpimkgihnmhaaGreatDoorA50
set_option maxRecDepth 100000
set_option maxHeartbeats 4000000
set_option linter.all false
namespace Go.Proofs.YtplpimkgihnmhaaGreatDoor
open Go.Proofs.Tryz Go.RowKit
section
attribute [local go_sem↓] Go.wp_at_zero Go.wp_at_succ
def CJ(F:pH)(t:Int):Int:=if¬(0<=t/\t<4)then 2 else if(F.th t.toNat).does=0 then 8 else 0
noncomputable def LF (F:pH) (t:Int):pH:=if CJ F t=0 then F.step t.toNat else F
noncomputable def IX (F:pH) (t:Int):Bool:=if CJ F t=0 then(F.loc t.toNat).fin else false
noncomputable def QU (F:pH) (t:Int):Int:=if IX F t=true then(F.loc t.toNat).t.o1 else 0
noncomputable def Er (F:pH) (t:Int):Int:=if IX F t=true then(F.loc t.toNat).t.o2 else 0
theorem oR(F:pH)(t:Int):(¬(0<=t/\t<4)/\CJ F t=2)\/((0<=t/\t<4)/\(F.th t.toNat).does=0/\CJ F t=8)\/((0<=t/\t<4)/\(F.th t.toNat).does≠0/\CJ F t=0):=by
 unfold CJ;by_cases Z:0<=t/\t<4
 .by_cases d:(F.th t.toNat).does=0
  .exact .inr (.inl ⟨Z,d,by rw[iN (fun q=>q Z),iP d]⟩)
  exact .inr (.inr ⟨Z,d,by rw[iN (fun q=>q Z),iN d]⟩)
 exact .inl ⟨Z,by rw[iP Z]⟩
theorem GE{F:pH}{t:Int}(h:CJ F t≠0):IX F t=false/\QU F t=0/\Er F t=0/\LF F t=F:=by
 have Z:IX F t=false:=iN h;exact⟨Z,by unfold QU;rw[Z];rfl,by unfold Er;rw[Z];rfl,iN h⟩
theorem Gb{F:pH}{t:Int}(h:CJ F t=0):IX F t=(F.loc t.toNat).fin/\QU F t=(if(F.loc t.toNat).fin=true then(F.loc t.toNat).t.o1 else 0)/\Er F t=(if(F.loc t.toNat).fin=true then(F.loc t.toNat).t.o2 else 0)/\LF F t=F.step t.toNat:=by
 have Z:IX F t=(F.loc t.toNat).fin:=iP h;exact⟨Z,by unfold QU;rw[Z],by unfold Er;rw[Z],iP h⟩
theorem aBL{N:Nat}{F:pH}(Z:lM N F)(Y:N<=100000000)(t:Int):lM (N+1) (LF F t):=by
 unfold LF;rcases oR F t with⟨_,e⟩|⟨_,_,e⟩|⟨X,d,e⟩
 .rw[e,iN aJ];exact Z.mono I
 .rw[e,iN aJ];exact Z.mono I
 rw[e,iP rfl];exact FY Z I d Y
theorem aBe{N:Nat}{F:pH}(Z:lM N F)(h:AR F)(t:Int):AR (LF F t):=by
 unfold LF;rcases oR F t with⟨_,e⟩|⟨_,_,e⟩|⟨Y,d,e⟩
 .rw[e,iN aJ];exact h
 .rw[e,iN aJ];exact h
 rw[e,iP rfl];exact PK h Z.inv.ok I
section
variable{w:World}{tag:Nat->Nat}{F:pH}{p gm gs go:Nat}{gw pt:Nat->Nat}{N:Nat}
theorem aCl(h:kK w tag F p gs go pt)(T:lM N F)(P:N<=100000000)(R:AR F)(t:Int):
 Calls prog 24 #[(p,0),t] w fun e w'=>e=.returned (.tuple #[.agg #[(QU F t),(Er F t)],(IX F t),(CJ F t)])/\SI w tag (LF F t) p gs go pt w':=by
 rcases oR F t with⟨S,e⟩|⟨S,d,e⟩|⟨S,d,e⟩
 .obtain⟨X,W,V,U⟩:=GE (F:=F) (t:=t) (by rw[e];decide);rw[X,W,V,U,e];exact(aBp p t w S).mono fun Q w' Y=>⟨Y.1,SI.same h Y.2⟩
 .obtain⟨X,W,V,U⟩:=GE (F:=F) (t:=t) (by rw[e];decide);rw[X,W,V,U,e];have Z:=aAm h T (t:=t.toNat) I d;rw[show((t.toNat:Nat):Int)=t by omega]at Z;exact Z.mono fun Q w' Y=>⟨Y.1,SI.same h Y.2⟩
 obtain⟨X,W,V,U⟩:=Gb e;rw[X,W,V,U,e];have Z:=Fr h T P R (t:=t.toNat) I d;rw[show((t.toNat:Nat):Int)=t by omega]at Z;exact Z
theorem aCh(h:gH w tag F p gm gs gw)(S:lM N F)(L:N<=100000000)(R:AR F)(K:mR w)(G:tag 2=0)(t:Int):
 Calls prog 45 #[(p,0),t] w fun e w'=>e=.returned (.tuple #[.agg #[(QU F t),(Er F t)],(IX F t),gS (CJ F t)])/\DZ w tag (LF F t) p gm gs gw w':=by
 rcases oR F t with⟨T,e⟩|⟨T,d,e⟩|⟨T,d,e⟩
 .obtain⟨X,W,V,U⟩:=GE (F:=F) (t:=t) (by rw[e];decide);rw[X,W,V,U,e];exact(aAi p t w T).mono fun Q w' Z=>⟨by rw[Z.1];simp [gS],DZ.same h Z.2⟩
 .obtain⟨X,W,V,U⟩:=GE (F:=F) (t:=t) (by rw[e];decide);rw[X,W,V,U,e];obtain⟨H,O,E,M,P⟩:=h;have Y:=aAJ P (t:=t.toNat) I d;rw[show((t.toNat:Nat):Int)=t by omega]at Y;exact Y.mono fun Q w' Z=>⟨by rw[Z.1];simp [gS],DZ.same ⟨H,O,E,M,P⟩ Z.2⟩
 obtain⟨X,W,V,U⟩:=Gb e;rw[X,W,V,U,e];have Y:=aCX h S L R K G (t:=t.toNat) I d;rw[show((t.toNat:Nat):Int)=t by omega]at Y;exact Y.mono fun Q w' Z=>⟨by rw[Z.1];simp [gS],Z.2⟩
end
theorem Ev.box{w w':World}{tag:Nat->Nat}{Fp X:pH}{p W V:Nat}{U:Nat->Nat}{q T go:Nat}{R:Nat->Nat}(h:Ev w Fp X p W V U q T go R w' tag)(o:Obj):Ev w Fp X p W V U q T go R (w'.alloc o) (cG w' tag 0):=by
 have Z:Below w' w' (w'.alloc o):=(Below.refl _ _).alloc (Nat.le_refl _) _;have Y:=cO w' tag 0;exact⟨h.t.trans Y h.b.size,h.b.trans (Z.mono h.b.size),h.ps.kept (aD.of_same (S:=bN) Z) Y (fun _ x=>x.elim),h.rs.kept (aD.of_same (S:=bN) Z) Y (fun _ x=>x.elim)⟩
