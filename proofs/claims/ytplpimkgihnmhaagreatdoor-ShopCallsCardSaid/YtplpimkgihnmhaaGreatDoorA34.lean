/-
  Part of a proof: MBase. For all values.
-/
import Derived.Test.YtplpimkgihnmhaaGreatDoorA33
set_option maxRecDepth 100000
set_option maxHeartbeats 400000
set_option linter.all false
namespace Go.Proofs.YtplpimkgihnmhaaGreatDoor
open Go.Proofs.Tryz Go.RowKit
section
open Go
section
variable{P:Program}{ops:Array Oper}
attribute [go_sem] eQ jQ
end
end
section
open Go.ChangeAt Go.ChangeShapes Go.Deep Go.WideShapes
section
variable{H:Type}{enc:TypeId×Value->H}{P:Program}{w:World}{base:Nat}{spare:Nat->Bool}{held:Bool}
theorem Iq{r:Reach}{X m:Nat}{t e:TypeId}{v:Value}(W:P.underlying t=some (.array m e))(h:Value.okWide P w r X t v):∃cs,v=.agg cs/\cs.size=P.cellsOf t:=by
 simp only[Value.okWide,W]at h;obtain⟨cs,Z,Y,_⟩:=h;exact⟨cs,Z,Y⟩
theorem aAv{r:Reach}{R:Nat}{t:TypeId}{v:Value}{d:DataW H}{p:List MemPlace}{K:List IntKind}(n:Nat)(Q:xB P n t=some K)(O:P.cellsOf t=K.length)
 (W:(match P.underlying t with|some (.struct _)=>true|some (.array _ _)=>true|_=>false)=true)
 (V:Value.okWide P w r R t v) (h:DataW.Trod enc P w base spare held t v d p):
 ∃z:Nat->Int,v=.agg (AK K z).toArray/\∀i,i<K.length->(Lit.int (K.getD i .i64) (z i)).wf=true:=by
 obtain⟨Z,rfl,X⟩:∃Z,v=.agg Z/\Z.size=P.cellsOf t:=by
  split at W
  .rename_i fs he;exact okWide_struct he V
  .rename_i m e he;exact Iq he V
  cases W
 obtain⟨f,U⟩:=h;obtain⟨l⟩:=Z;have Y:DataW.trod enc P w base spare held f t l=some (d,p):=U;obtain⟨z,T,S⟩:=GX (by simpa [O]using X) (uA n Q Y);exact⟨z,by rw[T],S⟩
end
end
section
instance {j : Int} {h : Tg j} : CoeDep (Tg j) h Int := ⟨j⟩
instance {j : Int} {h : Tg j} : CoeDep (Tg j) h Value := ⟨.int .i64 j⟩
