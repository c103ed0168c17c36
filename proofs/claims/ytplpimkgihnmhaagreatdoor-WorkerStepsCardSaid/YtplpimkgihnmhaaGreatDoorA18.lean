/-
  Part of a proof: RowB. For all values.
-/
import Derived.Test.YtplpimkgihnmhaaGreatDoorA03
set_option maxRecDepth 100000
set_option maxHeartbeats 400000
set_option linter.all false
namespace Go.Proofs.YtplpimkgihnmhaaGreatDoor
open Go.Proofs.Tryz Go.RowKit
section
theorem gN{P:Program}{o:Oper}{a:Act}{w:World}{T:Value->World->Prop}(ty:TypeId)(x:Operand)(ho:o.op=.load ty x)(g:Nat)(hx:a.eval x=.pointer (some ⟨g,0,none⟩))
 (t:TypeId) (cs:Array Value) (d:TypeDesc) (hg:aY w g t cs) (hu:P.underlying ty=some d) (hd:(match d with|.struct _|.array _ _=>true|_=>false)=true) (hi:(P.info? ty).map (·.size)=some cs.size)
 (hT:T (.agg cs) w):eQ P o a w T:=by
 refine sA (u:=.agg cs) ?_ hT
 unfold execOp
 simp only[ho,hx,Instr.loadAt,Instr.sureAddr,Sem.run_bind,Sem.run_pure,Result.andThen_ok,run_loadVar_row w g t ty cs (0,0) d hg hu hd hi]
end
end Go.Proofs.YtplpimkgihnmhaaGreatDoor
