/-
  Parts of a proof. For all values.
-/
import Derived.Test.YtplpimkgihnmhaaGreatDoorA01
set_option maxRecDepth 100000
set_option maxHeartbeats 400000
set_option linter.all false
namespace Go.Proofs.YtplpimkgihnmhaaGreatDoor
open Go.Proofs.Tryz Go.RowKit
section
theorem gN{P:Program}{o:Oper}{a:Act}{w:World}{T:Value->World->Prop}(ty:TypeId)(x:Operand)(Z:o.op=.load ty x)(g:Nat)(Y:a.eval x=.pointer (some ⟨g,0,none⟩))
 (t:TypeId) (cs:Array Value) (d:TypeDesc) (X:aY w g t cs) (W:P.underlying ty=some d) (V:(match d with|.struct _|.array _ _=>true|_=>false)=true) (U:(P.info? ty).map (·.size)=some cs.size)
 (S:T (.agg cs) w):eQ P o a w T:=by
 refine sA (u:=.agg cs) ?_ S;unfold execOp;simp only[Z,Y,Instr.loadAt,Instr.sureAddr,Sem.run_bind,Sem.run_pure,Result.andThen_ok,run_loadVar_row w g t ty cs (0,0) d X W V U]
