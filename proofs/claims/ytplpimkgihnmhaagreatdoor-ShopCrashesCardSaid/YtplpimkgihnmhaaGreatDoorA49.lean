/-
  Part of a proof: ShSy. For all values.
-/
import Derived.Test.YtplpimkgihnmhaaGreatDoorA30
import Derived.Test.YtplpimkgihnmhaaGreatDoorA33
set_option maxRecDepth 100000
set_option maxHeartbeats 400000
set_option linter.all false
namespace Go.Proofs.YtplpimkgihnmhaaGreatDoor
open Go.Proofs.Tryz Go.RowKit
section
section
variable{w w':World}{tag tag':Nat->Nat}{F F':pH}{p gs mp go:Nat}{pt:Nat->Nat}{S:Nat->Prop}
theorem kK.kept(h:kK w tag F p gs go pt)(V:aD S w w')(U:bI w tag tag')(T:∀b,S b->tag b<100):kK w' tag' F p gs go pt:=by
 obtain⟨n,Z,H,Y,X,W⟩:=h;exact⟨n,Z,H,Y,X,W.kept V U T⟩
