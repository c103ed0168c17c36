/-
  Part of a proof: StM. For all values.
-/
import Derived.Test.YtplpimkgihnmhaaGreatDoorA14
set_option maxRecDepth 100000
set_option maxHeartbeats 400000
set_option linter.all false
namespace Go.Proofs.YtplpimkgihnmhaaGreatDoor
open Go.Proofs.Tryz Go.RowKit
section
namespace cN
def dirty(s:cN)(l:Nat):Bool:= !decide (∀i∈List.range 8,s.now (l*8+i)=s.good (l*8+i))
variable{s:cN}
