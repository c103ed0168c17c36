/-
  Part of a proof: ShM. For all values.
-/
import Derived.Test.YtplpimkgihnmhaaGreatDoorA15
set_option maxRecDepth 100000
set_option maxHeartbeats 400000
set_option linter.all false
namespace Go.Proofs.YtplpimkgihnmhaaGreatDoor
open Go.Proofs.Tryz Go.RowKit
section
theorem rY(of:Nat->List (List Value)):∀V,(aB of V).map (·.2)=((List.range V).map fun u=>of (u+1)).flatten
 |0=>rfl
 |V+1=>by
  rw[aB,List.map_append,rY of V,List.range_succ,List.map_append,List.flatten_append,List.map_map];simp [Function.comp_def]
