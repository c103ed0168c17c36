/-
  Part of a proof: ShLw. For all values.
-/
import Derived.Test.YtplpimkgihnmhaaGreatDoorA32
import Derived.Test.YtplpimkgihnmhaaGreatDoorA48
set_option maxRecDepth 100000
set_option maxHeartbeats 4000000
set_option linter.all false
namespace Go.Proofs.YtplpimkgihnmhaaGreatDoor
open Go.Proofs.Tryz Go.RowKit
section
attribute [local go_sem↓] Go.wp_at_zero Go.wp_at_succ
theorem aAO{N:Nat}{F:pH}(Y:lM N F):∀r∈(aB F.of F.V).map (·.2),aBP r:=fun r X=>by
 rw[rY]at X;obtain⟨l,W,Z⟩:=List.mem_flatten.1 X;obtain⟨u,U,rfl⟩:=List.mem_map.1 W;exact(Y.of_ (u+1) I (by have:=List.mem_range.1 U;omega)).2 _ Z
