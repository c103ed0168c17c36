/-
  Part of a proof: ShLw. For all values.
-/
import Derived.Test.YtplpimkgihnmhaaGreatDoorA32
import Derived.Test.YtplpimkgihnmhaaGreatDoorA47
set_option maxRecDepth 100000
set_option maxHeartbeats 4000000
set_option linter.all false
namespace Go.Proofs.YtplpimkgihnmhaaGreatDoor
open Go.Proofs.Tryz Go.RowKit
section
attribute [local go_sem↓] Go.wp_at_zero Go.wp_at_succ
theorem aCp(w:World):(sizeOf 23).run prog w=.ok 1 w:=J
theorem aBC{D:Array Value}{z:Nat->Int}(h:cH D 32 z)(w:World):(Op.equalIn 10000 25 (.agg D) (.agg D)).run prog w=.ok true w:=by
 rw[uH w 9998 32 underlying25 underlying23 aCp h.get h.get];simp
