/-
  Part of a proof: ShR. For all values.
-/
import Derived.Test.YtplpimkgihnmhaaGreatDoorA16
set_option maxRecDepth 100000
set_option maxHeartbeats 4000000
set_option linter.all false
namespace Go.Proofs.YtplpimkgihnmhaaGreatDoor
open Go.Proofs.Tryz Go.RowKit
section
attribute [local go_sem↓] Go.wp_at_zero Go.wp_at_succ
theorem DO(p Y V:Nat)(C:Array Value)(s:cN)(w:World)(W:aY w p 157 C)(U:C[1]? =some (cR Y))(T:aY w Y 123 (nI s))(S:s.now 0=(V:Int))(P:V<=9223372036854775807):
 Calls prog 41 #[(p,0)] w fun e w'=>e=.returned V/\w=w':=by
 have c1:w.cell? (p,1)=(Y,0):=by rw[W.cell,U];rfl
 have Z:=PA Y 0 s w T I;rw[S]at Z;rw[show((0:Nat):Int)=(0:Int)from rfl]at Z;have X:=aH Z;have R:(V:Int)<=9223372036854775807:=I;clear Z S W U T
 go_enter func41,ntmps41
 go_wp2_with fail
 with_reducible refine X.out.mono ?_
 rintro e Q ⟨rfl,rfl⟩;go_wp2;go_ret;exact⟨rfl,rfl⟩
