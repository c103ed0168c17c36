/-
  Part of a proof: ShE. For all values.
-/
import Derived.Test.YtplpimkgihnmhaaGreatDoorA30
import Derived.Test.YtplpimkgihnmhaaGreatDoorA44
set_option maxRecDepth 100000
set_option maxHeartbeats 4000000
set_option linter.all false
namespace Go.Proofs.YtplpimkgihnmhaaGreatDoor
open Go.Proofs.Tryz Go.RowKit
section
attribute [local go_sem↓] Go.wp_at_zero Go.wp_at_succ
section
variable{w:World}{tag:Nat->Nat}{F:pH}{p gm gs:Nat}{gw:Nat->Nat}{N:Nat}
theorem aBj(h:gH w tag F p gm gs gw)(Z:lM N F)(U:N<=100000000):Calls prog 41 #[(p,0)] w fun e w'=>e=.returned F.V/\w=w':=by
 obtain⟨H,X,E,W,Y⟩:=h;exact DO p gs F.V _ F.s w Y.sh (yH _ _ _ _ _ _ _) Y.sto.2 Z.inv.ver (by have:=Z.ver;have:=Z.stp;omega)
def pH.rcd(F:pH)(i:Nat):Int:=F.s.now (dU F.V+i)
theorem NX(Z:lM N F):∀i,i<32->0<=F.rcd i/\F.rcd i<18446744073709551616:=fun i Y=>Z.inv.ok.now _ (by unfold dU;omega)
theorem Ic(h:gH w tag F p gm gs gw)(Z:lM N F)(U:N<=100000000):Calls prog 38 #[(p,0)] w fun e w'=>e=.returned (.agg (kT F.rcd))/\Below w w w':=by
 obtain⟨H,X,E,W,Y⟩:=h;exact aBK p gs F.V _ F.s w Y.sh (yH _ _ _ _ _ _ _) Y.sto.2 Z.inv.ver (by have:=Z.ver;have:=Z.stp;omega) Z.inv.ok _ (xA (NX Z))
