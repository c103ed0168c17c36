/-
  Part of a proof: ShE. For all values.
-/
import Derived.Test.YtplpimkgihnmhaaGreatDoorA30
import Derived.Test.YtplpimkgihnmhaaGreatDoorA40
set_option maxRecDepth 100000
set_option maxHeartbeats 4000000
set_option linter.all false
namespace Go.Proofs.YtplpimkgihnmhaaGreatDoor
open Go.Proofs.Tryz Go.RowKit
section
attribute [local go_sem↓] Go.wp_at_zero Go.wp_at_succ
section
variable{w:World}{tag:Nat->Nat}{F:pH}{p gm gs:Nat}{gw:Nat->Nat}{N:Nat}
theorem aCn(h:gH w tag F p gm gs gw):Calls prog 32 #[(p,0)] w fun e w'=>e=.returned (.tuple #[F.s.fl,F.s.fe])/\Below w w w':=by
 obtain⟨H,V,E,U,Z⟩:=h;have c1:w.cell? (p,1)=(gs,0):=Z.c 1 (yH _ _ _ _ _ _ _);have X:=aH (aCI gs F.s w Z.sto.2);clear Z
 go_enter func32,ntmps32
 go_wp2_with fail
 with_reducible refine X.out.mono ?_
 rintro e T ⟨rfl,Y⟩;have W:=aH Y;clear Y;go_wp2
 go_ret2
 exact⟨rfl,W.out⟩
theorem aCo(h:gH w tag F p gm gs gw)(l:Int):Calls prog 33 #[(p,0),l] w fun e w'=>e=.returned (decide (0<=l/\l<9)&&F.s.dirty l.toNat)/\Below w w w':=by
 obtain⟨H,T,E,S,Z⟩:=h;have c1:w.cell? (p,1)=(gs,0):=Z.c 1 (yH _ _ _ _ _ _ _);have X:Hid (Calls prog 71 #[(gs,0),l] w fun e w'=>e=.returned (decide (0<=l/\l<9)&&F.s.dirty l.toNat)/\Below w w w'):=aH (by
  by_cases Y:0<=l/\l<9
  .have:=aAL gs l.toNat F.s w Z.sto.2 I;rw[show((l.toNat:Nat):Int)=l by omega]at this;rw[decide_eq_true Y,Bool.true_and];exact this
  rw[decide_eq_false Y,Bool.false_and];exact Ow gs l w Y)
 clear Z;obtain⟨q,W⟩:∃q,q=(decide (0<=l/\l<9)&&F.s.dirty l.toNat):=⟨_,rfl⟩;rw[<-W]at X⊢;clear W
 go_enter func33,ntmps33
 go_wp2_with fail
 with_reducible refine X.out.mono ?_
 rintro e R ⟨rfl,V⟩;have U:=aH V;clear V;go_wp2;go_ret;exact⟨rfl,U.out⟩
