/-
  Part of a proof: ShE. For all values.
-/
import Derived.Test.YtplpimkgihnmhaaGreatDoorA30
set_option maxRecDepth 100000
set_option maxHeartbeats 4000000
set_option linter.all false
namespace Go.Proofs.YtplpimkgihnmhaaGreatDoor
open Go.Proofs.Tryz Go.RowKit
section
attribute [local go_sem↓] Go.wp_at_zero Go.wp_at_succ
section
variable{w:World}{tag:Nat->Nat}{F:pH}{p gm gs:Nat}{gw:Nat->Nat}{N:Nat}
theorem OO(h:gH w tag F p gm gs gw)(Z:lM N F)(m:N<=100000000)(M:∀r∈F.hist,∀u∈r,u.oneCell'=true):
 Calls prog 31 #[(p,0)] w fun e w'=>∃A c,e=.returned (.slice A F.hist.length c)/\cU w' w 61 9 A F.hist.length c F.hist/\Below w w w':=by
 obtain⟨H,x,E,j,Q⟩:=h;have L:=Q.c 11 (Iv _ _ _ _ _ _ _);have K:=Q.sh.lt;have G:=aH Q.hi.slr;have D:=aH M;have l:F.hist.length<=100000000:=by have:=Z.hl;have:=Z.stp;omega
 obtain⟨i,Y,W,V,U⟩:=EH;have C:=aH Y;have B:=aH W;have z:=aH V;have y:=aH U;clear Q M Y W V U Z m;generalize o:F.hist.length=n at*;generalize F.hist=rows at*;clear o
 go_enter func31,ntmps31
 go_wp2_with (refine pY (.const (.slice none 0 0)) (.tmp 6) rfl rfl underlying65 C B z y rfl aJ aJ (A:=none) (n:=0) (c:=0) (rows:=[]) rfl (cU.nil _ w _ _) (X:=H) (k:=n) (d:=x) (xs:=rows) rfl G D I (Nat.le_refl _) ?_;rintro v c1 t T S R)
 have P:=aH T;have O:Hid (Below w w t):=aH (S.below (Nat.le_refl _) (fun b _ s=>by obtain⟨a,q,_⟩:=s;cases q));clear T S R;go_wp2;go_ret;refine⟨v,c1,rfl,?_,O.out⟩;have:=P.out;simpa using this
