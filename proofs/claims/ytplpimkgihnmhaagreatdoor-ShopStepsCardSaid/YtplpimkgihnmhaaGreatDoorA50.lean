/-
  Part of a proof: ShSp. For all values.
-/
import Derived.Test.YtplpimkgihnmhaaGreatDoorA30
set_option maxRecDepth 100000
set_option maxHeartbeats 2000000
set_option linter.all false
namespace Go.Proofs.YtplpimkgihnmhaaGreatDoor
open Go.Proofs.Tryz Go.RowKit
section
attribute [local go_sem↓] Go.wp_at_zero Go.wp_at_succ
section
variable{w:World}{tag:Nat->Nat}{F:pH}{p gs mp go:Nat}{pt:Nat->Nat}{N:Nat}
theorem aBp(p:Nat)(t:Int)(w:World)(V:¬(0<=t/\t<4)):Calls prog 24 #[(p,0),t] w fun e w'=>e=.returned (.tuple #[.agg (2:Int),false,(2:Int)])/\Below w w w':=by
 have Z:bV t 0 3=false:=by unfold bV;rw[decide_eq_false_iff_not];omega
 have Y:=aH Z;have X:=aH (aY.new w 44 (2:Int));have W:Hid (Below w w (w.alloc (.cells (2:Int) 44))):=aH ((Below.refl _ _).alloc (Nat.le_refl _) _);clear Z V
 go_enter func24,ntmps24
 go_wp2_with (go_at_call 55;refine(bQ _ _ _ _).mono ?_;rintro e w' ⟨rfl,rfl⟩;rw[Y.out])
 refine bodyPost_ret (kR results24 _ _ w 44 (2:Int) _ false (2:Int) rfl rfl rfl X underlying44 rfl eU) rfl ⟨rfl,W.out⟩
theorem aAm(h:kK w tag F p gs go pt)(Y:lM N F){t:Nat}(T:t<4)(d:(F.th t).does=0):Calls prog 24 #[(p,0),t] w fun e w'=>e=.returned (.tuple #[.agg (2:Int),false,(8:Int)])/\Below w w w':=by
 have Z:bV (t:Int) 0 3=true:=by unfold bV;rw[decide_eq_true_eq];omega
 have X:=aH Z;have W:=aH (aY.new w 44 (2:Int));have U:Hid (Below w w (w.alloc (.cells (2:Int) 44))):=aH ((Below.refl _ _).alloc (Nat.le_refl _) _);have V:=aH (xI (h.below ((Below.refl w w).alloc (Nat.le_refl _) (.cells (2:Int) 44))) Y T);rw[d]at V;clear Z h Y d
 go_enter func24,ntmps24
 go_wp2_with (go_at_call 55;refine(bQ _ _ _ _).mono ?_;rintro e w' ⟨rfl,rfl⟩;rw[X.out])
 with_reducible refine V.out.mono ?_
 rintro e S ⟨rfl,rfl⟩;go_wp2;refine bodyPost_ret (kR results24 _ _ w 44 (2:Int) _ false (8:Int) rfl rfl rfl W underlying44 rfl eU) rfl ⟨rfl,U.out⟩
