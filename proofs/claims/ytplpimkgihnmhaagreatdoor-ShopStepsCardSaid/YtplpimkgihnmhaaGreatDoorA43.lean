/-
  Part of a proof: ShQ. For all values.
-/
import Derived.Test.YtplpimkgihnmhaaGreatDoorA28
set_option maxRecDepth 100000
set_option maxHeartbeats 1000000
set_option linter.all false
namespace Go.Proofs.YtplpimkgihnmhaaGreatDoor
open Go.Proofs.Tryz Go.RowKit
section
attribute [local go_sem↓] Go.wp_at_zero Go.wp_at_succ
section
variable{w:World}{tag:Nat->Nat}{m:Nat->Int}{s:cN}{th:Nat->cQ}{tgl:Nat->Int}{st:Nat}{hist dl:List (List Value)}{p gm gs:Nat}{gw:Nat->Nat}{H:Option Addr}{ch:Nat}{E:Option Addr}{ce:Nat}
theorem aAi(p:Nat)(t:Int)(w:World)(X:¬(0<=t/\t<4)):Calls prog 45 #[(p,0),t] w fun e w'=>e=.returned (.tuple #[.agg (2:Int),false,.iface 53 (2:Int)])/\Below w w w':=by
 have W:=aH (FR p t (w.alloc (.cells (2:Int) 44)) X);have V:=aH (aY.new w 44 (2:Int));have U:Hid (Below w w (w.alloc (.cells (2:Int) 44))):=aH ((Below.refl _ _).alloc (Nat.le_refl _) _);clear X
 go_enter func45,ntmps45
 go_wp2_with fail
 with_reducible refine W.out.mono ?_
 rintro e T ⟨rfl,rfl⟩;have Z:=V;have Y:=U;go_wp2;refine bodyPost_ret (kR results45 _ _ w 44 (2:Int) _ false (.iface 53 (2:Int)) rfl rfl rfl Z underlying44 rfl eU) rfl ⟨rfl,Y.out⟩
theorem aAJ(h:PS w tag m s th tgl st hist dl p gm gs gw H ch E ce){t:Nat}(V:t<4)(d:(th t).does=0):Calls prog 45 #[(p,0),t] w fun e w'=>e=.returned (.tuple #[.agg (2:Int),false,.iface 53 (8:Int)])/\Below w w w':=by
 have Z:=aH (h.below ((Below.refl w w).alloc (Nat.le_refl _) (.cells (2:Int) 44)));have U:=aH (DV Z V);unfold cR at U;obtain⟨A,P,D,O,T⟩:=Z.wk t V;have c1:(w.alloc (.cells (2:Int) 44)).cell? (gw t,1)=(0:Int):=by rw[mS T.blk 1 I];show some (Value.int .i64 ((th t).does:Int))=_;rw[d];rfl
 have S:gw t<w:=by obtain⟨_,_,_,_,W⟩:=h.wk t V;exact W.blk.lt
 have R:=aH (aY.new w 44 (2:Int));have Q:Hid (Below w w (w.alloc (.cells (2:Int) 44))):=aH ((Below.refl _ _).alloc (Nat.le_refl _) _);clear h T Z d
 go_enter func45,ntmps45
 go_wp2_with fail
 with_reducible refine U.out.mono ?_
 rintro e N ⟨rfl,rfl⟩;have Y:=R;have X:=Q;go_wp2;refine bodyPost_ret (kR results45 _ _ w 44 (2:Int) _ false (.iface 53 (8:Int)) rfl rfl rfl Y underlying44 rfl eU) rfl ⟨rfl,X.out⟩
