/-
  Part of a proof: MErr. For all values.
-/
import Derived.Test.YtplpimkgihnmhaaGreatDoorA02
set_option maxRecDepth 100000
set_option maxHeartbeats 4000000
set_option linter.all false
namespace Go.Proofs.YtplpimkgihnmhaaGreatDoor
open Go.Proofs.Tryz Go.RowKit
section
open Go.Extern Go.Extern.Stop Go.Stop
attribute [local go_sem↓] Go.wp_at_zero Go.wp_at_succ
theorem aCt(v:Value)(w:World):(Instr.typeAssert (.iface 53 v) 27 188 true).run prog w=.ok (.tuple #[.pointer none,false]) w:=J
theorem aBA(v:Value)(w:World):(Instr.typeAssert (.iface 53 v) 27 192 true).run prog w=.ok (.tuple #[.nilIface,false]) w:=
 run_typeAssert_lacksB underlying192 J J v 27 w
theorem aBr(w:World):Calls prog 101 #[.nilIface] w fun e w'=>e=.returned (0:Int)/\Below w w w':=by
 go_enter func101,ntmps101
 go_wp2;go_ret;exact⟨rfl,by go_grown⟩
theorem aAw(w:World):Calls prog 73 #[.nilIface] w fun Y w'=>Y=.returned (.tuple #[.int .i64 0,.int .i64 (-1)])/\Below w.heap.size w w':=by
 go_enter func73,ntmps73
 go_wp2_with (go_at_call 101;refine(aBr _).mono ?_;rintro X w' ⟨rfl,Z⟩)
 refine wp_loop_rounds 1 ?_;rw[rounds_succ];go_wp2
 go_ret2
 exact⟨rfl,Z⟩
theorem aAF(e:Int)(w:World)(Z:mR w):Calls prog 73 #[.iface 53 (.int .i64 e)] w fun W w'=>W=.returned (.tuple #[.int .i64 e,.int .i64 (-1)])/\Below w.heap.size w w':=by
 have Y:=aH Z;clear Z;have V:=aCt;have U:=aBA
 go_enter func73,ntmps73
 go_wp2_with (go_at_call 101;refine(wF e _ Y.out).mono ?_;rintro T w' ⟨rfl,X⟩)
 refine wp_loop_rounds 1 ?_;rw[rounds_succ];go_wp2
 go_ret2
 exact⟨rfl,X⟩
theorem aAU(e:Int)(w:World)(Z:mR w):Calls prog 73 #[gS e] w fun Y w'=>Y=.returned (.tuple #[.int .i64 e,.int .i64 (-1)])/\Below w.heap.size w w':=by
 unfold gS;split
 .rename_i h;subst h;exact aAw w
 .exact aAF e w Z
theorem FO(e x:Int)(w:World)(X:mR w):Calls prog 43 #[gS e,x] w fun T w'=>T=.returned (e==x)/\Below w w w':=by
 have W:=Lib.hid X;clear X;generalize Y:gS e=v;have V:=Lib.hid Y;clear Y
 go_enter func43,ntmps43
 go_wp2_with (go_at_call 73;(have Z:=aAU e w W.out;rw[V.out]at Z;refine Z.mono ?_);rintro S w' ⟨rfl,U⟩)
 all_goals(go_ret;refine⟨dF ?_,U⟩;simp_all)
