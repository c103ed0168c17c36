/-
  Parts of a proof. For all values.
-/
import Derived.Test.YtplpimkgihnmhaaGreatDoorA01
set_option maxRecDepth 100000
set_option maxHeartbeats 400000
set_option linter.all false
namespace Go.Proofs.YtplpimkgihnmhaaGreatDoor
open Go.Proofs.Tryz Go.RowKit
section
attribute [local go_sem↓] Go.wp_at_zero Go.wp_at_succ
def iU(n a v:Int):Int:=if a=1 then(if n+v<=4294967295 then n+v else n)else if a=2 then(if v<=n then n-v else n)else n
def kZ(n a v:Int):Int:=if a=1 then(if n+v<=4294967295 then 1 else 3)else if a=2 then(if v<=n then 1 else 2)else if a=5\/a=6 then 1 else 5
def lI(n a v:Int):Int:=if a=1 then(if n+v<=4294967295 then n else 0)else if a=2 then(if v<=n then n else 0)else if a=5\/a=6 then n else 0
def AJ(n a v:Int):Ending:=.returned (.tuple #[(iU n a v),.agg #[(kZ n a v),(lI n a v)]])
theorem MW(n a k v:Int)(w:World)(Z:0<=n)(Y:n<=4294967295)(X:0<=v)(W:v<=4294967295):
 Calls prog 160 #[n,.agg #[a,k,v]] w fun e w'=>e=AJ n a v/\Below w w w':=by
 go_enter func160,ntmps160
 go_wp2
 all_goals(go_returns;refine⟨?_,by go_grown⟩;simp only[beq_iff_eq,beq_eq_false_iff_ne,ne_eq]at*;simp only[AJ,iU,kZ,lI])
 all_goals((repeat' split)<;>first|rfl|(exfalso;omega))
theorem BB(n a k v:Int)(w:World)(Y:0<=n)(X:n<=4294967295)(W:0<=v)(V:v<=4294967295):
 Calls prog 202 #[n,.agg #[a,k,v]] w fun e w'=>e=AJ n a v/\Below w w w':=by
 go_enter func202,ntmps202
 go_wp2
 all_goals try(go_region_held3 (fun w'=>w'.cell? (w.heap.size,2)=v) (go_keep)
  (first|(go_at_call 206;refine(eY _ _ _).mono ?_;rintro e Z ⟨rfl,rfl⟩));go_wp2)
 all_goals(go_returns;refine⟨?_,by go_grown⟩;simp only[beq_iff_eq,beq_eq_false_iff_ne,ne_eq]at*;simp only[AJ,iU,kZ,lI])
 all_goals((repeat' split)<;>first|rfl|(exfalso;omega)|(rw[IntWalk.i64_in _ I]))
