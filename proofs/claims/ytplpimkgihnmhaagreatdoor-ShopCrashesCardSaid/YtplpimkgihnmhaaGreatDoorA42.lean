/-
  Part of a proof: RowM. For all values.
-/
import Derived.Test.YtplpimkgihnmhaaGreatDoorA27
import Derived.Test.YtplpimkgihnmhaaGreatDoorA36
set_option maxRecDepth 100000
set_option maxHeartbeats 400000
set_option linter.all false
namespace Go.Proofs.YtplpimkgihnmhaaGreatDoor
open Go.Proofs.Tryz Go.RowKit
section
theorem Cz{P:Program}{o:Oper}{a:Act}{w:World}{T:Value->World->Prop}(s x:Operand){B:Nat}{t e:TypeId}{m Z:Nat}{V:TypeInfo}{N:Value}
 (G:o.op=.call {callee:=.builtin .append,args:= #[s,x],argTypes:= #[t,t]}) (F:P.underlying t=some (.slice e)) (E:P.info? e=some V) (D:V.zero=some N) (C:V.size=m) (U:V.bytes=Z)
 (S:N.cells.size=m) (z:0<m) (R:Z<=1000) {A:Option Addr} {n c:Nat} {rows:List (List Value)} (Q:a.eval s=.slice A n c) (W:cU w B e m A n c rows) {X:Option Addr} {k d:Nat} {xs:List (List Value)} (O:a.eval x=.slice X k d) (y:FI m w X k d xs)
 (v:∀r∈xs,∀u∈r,u.oneCell'=true) (q:n+k<=1000000000) (p:B<=w)
 (l:∀Y c' w',cU w' B e m Y (n+k) c' (rows++xs)->aD (iI A) w w'->(∀b,iI Y b->iI A b\/w<=b)->T (.slice Y (n+k) c') w'):eQ P o a w T:=by
 obtain⟨Y,c',w',M,L,K,H⟩:=CZ s x G F E D C U S z R Q W O y v q p;exact yM M (l Y c' w' L K H)
