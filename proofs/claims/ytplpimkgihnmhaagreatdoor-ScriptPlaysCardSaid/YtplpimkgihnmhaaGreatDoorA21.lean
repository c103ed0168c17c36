/-
  Parts of a proof. For all values.
-/
import Derived.Test.YtplpimkgihnmhaaGreatDoorA02
import Derived.Test.YtplpimkgihnmhaaGreatDoorA04
import Derived.Test.YtplpimkgihnmhaaGreatDoorA14
set_option maxRecDepth 100000
set_option maxHeartbeats 400000
set_option linter.all false
namespace Go.Proofs.YtplpimkgihnmhaaGreatDoor
open Go.Proofs.Tryz Go.RowKit
section
attribute [local go_sem↓] Go.wp_at_zero Go.wp_at_succ
theorem PC(C:Array Value)(t g a k v:Int)(w:World)(Z:t<0\/(0<=t/\4<=t)):
 Calls prog 129 #[.agg C,.agg #[t,g,a,k,v]] w fun e w'=>e=.returned (.tuple #[false,.iface 53 (2:Int)])/\Below w w w':=by
 rcases Z with Z|⟨Y,X⟩
 all_goals
  go_enter func129,ntmps129
  go_wp2
  go_ret2
  exact⟨rfl,by go_grown⟩
theorem OL(C:Array Value)(t g a k v:Int)(w:World)(U:0<=t)(T:t<4)(X:¬g=0/\¬g=1):
 Calls prog 129 #[.agg C,.agg #[t,g,a,k,v]] w fun e w'=>e=.returned (.tuple #[false,.iface 53 (1:Int)])/\Below w w w':=by
 obtain⟨Z,Y⟩:=X;have W:(g !=0)=true:=by simpa using Z
 have V:(g !=1)=true:=by simpa using Y
 go_enter func129,ntmps129
 go_wp2
 go_ret2
 exact⟨rfl,by go_grown⟩
theorem SP(C:Array Value)(z:Nat->Int)(t g a k v:Int)(w:World)(h:cH C 32 z)(U:0<=t)(T:t<4)(S:g=0\/g=1):
 Calls prog 129 #[.agg C,.agg #[t,g,a,k,v]] w fun e w'=>e=.returned (.tuple #[(AT (z 26).toNat t !=g),.nilIface])/\Below w w w':=by
 have Y:(prog.info? 25).map (·.size)=some C.size:=by rw[h.size];kernel_rfl
 have W:=aH Y;have R:decide (t<0)=false:=by simpa using U
 have Q:decide (4<=t)=false:=by simpa using T
 have Z:=fun w=>rI C z t w h
 have V:=aH Z;clear Y Z h;generalize AT (z 26).toNat t=b at*;have X:Hid (∀o,aY ((w.alloc (.cells C 25)).alloc o) w 25 C):=fun o=>(aY.new _ _ _).alloc o
 rcases S with rfl|rfl
 all_goals
  go_enter func129,ntmps129
  go_wp2;refine aA 8 ?_
  iterate 8
   first
   |(refine Kf ?_;constructor
     .intro w9 hw9 hc9 hf9
      first
      |(exact gN 25 _ rfl w rfl 25 C _ ((X.out _).below hw9.same (by simp only[World.size_alloc];omega)) underlying25 rfl W aE)
      |(go_simp
        first
        |exact aE
        |(go_at_call 94;exact bS (V.out _))))
   |refine aU ?_
  refine bZ ?_;intro w9 hw9 hc9 hf9;go_wp2
  go_ret2
  exact⟨rfl,Below.trans (by go_grown) (hw9.same.mono (by simp only[World.size_alloc];omega))⟩
