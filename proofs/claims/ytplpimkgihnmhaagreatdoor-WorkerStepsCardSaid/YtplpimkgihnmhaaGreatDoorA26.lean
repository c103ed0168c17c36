/-
  Part of a proof: BOpen. For all values.
-/
import Derived.Test.YtplpimkgihnmhaaGreatDoorA04
import Derived.Test.YtplpimkgihnmhaaGreatDoorA06
import Derived.Test.YtplpimkgihnmhaaGreatDoorA18
set_option maxRecDepth 100000
set_option maxHeartbeats 400000
set_option linter.all false
namespace Go.Proofs.YtplpimkgihnmhaaGreatDoor
open Go.Proofs.Tryz Go.RowKit
section
attribute [local go_sem↓] Go.wp_at_zero Go.wp_at_succ
theorem PC(C:Array Value)(t g a k v:Int)(w:World)(ho:t<0\/(0<=t/\4<=t)):
 Calls prog 129 #[.agg C,.agg #[t,g,a,k,v]] w fun e w'=>e=.returned (.tuple #[false,.iface 53 (2:Int)])/\Below w w w':=by
 rcases ho with ho|⟨Vi,ho2⟩
 all_goals
  go_enter func129,ntmps129
  go_wp2
  go_ret2
  exact⟨rfl,by go_grown⟩
theorem OL(C:Array Value)(t g a k v:Int)(w:World)(h0:0<=t)(h4:t<4)(hg:¬g=0/\¬g=1):
 Calls prog 129 #[.agg C,.agg #[t,g,a,k,v]] w fun e w'=>e=.returned (.tuple #[false,.iface 53 (1:Int)])/\Below w w w':=by
 obtain⟨g0,g1⟩:=hg
 have d0:(g !=0)=true:=by simpa using g0
 have d1:(g !=1)=true:=by simpa using g1
 go_enter func129,ntmps129
 go_wp2
 go_ret2
 exact⟨rfl,by go_grown⟩
theorem SP(C:Array Value)(z:Nat->Int)(t g a k v:Int)(w:World)(h:cH C 32 z)(h0:0<=t)(h4:t<4)(hg:g=0\/g=1):
 Calls prog 129 #[.agg C,.agg #[t,g,a,k,v]] w fun e w'=>e=.returned (.tuple #[(AT (z 26).toNat t !=g),.nilIface])/\Below w w w':=by
 have Hh:(prog.info? 25).map (·.size)=some C.size:=by rw[h.size];kernel_rfl
 have HZ:=aH Hh
 have d0:decide (t<0)=false:=by simpa using h0
 have d1:decide (4<=t)=false:=by simpa using h4
 have htog:=fun w=>rI C z t w h
 have HT:=aH htog
 clear Hh htog h
 generalize AT (z 26).toNat t=b at*
 have Lv:Hid (∀o,aY ((w.alloc (.cells C 25)).alloc o) w 25 C):=fun o=>(aY.new _ _ _).alloc o
 rcases hg with rfl|rfl
 all_goals
  go_enter func129,ntmps129
  go_wp2
  refine aA 8 ?_
  iterate 8
   first
   |(refine aR1 ?_;constructor
     .intro w9 Gq Gy Gz
      first
      |(exact gN 25 _ rfl w rfl 25 C _ ((Lv.out _).below Gq.same (by simp only[World.size_alloc];omega)) underlying25 rfl HZ aE)
      |(go_simp
        first
        |exact aE
        |(go_at_call 94;exact bS (HT.out _))))
   |refine aU ?_
  refine bZ ?_
  intro w9 Gq Gy Gz
  go_wp2
  go_ret2
  exact⟨rfl,Below.trans (by go_grown) (Gq.same.mono (by simp only[World.size_alloc];omega))⟩
end
end Go.Proofs.YtplpimkgihnmhaaGreatDoor
