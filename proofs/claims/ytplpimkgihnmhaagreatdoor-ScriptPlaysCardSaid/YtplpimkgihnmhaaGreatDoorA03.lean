/-
  Parts of a proof. For all values.
-/
import Derived.ChangeVars
import Derived.JoinedOf
import Derived.LaidHandle
import Derived.LaidSub
import Derived.Lay
import Derived.Lib.AppendIntMem
import Derived.Lib.Fields
import Derived.MakeChecks
import Derived.SevenTiedAt
import Derived.Shelf.Strings.SplitShaped
import Derived.Stop.Joined
import Derived.Test.YtplpimkgihnmhaaGreatDoorRows
import Derived.Test.YtplpimkgihnmhaaGreatDoorA02
set_option maxRecDepth 100000
set_option maxHeartbeats 400000
set_option linter.all false
namespace Go.Proofs.YtplpimkgihnmhaaGreatDoor
open Go.Proofs.Tryz Go.RowKit
section
open Go.ChangeShapes Go.WideShapes
def aBa(w:World)(n:String)(d:DataW Unit):Prop:=
 ∃g t cs fuel p,prog.globalNamed n=some g/\(prog.globals[g]?).map (·.type)=some t/\w.var? prog n=some cs/\DataW.trod (fun _=>()) prog w 0 (fun _=>true) false fuel t cs.toList=some (d,p)
theorem BZ{w:World}:∀{l:List (String×DataW Unit)} {ps:List MemPlace},DataW.LaidVars prog w l ps->∀n d,(n,d)∈l->aBa w n d
 |[],_,_,_,_,hm=>by cases hm
 |(n',d')::r,ps,h,n,d,hm=>by
  obtain⟨g,t,cs,fuel,p,q,h1,h2,h3,h4,h5,_⟩:=h;rcases List.mem_cons.1 hm with e|e
  .cases e;exact⟨g,t,cs,fuel,p,h1,h2,h3,h4⟩
  .exact BZ h5 n d e
theorem Cg{l:List (String×DataW Unit)}{W:World}(h:laidMetH prog l W){n:String}{d:DataW Unit}(Y:(n,d)∈l)(X:d.handleName? =none):aBa W n d:=by
 obtain⟨⟨_,Z,_⟩,_⟩:=laidMetH_iff.1 h;exact BZ Z n d (List.mem_filter.2 ⟨Y,by simp [X]⟩)
theorem XR:prog.globalNamed "strings.asciiSpace"=some 0:=J
theorem Bx:(prog.globals[0]?).map (·.type)=some 169:=J
theorem WY:(Rows.laid_strings_asciiSpace:DataW Unit)=Lib.tabData .u8 Lib.asciiSpaceTab:=J
def Et(B:Nat)(w:World):Prop:=Lib.TabBelow prog B w "strings.asciiSpace" .u8 Lib.asciiSpaceTab
theorem Ga{w:World}(h:aBa w "strings.asciiSpace" Rows.laid_strings_asciiSpace):Et w w:=by
 obtain⟨V,U,T,f,p,Y,X,W,Z⟩:=h;obtain rfl:=Option.some.inj (XR.symm.trans Y);obtain rfl:=Option.some.inj (Bx.symm.trans X);rw[WY]at Z;refine Lib.tabBelow_of_tabIs ?_;unfold Lib.TabIs;rw[W,<-Lib.cells_of_tab underlying169 underlying5 J J Z]
theorem Ee:(prog.cutTypes.find? (·.1== "internal/reflectlite.rtype")).map (·.2)=some 258:=J
theorem Be:prog.types.size=353:=J
theorem Ay:((List.range 353).filter fun t=>prog.rowNamed t [101,114,114,111,114])=[27]:=J
theorem XL:prog.globalNamed "errors.errorType"=some 2:=J
theorem En{l:List (String×DataW Unit)}{W:World}(h:laidMetH prog l W)(Z:("errors.errorType",(Rows.laid_errors_errorType:DataW Unit))∈l):mR W:=by
 obtain⟨name,u,U,T,S,R,Q,Y⟩:=(laidMetH_iff.1 h).2 _ (List.mem_filter.2 ⟨Z,rfl⟩);have X:name=[101,114,114,111,114]:=(Option.some.inj T).symm;subst X;obtain rfl:=Option.some.inj (Ee.symm.trans S);have Z:U∈(List.range 353).filter fun t=>prog.rowNamed t [101,114,114,111,114]:=List.mem_filter.2 ⟨List.mem_range.2 (by rw[<-Be];exact R),Q⟩
 rw[Ay]at Z;obtain rfl:=List.mem_singleton.1 Z;have V:typeHandle prog 27=.pointer (some ⟨4,27,none⟩):=J;rw[V]at Y;simpa [mR]using World.var?_cell XL Y 0
theorem ZH{w0:World}{l:List (String×DataW Unit)}(W:w0.layFits prog l []=true)(V:w0.layIfaces prog l (w0.layVars prog l)=true):laidMet prog l (w0.layVars prog l):=by
 have Z:(l.filter fun x=>(l.map (·.1)).contains x.1)=l:=List.filter_eq_self.2 fun x Y=>List.contains_iff_mem.2 (List.mem_map.2 ⟨x,Y,rfl⟩)
 have X:(l.filter fun x=> !(l.map (·.1)).contains x.1)=[]:=List.filter_eq_nil_iff.2 fun x Y=>by rw[List.contains_iff_mem.2 (List.mem_map.2 ⟨x,Y,rfl⟩)];simp
 exact laidMet_layVars (w0:=w0) (l.map (·.1)) [] (by rw[Z]) (by rw[Z];exact W) (by rw[Z];exact V) (by rw[X];exact LaidIn.none)
theorem Cu : laidOutB Tryz.pinned.checked.prog = true := by kernel_rfl
theorem Ce : mapsRowed Tryz.pinned.checked.prog = true := by kernel_rfl
theorem Fa : true = Tryz.pinned.checked.prog.looks [] := by kernel_rfl
