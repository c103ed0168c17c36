/-
  Parts of a proof. For all values.
-/
import Derived.LaidEql
import Derived.RowKitTokens
import Derived.Stop.Asserts
import Derived.Test.YtplpimkgihnmhaaGreatDoorA01
set_option maxRecDepth 100000
set_option maxHeartbeats 4000000
set_option linter.all false
namespace Go.Proofs.YtplpimkgihnmhaaGreatDoor
open Go.Proofs.Tryz Go.RowKit
section
open Go.Extern Go.Extern.Stop Go.Stop
attribute [local go_sem↓] Go.wp_at_zero Go.wp_at_succ
def mR(w:World):Prop:=w.cell? (2,0)=some (.iface 258 (.agg #[(4,27)]))
theorem mR.pos{w:World}(h:mR w):2<w.heap.size:=World.block_lt_of_cell? w _ h
theorem mR.below{w w':World}(h:mR w)(Z:Below w w w'):mR w':=(Z.cell (p:=⟨2,0,none⟩) h.pos).trans h
theorem CW(t:Addr)(w:World):(ReflectliteValue.unpack (.iface 215 (.pointer (some t)))).run prog w
 =.ok (.agg #[.pointer (some ⟨4,215,none⟩),.pointer (some ⟨w.heap.size,0,none⟩),.int .u64 150]) (w.alloc (.cells #[.pointer (some t)] 215)):=by kernel_rfl
theorem TV(a:Addr)(w:World):(ReflectliteValue.methodAny (ReflectliteValue.valueError "reflectlite.Value.Type" 0) (fun t _ _ _=>ReflectliteType.toType t) #[.agg #[(4,215),.pointer (some a),.int .u64 150]]).run prog w
 =.ok (.iface 258 (.agg #[(4,215)])) w:=J
theorem SE(h:Value)(w:World):(Go.method 453 258 (.agg #[h]) "Kind").run prog w=.ok (224,h) w:=J
theorem TR(w:World):((ReflectliteType.abiMethod fun t=>(fun a:Nat=>Value.int IntKind.u8 (a:Int))<$>Rtype.kind t) #[(4,215)]).run prog w=.ok (.int .u8 22) w:=J
theorem SO(w:World):((ReflectliteType.abiMethod fun t=>(fun a:Nat=>Value.int IntKind.u8 (a:Int))<$>Rtype.kind t) #[(4,53)]).run prog w=.ok (.int .u8 2) w:=J
theorem Fv(z:Sem Value)(f:TypeId->Addr->Nat->Nat->Sem Value)(v:Value):
 ReflectliteValue.method z f #[v]=(do match<-ReflectliteValue.parts v with|none=>z|some (t,a,fl)=>f t a fl (fl%32)):=rfl
theorem zM(a:Addr)(w:World):(ReflectliteValue.parts (.agg #[(4,215),.pointer (some a),.int .u64 150])).run prog w=.ok (some (215,a,150)) w:=J
theorem LU(a p:Addr)(W:World)(Z:W.cell? a=some (.pointer (some p))):
 (ReflectliteValue.method (ReflectliteValue.valueError "reflectlite.Value.IsNil" 0) ReflectliteValue.isNil #[.agg #[(4,215),.pointer (some a),.int .u64 150]]).run prog W=.ok false W:=by
 rw[Fv];simp only[Sem.run_bind,zM,Result.andThen];simp [ReflectliteValue.isNil,loadVar,isAgg,underlying,underlying215,Z,Result.andThen]
theorem UR(h:Value)(w:World):(Go.method 453 258 (.agg #[h]) "Elem").run prog w=.ok (236,.agg #[h]) w:=J
theorem xE(h:Value)(w:World):(Go.method 453 258 (.agg #[h]) "Implements").run prog w=.ok (237,.agg #[h]) w:=J
theorem uI(h:Value)(w:World):(Go.method 453 258 (.agg #[h]) "AssignableTo").run prog w=.ok (234,.agg #[h]) w:=J
theorem TD(w:World):(ReflectliteType.method ReflectliteType.elem #[.agg #[(4,215)]]).run prog w=.ok (.iface 258 (.agg #[(4,53)])) w:=J
theorem wJ(w:World):(ReflectliteType.relation "Implements" ReflectliteType.implements_ #[.agg #[(4,53)],.iface 258 (.agg #[(4,27)])]).run prog w=.ok true w:=J
theorem FL(v:Value)(w:World):(ReflectliteType.typeOf #[.iface 53 v]).run prog w=.ok (.iface 258 (.agg #[(4,53)])) w:=J
theorem wQ(w:World):(ReflectliteType.relation "AssignableTo" ReflectliteType.assignableTo #[.agg #[(4,53)],.iface 258 (.agg #[(4,53)])]).run prog w=.ok true w:=J
theorem EB(e:Int)(w:World):(ReflectliteValue.unpack (.iface 53 (.int .i64 e))).run prog w
 =.ok (.agg #[.pointer (some ⟨4,53,none⟩),.pointer (some ⟨w.heap.size,0,none⟩),.int .u64 130]) (w.alloc (.cells #[.int .i64 e] 53)):=by kernel_rfl
theorem JR(w:World):(Rtype.elem? 215).run prog w=.ok (some 53) w:=J
theorem Bq(p:Addr)(w:World):(ReflectliteValue.mk 53 p ReflectliteValue.flagAddr).run prog w=.ok (.agg #[(4,53),.pointer (some p),.int .u64 386]) w:=J
theorem LY(a p:Addr)(W:World)(Z:W.cell? a=some (.pointer (some p))):
 (ReflectliteValue.method (ReflectliteValue.valueError "reflectlite.Value.Elem" 0) ReflectliteValue.elem #[.agg #[(4,215),.pointer (some a),.int .u64 150]]).run prog W
   =.ok (.agg #[(4,53),.pointer (some p),.int .u64 386]) W:=by
 rw[Fv];simp only[Sem.run_bind,zM,Result.andThen];simp [ReflectliteValue.elem,loadVar,isAgg,underlying,underlying215,Z,Result.andThen,JR,Bq]
theorem Gn:∃Z Y X W V:String,∀v x:Value,ReflectliteValue.set #[v,x]=(do
 let(some (dst,a,fl),some (src,b,_)):=(<-ReflectliteValue.parts v,<-ReflectliteValue.parts x)
  |unsupported (.noEntry Z)
 if fl/ReflectliteValue.flagAddr%2==0 then unsupported (.noEntry Y)
 let val<-loadVar src b
 if<-Rtype.directlyAssignable dst src then storeVar dst a val
 else if<-Rtype.implements dst src then
  if(<-Rtype.kind src)==20 then
   match val with
   |.nilIface=>unsupported (.noEntry X)
   |_=>storeVar dst a val
  else storeVar dst a (.iface src val)
 else panicString (W++(<-Rtype.spelt src)++V++(<-Rtype.spelt dst))
 pure (.tuple #[])):=⟨_,_,_,_,_,fun _ _=>rfl⟩
theorem PE(a:Addr)(w:World):(ReflectliteValue.parts (.agg #[(4,53),.pointer (some a),.int .u64 386])).run prog w=.ok (some (53,a,386)) w:=J
theorem JC(a:Addr)(w:World):(ReflectliteValue.parts (.agg #[(4,53),.pointer (some a),.int .u64 130])).run prog w=.ok (some (53,a,130)) w:=J
theorem KC(w:World):(Rtype.directlyAssignable 53 53).run prog w=.ok true w:=J
theorem YI(Z b:Addr)(e:Int)(Y:Value)(W:World)(V:W.cell? b=some (.int .i64 e))(U:W.cell? Z=some Y)(T:W.frozen? Z=false):
 (ReflectliteValue.set #[.agg #[.pointer (some ⟨4,53,none⟩),.pointer (some Z),.int .u64 386],.agg #[.pointer (some ⟨4,53,none⟩),.pointer (some b),.int .u64 130]]).run prog W
   =.ok (.tuple #[]) (W.setCell Z (.int .i64 e)):=by
 obtain⟨S,R,Q,P,O,X⟩:=Gn;rw[X];simp only[Sem.run_bind,PE,JC,Result.andThen];simp [ReflectliteValue.flagAddr,loadVar,isAgg,underlying,underlying53,V,Result.andThen,KC,storeVar,Value.cells,storeCells,Addr.add];rw[run_store prog W Z _ _ (by rfl)];simp [U,T]
theorem Bn(e:Int)(t:Addr)(X:Value)(w:World)(U:mR w)(W:w.cell? t=some X)(T:w.frozen? t=false):
 Calls prog 123 #[.iface 53 (.int .i64 e),.iface 215 (.pointer (some t))] w fun C w'=>C=.returned (.bool true)/\w'=((((w.alloc (.cells #[.pointer (some t)] 215)).alloc (.cells #[.pointer (some ⟨4,215,none⟩),.pointer (some ⟨w.heap.size,0,none⟩),.int .u64 150] 235)).alloc (.cells #[.pointer (some ⟨4,215,none⟩),.pointer (some ⟨w.heap.size,0,none⟩),.int .u64 150] 235)).alloc (.cells #[.int .i64 e] 53)).setCell t (.int .i64 e):=by
 have B:= @run_callFunc_extern prog 133 _ (fun Y=>ReflectliteValue.unpack (Y.getD 0 (.tuple #[]))) func133 J J J J;have A:= @run_callFunc_extern prog 134 _ (ReflectliteValue.methodAny (ReflectliteValue.valueError "reflectlite.Value.Type" 0) (fun t _ _ _=>ReflectliteType.toType t)) func134 J J J J;have z:= @run_callFunc_extern prog 135 _ (ReflectliteValue.method (ReflectliteValue.valueError "reflectlite.Value.IsNil" 0) ReflectliteValue.isNil) func135 J J J J;have S:= @run_callFunc_extern prog 224 _ (ReflectliteType.abiMethod fun t=>do pure (.int .u8 (<-Rtype.kind t))) func224 J J J J;have R:= @run_callFunc_extern prog 236 _ (ReflectliteType.method ReflectliteType.elem) func236 J J J J;have Q:= @run_callFunc_extern prog 237 _ (ReflectliteType.relation "Implements" ReflectliteType.implements_) func237 J J J J;have P:= @run_callFunc_extern prog 146 _ ReflectliteType.typeOf func146 J J J J;have O:= @run_callFunc_extern prog 234 _ (ReflectliteType.relation "AssignableTo" ReflectliteType.assignableTo) func234 J J J J;have N:= @run_callFunc_extern prog 147 _ (ReflectliteValue.method (ReflectliteValue.valueError "reflectlite.Value.Elem" 0) ReflectliteValue.elem) func147 J J J J;have M:= @run_callFunc_extern prog 148 _ ReflectliteValue.set func148 J J J J;have y:=FL;have x:=uI;have L:=wQ;have K:=EB;have v:=CW;have u:=TV;have s:=SE;have r:=UR;have q:=xE;have H:=TR;have G:=SO;have F:=TD;have E:=wJ;have p:=LU ⟨w.heap.size,0,none⟩ t ((w.alloc (.cells #[.pointer (some t)] 215)).alloc (.cells #[.pointer (some ⟨4,215,none⟩),.pointer (some ⟨w.heap.size,0,none⟩),.int .u64 150] 235)) (by simp);have V:=U.pos;have D:((w.alloc (.cells #[.pointer (some t)] 215)).alloc (.cells #[.pointer (some ⟨4,215,none⟩),.pointer (some ⟨w.heap.size,0,none⟩),.int .u64 150] 235)).cell? ⟨2,0,none⟩=some (.iface 258 (.agg #[.pointer (some ⟨4,27,none⟩)])):=by
  rw[World.cell?_alloc_lt _ _ ⟨2,0,none⟩ (by simp only[World.size_alloc];omega),World.cell?_alloc_lt _ _ ⟨2,0,none⟩ V];exact U
 have Z:t.block<w.heap.size:=by
  rcases Nat.lt_or_ge t.block w.heap.size with h|h
  .exact h
  .simp [World.cell?,Array.getElem?_eq_none h]at W
 have o:=LY ⟨w.heap.size,0,none⟩ t (((w.alloc (.cells #[.pointer (some t)] 215)).alloc (.cells #[.pointer (some ⟨4,215,none⟩),.pointer (some ⟨w.heap.size,0,none⟩),.int .u64 150] 235)).alloc (.cells #[.pointer (some ⟨4,215,none⟩),.pointer (some ⟨w.heap.size,0,none⟩),.int .u64 150] 235)) (by rw[World.cell?_alloc_lt _ _ ⟨w.heap.size,0,none⟩ (by simp;omega)];simp);have n:=YI t ⟨w.heap.size+1+1+1,0,none⟩ e X ((((w.alloc (.cells #[.pointer (some t)] 215)).alloc (.cells #[.pointer (some ⟨4,215,none⟩),.pointer (some ⟨w.heap.size,0,none⟩),.int .u64 150] 235)).alloc (.cells #[.pointer (some ⟨4,215,none⟩),.pointer (some ⟨w.heap.size,0,none⟩),.int .u64 150] 235)).alloc (.cells #[.int .i64 e] 53))
  (by rw[World.cell?_alloc_at _ _ _ _ (by simp)];rfl)
  (by rw[World.cell?_alloc_lt _ _ t (by simp;omega),World.cell?_alloc_lt _ _ t (by simp;omega),World.cell?_alloc_lt _ _ t (by simp;omega),World.cell?_alloc_lt _ _ t Z];exact W)
  (by rw[World.frozen?_alloc_old _ _ t (by simp;omega),World.frozen?_alloc_old _ _ t (by simp;omega),World.frozen?_alloc_old _ _ t (by simp;omega),World.frozen?_alloc_old _ _ t (Nat.ne_of_lt Z)];exact T)
 clear U
 go_enter func123,ntmps123
 go_wp2;refine wp_loop_rounds 1 ?_;rw[rounds_succ];go_wp2;go_ret;exact⟨rfl,rfl⟩
theorem aCt(v:Value)(w:World):(Instr.typeAssert (.iface 53 v) 27 188 true).run prog w=.ok (.tuple #[.pointer none,false]) w:=J
theorem aBA(v:Value)(w:World):(Instr.typeAssert (.iface 53 v) 27 192 true).run prog w=.ok (.tuple #[.nilIface,false]) w:=
 run_typeAssert_lacksB underlying192 J J v 27 w
theorem aBr(w:World):Calls prog 101 #[.nilIface] w fun e w'=>e=.returned (0:Int)/\Below w w w':=by
 go_enter func101,ntmps101
 go_wp2;go_ret;exact⟨rfl,by go_grown⟩
theorem wF(e:Int)(w:World)(Y:mR w):Calls prog 101 #[.iface 53 e] w fun W w'=>W=.returned e/\Below w w w':=by
 have Z:mR (w.alloc (.cells #[(0:Int)] 53)):=Y.below ((Below.refl _ _).alloc (Nat.le_refl _) _);have X:=aH Z;clear Z Y
 go_enter func101,ntmps101
 go_wp2_with (go_at_call 123;refine(Bn e ⟨w,0,none⟩ (0:Int) _ X.out (by simp) (by simp)).mono ?_;rintro V w' ⟨rfl,rfl⟩)
 go_ret;exact⟨rfl,by go_grown⟩
theorem aAw(w:World):Calls prog 73 #[.nilIface] w fun Y w'=>Y=.returned (.tuple #[.int .i64 0,.int .i64 (-1)])/\Below w.heap.size w w':=by
 go_enter func73,ntmps73
 go_wp2_with (go_at_call 101;refine(aBr _).mono ?_;rintro X w' ⟨rfl,Z⟩)
 refine wp_loop_rounds 1 ?_;rw[rounds_succ];go_wp2
 go_ret2
 exact⟨rfl,Z⟩
theorem aAF(e:Int)(w:World)(Z:mR w):Calls prog 73 #[.iface 53 (.int .i64 e)] w fun W w'=>W=.returned (.tuple #[.int .i64 e,.int .i64 (-1)])/\Below w.heap.size w w':=by
 have Y:=aH Z;clear Z;have V:=aCt;have U:=aBA
 go_enter func73,ntmps73
 go_wp2_with (go_at_call 101;refine(wF e _ Y.out).mono ?_;rintro T w' ⟨rfl,X⟩)
 refine wp_loop_rounds 1 ?_;rw[rounds_succ];go_wp2
 go_ret2
 exact⟨rfl,X⟩
theorem aAU(e:Int)(w:World)(Z:mR w):Calls prog 73 #[gS e] w fun Y w'=>Y=.returned (.tuple #[.int .i64 e,.int .i64 (-1)])/\Below w.heap.size w w':=by
 unfold gS;split
 .rename_i h;subst h;exact aAw w
 .exact aAF e w Z
theorem FO(e x:Int)(w:World)(X:mR w):Calls prog 43 #[gS e,x] w fun T w'=>T=.returned (e==x)/\Below w w w':=by
 have W:=Lib.hid X;clear X;generalize Y:gS e=v;have V:=Lib.hid Y;clear Y
 go_enter func43,ntmps43
 go_wp2_with (go_at_call 73;(have Z:=aAU e w W.out;rw[V.out]at Z;refine Z.mono ?_);rintro S w' ⟨rfl,U⟩)
 all_goals(go_ret;refine⟨dF ?_,U⟩;simp_all)
