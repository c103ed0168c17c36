/-
  ONLY what is named: contracts of the library, laid. For all values.
-/
import Derived.Shelf.Spec.SlicesInsert
import Derived.Shelf.Spec.SlicesInsertGrow
import Derived.Shelf.Strings.Fields
import Derived.Shelf.LaysM
import Derived.Shelf.Strings.SplitShaped
import Derived.Shelf.Unicode.Latin
import Derived.Shelf.Unicode.Is16White
import Derived.Shelf.Unicode.IsSpaceAny
import Derived.Shelf.Unicode.Is16Any
import Derived.Shelf.Unicode.Is32Any
import Derived.Shelf.Unicode.ExclAny
import Derived.Shelf.Slices.Reverse
import Derived.Ground.Names2Prog
import Derived.Shelf.Slices.Delete
import Derived.Shelf.Slices.Cells
import Derived.Shelf.Slices.Empties
import Derived.Test.YtplpimkgihnmhaaGreatDoorProg
namespace Go.Proofs
open Go.Shelf
open Go.RowKit Go.Lib in
def Tryz.laysM157_ren:Go.Shelf.Ren:=⟨fun|157=>56|229=>83|199=>84|261=>103|311=>124|312=>125|n=>n,fun|9=>9|31=>115|3=>3|5=>5|4=>4|119=>169|0=>0|40=>171|152=>196|21=>21|154=>198|51=>199|141=>201|196=>219|193=>216|198=>222|49=>220|194=>217|201=>225|226=>244|46=>166|227=>245|n=>n,fun|0=>0|6=>1|n=>n⟩
theorem Tryz.laysM157:Go.Proofs.LaysM.n157 Tryz.prog Tryz.laysM157_ren:={
 mixed:=by kernel_rfl
 f157:=Tryz.func56.trans (congrArg some (by kernel_rfl))
 f199:=Tryz.func84.trans (congrArg some (by kernel_rfl))
 f229:=Tryz.func83.trans (congrArg some (by kernel_rfl))
 f261:=Tryz.func103.trans (congrArg some (by kernel_rfl))
 f311:=Tryz.func124.trans (congrArg some (by kernel_rfl))
 f312:=Tryz.func125.trans (congrArg some (by kernel_rfl))
 t0:=Tryz.underlying0
 a0:=Tryz.isAgg0
 z0:=Tryz.sizeOf0
 v0:=Tryz.zeroValue0
 t3:=Tryz.underlying3
 a3:=Tryz.isAgg3
 z3:=Tryz.sizeOf3
 v3:=Tryz.zeroValue3
 t4:=Tryz.underlying4
 a4:=Tryz.isAgg4
 z4:=Tryz.sizeOf4
 v4:=Tryz.zeroValue4
 t5:=Tryz.underlying5
 a5:=Tryz.isAgg5
 z5:=Tryz.sizeOf5
 v5:=Tryz.zeroValue5
 t9:=Tryz.underlying9
 a9:=Tryz.isAgg9
 z9:=Tryz.sizeOf9
 v9:=Tryz.zeroValue9
 t21:=Tryz.underlying21
 a21:=Tryz.isAgg21
 z21:=Tryz.sizeOf21
 v21:=Tryz.zeroValue21
 t31:=Tryz.underlying115
 a31:=Tryz.isAgg115
 z31:=Tryz.sizeOf115
 v31:=Tryz.zeroValue115
 t40:=Tryz.underlying171
 a40:=Tryz.isAgg171
 z40:=Tryz.sizeOf171
 v40:=Tryz.zeroValue171
 t46:=Tryz.underlying166
 a46:=Tryz.isAgg166
 z46:=Tryz.sizeOf166
 v46:=Tryz.zeroValue166
 t49:=Tryz.underlying220
 a49:=Tryz.isAgg220
 z49:=Tryz.sizeOf220
 v49:=Tryz.zeroValue220
 t51:=Tryz.underlying199
 a51:=Tryz.isAgg199
 z51:=Tryz.sizeOf199
 v51:=Tryz.zeroValue199
 t119:=Tryz.underlying169
 a119:=Tryz.isAgg169
 z119:=Tryz.sizeOf169
 t141:=Tryz.underlying201
 a141:=Tryz.isAgg201
 z141:=Tryz.sizeOf201
 v141:=Tryz.zeroValue201
 t152:=Tryz.underlying196
 a152:=Tryz.isAgg196
 z152:=Tryz.sizeOf196
 v152:=Tryz.zeroValue196
 t154:=Tryz.underlying198
 a154:=Tryz.isAgg198
 z154:=Tryz.sizeOf198
 v154:=Tryz.zeroValue198
 t193:=Tryz.underlying216
 a193:=Tryz.isAgg216
 z193:=Tryz.sizeOf216
 v193:=Tryz.zeroValue216
 t194:=Tryz.underlying217
 a194:=Tryz.isAgg217
 z194:=Tryz.sizeOf217
 v194:=Tryz.zeroValue217
 t196:=Tryz.underlying219
 a196:=Tryz.isAgg219
 z196:=Tryz.sizeOf219
 v196:=Tryz.zeroValue219
 t198:=Tryz.underlying222
 a198:=Tryz.isAgg222
 z198:=Tryz.sizeOf222
 v198:=Tryz.zeroValue222
 t201:=Tryz.underlying225
 a201:=Tryz.isAgg225
 z201:=Tryz.sizeOf225
 v201:=Tryz.zeroValue225
 t226:=Tryz.underlying244
 a226:=Tryz.isAgg244
 z226:=Tryz.sizeOf244
 v226:=Tryz.zeroValue244
 t227:=Tryz.underlying245
 a227:=Tryz.isAgg245
 z227:=Tryz.sizeOf245
 v227:=Tryz.zeroValue245
 g0:=by kernel_rfl
 g6:=by kernel_rfl
 i0:=by kernel_rfl
 i3:=by kernel_rfl
 i4:=by kernel_rfl
 i5:=by kernel_rfl
 i9:=by kernel_rfl
 i21:=by kernel_rfl
 i31:=by kernel_rfl
 i40:=by kernel_rfl
 i46:=by kernel_rfl
 i49:=by kernel_rfl
 i51:=by kernel_rfl
 i141:=by kernel_rfl
 i152:=by kernel_rfl
 i154:=by kernel_rfl
 i193:=by kernel_rfl
 i194:=by kernel_rfl
 i196:=by kernel_rfl
 i198:=by kernel_rfl
 i201:=by kernel_rfl
 i226:=by kernel_rfl
 i227:=by kernel_rfl
 m0:=by kernel_rfl
 m6:=by kernel_rfl}
open Go.RowKit Go.Lib in
theorem Tryz.strings_Fields_laid(s:ByteArray)(w:World)(hs:s.size<4294967281)(hascii:∀(j:Nat) b,s.data.toList[j]? =some b→b.toNat<128)(htab:Lib.TabIs Tryz.prog w "strings.asciiSpace" .u8 Lib.asciiSpaceTab):
 Calls Tryz.prog 56 #[.string s] w fun e w'=>
  e=.returned (.slice (some ⟨w.heap.size,0,none⟩) (Lib.fields s.data.toList).length (Lib.fields s.data.toList).length)∧w'=w.alloc (.cells ((Lib.fields s.data.toList).map fun l=>Value.string ⟨l.toArray⟩).toArray 9):=Any.strings_Fields_laid Tryz.laysM157 s w hs hascii htab
open Go.RowKit Go.Lib in
open Go.RowKit Go.Lib in
open Go.RowKit Go.Lib in
open Go.RowKit Go.Lib in
open Go.RowKit Go.Lib in
open Go.RowKit Go.Lib in
open Go.RowKit Go.Lib in
open Go.RowKit Go.Lib Go.Sort in
open Go.RowKit Go.Lib Go.Sort in
open Go.RowKit Go.Lib Go.Sort in
open Go.RowKit Go.Lib Go.Sort in
open Go.RowKit Go.Lib Go.Sort in
open Go.RowKit Go.Lib Go.Sort in
open Go.RowKit Go.Lib Go.Sort in
open Go.RowKit Go.Lib in
def Tryz.lays23_ren:Go.Shelf.Ren:=⟨fun|23=>188|n=>n,fun|22=>125|3=>3|4=>4|0=>0|n=>n,fun|n=>n⟩
theorem Tryz.lays23:Go.Proofs.Lays2.n23 Tryz.prog Tryz.lays23_ren:={
 mixed:=by kernel_rfl
 f23:=Tryz.func188.trans (congrArg some (by kernel_rfl))
 t0:=Tryz.underlying0
 a0:=Tryz.isAgg0
 z0:=Tryz.sizeOf0
 v0:=Tryz.zeroValue0
 t3:=Tryz.underlying3
 a3:=Tryz.isAgg3
 z3:=Tryz.sizeOf3
 v3:=Tryz.zeroValue3
 t4:=Tryz.underlying4
 a4:=Tryz.isAgg4
 z4:=Tryz.sizeOf4
 v4:=Tryz.zeroValue4
 t22:=Tryz.underlying125
 a22:=Tryz.isAgg125
 z22:=Tryz.sizeOf125
 v22:=Tryz.zeroValue125
 i3:=by kernel_rfl}
def Tryz.lays21_ren:Go.Shelf.Ren:=⟨fun|21=>187|27=>195|28=>196|35=>205|39=>209|n=>n,fun|22=>125|3=>3|4=>4|0=>0|n=>n,fun|n=>n⟩
theorem Tryz.lays21:Go.Proofs.Lays2.n21 Tryz.prog Tryz.lays21_ren:={
 mixed:=by kernel_rfl
 f21:=Tryz.func187.trans (congrArg some (by kernel_rfl))
 f27:=Tryz.func195.trans (congrArg some (by kernel_rfl))
 f28:=Tryz.func196.trans (congrArg some (by kernel_rfl))
 f35:=Tryz.func205.trans (congrArg some (by kernel_rfl))
 f39:=Tryz.func209.trans (congrArg some (by kernel_rfl))
 t0:=Tryz.underlying0
 a0:=Tryz.isAgg0
 z0:=Tryz.sizeOf0
 v0:=Tryz.zeroValue0
 t3:=Tryz.underlying3
 a3:=Tryz.isAgg3
 z3:=Tryz.sizeOf3
 v3:=Tryz.zeroValue3
 t4:=Tryz.underlying4
 a4:=Tryz.isAgg4
 z4:=Tryz.sizeOf4
 v4:=Tryz.zeroValue4
 t22:=Tryz.underlying125
 a22:=Tryz.isAgg125
 z22:=Tryz.sizeOf125
 v22:=Tryz.zeroValue125
 i3:=by kernel_rfl}
end Go.Proofs
