/-
  Parts of a proof. For all values.
-/
import Derived.Test.YtplpimkgihnmhaaGreatDoorA03
import Derived.Test.YtplpimkgihnmhaaGreatDoorA32
import Derived.Test.YtplpimkgihnmhaaGreatDoorA33
set_option maxRecDepth 100000
set_option maxHeartbeats 4000000
set_option linter.all false
namespace Go.Proofs.YtplpimkgihnmhaaGreatDoor
open Go.Proofs.Tryz Go.RowKit
variable{w wr w':World}{gs j gm g B k:Nat}{z:Nat->Int}{gw:Nat->Nat}{S:Nat->Prop}
section
attribute [local go_sem↓] Go.wp_at_zero Go.wp_at_succ
theorem GP(s:ByteArray)(L:List (List UInt8))(Z:s.size<4294967281)(Y:∀(j:Nat) b,s.data.toList[j]? =some b->b.toNat<128)(X:Lib.fields s.data.toList=L)(W:Et B w):
 Calls prog 56 #[.string s] w fun e w'=>e=.returned (.slice (some ⟨w.heap.size,0,none⟩) L.length L.length)/\w'=w.alloc (.cells (L.map fun l=>Value.string ⟨l.toArray⟩).toArray 9):=by
 subst X;exact Tryz.strings_Fields_laid s w Z Y W.here
theorem RI(l:List UInt8)(h:(l.all fun b=>decide (b.toNat<128))=true)(j:Nat)(b:UInt8)(Z:l[j]? =some b):b.toNat<128:=by
 have:=List.all_eq_true.1 h b (List.mem_of_getElem? Z);simpa using this
def SA:List (List UInt8):=[[113,117,101,117,101],[115,116,97,99,107],[100,101,113,117,101],[104,101,97,112],[116,97,98,108,101],[116,97,108,108,121]]
def ZQ:ByteArray:=⟨#[113,117,101,117,101,32,115,116,97,99,107,32,100,101,113,117,101,32,104,101,97,112,32,116,97,98,108,101,32,116,97,108,108,121]⟩
theorem Cn:Lib.fields ZQ.data.toList=SA:=J
theorem JP(Z:Et B w):Calls prog 56 #[.string ⟨#[113,117,101,117,101,32,115,116,97,99,107,32,100,101,113,117,101,32,104,101,97,112,32,116,97,98,108,101,32,116,97,108,108,121]⟩] w fun e w'=>
 e=.returned (.slice (some ⟨w.heap.size,0,none⟩) 6 6)/\w'=w.alloc (.cells #[.string ⟨#[113,117,101,117,101]⟩,.string ⟨#[115,116,97,99,107]⟩,.string ⟨#[100,101,113,117,101]⟩,.string ⟨#[104,101,97,112]⟩,.string ⟨#[116,97,98,108,101]⟩,.string ⟨#[116,97,108,108,121]⟩] 9):=
 GP ZQ SA aJ (RI _ aJ) Cn Z
def Af(L:List (List UInt8))(k:Int):ByteArray:=⟨(L.getD (k-1).toNat []).toArray⟩
def oJ(k:Int):Bool:=decide (1<=k)&&decide (k<=6)
def rD(k:Int):ByteArray:=if oJ k then Af SA k else⟨#[63]⟩
theorem SN(k:Int)(w:World):Calls prog 54 #[k] w fun e w'=>e=.returned (oJ k)/\w=w':=by
 go_enter func54,ntmps54
 go_wp2
 all_goals(go_ret;refine⟨dF ?_,rfl⟩;simp [oJ];try omega)
theorem YB(k:Int)(Y:Et B w):Calls prog 15 #[k] w fun e w'=>e=.returned (.string (rD k))/\Below w w w':=by
 have X:=aH Y;clear Y;by_cases h:1<=k/\k<=6
 .obtain⟨h1,h2⟩:=h;rcases(by omega:k=1\/k=2\/k=3\/k=4\/k=5\/k=6)with rfl|rfl|rfl|rfl|rfl|rfl
  all_goals
   go_enter func15,ntmps15
   go_wp2_with (first|(go_at_call 55;refine(bQ _ _ _ _).mono ?_;rintro e Z ⟨rfl,rfl⟩;simp only[show bV 1 1 6=true from rfl,show bV 2 1 6=true from rfl,show bV 3 1 6=true from rfl,show bV 4 1 6=true from rfl,show bV 5 1 6=true from rfl,show bV 6 1 6=true from rfl])|(go_at_call 56;refine(JP X).mono ?_;rintro e Z ⟨rfl,rfl⟩))
   go_ret;exact⟨rfl,by go_grown⟩
 have W:bV k 1 6=false:=by simp [bV];omega
 have V:rD k=⟨#[63]⟩:=by simp [rD,show oJ k=false by simp [oJ];omega]
 rw[V]
 go_enter func15,ntmps15
 go_wp2_with (go_at_call 55;refine(bQ _ _ _ _).mono ?_;rintro e Z ⟨rfl,rfl⟩;rw[W])
 go_ret;exact⟨rfl,Below.refl _ _⟩
abbrev wB (kind:Int):Array Value:= #[[kind],.int .u64 0,.int .u64 0,.int .u64 0,.int .u64 0,.int .u64 0,.int .u64 0,.int .u64 0,.int .u64 0,.int .u64 0,.int .u64 0,.int .u64 0,.int .u64 0,.int .u64 0,.int .u64 0,.int .u64 0,.int .u64 0,.int .u64 0,.int .u64 0,.int .u64 0,.int .u64 0,.int .u64 0,.int .u64 0,.int .u64 0,.int .u64 0,.int .u64 0,.int .u64 0,.int .u64 0,.int .u64 0,.int .u64 0,.int .u64 0,.int .u64 0]
abbrev nN (kind:Int):Array Value:= #[.int .i64 kind,.slice none 0 0,.int .i64 0,.int .i64 0,.int .i64 0,.int .i64 0,.int .i64 0,.int .i64 0,.int .i64 0,.int .i64 0,.int .i64 0,.int .i64 0,.int .i64 0,.int .i64 0,.int .i64 0,.int .i64 0,.int .i64 0,.int .i64 0,.int .i64 0,.int .i64 0,.int .i64 0,.int .i64 0,.int .i64 0,.int .i64 0,.int .i64 0,.int .i64 0,.int .i64 0,.int .u64 0,.int .u64 0,.int .u64 0,.int .u64 0,.int .i64 0,.int .i64 0,.int .i64 0,.int .i64 0,.int .u64 0,.int .u64 0]
theorem Gm(kind:Int)(Y:1<=kind)(X:kind<=6):cH (wB kind) 32 (fun i=>if i=0 then kind else 0):=by
 have h:=(cH.zero 32).set_ (k:=0) (v:=kind) I;exact h.congr (fun i Z=>by by_cases e:i=0<;>simp [e])
theorem Az(kind:Int)(w:World)(X:oJ kind=false):
 Calls prog 14 #[kind] w fun e w'=>e=.returned (.tuple #[.agg (32:Nat),.iface 53 (1:Int)])/\Below w w w':=by
 have W:=aH X;clear X;have Z:Hid (aY (w.alloc (.cells (32:Nat) 25)) w 25 (32:Nat)):=aH (aY.new _ _ _)
 go_enter func14,ntmps14
 generalize Y:bodyPost prog Tryz.f14 (fun e w'=>e=.returned (.tuple #[.agg (32:Nat),.iface 53 (1:Int)])/\Below w.heap.size w w')=Q;have V:=aH Y;clear Y
 go_wp2_with (first
  |(go_at_call 54;refine(SN _ _).mono ?_;rintro e U ⟨rfl,rfl⟩;rw[W.out])
  |(with_reducible refine fK 25 w (32:Nat) 25 (32:Nat) J J Z.out J J J ?_))
 (try simp only[Exit.inBlock,Exit.then])
 rw[<-V.out]
 with_reducible refine bodyPost_ret (bR results14 _ _ w 25 (32:Nat) _ (.iface 53 (1:Int)) J J (aY.setRow Z.out _) underlying25 J J) J ?_
 exact⟨rfl,aL (by go_grown) (Nat.le_refl _) _⟩
theorem Cj(kind:Int)(w:World)(Y:oJ kind=true):
 Calls prog 14 #[kind] w fun e w'=>e=.returned (.tuple #[.agg (wB kind),.nilIface])/\Below w w w':=by
 have W:1<=kind/\kind<=6:=by simpa [oJ]using Y
 have T:IntKind.u64.wrap kind=kind:=IntWalk.u64_in _ I;have S:kind%18446744073709551616=kind:=I;have V:=aH Y;clear Y W;have Z:Hid (aY (w.alloc (.cells (32:Nat) 25)) w 25 (32:Nat)):=aH (aY.new _ _ _)
 go_enter func14,ntmps14
 generalize X:bodyPost prog Tryz.f14 (fun e w'=>e=.returned (.tuple #[.agg (wB kind),.nilIface])/\Below w.heap.size w w')=Q;have U:=aH X;clear X
 go_wp2_with (first
  |(go_at_call 54;refine(SN _ _).mono ?_;rintro e R ⟨rfl,rfl⟩;rw[V.out])
  |(with_reducible refine fK 25 w (wB kind) 25 (32:Nat) J J Z.out J J J ?_))
 (try simp only[Exit.inBlock,Exit.then])
 rw[<-U.out]
 with_reducible refine bodyPost_ret (bR results14 _ _ w 25 (wB kind) _ .nilIface J J (aY.setRow Z.out _) underlying25 J J) J ?_
 exact⟨rfl,aL (by go_grown) (Nat.le_refl _) _⟩
theorem FU(kind:Int)(w:World):Calls prog 58 #[kind] w fun e w'=>e=.returned (.agg (nN kind))/\Below w w w':=by
 have Z:Hid (aY (w.alloc (.cells (37:Int) 136)) w.heap.size 136 (37:Int)):=aH (aY.new _ _ _)
 go_enter func58,ntmps58
 generalize Y:bodyPost prog Tryz.f58 (fun e w'=>e=.returned (.agg (nN kind))/\Below w.heap.size w w')=Q;have X:=aH Y;clear Y
 go_wp2_with (with_reducible refine fK 136 w.heap.size (nN kind) 136 (37:Int) J J Z.out J J J ?_)
 (try simp only[Exit.inBlock,Exit.then])
 rw[<-X.out];refine bodyPost_ret (results_cell_row results58 _ _ w.heap.size 136 (nN kind) (0,0) _ J (aY.setRow Z _) underlying136 J J) J ?_;exact⟨rfl,aL (by go_grown) (Nat.le_refl _) _⟩
end
section
open Go.Maps
attribute [local go_sem↓] Go.wp_at_zero Go.wp_at_succ
def Fm(v:Value):Prop:=∃g,v=.slice (some ⟨g,0,none⟩) 32 32
def Fk(z:Nat->Int)(v:Value)(w':World):Prop:=∃g D,v=.slice (some ⟨g,0,none⟩) 32 32/\aY w' g 23 D/\cH D 32 z
theorem GO(k:Int)(X:1<=k)(W:k<=6):cK k (fun _=>0):=by
 unfold cK;have Z:gW (fun _=>(0:Int)):=⟨aJ,fun i Y=>by unfold tY;simp⟩;split
 .exact⟨fun i Y=>⟨by show(0:Int)<=1000;decide,by show(0:Int)<=4294967295;decide⟩,rfl,aJ⟩
 split
 .exact⟨aJ,fun i Y=>by simp⟩
 split
 .exact⟨Z,aJ⟩
 exact⟨X,I,Z⟩
theorem NV(k:Int):∀i,i<32->(if i=0 then k else 0)=iW k (fun _=>0) (fun _=>0) (fun _=>0) (fun _=>0) (fun _=>0) 0 0 i:=by
 intro i X;have Z:uM (fun _=>0) 4=0:=by decide
 have Y:iV 0 0=0:=by decide
 unfold iW DY;simp only[Z,Y]
 repeat' split
 all_goals first|rfl|(exfalso;omega)|simp_all
theorem Bf(k:Int):uD (nN k) ((nN k).extract 0 19) (fun _=>0) (fun _=>0) (fun _=>0) (fun _=>0) 0 0:=
 ⟨rfl,rfl,fun t Z=>by rcases(by omega:t=0\/t=1\/t=2\/t=3)with rfl|rfl|rfl|rfl<;>rfl,fun t Z=>by rcases(by omega:t=0\/t=1\/t=2\/t=3)with rfl|rfl|rfl|rfl<;>rfl,
  fun t Z=>by rcases(by omega:t=0\/t=1\/t=2\/t=3)with rfl|rfl|rfl|rfl<;>rfl,fun t Z=>by rcases(by omega:t=0\/t=1\/t=2\/t=3)with rfl|rfl|rfl|rfl<;>rfl,rfl,rfl⟩
abbrev US (k:Int):Array Value:= #[k,.slice none 0 0,(0:Int),(0:Int),(0:Int),(0:Int),(0:Int),(0:Int),(0:Int),(0:Int),(0:Int),(0:Int),(0:Int),(0:Int),(0:Int),(0:Int),(0:Int),(0:Int),(0:Int)]
theorem Bv(k:Int):(nN k).extract 0 19=US k:=J
theorem Bd(k:Int)(w:World):jE k (fun _=>0) ((nN k).extract 0 19) w:=by
 rw[Bv];have h:∀Z:Int,k=Z->lD (US k) Z none 0 0 (fun _=>0) 0:=fun Z e=>by
  subst e;refine⟨J,J,J,fun i X=>?_,J⟩;rcases(by omega:i=0\/i=1\/i=2\/i=3\/i=4\/i=5\/i=6\/i=7\/i=8\/i=9\/i=10\/i=11\/i=12\/i=13\/i=14\/i=15)with rfl|rfl|rfl|rfl|rfl|rfl|rfl|rfl|rfl|rfl|rfl|rfl|rfl|rfl|rfl|rfl<;>rfl
 unfold jE;split
 .exact h 5 ‹_›
 split
 .exact h 6 ‹_›
 exact⟨none,0,h k rfl,⟨rfl,Nat.le_refl _,aJ,fun i=>by simp [zL,zW],fun Y=>absurd Y aJ⟩⟩
theorem GY{z':Nat->Int}{e:Ending}(h:tI z w e w')(U:∀i,i<32->z' i=z i):tI z' w e w':=by
 obtain⟨g,D,Z,Y,X,W,V⟩:=h;exact⟨g,D,Z,Y,X.congr U,W,V⟩
theorem GF(k:Int)(R:Array Value)(w:World)(Z:R=nN k)(U:1<=k)(T:k<=6):Calls prog 59 #[.agg R] w (tI (fun i=>if i=0 then k else 0) w):=by
 have X:uD R (R.extract 0 19) (fun _=>0) (fun _=>0) (fun _=>0) (fun _=>0) 0 0:=by rw[Z];exact Bf k
 have W:jE k (fun _=>0) (R.extract 0 19) w:=by rw[Z];exact Bd k w
 clear Z;have Y:=NV k;have h:=uC R _ (fun _=>0) (fun _=>0) (fun _=>0) (fun _=>0) 0 0 k (fun _=>0) w X I (fun _ _=>Int.le_refl 0) (GO k U T) W (fun _ _=>by decide) aJ aJ;generalize iW k (fun _=>0) (fun _=>0) (fun _=>0) (fun _=>0) (fun _=>0) 0 0=y at h Y
 with_reducible refine h.mono ?_
 intro e S V;exact GY V Y
def Ep(gs:Nat)(pt:Nat->Nat)(k go:Nat)(i:Nat):Value:=
 if i=0 then cR gs else if i<17 then .int .u64 0 else if i<21 then(if i-17<k then cR (pt (i-17))else .pointer none)else if i=21 then .int .i64 0 else if i=22 then .slice none 0 0 else .map (some go)
def QK(gs:Nat)(pt:Nat->Nat)(k go:Nat):Array Value:=jM 24 (Ep gs pt k go)
theorem YA(W:Nat)(V:Nat->Nat)(go:Nat):QK W V 4 go=yJ W (fun _=>0) V 0 (.slice none 0 0) (.map (some go)):=jJ fun j U=>by
 unfold Ep As;by_cases Z:j=0
 .rw[iP Z,iP Z]
 rw[iN Z,iN Z];by_cases Y:j<17
 .rw[iP Y,iP Y]
 rw[iN Y,iN Y];by_cases X:j<21
 .rw[iP X,iP X,iP I]
 rw[iN X,iN X]
theorem ZG(Z:Nat)(Y:Nat->Nat)(go:Nat):QK Z Y 0 go= #[cR Z,.int .u64 0,.int .u64 0,.int .u64 0,.int .u64 0,.int .u64 0,.int .u64 0,.int .u64 0,.int .u64 0,.int .u64 0,.int .u64 0,.int .u64 0,.int .u64 0,.int .u64 0,.int .u64 0,.int .u64 0,.int .u64 0,.pointer none,.pointer none,.pointer none,.pointer none,(0:Int),.slice none 0 0,.map (some go)]:=rfl
theorem Bp(Z:Nat)(Y:Nat->Nat)(k go:Nat)(X:k<4):(QK Z Y k go)[17+k]? =some (.pointer none):=by
 rw[QK,cW I,Ep,iN I,iN I,iP I,iN I]
theorem XI(U:Nat)(W:Nat->Nat)(k go:Nat)(S:k<4):(QK U W k go).setIfInBounds (17+k) (cR (W k))=QK U W (k+1) go:=dP fun j T=>by
 unfold Ep;by_cases e:j=17+k
 .subst e;rw[iP rfl,iN I,iN I,iP I,iP I,show 17+k-17=k by omega]
 rw[iN e];by_cases Z:j=0
 .rw[iP Z,iP Z]
 rw[iN Z,iN Z];by_cases Y:j<17
 .rw[iP Y,iP Y]
 rw[iN Y,iN Y];by_cases X:j<21
 .rw[iP X,iP X];by_cases V:j-17<k
  .rw[iP V,iP I]
  rw[iN V,iN I]
 rw[iN X,iN X]
def cN.nowE(y:Nat->Int):cN:={cN.new with now:=fun i=>if 8<=i/\i<40 then y (i-8)else 0}
theorem IP(D:Array Value)(U:cH D 32 z)(W:Nat)(y:Nat->Int)(R:∀i,i<32->y i=z i):((kD cN.new W).toList.take 8++(D.toList++(kD cN.new W).toList.drop (8+32))).toArray=kD (cN.nowE y) W:=by
 have Z:D.toList.length=32:=by rw[Array.length_toList];exact U.size
 have Y:(kD cN.new W).toList.length=147:=by rw[Array.length_toList,sB]
 refine Array.ext_getElem? fun i=>?_
 rw[List.getElem?_toArray];by_cases V:i<147
 .have hR:(kD (cN.nowE y) W)[i]? =some (xZ (cN.nowE y) W i):=by rw[kD,cW V]
  rw[hR];by_cases T:i<8
  .rw[List.getElem?_append_left (by rw[List.length_take,Y];omega),List.getElem?_take,iP T,Array.getElem?_toList,kD,cW V];unfold xZ;rw[iP I,iP I];show _=some (Value.int .u64 (if 8<=i/\i<40 then y (i-8)else 0));rw[iN I];rfl
  rw[List.getElem?_append_right (by rw[List.length_take,Y];omega),List.length_take,Y,show min 8 147=8 from rfl];by_cases S:i<40
  .rw[List.getElem?_append_left (by rw[Z];omega),Array.getElem?_toList,U.get _ I];unfold xZ;rw[iP I];show _=some (Value.int .u64 (if 8<=i/\i<40 then y (i-8)else 0));rw[iP I,R _ I]
  rw[List.getElem?_append_right (by rw[Z];omega),Z,List.getElem?_drop,Array.getElem?_toList,show 8+32+(i-8-32)=i by omega,kD,cW V];unfold xZ;by_cases X:i<72
  .rw[iP X,iP X];show _=some (Value.int .u64 (if 8<=i/\i<40 then y (i-8)else 0));rw[iN I];rfl
  rw[iN X,iN X];rfl
 rw[Array.getElem?_eq_none (by rw[sB];omega),List.getElem?_eq_none];simp only[List.length_append,List.length_take,List.length_drop,Y,Z];omega
theorem OF(k:Int):({cN.new with now:=(cN.nowE (pL k)).now,good:=(cN.nowE (pL k)).now}:cN)=YX (pL k) 4:=by
 have Z:(fun i=>if 8<=i/\i<8+8*4/\i<40 then pL k (i-8)else 0)=(cN.nowE (pL k)).now:=funext fun i=>by
  show _=if 8<=i/\i<40 then pL k (i-8)else 0
  by_cases h:8<=i/\i<40
  .rw[iP h,iP I]
  rw[iN h,iN I]
 show cN.mk (cN.nowE (pL k)).now (cN.nowE (pL k)).now _ _ _=cN.mk (cN.nowE (pL k)).now (fun i=>if 8<=i/\i<8+8*4/\i<40 then pL k (i-8)else 0) _ _ _;rw[Z];rfl
theorem CC(s:cN)(m:Nat)(f:Nat->Int):fF (kD s m) 72 (jB f).toList=kD {s with good:=f} m:=by
 refine qS I fun j Y=>?_
 by_cases e:72<=j/\j<72+72
 .rw[iP e,xZ,iN I,iP I]
 rw[iN e,xZ,xZ];by_cases c:j<72
 .simp only[c,if_true]
 have Z:¬j<144:=I;simp only[c,Z,if_false]
theorem FK{h m:Nat}{s:cN}(Z:aY w h 74 (kD s m)):w.rangeAt h 0 (jB s.now).toList:=by
 have e:(kD s m).extract 0 (0+72)=jB s.now:=by
  rw[kD,pS I];exact jJ fun i Y=>by rw[xZ,iP I,Nat.zero_add]
 have:=World.rangeAt_of_block (t:=74) (fr:=(0,0)) Z 0 72;rw[e]at this;exact this
structure GG (w:World) (S1:cN) (p gs mp go Z j:Nat) (wr:World):Prop where
 sh:aY wr p 68 (QK gs (fun t=>Z+t) j go)
 st:aY wr gs 74 (kD S1 mp)
 wm:gP cN.new.want mp 0 wr
 om:wr.ownsMap prog 23 yG go 0 (.map [])
 th:∀t,t<j->aY wr (Z+t) 140 (vN t cQ.new 0 (.slice none 0 0) (.slice none 0 0) false)
 bl:Below w w wr
 sz:wr=Z+j
 ds:w<=gs/\w<=mp/\w<=go/\w<=p/\gs<Z/\mp<Z/\go<Z/\p<Z/\gs≠mp/\gs≠go/\gs≠p/\mp≠go/\mp≠p/\go≠p
theorem tX{go:Nat}(h:w.ownsMap prog 23 yG go 0 (.map []))(R:aD S w w')(Q:¬S go):w'.ownsMap prog 23 yG go 0 (.map []):=by
 have Y:=R.block go h.lt Q;obtain⟨X,Z,W,V,U,T⟩:=h;exact⟨X,Z,Y.trans W,V,U,T⟩
theorem GG.next{V:cN}{p W go Z:Nat}(h:GG w V p gs W go Z j wr)(T:j<4):GG w V p gs W go Z (j+1) ((wr.setCell (p,17+j) (Z+j,0)).alloc (.cells #[j,.slice none 0 0,(0:Int),(0:Int),(0:Int),(0:Int),(0:Int),false,(0:Int),(0:Int),(0:Int),.slice none 0 0,false] 140)):=by
 have U:=h.ds;have Y:aD (cI p) wr ((wr.setCell (p,17+j) (Z+j,0)).alloc (.cells #[j,.slice none 0 0,(0:Int),(0:Int),(0:Int),(0:Int),(0:Int),false,(0:Int),(0:Int),(0:Int),.slice none 0 0,false] 140)):=(bP _ _ _ _).trans (aD.of_same ((Below.refl _ _).alloc (Nat.le_refl _) _));refine⟨?_,(Y.block gs h.st.lt (fun e=>by have X:gs=p:=e;omega)).trans h.st,h.wm.kept Y (fun e=>by have X:W=p:=e;omega),tX h.om Y (fun e=>by have X:go=p:=e;omega),fun t S=>?_,h.bl.trans (Y.below h.bl.size (fun b R e=>by have X:b=p:=e;omega)),by have:=h.sz;simp [this];omega,U⟩
 .have:=(h.sh.set_ (17+j) (cR (Z+j))).alloc (.cells #[j,.slice none 0 0,(0:Int),(0:Int),(0:Int),(0:Int),(0:Int),false,(0:Int),(0:Int),(0:Int),.slice none 0 0,false] 140);rw[XI gs (fun t=>Z+t) j go T]at this;exact this
 by_cases e:t=j
 .subst e;exact aY.newAt _ _ _ (by have:=h.sz;simp [this])
 exact(Y.block (Z+t) (h.th t I).lt (fun X=>by have X:Z+t=p:=X;omega)).trans (h.th t I)
def pI(w:World)(tag:Nat->Nat)(p gs mp go Z b:Nat):Nat:=if b<w then tag b else if b=p then 102 else if b=gs then 100 else if b=mp then 101 else if b=go then 104 else if b<Z then 0 else 110+(b-Z)
theorem GG.done{k:Int}{p Y go Z:Nat}(tag:Nat->Nat)(h:GG w (YX (pL k) 4) p gs Y go Z 4 wr):kK wr (pI w tag p gs Y go Z) (pH.new k) p gs go (fun t=>Z+t):=by
 have P:=h.ds;have T:pI w tag p gs Y go Z p=102:=by unfold pI;rw[iN I,iP rfl]
 have S:pI w tag p gs Y go Z gs=100:=by unfold pI;rw[iN I,iN I,iP rfl]
 have R:pI w tag p gs Y go Z Y=101:=by unfold pI;rw[iN I,iN I,iN I,iP rfl]
 have V:pI w tag p gs Y go Z go=104:=by unfold pI;rw[iN I,iN I,iN I,iN I,iP rfl]
 have Q:∀t,t<4->pI w tag p gs Y go Z (Z+t)=110+t:=fun t U=>by unfold pI;rw[iN I,iN I,iN I,iN I,iN I,iN I,Nat.add_sub_cancel_left]
 refine⟨0,Y,none,0,Nat.le_refl _,?_⟩;refine⟨by have:=h.sh;rw[YA]at this;exact this,h.st,h.wm,⟨V,_,h.om,fun v=>⟨none,0,by simp [DataW.atKey,pH.new],cU.nil _ _ _ _,fun b X=>by obtain⟨a,W,_⟩:=X;cases W⟩⟩,cU.nil _ _ _ _,T,S,R,fun b X=>by(obtain⟨a,W,_⟩:=X;cases W),fun t U _=>?_⟩;refine⟨⟨p,Z+t,0,0,0,0,0,0⟩,none,0,none,0,[],⟨h.th t U,cU.nil _ _ _ _,cU.nil _ _ _ _,Q t U,fun b X=>by(obtain⟨a,W,_⟩:=X;cases W),fun b X=>by(obtain⟨a,W,_⟩:=X;cases W)⟩,trivial,trivial,rfl,rfl⟩
theorem Ek(tag:Nat->Nat)(k:Int)(w:World)(h1:1<=k)(h2:k<=6):Calls prog 17 #[k] w fun e w'=>∃p X go pt W,e=.returned (p,0)/\bI w tag W/\kK w' W (pH.new k) p X go pt/\Below w w w':=by
 have zd:= @run_makeMap prog;obtain⟨R,hR⟩:=aO (nN k:Array Value);have A:=fun w=>FU k w
 rw[<-hR]at A;have zx:=aH A;have zw:=aH (fun w=>GF k R w hR h1 h2);clear A hR
 go_enter func17,ntmps17
 go_wp2_with fail
 with_reducible refine(Eg w).mono ?_
 rintro e U ⟨X,T,rfl,n1,n2,n3,n4,n5,n6⟩;refine aS ?_;have z:=n4.lt;have zv:=n5.lt;have hz:=n6.size;have G:Below U U ((U.alloc (.map #[] 0)).alloc (.cells (QK X (fun t=>0+t) 0 U) 68)):=((Below.refl _ _).alloc (Nat.le_refl _) _).alloc (by simp) _;have P:=aH (n4.below G z);have F:=aH (n5.kept (aD.of_same (S:=bN) G) (fun x=>x));have E:Hid (((U.alloc (.map #[] 0)).alloc (.cells (QK X (fun t=>0+t) 0 U) 68)).ownsMap prog 23 yG U 0 (.map [])):=aH (tX (World.ownsMap_made U _ _ _) (aD.of_same (S:=bN) ((Below.refl _ _).alloc (Nat.le_refl _) _)) (fun x=>x));have Q:Hid (aY ((U.alloc (.map #[] 0)).alloc (.cells (QK X (fun t=>0+t) 0 U) 68)) (U,1) 68 (QK X (fun t=>0+t) 0 U)):=aH (aY.newAt _ _ _ (by simp));have N:=aH (n6.trans (G.mono hz));have V:Hid (w<=X/\w<=T/\w.heap.size<=U/\X<U/\T<U/\X≠T):=aH ⟨n1,n2,hz,z,zv,n3⟩;clear n1 n2 n3 n4 n5 n6 G z zv hz;rw[ZG]at P F E Q N;unfold cR at P F E Q N;refine aW ?_
 go_upto_region 2 with(fail)
 show Code.wp _ _ _ _ ((U.alloc (.map #[] 0)).alloc (.cells #[(X,0),.int .u64 0,.int .u64 0,.int .u64 0,.int .u64 0,.int .u64 0,.int .u64 0,.int .u64 0,.int .u64 0,.int .u64 0,.int .u64 0,.int .u64 0,.int .u64 0,.int .u64 0,.int .u64 0,.int .u64 0,.int .u64 0,.pointer none,.pointer none,.pointer none,.pointer none,(0:Int),.slice none 0 0,.map (some U)] 68));generalize(U.alloc (.map #[] 0)).alloc (.cells #[(X,0),.int .u64 0,.int .u64 0,.int .u64 0,.int .u64 0,.int .u64 0,.int .u64 0,.int .u64 0,.int .u64 0,.int .u64 0,.int .u64 0,.int .u64 0,.int .u64 0,.int .u64 0,.int .u64 0,.int .u64 0,.int .u64 0,.pointer none,.pointer none,.pointer none,.pointer none,(0:Int),.slice none 0 0,.map (some U.heap.size)] 68)=w2 at*;generalize U.heap.size=go at*;have c0:w2.cell? (go+1,0)=(X,0):=Q.cell 0;have zc:=Q.lt;have zb:=P.lt;refine aA 10 ?_
 iterate 8
  refine aR ?_;constructor
  .intro w9 hw9 hm9;refine aS ?_;obtain⟨hc9,hf9⟩:=hw9.all;refine aW ?_;go_simp
   first
   |exact aE
 refine bA (.agg R) cX ?_ ?_
 .intro w9 hw9 _;refine aS ?_;refine aW ?_;go_simp;go_at_call 58;exact bS (zx.out _)
 refine bC Fm (Fk (fun i=>if i=0 then k else 0)) ⟨_,0,rfl⟩ ?_ ?_
 .intro w9 hw9 hmet0;refine aS ?_;refine aW ?_;go_simp;go_at_call 59;refine(zw.out _).mono ?_;rintro e ys ⟨g,D,rfl,yx,hu,hg,yw⟩;exact⟨_,rfl,⟨⟨g,rfl⟩,⟨g,D,rfl,yx,hu⟩⟩,aD.of_same yw⟩
 refine aZ ?_;rintro _ ⟨g9,rfl⟩ w9 hw9 B;refine aQ ?_;refine aS ?_;obtain⟨w0,k0,k1,g',D,hv,H,hu⟩:=B.1 rfl;cases hv;have zu:=aH (H.below (cA k1 J) H.lt);have HD:=aH hu;have y:=aH (P.below hw9.same P.lt);have zt:=aH (F.kept (aD.of_same (S:=bN) hw9.same) (fun x=>x));have zs:=aH (tX E (aD.of_same (S:=bN) hw9.same) (fun x=>x));have u:=aH (Q.below hw9.same Q.lt);have s:=aH (N.trans (hw9.same.mono N.size));clear B H hu k0 k1 w0 hw9 P F E Q N c0 zc zb zx zw;refine aW ?_;refine wpList_copy_own rfl (.tmp 15) (.tmp 18) 91 91 rfl 23 underlying91 J X 8 64 64 ⟨g9,0,none⟩ 32 32 rfl rfl (kD cN.new T) 74 y D.toList (by rw[Array.length_toList,HD.size];rfl) ?hsrc ?hfit ?hone ?_
 case hsrc=>
  intro j v hj;rw[Addr.add_lit,Nat.zero_add,zu.cell j];simpa using hj
 case hfit=>rw[Array.length_toList,HD.size,sB];decide
 case hone=>
  intro v hv;have:=HD.one;rw[Array.all_eq_true]at this;obtain⟨i,hi,rfl⟩:=List.getElem_of_mem hv;have h9:=this i (by simpa using hi);simpa using h9
 rw[Array.length_toList,HD.size];obtain⟨Y,hY⟩:∃Y:Nat->Int,Y=(cN.nowE (pL k)).now:=⟨_,rfl⟩;have zr:((kD cN.new T).toList.take 8++(D.toList++(kD cN.new T).toList.drop (8+32))).toArray=kD {cN.new with now:=Y} T:=by
  rw[hY];exact IP D HD T (pL k) (fun i hi=>rfl)
 rw[zr];have zq:=aH hY;clear hY zr;have M:aD (cI X) w9 (w9.setRow X (kD {cN.new with now:=Y} T)):=jD _ _ _;have O:=aH (y.setRow (kD {cN.new with now:=Y} T));have zp:=aH (zt.kept M (fun e=>by have r:T=X:=e;have:=V.out;omega));have zo:=aH (tX zs M (fun e=>by have r:go=X:=e;have:=V.out;omega));have L:Hid (aY (w9.setRow X (kD {cN.new with now:=Y} T)) (go+1) 68 _):=aH ((M.block (go+1) u.lt (fun e=>by have r:go+1=X:=e;have:=V.out;omega)).trans u);have q:=aH (s.trans (M.below s.size (fun b hb e=>by have r:b=X:=e;have:=V.out;omega)));clear M y zt zs u s zu HD;generalize w9.setRow X (kD {cN.new with now:=Y} T)=w5 at*;have c0:w5.cell? (go+1,0)=(X,0):=by rw[L.cell];rfl
 have za:=L.lt;have yz:=O.lt;go_wp2;refine aA 11 ?_
 iterate 10
  refine aR ?_;constructor
  .intro w9 hw9 hm9;refine aS ?_;obtain⟨hc9,hf9⟩:=hw9.all;refine aW ?_;go_simp
   first
   |exact aE
 refine bA (.agg (jB Y)) cX ?_ ?_
 .intro w9 hw9 _;refine aS ?_;have yy:=aH (O.below hw9.same O.lt);refine aW ?_;exact eG 71 _ rfl X 0 rfl (jB Y) _ (FK yy) underlying71 rfl (yX _) aE
 refine aZ ?_;rintro w9 hw9 _;refine aQ ?_;refine aS ?_;have n:=aH (O.below hw9.same O.lt);have zn:=aH (zp.kept (aD.of_same (S:=bN) hw9.same) (fun x=>x));have zm:=aH (tX zo (aD.of_same (S:=bN) hw9.same) (fun x=>x));have m:=aH (L.below hw9.same L.lt);have l:=aH (q.trans (hw9.same.mono q.size));have K:aD (cI X) w9 (w9.setCells X 72 (jB Y).toList):=cE (S:=cI X) (.inl rfl) 72 _;have zl:Hid (w9.there X 72 (jB Y).size):=aH (n.there (by rw[sB,jB,dJ];omega));have h:Hid (aY (w9.setCells X 72 (jB Y).toList) X 74 (kD (YX (pL k) 4) T)):=aH (by
  have hx:=aY.setCells (vs:=(jB Y).toList) (o:=72) n;rw[CC]at hx;have e:({cN.new with now:=Y,good:=Y}:cN)=YX (pL k) 4:=by
   rw[zq.out];exact OF k
  rw[<-e];exact hx)
 have f:=aH (zn.kept K (fun e=>by have r:T=X:=e;have:=V.out;omega));have d:=aH (tX zm K (fun e=>by have r:go=X:=e;have:=V.out;omega));have c:Hid (aY (w9.setCells X 72 (jB Y).toList) (go+1) 68 _):=aH ((K.block (go+1) m.lt (fun e=>by have r:go+1=X:=e;have:=V.out;omega)).trans m);have zk:=aH (l.trans (K.below l.size (fun b hb e=>by have r:b=X:=e;have:=V.out;omega)));have zj:=aH (yX Y);have zi:=aH (JG Y);clear K O zp zo L q n zn zm m l c0 za yz hw9;refine aW ?_
 go_wp2_with (with_reducible refine oI 71 X 72 (jB Y) J J zl.out zj.out zi.out ?_;generalize w9.setCells X 72 (jB Y).toList=w7 at*)
 obtain⟨Z,hZ⟩:=aO w7.heap.size;have zh:Hid (GG w (YX (pL k) 4) (go+1) X T go Z 0 w7):=aH ⟨by have:=c.out;have e:=ZG X (fun t=>Z+t) go;unfold cR at e;rw[e];exact this,h.out,f.out,d.out,fun t ht=>by omega,zk.out,hZ.symm,by
  have h1:=V.out;have h2:=h.lt;have h3:=f.lt;have h4:=d.lt;have h5:=c.lt;rw[<-hZ]at h2 h3 h4 h5;omega⟩
 clear hZ h f d c zk zl zj zi zq V zd
 go_loopw [33] (fun i wr=>∃j:Nat,j<=4/\i=.int .i64 j/\Hid (GG w (YX (pL k) 4) (go+1) X T go Z j wr)) (fun i _=>4-(intOf i).toNat)
 case atStart=>exact⟨0,I,rfl,zh⟩
 case round=>
  clear zh;obtain⟨j,hj,rfl,C⟩:=hrel;by_cases ze:j<4
  .have q3:(j:Int)<4:=I;have zg:=aH (C.next ze);have zf:=C.sz;have yv:=C.sh.lt;have yu:wr.cell? (go+1,17+j)=some (.pointer none):=by rw[C.sh.cell,Bp _ _ _ _ ze]
   have yt:=C.sh.frozen (17+j);rw[<-zf]at zg;clear C zf;go_wp2;go_roundw
   case rel=>exact⟨j+1,I,aG,zg⟩
   case measure=>simp [intOf];omega
  obtain rfl:j=4:=I;have HF:Hid (∃p' a zz zy W,(.pointer (some ⟨go+1,0,none⟩):Value)=.pointer (some ⟨p',0,none⟩)/\bI w tag W/\kK wr W (pH.new k) p' a zz zy/\Below w w wr):=aH ⟨go+1,X,go,_,pI w tag (go+1) X T go Z,rfl,fun b hb=>iP hb,C.done tag,C.bl⟩;clear C;go_wp2;go_ret;obtain⟨p',a,zz,zy,W,e1,e2,e3,e4⟩:=HF.out;exact⟨p',a,zz,zy,W,congrArg Ending.returned e1,e2,e3,e4⟩
end
section
attribute [local go_sem↓] Go.wp_at_zero Go.wp_at_succ
theorem Mg{x:Int}(h:(Lit.int .u64 x).wf=true):0<=x/\x<18446744073709551616:=by
 have Z:(decide (0<=x)&&decide (x<=18446744073709551615))=true:=h;rw[Bool.and_eq_true,decide_eq_true_eq,decide_eq_true_eq]at Z;omega
abbrev Aj:List IntKind:=[.i64,.i64,.i64,.i64,.i64,.i64,.u64]
def bL(f:Nat->Nat->Int)(i:Nat):Mv:=⟨f i 0,f i 1,f i 2,f i 3,f i 4,f i 5,(f i 6).toNat⟩
theorem PQ.kept{K:List IntKind}{A:Option Addr}{n c:Nat}{f:Nat->Nat->Int}(h:PQ K w A n c f)(X:aD S w w')(R:∀b,iI A b->¬S b):PQ K w' A n c f:=
 ⟨h.cap,h.cap63,h.wf,fun W=>by
  obtain⟨b,Z,rfl,Y,V⟩:=h.at_ W;exact⟨b,Z,rfl,Nat.lt_of_lt_of_le Y X.size,fun i j U T=>(X.cell (p:=⟨b,Z+i*K.length+j,none⟩) Y (R b ⟨_,rfl,rfl⟩)).trans (V i j U T)⟩⟩
theorem JM{N:Nat}{F:pH}(Z:lM N F)(Y:N+1001<=100000000)(h:AR F)(x:Mv):AR (F.move x):=by
 unfold pH.move;split
 .split
  .exact NH h _ _ _ _
  exact h
 split
 .split
  .exact aAA I _ Z I h
  exact h
 split
 .split
  .exact aAu h _
  exact h
 split
 .exact aAV h _
 exact h
section
variable{w w':World}{tag tag':Nat->Nat}{F:pH}{p gs mp go:Nat}{pt:Nat->Nat}{N:Nat}
theorem SI.ext{w0:World}{Z:Nat->Nat}{Y:pH}(X:Below w0 w0 w)(W:bI w0 Z tag)(h:SI w tag Y p gs go pt w'):SI w0 Z Y p gs go pt w':=SI.trans (Kg.start X W) h
theorem aCT(h:kK w tag F p gs go pt)(l:Nat)(P:l<9):Calls prog 81 #[(gs,0),l] w fun e w'=>e=.returned (.tuple #[])/\SI w tag (F.land l) p gs go pt w':=by
 obtain⟨n,U,H,T,S,Z⟩:=h;refine(XP gs U l F.s w Z.st_ P).mono ?_;rintro e w' ⟨rfl,W,X⟩;have Y:∀b,nQ gs b->tag b=100:=fun b W=>by rw[show b=gs from W];exact Z.ts
 have V:=bI.refl w tag;refine⟨rfl,tag,(Kg.refl _ _ _).go V X (fun b W=>by unfold wM;rw[Y b W];omega),n,U,H,T,S,?_⟩;exact⟨(X.block p Z.sh.lt fun e=>by have:=Y _ e;have:=Z.tp;omega).trans Z.sh,W,Z.wm.kept X (fun e=>by have:=Y _ e;have:=Z.tm;omega),Z.om.kept X V (fun b e=>by have:=Y b e;omega),Z.hi.keptT X Z.tH (fun b e=>by have:=Y b e;omega),Z.tp,Z.ts,Z.tm,Z.tH,fun u R Q=>(Z.th_ u R Q).kept X V (fun b e=>by have:=Y b e;omega)⟩
end
def aCC(w:World)(tag:Nat->Nat)(F:pH)(v:Value)(w':World):Prop:=∃p gs go pt tag',v=.pointer (some ⟨p,0,none⟩)/\Kg wM w tag w' tag'/\kK w' tag' F p gs go pt
structure aAq (w:World) (tag:Nat->Nat) (F0:pH) (f:Nat->Nat->Int) (p gs go:Nat) (pt:Nat->Nat) (j:Nat) (wr:World) (tagr:Nat->Nat) (F:pH):Prop where
 eq:F=F0.play (bL f) j
 rs:kK wr tagr F p gs go pt
 kg:Kg wM w tag wr tagr
 ok:lM (j*1001) F
 sb:AR F
theorem aAq.next{V:World}{tag Y:Nat->Nat}{U F:pH}{f:Nat->Nat->Int}{p go:Nat}{W:Nat->Nat}(h:aAq w tag U f p gs go W j wr Y F)(P:j<10000)(R:SI wr Y (F.move (bL f j)) p gs go W V):∃Z Q,aAq w tag U f p gs go W (j+1) V Z Q:=by
 obtain⟨Z,T,S⟩:=R;have X:=EG h.ok (bL f j) I;refine⟨Z,_,by rw[h.eq];rfl,S,h.kg.trans T,by rw[show(j+1)*1001=j*1001+1001 by omega];exact X,JM h.ok I h.sb _⟩
section
variable(F:pH)(x:Mv)
theorem aBS(h:x.kind=1):F.move x=if F.callE x.t x.a x.k x.v=0 then F.call x.t.toNat x.a x.k x.v else F:=by unfold pH.move;rw[iP h]
theorem aBb(h:x.kind=2):F.move x=if lG x.t x.n=0 then(pH.run x.t.toNat x.n.toNat F).1 else F:=by
 unfold pH.move;rw[iN I,iP h];by_cases Z:0<=x.t/\x.t<4
 .by_cases hn:0<=x.n/\x.n<=1000
  .have e:lG x.t x.n=0:=by unfold lG;rw[iN (fun q=>q Z),iN (fun q=>q hn)]
   rw[iP ⟨Z,hn⟩,e,iP rfl]
  have e:lG x.t x.n=1:=by unfold lG;rw[iN (fun q=>q Z),iP hn]
  rw[iN (fun q=>hn q.2),e,iN aJ]
 have e:lG x.t x.n=2:=by unfold lG;rw[iP Z]
 rw[iN (fun q=>Z q.1),e,iN aJ]
theorem aAg(h:x.kind=3):F.move x=if 0<=x.n/\x.n<9 then F.land x.n.toNat else F:=by unfold pH.move;rw[iN I,iN I,iP h]
theorem aBH(h:x.kind=4):F.move x=F.crash x.lands:=by unfold pH.move;rw[iN I,iN I,iN I,iP h]
theorem aBW(Z:x.kind≠1)(Y:x.kind≠2)(X:x.kind≠3)(W:x.kind≠4):F.move x=F:=by unfold pH.move;rw[iN Z,iN Y,iN X,iN W]
end
theorem aCR(tag:Nat->Nat)(k:Int)(A:Option Addr)(n c:Nat)(f:Nat->Nat->Int)(w:World)(h1:1<=k)(h2:k<=6)(hl:PQ Aj w A n c f)(hA:∀b,iI A b->tag b<100)(hn:n<=10000):
 Calls prog 52 #[k,.slice A n c] w fun e w'=>∃v,e=.returned v/\aCC w tag ((pH.new k).play (bL f) n) v w':=by
 have HL:=aH hl;have HA:=aH hA;have C:=aH (Ek tag k w h1 h2);have zv:=aH (Ci h1 h2);clear hl hA
 go_enter func52,ntmps52
 go_wp2_with fail
 with_reducible refine C.out.mono ?_
 rintro e w1 ⟨p,M,go,E,g,rfl,d,a,zz⟩;have o:Hid (∃Z Fr,aAq w tag (pH.new k) f p M go E 0 w1 Z Fr):=aH ⟨g,pH.new k,rfl,a,Kg.start zz d,by rw[Nat.zero_mul];exact zv,De k⟩;clear d a zz C;go_wp2
 go_loopw [12] (fun i wr=>∃j:Nat,j<=n/\i=.int .i64 j/\Hid (∃Z Fr,aAq w tag (pH.new k) f p M go E j wr Z Fr)) (fun i _=>n-(intOf i).toNat)
 case atStart=>exact⟨0,I,rfl,o⟩
 case round=>
  clear o;obtain⟨j,hj,rfl,zy⟩:=hrel;obtain⟨Z,Fr,zx⟩:=zy.out;have S:=aH zx;clear zy zx;by_cases R:j<n
  .have q3:(j:Int)<n:=I;have L:=HL.kept S.kg.k (fun b hb e=>by have:=HA.out b hb;have e':100<=tag b:=e;omega);obtain⟨b,O,rfl,zr,X⟩:=L.at_ I;have zp:=L.cap;have zw:=L.cap63;have x0:wr.cell? (b,O+j*7)=(f j 0):=X j 0 R aJ;have x1:wr.cell? (b,O+j*7+1)=(f j 1):=X j 1 R aJ;have x2:wr.cell? (b,O+j*7+2)=(f j 2):=X j 2 R aJ;have x3:wr.cell? (b,O+j*7+3)=(f j 3):=X j 3 R aJ;have x4:wr.cell? (b,O+j*7+4)=(f j 4):=X j 4 R aJ;have x5:wr.cell? (b,O+j*7+5)=(f j 5):=X j 5 R aJ;have x6:wr.cell? (b,O+j*7+6)=[f j 6]:=X j 6 R aJ;have P:=L.wf j 6 R aJ;have z:Below wr wr (wr.alloc (.cells #[(f j 0),(f j 1),(f j 2),(f j 3),(f j 4),(f j 5),[f j 6]] 150)):=(Below.refl _ _).alloc (Nat.le_refl _) _;have U:Hid (∀G,SI (wr.alloc (.cells #[(f j 0),(f j 1),(f j 2),(f j 3),(f j 4),(f j 5),[f j 6]] 150)) Z (Fr.move (bL f j)) p M go E G->∃Z Fr,aAq w tag (pH.new k) f p M go E (j+1) G Z Fr):=aH (fun G N=>S.next I (SI.ext z (bI.refl _ _) N));have V:=aH (S.rs.below z);have Y:=aH (aY.new wr 150 #[(f j 0),(f j 1),(f j 2),(f j 3),(f j 4),(f j 5),[f j 6]]);clear X L z
   go_upto_region 5 with(fail)
   show Code.wp _ _ _ _ (wr.alloc (.cells #[(f j 0),(f j 1),(f j 2),(f j 3),(f j 4),(f j 5),[f j 6]] 150));generalize wr.alloc (.cells #[(f j 0),(f j 1),(f j 2),(f j 3),(f j 4),(f j 5),[f j 6]] 150)=Q at*;generalize wr.heap.size=F at*;have zo:=Y.lt;have m1:Q.cell? (F,1)=(f j 1):=Y.cell 1;have m2:Q.cell? (F,2)=(f j 2):=Y.cell 2;have m3:Q.cell? (F,3)=(f j 3):=Y.cell 3;have m4:Q.cell? (F,4)=(f j 4):=Y.cell 4;have m5:Q.cell? (F,5)=(f j 5):=Y.cell 5;have m6:Q.cell? (F,6)=[f j 6]:=Y.cell 6;clear x0 x1 x2 x3 x4 x5 x6 zr;by_cases B:f j 0=1
   .have m0:Q.cell? (F,0)=(1:Int):=by rw[Y.cell 0,<-B];rfl
    have K:=aH (Ge V S.ok I (f j 1) (f j 2) (f j 3) (f j 4));have y:=aH (aBS Fr (bL f j) B);clear B P Y;go_wp2_with fail
    with_reducible refine K.out.mono ?_
    rintro e G ⟨rfl,N⟩;have T:=aH (U.out G (by rw[y.out];exact N));clear N K S V U;go_wp2;go_roundw
    case rel=>exact⟨j+1,I,aG,T⟩
    case measure=>simp [intOf];omega
   by_cases r:f j 0=2
   .have m0:Q.cell? (F,0)=(2:Int):=by rw[Y.cell 0,<-r];rfl
    have K:=aH (aCu V S.ok I S.sb (f j 1) (f j 5));have y:=aH (aBb Fr (bL f j) r);clear B r P Y;go_wp2_with fail
    with_reducible refine K.out.mono ?_
    rintro e G ⟨rfl,N⟩;have T:=aH (U.out G (by rw[y.out];exact N));clear N K S V U;go_wp2;go_roundw
    case rel=>exact⟨j+1,I,aG,T⟩
    case measure=>simp [intOf];omega
   by_cases q:f j 0=3
   .have m0:Q.cell? (F,0)=(3:Int):=by rw[Y.cell 0,<-q];rfl
    by_cases D:0<=f j 5/\f j 5<9
    .have H:bV (f j 5) 0 8=true:=by unfold bV;rw[decide_eq_true_eq];omega
     have x:=aH H;have m:=aCT V (f j 5).toNat I;have y:=aH (aAg Fr (bL f j) q);rw[show(((f j 5).toNat:Nat):Int)=f j 5 by omega]at m;have K:Hid (∀W,kK W Z Fr p M go E->Calls prog 81 #[(M,0),(f j 5)] W fun e w'=>e=.returned (.tuple #[])/\SI W Z (Fr.land (f j 5).toNat) p M go E w'):=aH (fun W hW=>by
      have:=aCT hW (f j 5).toNat I;rw[show(((f j 5).toNat:Nat):Int)=f j 5 by omega]at this;exact this)
     have zu:=aH D;have c0:Q.cell? (p,0)=(M,0):=by
      obtain⟨n',zn,H',zm,zl,zq⟩:=V.out;rw[zq.sh.cell,Dq];rfl
     have zt:=(V.cth (t:=0) I).2;clear m B r q P Y H D;go_wp2_with fail
     with_reducible refine(bQ _ _ _ _).mono ?_
     rintro e G ⟨rfl,rfl⟩;rw[x.out];go_wp2;refine aA 6 ?_
     iterate 6
      refine aR ?_;constructor
      .intro w9 hw9 hm9;refine aS ?_;obtain⟨hc9,hf9⟩:=hw9.all;refine aW ?_;go_simp
       first
       |exact aE
     refine aZ ?_;rintro w9 hw9 _;refine aQ ?_;refine aS ?_;have u:=hw9.same;have l:=aH (K.out w9 (V.below u));have h:=aH u;clear u hw9 K c0 zt;refine aW ?_;go_wp2_with fail
     with_reducible refine l.out.mono ?_
     rintro e w4 ⟨rfl,N⟩;have T:=aH (U.out w4 (by rw[y.out];show SI Q Z (if 0<=f j 5/\f j 5<9 then Fr.land (f j 5).toNat else Fr) p M go E w4;rw[iP zu.out];exact SI.ext h (bI.refl _ _) N));clear N l S V U h;go_wp2;go_roundw
     case rel=>exact⟨j+1,I,aG,T⟩
     case measure=>simp [intOf];omega
    have H:bV (f j 5) 0 8=false:=by unfold bV;rw[decide_eq_false_iff_not];omega
    have x:=aH H;have T:=aH (U.out Q (by rw[aAg Fr (bL f j) q];show SI Q Z (if 0<=f j 5/\f j 5<9 then Fr.land (f j 5).toNat else Fr) p M go E Q;rw[iN D];exact SI.same V (Below.refl _ _)));clear B r q P Y H D S V U;go_wp2_with fail
    with_reducible refine(bQ _ _ _ _).mono ?_
    rintro e G ⟨rfl,rfl⟩;rw[x.out];go_wp2;go_roundw
    case rel=>exact⟨j+1,I,aG,T⟩
    case measure=>simp [intOf];omega
   by_cases e4:f j 0=4
   .have m0:Q.cell? (F,0)=(4:Int):=by rw[Y.cell 0,<-e4];rfl
    have zs:=Mg P;have s:=aBX V S.ok I (f j 6).toNat I;rw[show(((f j 6).toNat:Nat):Int)=f j 6 by omega]at s;have K:=aH s;have y:=aH (aBH Fr (bL f j) e4);clear B r q e4 P Y s zs;go_wp2_with fail
    with_reducible refine K.out.mono ?_
    rintro e G ⟨rfl,N⟩;have T:=aH (U.out G (by rw[y.out];exact N));clear N K S V U;go_wp2;go_roundw
    case rel=>exact⟨j+1,I,aG,T⟩
    case measure=>simp [intOf];omega
   have m0:Q.cell? (F,0)=(f j 0):=Y.cell 0;have T:=aH (U.out Q (by rw[aBW Fr (bL f j) B r q e4];exact SI.same V (Below.refl _ _)));clear P Y S V U;go_wp2;go_roundw
   case rel=>exact⟨j+1,I,aG,T⟩
   case measure=>simp [intOf];omega
  obtain rfl:j=n:=I;have q3:¬(j:Int)<j:=I;have HF:Hid (Kg wM w tag wr Z/\kK wr Z ((pH.new k).play (bL f) j) p M go E):=aH ⟨S.kg,by rw[<-S.eq];exact S.rs⟩;clear S;go_wp2;go_ret;exact⟨_,rfl,p,M,go,E,Z,rfl,HF.out.1,HF.out.2⟩
theorem aAD:(prog.info? 25).map (·.size)=some 32:=J
def nz(kind:Int)(i:Nat):Int:=if i=0 then kind else 0
def Gj(t:Nat):Array Value:= #[.int .i64 t,.int .i64 0,.int .i64 0,.int .i64 0,.int .i64 0,.int .i64 0,.bool false,.int .i64 0,.int .u64 0,.int .u64 0,.int .u64 0,.int .u64 0,.int .u64 0,.int .u64 0,.int .u64 0,.int .u64 0,.int .u64 0,.int .u64 0,.int .u64 0,.int .u64 0,.int .u64 0,.int .u64 0,.int .u64 0,.int .u64 0,.int .u64 0,.int .u64 0,.int .u64 0,.int .u64 0,.int .u64 0,.int .u64 0,.int .u64 0,.int .u64 0,.int .u64 0,.int .u64 0,.int .u64 0,.int .u64 0,.int .u64 0,.int .u64 0,.int .u64 0,.int .u64 0,.int .u64 0,.slice none 0 0,.slice none 0 0,.int .u64 0,.int .u64 0,.int .u64 0,.int .i64 0,.int .i64 0,.int .i64 0]
theorem Fh(C:Array Value)(z:Nat->Int)(h:cH C 32 z)(k:Nat)(Y:k<32)(w:World):(Instr.index 25 (.agg C) k).run prog w=.ok [z k] w:=by
 have Z:(k:Int)<32:=I;have X:=h.get k Y;simp [Instr.index,asIntOf,run_underlying underlying25,part,underlying23,isAgg,Sem.run_bind,Y,Z,X]
structure lA (w:World) (gm gs g:Nat) (s:cN) (pw:Nat->Value) (wr:World):Prop where
 sh:aY wr g 157 (uL gm gs pw (fun _=>0) 0 (.slice none 0 0) (.slice none 0 0))
 ram:aY wr gm 34 (16:Nat)
 st:aY wr gs 123 (nI s)
 below:Below w w wr
structure WSt (w:World) (gm gs g:Nat) (k:Nat) (gw:Nat->Nat) (wr:World):Prop where
 wk:∀t,t<k->aY wr (gw t) 46 (Gj t)
 low:∀t,t<k->w<=gw t/\gw t≠gm/\gw t≠gs/\gw t≠g
 ne:∀t u,t<k->u<k->t≠u->gw t≠gw u
theorem aBD{Z:Nat->Value}(h:lA w gm gs g (Db z k) Z wr)(V:k<32)(Y:gm≠gs)(X:g≠gs)(W:w<=gs):lA w gm gs g (Db z (k+1)) Z (wr.setCell (gs,8+k) [z k]):=
 ⟨h.sh.far X _,h.ram.far Y _,by rw[<-Cq,<-DE _ _ I];exact h.st.set_ _ _,h.below.setCell W _⟩
theorem aBf{Z:World}{X:Nat->Value}{s s':cN}(h:lA w gm gs g s X wr)(W:aY Z gs 123 (nI s'))(Y:aD (nQ gs) wr Z)(V:gm≠gs)(U:g≠gs)(R:w<=gs):lA w gm gs g s' X Z:=
 ⟨h.sh.kept Y U,h.ram.kept Y V,W,h.below.trans (Y.below h.below.size (fun b S e=>by have T:b=gs:=e;omega))⟩
structure aCj (w w':World) (kind:Int) (g gm gs:Nat) (gw:Nat->Nat):Prop where
 sh:aY w' g 157 (uL gm gs (fun t=>cR (gw t)) (fun _=>0) 0 (.slice none 0 0) (.slice none 0 0))
 ram:aY w' gm 34 (16:Nat)
 st:aY w' gs 123 (nI (YX (nz kind) 4))
 wk:∀t,t<4->aY w' (gw t) 46 (Gj t)
 low:w<=gm/\w<=gs/\w<=g/\gm≠gs/\gm≠g/\gs≠g
 wlow:∀t,t<4->w<=gw t/\gw t≠gm/\gw t≠gs/\gw t≠g
 wne:∀t u,t<4->u<4->t≠u->gw t≠gw u
 below:Below w w w'
def aCg(kind:Int)(w:World)(e:Ending)(w':World):Prop:=∃g gm gs gw,e=.returned (.tuple #[(g,0),.nilIface])/\aCj w w' kind g gm gs gw
theorem Pn(kind:Int)(w:World)(U:oJ kind=false):
 Calls prog 67 #[kind] w fun e w'=>e=.returned (.tuple #[.pointer none,.iface 53 (1:Int)])/\Below w w w':=by
 have X:=aH (fun W=>Az kind W U);obtain⟨D,V,Z⟩:∃D:Array Value,D=(32:Nat)/\cH D 32 (fun _=>0):=⟨_,rfl,cH.zero 32⟩;rw[<-V]at X;have T:Hid ((prog.info? 25).map (·.size)=some D.size):=by show _=_;rw[aAD,Z.size]
 have S:=aH Z.size;have R:=aH Z.one;clear U V Z
 go_enter func67,ntmps67
 go_wp2_with fail
 with_reducible refine(X.out _).mono ?_
 rintro e P ⟨rfl,Y⟩;have Q:=aH (aL (Y.alloc Y.size (.cells (32:Nat) 25)) Y.size D);clear Y
 go_wp2_with (with_reducible refine fK 25 P D 25 (32:Nat) J J (aY.new _ _ _) T.out (by rw[S.out];kernel_rfl) R.out ?_)
 go_ret2
 exact⟨rfl,Q.out⟩
theorem aCD{v:Value}(h:WSt w gm gs g k gw wr)(V:k<4)(U:g<wr)(T:gm<wr)(S:gs<wr)(R:w.heap.size<=wr):
 WSt w gm gs g (k+1) (fun t=>if t=k then wr else gw t) ((wr.setCell (g,2+k) v).alloc (.cells (Gj k) 46)):=by
 refine⟨fun t Y=>?_,fun t Y=>?_,fun t u Y W Z=>?_⟩
 .by_cases e:t=k
  .subst e;rw[iP rfl];exact aY.newAt _ _ _ (by simp)
  rw[iN e];exact((h.wk t I).far (h.low t I).2.2.2 _).alloc _
 .by_cases e:t=k
  .subst e;rw[iP rfl];omega
  rw[iN e];exact h.low t I
 by_cases e:t=k
 .subst e;rw[iP rfl,iN (fun e=>Z e.symm)];have:=(h.wk u I).lt;omega
 rw[iN e];by_cases X:u=k
 .rw[iP X];have:=(h.wk t I).lt;omega
 rw[iN X];exact h.ne t u I I Z
theorem aCN{s:cN}(h:lA w gm gs g s (fun t=>if t<k then cR (gw t)else .pointer none) wr)(Z:k<4)(Y:gm≠g)(X:gs≠g)(W:w<=g):
 lA w gm gs g s (fun t=>if t<k+1 then cR (if t=k then wr else gw t)else .pointer none) ((wr.setCell (g,2+k) (cR wr)).alloc (.cells (Gj k) 46)):=by
 refine⟨?_,(h.ram.far Y _).alloc _,(h.st.far X _).alloc _,(h.below.setCell W _).alloc (by simp [h.below.size]) _⟩;have:=(h.sh.set_ (2+k) (cR wr)).alloc (.cells (Gj k) 46);rw[aAQ _ _ _ _ _ _ _ Z]at this;have e:(fun i=>if i=k then cR wr else(if i<k then cR (gw i)else .pointer none))=(fun t=>if t<k+1 then cR (if t=k then wr else gw t)else .pointer none):=by
  funext i
  by_cases e:i=k
  .rw[iP e,iP I,iP e]
  rw[iN e];by_cases h:i<k
  .rw[iP h,iP I,iN e]
  rw[iN h,iN I]
 rw[e]at this;exact this
theorem Cs(kind:Int)(w:World)(G:oJ kind=true):Calls prog 67 #[kind] w (aCg kind w):=by
 have p:1<=kind/\kind<=6:=by simpa [oJ]using G
 have V:=Gm kind p.1 p.2;have m:=aH (fun W=>Cj kind W G);obtain⟨D,h⟩:=aO (wB kind:Array Value);rw[<-h]at m V;have U:cH D 32 (nz kind):=V;have f:=aH U;have l:Hid ((prog.info? 25).map (·.size)=some D.size):=by show _=_;rw[aAD,U.size]
 have d:=aH U.size;have c:=aH U.one;clear G h U V p
 go_enter func67,ntmps67
 go_wp2_with fail
 with_reducible refine(m.out _).mono ?_
 rintro e R ⟨rfl,S⟩;have b:=S.size;have Q:=aH (aL (S.alloc S.size (.cells (32:Nat) 25)) S.size D);have F:=aH (aY.setRow (aY.new R 25 (32:Nat)) D);clear S;have E:((R.alloc (.cells (32:Nat) 25)).setRow R D).heap.size=R+1:=by simp [World.setRow]
 go_wp2_with (first
  |(with_reducible refine fK 25 R D 25 (32:Nat) J J (aY.new _ _ _) l.out (by rw[d.out];kernel_rfl) c.out ?_)
  |fail)
 generalize(R.alloc (.cells (32:Nat) 25)).setRow R.heap.size D=N at*;generalize R.heap.size=a0 at*
 with_reducible refine(Ft _).mono ?_
 rintro e w3 ⟨rfl,rfl⟩;have o:=E.symm;have T:Hid (lA w N (N,1) (N+1+1) (Db (nz kind) 0) (fun _=>.pointer none) (((N.alloc (.cells (16:Nat) 34)).alloc (.cells (nI cN.new) 123)).alloc (.cells (uL N (N,1) (fun _=>.pointer none) (fun _=>0) 0 (.slice none 0 0) (.slice none 0 0)) 157))):=aH (by
  refine⟨aY.newAt _ _ _ (by simp),((aY.new _ _ _).alloc _).alloc _,by rw[Dh];exact(aY.newAt _ _ _ (by simp)).alloc _,?_⟩;have:=Q.size;exact((Q.alloc this _).alloc (by simp;omega) _).alloc (by simp;omega) _)
 have M:=aH (((F.alloc (.cells (16:Nat) 34)).alloc (.cells (nI cN.new) 123)).alloc (.cells (uL N (N,1) (fun _=>.pointer none) (fun _=>0) 0 (.slice none 0 0) (.slice none 0 0)) 157));have a:=Q.size;rw[aAe]at T M;rw[o];clear E Q F
 go_wp2_with (with_reducible refine lL 25 a0 25 D J M.out underlying25 J l.out ?_)
 rw[<-aAe]at T;generalize zx:N.heap.size=Y at*;have C:Hid (∃wx:World,lA w Y (Y+1) (Y+1+1) (Db (nz kind) 0) (fun _=>.pointer none) wx):=aH ⟨_,T.out⟩
 go_loopw [25] (fun i wr=>∃k:Nat,k<=32/\i=.int .i64 k/\Hid (lA w Y (Y+1) (Y+1+1) (Db (nz kind) k) (fun _=>.pointer none) wr)) (fun i _=>32-(intOf i).toNat)
 case atStart=>exact⟨0,I,rfl,T⟩
 case round=>
  clear T C M;obtain⟨k,G,rfl,Z⟩:=hrel;by_cases X:k<32
  .have B:(k:Int)<32:=I;have zz:=Fh D (nz kind) f k X;have c1:wr.cell? (Y+1+1,1)=(Y+1,0):=by rw[Z.sh.cell];rfl
   have L:=PN (Y+1) (8+k) (nz kind k) _ wr Z.st I;rw[show((8+k:Nat):Int)=8+(k:Int) by omega]at L;have K:=aH L;have H:=aH (aBD Z X I I I);clear L;generalize nz kind k=zk at*;go_wp2_with fail
   with_reducible refine K.out.mono ?_
   rintro e R ⟨rfl,rfl⟩;go_wp2;go_roundw
   case rel=>exact⟨k+1,I,aG,H⟩
   case measure=>simp [intOf];omega
  obtain rfl:k=32:=I;have B:¬((32:Nat):Int)<32:=I;have A:Hid (lA w Y (Y+1) (Y+1+1) (YX (nz kind) 0) (fun _=>.pointer none) wr):=aH (by rw[aBR];exact Z);clear Z;go_wp2;obtain⟨wo,rfl⟩:=aO (wr:World)
  go_loopw [38] (fun i wr=>∃k:Nat,k<=4/\i=.int .i64 k/\Hid (lA w Y (Y+1) (Y+1+1) (YX (nz kind) k) (fun _=>.pointer none) wr)) (fun i _=>4-(intOf i).toNat)
  case atStart=>exact⟨0,I,rfl,A⟩
  case round=>
   clear A;obtain⟨k,G,rfl,Z⟩:=hrel;by_cases X:k<4
   .have B:(k:Int)<4:=I;have c1:wr.cell? (Y+1+1,1)=(Y+1,0):=by rw[Z.sh.cell];rfl
    have L:=QT (Y+1) (1+k) _ wr Z.st I;rw[show((1+k:Nat):Int)=1+(k:Int) by omega,aBG _ _ X]at L;have K:=aH L;clear L;go_wp2_with fail
    with_reducible refine K.out.mono ?_
    rintro e R ⟨rfl,y,x⟩;have H:=aH (aBf Z y x I I I);clear y x;go_wp2;go_roundw
    case rel=>exact⟨k+1,I,aG,H⟩
    case measure=>simp [intOf];omega
   obtain rfl:k=4:=I;have B:¬((4:Nat):Int)<4:=I;have z:Hid (∃O:Nat->Nat,lA w Y (Y+1) (Y+1+1) (YX (nz kind) 4) (fun t=>if t<0 then cR (O t)else .pointer none) wr/\WSt w Y (Y+1) (Y+1+1) 0 O wr):=aH ⟨fun _=>0,Z.out,⟨fun t s=>absurd s I,fun t s=>absurd s I,fun t u s=>absurd s I⟩⟩;clear Z;go_wp2;obtain⟨zy,rfl⟩:=aO (wr:World)
   go_loopw [49] (fun i wr=>∃k:Nat,k<=4/\i=.int .i64 k/\Hid (∃O:Nat->Nat,lA w Y (Y+1) (Y+1+1) (YX (nz kind) 4) (fun t=>if t<k then cR (O t)else .pointer none) wr/\WSt w Y (Y+1) (Y+1+1) k O wr)) (fun i _=>4-(intOf i).toNat)
   case atStart=>exact⟨0,I,rfl,z⟩
   case round=>
    clear z;obtain⟨k,G,rfl,r⟩:=hrel;obtain⟨O,g,q⟩:=r.out;have Z:=aH g;have P:=aH q;clear r g q;by_cases X:k<4
    .have B:(k:Int)<4:=I;have n:=Z.sh.lt;have c1:wr.cell? (Y+1+1,2+k)=some (.pointer none):=by
      rw[Z.sh.cell,uL,cW I];unfold shV;rw[iN I,iN I,iP I];dsimp only;rw[iN I]
     have f1:=Z.sh.frozen (2+k);have HA:=aH (aCN Z X I I I);have HB:=aH (aCD (v:=cR wr) P X n Z.ram.lt Z.st.lt Z.below.size);go_wp2;go_roundw
     case rel=>exact⟨k+1,I,aG,aH ⟨_,HA.out,HB.out⟩⟩
     case measure=>simp [intOf];omega
    obtain rfl:k=4:=I;have B:¬((4:Nat):Int)<4:=I;go_wp2
    go_ret2
    refine⟨Y+1+1,Y,Y+1,O,rfl,?_,Z.ram,Z.st,P.wk,I,P.low,P.ne,Z.below⟩;have:=Z.sh;have e:uL Y (Y+1) (fun t=>if t<4 then cR (O t)else .pointer none) (fun _=>0) 0 (.slice none 0 0) (.slice none 0 0)=uL Y (Y+1) (fun t=>cR (O t)) (fun _=>0) 0 (.slice none 0 0) (.slice none 0 0):=jJ fun j hj=>by
     unfold shV;split
     .rfl
     split
     .rfl
     split
     .dsimp only;rw[iP I]
     rfl
    rw[e]at this;exact this
theorem Gk:(false== !((⟨#[63]⟩:ByteArray).toList==[63]))=true:=J
theorem ZJ(k:Int):(oJ k== !((rD k).toList==[63]))=true:=by
 by_cases h:1<=k/\k<=6
 .obtain⟨h1,h2⟩:=h;rcases(by omega:k=1\/k=2\/k=3\/k=4\/k=5\/k=6)with rfl|rfl|rfl|rfl|rfl|rfl
  all_goals kernel_rfl
 have Z:oJ k=false:=by simp [oJ];omega
 have Y:rD k=⟨#[63]⟩:=by simp [rD,Z]
 rw[Z,Y];exact Gk
theorem Fe(k:Int)(h:oJ k=true):((rD k).toList==[63])=false:=by
 have:=ZJ k;rw[h]at this;cases hx:((rD k).toList==[63])with
 |false=>rfl
 |true=>rw[hx]at this;cases this
theorem Fl(k:Int)(h:oJ k=false):((rD k).toList==[63])=true:=by
 have:=ZJ k;rw[h]at this;cases hx:((rD k).toList==[63])with
 |true=>rfl
 |false=>rw[hx]at this;cases this
def mT(w:World)(g gm gs:Nat)(gw:Nat->Nat)(b:Nat):Nat:=if b<w then 0 else if b=g then 3 else if b=gm then 1 else if b=gs then 2 else if b=gw 0 then 10 else if b=gw 1 then 11 else if b=gw 2 then 12 else if b=gw 3 then 13 else 0
theorem aCj.sys{k:Int}(h:aCj w w' k g gm gs gw):gH w' (mT w g gm gs gw) (pH.new k) g gm gs gw:=by
 obtain⟨l1,l2,l3,l4,L,K⟩:=h.low;have W:mT w g gm gs gw g=3:=by unfold mT;rw[iN I,iP rfl]
 have V:mT w g gm gs gw gm=1:=by unfold mT;rw[iN I,iN I,iP rfl]
 have U:mT w g gm gs gw gs=2:=by unfold mT;rw[iN I,iN I,iN I,iP rfl]
 have T:=h.wne 0 1 I I I;have S:=h.wne 0 2 I I I;have R:=h.wne 0 3 I I I;have Q:=h.wne 1 2 I I I;have P:=h.wne 1 3 I I I;have O:=h.wne 2 3 I I I;have N:∀t,t<4->mT w g gm gs gw (gw t)=10+t:=fun t X=>by
  obtain⟨H,G,F,E⟩:=h.wlow t X;unfold mT;rw[iN I,iN I,iN I,iN I];rcases(by omega:t=0\/t=1\/t=2\/t=3)with rfl|rfl|rfl|rfl
  .rw[iP rfl]
  .rw[iN I,iP rfl]
  .rw[iN I,iN I,iP rfl]
  rw[iN I,iN I,iN I,iP rfl]
 have Z:∀b,iI (none:Option Addr) b->False:=fun b Y=>by obtain⟨a,M,_⟩:=Y;cases M
 refine⟨none,0,none,0,⟨h.sh,⟨V,_,h.ram,cH.zero 16⟩,⟨U,h.st⟩,fun t X=>⟨none,0,none,0,⟨?_,cU.nil _ _ _ _,cU.nil _ _ _ _,N t X,fun b Y=>(Z b Y).elim,fun b Y=>(Z b Y).elim⟩⟩,cU.nil _ _ _ _,cU.nil _ _ _ _,W,fun b Y=>(Z b Y).elim,fun b Y=>(Z b Y).elim⟩⟩;have:=h.wk t X;have e:kE t cQ.new (.slice none 0 0) (.slice none 0 0)=Gj t:=by rw[Cw];rfl
 show aY w' (gw t) 46 (kE t cQ.new (.slice none 0 0) (.slice none 0 0));rw[e];exact this
section
variable{w:World}{tag:Nat->Nat}{F:pH}{p gm gs:Nat}{gw:Nat->Nat}{N:Nat}
theorem aCm(h:gH w tag F p gm gs gw)(X:lM N F)(V:N+1000<=100000000)(W:AR F)(U:mR w)(T:tag 2=0)(t n:Int):
 Calls prog 47 #[.pointer (some ⟨p,0,none⟩),.int .i64 t,.int .i64 n] w fun e w'=>e=.returned (.tuple #[.int .i64 (if lG t n=0 then((pH.run t.toNat n.toNat F).2:Int)else 0),gS (lG t n)])/\DZ w tag (if lG t n=0 then(pH.run t.toNat n.toNat F).1 else F) p gm gs gw w':=by
 by_cases Y:0<=t/\t<4
 .by_cases hn:0<=n/\n<=1000
  .have e:lG t n=0:=by unfold lG;rw[if_neg (fun q=>q Y),if_neg (fun q=>q hn)]
   rw[e,if_pos rfl,if_pos rfl];have Z:=aCZ h X V W U T (t:=t.toNat) (by omega) n.toNat (by omega);rw[show((t.toNat:Nat):Int)=t by omega,show((n.toNat:Nat):Int)=n by omega]at Z;simpa [gS]using Z
  .have e:lG t n=1:=by unfold lG;rw[if_neg (fun q=>q Y),if_pos hn]
   rw[e,if_neg (by decide),if_neg (by decide)];have Z:=aCM h (t:=t.toNat) (by omega) n hn;rw[show((t.toNat:Nat):Int)=t by omega]at Z;refine Z.mono ?_;rintro e w' ⟨rfl,rfl⟩;exact⟨by simp [gS],DZ.same h (Below.refl _ _)⟩
 .have e:lG t n=2:=by unfold lG;rw[if_pos Y]
  rw[e,if_neg (by decide),if_neg (by decide)];refine(aBw p t n w Y).mono ?_;rintro e w' ⟨rfl,rfl⟩;exact⟨by simp [gS],DZ.same h (Below.refl _ _)⟩
end
structure Ev (w:World) (Fp Fr:pH) (p gm gs:Nat) (gw:Nat->Nat) (q qs go:Nat) (pt:Nat->Nat) (w':World) (tag:Nat->Nat):Prop where
 t:bI w (fun _=>0) tag
 b:Below w w w'
 ps:gH w' tag Fp p gm gs gw
 rs:kK w' tag Fr q qs go pt
section
variable{w w' w'':World}{tag:Nat->Nat}{Fp Fr F':pH}{p gm gs:Nat}{gw:Nat->Nat}{q qs go:Nat}{pt:Nat->Nat}
theorem gH.kept{Z:Nat->Nat}(h:gH w tag Fp p gm gs gw)(V:aD S w w')(U:bI w tag Z)(T:∀b,S b->tag b=0\/100<=tag b):gH w' Z Fp p gm gs gw:=by
 obtain⟨H,Y,E,X,W⟩:=h;exact⟨H,Y,E,X,W.kept V U T⟩
theorem Ev.below(h:Ev w Fp Fr p gm gs gw q qs go pt w' tag)(Z:Below w' w' w''):Ev w Fp Fr p gm gs gw q qs go pt w'' tag:=
 ⟨h.t,h.b.trans (Z.mono h.b.size),h.ps.below Z,h.rs.below Z⟩
end
def aCq(r:List Value):Prop:=∃x0 x1 x2 x3 x4 x5 x6 x7 x8:Int,r=[.int .i64 x0,.int .i64 x1,.int .i64 x2,.int .i64 x3,.int .i64 x4,.int .i64 x5,.int .i64 x6,.int .i64 x7,.int .i64 x8]
def dL(l:List (List Value)):Prop:=∀r∈l,aCq r
theorem dL.add{l:List (List Value)}(h:dL l)(a b c d e f g i j:Int):dL (l++[yE a b c d e f g i j]):=fun r hr=>by
 rcases List.mem_append.1 hr with hr|hr
 .exact h r hr
 obtain rfl:=List.mem_singleton.1 hr;exact⟨_,_,_,_,_,_,_,_,_,rfl⟩
theorem dL.step{F:pH}(h:dL F.hist)(t:Nat):dL (F.step t).hist:=by
 show dL (if _ then _ else _);split
 .exact h.add _ _ _ _ _ _ _ _ _
 exact h
theorem dL.run(t:Nat):∀(n:Nat) {F:pH},dL F.hist->dL (pH.run t n F).1.hist
 |0,_,h=>h
 |n+1,F,h=>by
  unfold pH.run;by_cases d:(F.th t).does=0
  .rw[iP d];exact h
  .rw[iN d];exact dL.run t n (h.step t)
theorem dL.move{F:pH}(h:dL F.hist)(x:Mv):dL (F.move x).hist:=by
 unfold pH.move;split
 .split
  .exact h.add _ _ _ _ _ _ _ _ _
  exact h
 split
 .split
  .exact h.run _ _
  exact h
 split
 .split<;>exact h
 split
 .exact h.add _ _ _ _ _ _ _ _ _
 exact h
theorem aAE(s:ByteArray)(f k:Nat)(Z:f<7):∀j,k<j->(IE s j)[k*7+f]? =(Mb (mvL s (aT s k)))[f]?
 |0,h=>absurd h I
 |j+1,h=>by
  rw[aM];rcases Nat.lt_or_ge k j with h1|h1
  .rw[List.getElem?_append_left (by rw[FZ];omega),aAE s f k Z j h1]
  .obtain rfl:k=j:=I;rw[List.getElem?_append_right (by rw[FZ];omega),FZ,show k*7+f-k*7=f by omega]
theorem aBx{e:TypeId}{c:Nat}{s:ByteArray}(h:w.ownsRow B e 7 (.slice (some ⟨g,0,none⟩) j c) j (IE s j))(k f:Nat)(Z:k<j)(Y:f<7):w.cell? (g,k*7+f)=(Mb (mvL s (aT s k)))[f]? :=by
 rw[World.ownsRow.cellAt h (k*7+f) I,aAE s f k Y j Z]
def mvF(s:ByteArray)(i j:Nat):Int:=(mvL s (aT s i)).getD j 0
theorem aCb(s:ByteArray)(i j:Nat):0<=mvF s i j/\mvF s i j<=100000:=by
 have X:=lH s (aT s i);have W:=lH s (aT s i+1);have V:=lH s (aT s i+2);have U:=lH s (aT s i+3);have Z:∀x∈mvL s (aT s i),0<=x/\x<=100000:=by
  unfold mvL
  (repeat' split)<;>(intro x Y;simp only[List.mem_cons,List.not_mem_nil,or_false]at Y;rcases Y with rfl|rfl|rfl|rfl|rfl|rfl|rfl<;>omega)
 unfold mvF;rw[List.getD_eq_getElem?_getD];cases h:(mvL s (aT s i))[j]? with
 |none=>simp
 |some x=>exact Z x (List.mem_of_getElem? h)
theorem i64_in(x:Int)(h:0<=x/\x<=100000):(Lit.int .i64 x).wf=true:=by
 show(decide (-9223372036854775808<=x)&&decide (x<=9223372036854775807))=true;rw[Bool.and_eq_true];exact⟨decide_eq_true I,decide_eq_true I⟩
theorem aCQ(x:Int)(h:0<=x/\x<=100000):(Lit.int .u64 x).wf=true:=by
 show(decide (0<=x)&&decide (x<=18446744073709551615))=true;rw[Bool.and_eq_true];exact⟨decide_eq_true I,decide_eq_true I⟩
theorem aAf{s:ByteArray}{e:TypeId}{A:Option Addr}{c:Nat}(h:w.ownsRow B e 7 (.slice A j c) j (IE s j)):PQ Aj w A j c (mvF s):=by
 obtain⟨Q,P,W,U,T,S⟩:=JB h;simp only[Value.slice.injEq,true_and]at W;obtain⟨rfl,rfl⟩:=W;unfold maxLen at T;refine⟨U,I,fun i k V Y=>?_,fun R=>?_⟩
 .have hb:=aCb s i k;have Z:k<7:=Y;rcases(by omega:k=0\/k=1\/k=2\/k=3\/k=4\/k=5\/k=6)with rfl|rfl|rfl|rfl|rfl|rfl|rfl
  all_goals first|exact i64_in _ hb|exact aCQ _ hb
 obtain⟨g,rfl,O,X⟩:=S R;refine⟨g,0,rfl,X,fun i k V Y=>?_⟩;have Z:k<7:=Y;show w.cell? (g,0+i*7+k)=_;rw[show 0+i*7+k=i*7+k by omega,aBx h i k V Z];rcases(by omega:k=0\/k=1\/k=2\/k=3\/k=4\/k=5\/k=6)with rfl|rfl|rfl|rfl|rfl|rfl|rfl<;>rfl
theorem aCB{s:ByteArray}(h:Ps s j):j<=s.size:=by
 by_cases X:j=0
 .omega
 have Z:=(h.1 (j-1) I).1;have Y:=aAh s (j-1);omega
structure aAk (w:World) (F0:pH) (f:Nat->Nat->Int) (p gm gs:Nat) (gw:Nat->Nat) (j:Nat) (wr:World) (tagr:Nat->Nat) (F:pH):Prop where
 eq:F=F0.play (bL f) j
 t:bI w (fun _=>0) tagr
 b:Below w w wr
 ps:gH wr tagr F p gm gs gw
 ok:lM (j*1001) F
 sb:AR F
 hi:dL F.hist
theorem aAk.next{U:World}{Y:Nat->Nat}{T F:pH}{f:Nat->Nat->Int}{p:Nat}(h:aAk w T f p gm gs gw j wr Y F)(L:j<10000)(P:Below wr wr w')(O:DZ w' Y (F.move (bL f j)) p gm gs gw U):∃Z N,aAk w T f p gm gs gw (j+1) U Z N:=by
 obtain⟨Z,S,R,Q⟩:=O;have W:=EG h.ok (bL f j) I;have X:=h.b.trans (P.mono h.b.size);exact⟨Z,_,by rw[h.eq];rfl,(h.t.trans (w':=w') S X.size),X.trans (R.below X.size (fun b V e=>by have M:Y b=0:=h.t b V;unfold PT at e;omega)),Q,by rw[show(j+1)*1001=j*1001+1001 by omega];exact W,JM h.ok I h.sb _,h.hi.move _⟩
def aCV(w:World)(F:pH)(v:Value)(w':World):Prop:=∃p gm gs gw tag,v=.pointer (some ⟨p,0,none⟩)/\bI w (fun _=>0) tag/\Below w w w'/\gH w' tag F p gm gs gw/\lM 1000000 F/\AR F/\dL F.hist
theorem aBZ(k:Int)(A:Option Addr)(n c:Nat)(w:World)(Y:oJ k=false):Calls prog 50 #[k,.slice A n c] w fun e w'=>e=.returned (.tuple #[.pointer none,.iface 53 (1:Int)])/\Below w w w':=by
 have X:=aH (Pn k w Y);clear Y
 go_enter func50,ntmps50
 go_wp2_with fail
 with_reducible refine X.out.mono ?_
 rintro e V ⟨rfl,Z⟩;have W:=aH Z;clear Z;go_wp2
 go_ret2
 exact⟨rfl,W.out⟩
theorem aBY(k:Int)(A:Option Addr)(n c:Nat)(f:Nat->Nat->Int)(w:World)(hk:oJ k=true)(hn:n<=900)(hl:PQ Aj w A n c f)(hE:mR w):
 Calls prog 50 #[k,.slice A n c] w fun e w'=>∃v,e=.returned (.tuple #[v,.nilIface])/\aCV w ((pH.new k).play (bL f) n) v w':=by
 have F:1<=k/\k<=6:=by simpa [oJ]using hk
 have HL:=aH hl;have HE:=aH hE;have G:=aH (Cs k w hk);have u:=aH (Ci F.1 F.2);clear hk hl hE F
 go_enter func50,ntmps50
 go_wp2_with fail
 with_reducible refine G.out.mono ?_
 rintro e Q ⟨p,B,z,y,rfl,hp⟩;have s:Hid (∃W Fr,aAk w (pH.new k) f p B z y 0 Q W Fr):=aH ⟨mT w p B z y,pH.new k,rfl,fun b hb=>iP hb,hp.below,hp.sys,by rw[Nat.zero_mul];exact u,De k,fun r hr=>by cases hr⟩;clear hp G u;go_wp2
 go_loopw [20] (fun i wr=>∃j:Nat,j<=n/\i=.int .i64 j/\Hid (∃W Fr,aAk w (pH.new k) f p B z y j wr W Fr)) (fun i _=>n-(intOf i).toNat)
 case atStart=>exact⟨0,I,rfl,s⟩
 case round=>
  clear s;obtain⟨j,hj,rfl,o⟩:=hrel;obtain⟨W,Fr,m⟩:=o.out;have X:=aH m;clear o m;by_cases S:j<n
  .have q3:(j:Int)<n:=I;have N:=HL.below X.b;obtain⟨b,R,rfl,zz,Y⟩:=N.at_ I;have zy:=N.cap;have h:=N.cap63;have x0:wr.cell? (b,R+j*7)=(f j 0):=Y j 0 S aJ;have x1:wr.cell? (b,R+j*7+1)=(f j 1):=Y j 1 S aJ;have x2:wr.cell? (b,R+j*7+2)=(f j 2):=Y j 2 S aJ;have x3:wr.cell? (b,R+j*7+3)=(f j 3):=Y j 3 S aJ;have x4:wr.cell? (b,R+j*7+4)=(f j 4):=Y j 4 S aJ;have x5:wr.cell? (b,R+j*7+5)=(f j 5):=Y j 5 S aJ;have x6:wr.cell? (b,R+j*7+6)=[f j 6]:=Y j 6 S aJ;have P:=N.wf j 6 S aJ;have H:Below wr wr (wr.alloc (.cells #[(f j 0),(f j 1),(f j 2),(f j 3),(f j 4),(f j 5),[f j 6]] 165)):=(Below.refl _ _).alloc (Nat.le_refl _) _;have V:Hid (∀L,DZ (wr.alloc (.cells #[(f j 0),(f j 1),(f j 2),(f j 3),(f j 4),(f j 5),[f j 6]] 165)) W (Fr.move (bL f j)) p B z y L->∃W Fr,aAk w (pH.new k) f p B z y (j+1) L W Fr):=aH (fun L O=>X.next I H O);have U:=aH (X.ps.below H);have q:=aH (And.intro (HE.below (X.b.trans (H.mono X.b.size))) (X.t _ HE.pos));have Z:=aH (aY.new wr 165 #[(f j 0),(f j 1),(f j 2),(f j 3),(f j 4),(f j 5),[f j 6]]);clear Y N H
   go_upto_region 7 with(fail)
   show Code.wp _ _ _ _ (wr.alloc (.cells #[(f j 0),(f j 1),(f j 2),(f j 3),(f j 4),(f j 5),[f j 6]] 165));generalize wr.alloc (.cells #[(f j 0),(f j 1),(f j 2),(f j 3),(f j 4),(f j 5),[f j 6]] 165)=Q at*;generalize wr.heap.size=K at*;have zx:=Z.lt;have m1:Q.cell? (K,1)=(f j 1):=Z.cell 1;have m2:Q.cell? (K,2)=(f j 2):=Z.cell 2;have m3:Q.cell? (K,3)=(f j 3):=Z.cell 3;have m4:Q.cell? (K,4)=(f j 4):=Z.cell 4;have m5:Q.cell? (K,5)=(f j 5):=Z.cell 5;have m6:Q.cell? (K,6)=[f j 6]:=Z.cell 6;clear x0 x1 x2 x3 x4 x5 x6 zz;by_cases C:f j 0=1
   .have g:Q.cell? (K,0)=(1:Int):=by rw[Z.cell 0,<-C];rfl
    have M:=aH (aBT U X.ok I (f j 1) (f j 2) (f j 3) (f j 4));have E:=aH (aBS Fr (bL f j) C);clear C P Z;go_wp2_with fail
    with_reducible refine M.out.mono ?_
    rintro e L ⟨rfl,O⟩;have T:=aH (V.out L (by rw[E.out];exact O));clear O M X U V;go_wp2;go_roundw
    case rel=>exact⟨j+1,I,aG,T⟩
    case measure=>simp [intOf];omega
   by_cases x:f j 0=2
   .have g:Q.cell? (K,0)=(2:Int):=by rw[Z.cell 0,<-x];rfl
    have M:=aH (aCm U X.ok I X.sb q.out.1 q.out.2 (f j 1) (f j 5));have E:=aH (aBb Fr (bL f j) x);clear C x P Z;go_wp2_with fail
    with_reducible refine M.out.mono ?_
    rintro e L ⟨rfl,O⟩;have T:=aH (V.out L (by rw[E.out];exact O));clear O M X U V;go_wp2;go_roundw
    case rel=>exact⟨j+1,I,aG,T⟩
    case measure=>simp [intOf];omega
   by_cases l:f j 0=3
   .have g:Q.cell? (K,0)=(3:Int):=by rw[Z.cell 0,<-l];rfl
    have M:=aH (aBn U (f j 5));have E:=aH (aAg Fr (bL f j) l);clear C x l P Z;go_wp2_with fail
    with_reducible refine M.out.mono ?_
    rintro e L ⟨rfl,O⟩;have T:=aH (V.out L (by rw[E.out];exact O));clear O M X U V;go_wp2;go_roundw
    case rel=>exact⟨j+1,I,aG,T⟩
    case measure=>simp [intOf];omega
   by_cases d:f j 0=4
   .have g:Q.cell? (K,0)=(4:Int):=by rw[Z.cell 0,<-d];rfl
    have a:=Mg P;have D:=aAX U X.ok I (f j 6).toNat I;rw[show(((f j 6).toNat:Nat):Int)=f j 6 by omega]at D;have M:=aH D;have E:=aH (aBH Fr (bL f j) d);clear C x l d P Z D a;go_wp2_with fail
    with_reducible refine M.out.mono ?_
    rintro e L ⟨rfl,O⟩;have T:=aH (V.out L (by rw[E.out];exact O));clear O M X U V;go_wp2;go_roundw
    case rel=>exact⟨j+1,I,aG,T⟩
    case measure=>simp [intOf];omega
   have g:Q.cell? (K,0)=(f j 0):=Z.cell 0;have T:=aH (V.out Q (by rw[aBW Fr (bL f j) C x l d];exact DZ.same U (Below.refl _ _)));clear P Z X U V;go_wp2;go_roundw
   case rel=>exact⟨j+1,I,aG,T⟩
   case measure=>simp [intOf];omega
  obtain rfl:j=n:=I;have q3:¬(j:Int)<j:=I;have HF:Hid (aCV w ((pH.new k).play (bL f) j) (p,0) wr):=aH ⟨p,B,z,y,W,rfl,X.t,X.b,by have:=X.ps;rw[X.eq]at this;exact this,by rw[<-X.eq];exact X.ok.mono I,by rw[<-X.eq];exact X.sb,by rw[<-X.eq];exact X.hi⟩;clear X;go_wp2
  go_ret2
  exact⟨_,rfl,HF.out⟩
theorem aCp(w:World):(sizeOf 23).run prog w=.ok 1 w:=J
theorem aBC{D:Array Value}(h:cH D 32 z)(w:World):(Op.equalIn 10000 25 (.agg D) (.agg D)).run prog w=.ok true w:=by
 rw[uH w 9998 32 underlying25 underlying23 aCp h.get h.get];simp
theorem aAO{N:Nat}{F:pH}(Y:lM N F):∀r∈(aB F.of F.V).map (·.2),aBP r:=fun r X=>by
 rw[rY]at X;obtain⟨l,W,Z⟩:=List.mem_flatten.1 X;obtain⟨u,U,rfl⟩:=List.mem_map.1 W;exact(Y.of_ (u+1) I (by have:=List.mem_range.1 U;omega)).2 _ Z
theorem lX(A Q:Option Addr)(n c c':Nat)(rows:List (List Value))(w:World)(h:FI 9 w A n c rows)(T:FI 9 w Q n c' rows)(W:dL rows):
 Calls prog 30 #[.slice A n c,.slice Q n c'] w fun e w'=>e=.returned true/\Below w w w':=by
 have H:=aH h;have P:=aH T;have O:=aH W;have E:=h.cap;have N:=h.cap63;have D:=T.cap;have M:=T.cap63;have L:=h.len;clear h T W
 go_enter func30,ntmps30
 go_wp2
 go_loopw [5] (fun i wr=>∃k:Nat,k<=n/\i=.int .i64 k/\Below w w wr) (fun i _=>n-(intOf i).toNat)
 case atStart=>exact⟨0,I,rfl,Below.refl _ _⟩
 case round=>
  obtain⟨k,hk,rfl,V⟩:=hrel;have S:=V.size;by_cases F:k<n
  .obtain⟨b,off,rfl,hblt,hcell⟩:=H.at_ I;obtain⟨U,X,rfl,Y,Z⟩:=P.at_ I;have K:(k:Int)<n:=I;obtain⟨r,W⟩:∃r,rows[k]? =some r:=⟨rows[k]'I,List.getElem?_eq_getElem _⟩;obtain⟨x0,x1,x2,x3,x4,x5,x6,x7,x8,rfl⟩:=O.out r (List.mem_of_getElem? W);have C:=(V.cell (p:=⟨b,off+k*9,none⟩) hblt).trans (by simpa using hcell k _ W 0 _ rfl);have B:=(V.cell (p:=⟨b,off+k*9+1,none⟩) hblt).trans (by simpa using hcell k _ W 1 _ rfl);have z:=(V.cell (p:=⟨b,off+k*9+2,none⟩) hblt).trans (by simpa using hcell k _ W 2 _ rfl);have y:=(V.cell (p:=⟨b,off+k*9+3,none⟩) hblt).trans (by simpa using hcell k _ W 3 _ rfl);have x:=(V.cell (p:=⟨b,off+k*9+4,none⟩) hblt).trans (by simpa using hcell k _ W 4 _ rfl);have v:=(V.cell (p:=⟨b,off+k*9+5,none⟩) hblt).trans (by simpa using hcell k _ W 5 _ rfl);have u:=(V.cell (p:=⟨b,off+k*9+6,none⟩) hblt).trans (by simpa using hcell k _ W 6 _ rfl);have t:=(V.cell (p:=⟨b,off+k*9+7,none⟩) hblt).trans (by simpa using hcell k _ W 7 _ rfl);have s:=(V.cell (p:=⟨b,off+k*9+8,none⟩) hblt).trans (by simpa using hcell k _ W 8 _ rfl);have q:=(V.cell (p:=⟨U,X+k*9,none⟩) Y).trans (by simpa using Z k _ W 0 _ rfl);have o:=(V.cell (p:=⟨U,X+k*9+1,none⟩) Y).trans (by simpa using Z k _ W 1 _ rfl);have m:=(V.cell (p:=⟨U,X+k*9+2,none⟩) Y).trans (by simpa using Z k _ W 2 _ rfl);have l:=(V.cell (p:=⟨U,X+k*9+3,none⟩) Y).trans (by simpa using Z k _ W 3 _ rfl);have j:=(V.cell (p:=⟨U,X+k*9+4,none⟩) Y).trans (by simpa using Z k _ W 4 _ rfl);have g:=(V.cell (p:=⟨U,X+k*9+5,none⟩) Y).trans (by simpa using Z k _ W 5 _ rfl);have f:=(V.cell (p:=⟨U,X+k*9+6,none⟩) Y).trans (by simpa using Z k _ W 6 _ rfl);have d:=(V.cell (p:=⟨U,X+k*9+7,none⟩) Y).trans (by simpa using Z k _ W 7 _ rfl);have a:=(V.cell (p:=⟨U,X+k*9+8,none⟩) Y).trans (by simpa using Z k _ W 8 _ rfl);clear hcell Z W;have G:b<wr:=I;have R:U<wr:=I;clear L;go_wp2;refine aA 9 ?_
   iterate 9
    first
    |(refine Kf ?_;constructor
      .intro w9 hw9 hc9 hf9;go_simp
       first
       |exact aE)
    |refine aU ?_
   refine bZ ?_;intro w9 hw9 hc9 hf9;simp only[List.drop_succ_cons,List.drop_zero,List.drop];go_wp2;go_roundw
   case rel=>exact⟨k+1,I,aG,V.trans (hw9.same.mono S)⟩
   case measure=>simp [intOf];omega
  obtain rfl:k=n:=I;have K:¬(k:Int)<k:=I;go_wp2;go_ret;exact⟨rfl,V⟩
