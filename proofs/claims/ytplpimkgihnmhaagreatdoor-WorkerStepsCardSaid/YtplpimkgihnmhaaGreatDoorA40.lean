/-
  Part of a proof: StrC NewsC ShSn ShMv ShWk. For all values.
-/
import Derived.Test.YtplpimkgihnmhaaGreatDoorA05
import Derived.Test.YtplpimkgihnmhaaGreatDoorA39
set_option maxRecDepth 100000
set_option maxHeartbeats 1000000
set_option linter.all false
namespace Go.Proofs.YtplpimkgihnmhaaGreatDoor
open Go.Proofs.Tryz Go.RowKit
section
attribute [local go_sem↓] Go.wp_at_zero Go.wp_at_succ
theorem GP(s:ByteArray)(L:List (List UInt8))(hs:s.size<4294967281)(ha:∀(j:Nat) b,s.data.toList[j]? =some b->b.toNat<128)(hL:Lib.fields s.data.toList=L){B:Nat}{w:World}(hT:Et B w):
 Calls prog 56 #[.string s] w fun e w'=>e=.returned (.slice (some ⟨w.heap.size,0,none⟩) L.length L.length)/\w'=w.alloc (.cells (L.map fun l=>Value.string ⟨l.toArray⟩).toArray 9):=by
 subst hL
 exact Tryz.strings_Fields_laid s w hs ha hT.here
theorem RI(l:List UInt8)(h:(l.all fun b=>decide (b.toNat<128))=true)(j:Nat)(b:UInt8)(hj:l[j]? =some b):b.toNat<128:=by
 have:=List.all_eq_true.1 h b (List.mem_of_getElem? hj)
 simpa using this
def SA:List (List UInt8):=[[113,117,101,117,101],[115,116,97,99,107],[100,101,113,117,101],[104,101,97,112],[116,97,98,108,101],[116,97,108,108,121]]
def ZQ:ByteArray:=⟨#[113,117,101,117,101,32,115,116,97,99,107,32,100,101,113,117,101,32,104,101,97,112,32,116,97,98,108,101,32,116,97,108,108,121]⟩
theorem Cn:Lib.fields ZQ.data.toList=SA:=J
theorem JP{B:Nat}{w:World}(hT:Et B w):Calls prog 56 #[.string ⟨#[113,117,101,117,101,32,115,116,97,99,107,32,100,101,113,117,101,32,104,101,97,112,32,116,97,98,108,101,32,116,97,108,108,121]⟩] w fun e w'=>
 e=.returned (.slice (some ⟨w.heap.size,0,none⟩) 6 6)/\w'=w.alloc (.cells #[.string ⟨#[113,117,101,117,101]⟩,.string ⟨#[115,116,97,99,107]⟩,.string ⟨#[100,101,113,117,101]⟩,.string ⟨#[104,101,97,112]⟩,.string ⟨#[116,97,98,108,101]⟩,.string ⟨#[116,97,108,108,121]⟩] 9):=
 GP ZQ SA aJ (RI _ aJ) Cn hT
def Af(L:List (List UInt8))(k:Int):ByteArray:=⟨(L.getD (k-1).toNat []).toArray⟩
def oJ(k:Int):Bool:=decide (1<=k)&&decide (k<=6)
def rD(k:Int):ByteArray:=if oJ k then Af SA k else⟨#[63]⟩
theorem SN(k:Int)(w:World):Calls prog 54 #[k] w fun e w'=>e=.returned (oJ k)/\w=w':=by
 go_enter func54,ntmps54
 go_wp2
 all_goals(go_ret;refine⟨dF ?_,rfl⟩;simp [oJ];try omega)
theorem YB(k:Int){B:Nat}{w:World}(hT:Et B w):Calls prog 15 #[k] w fun e w'=>e=.returned (.string (rD k))/\Below w w w':=by
 have HT:=aH hT
 clear hT
 by_cases h:1<=k/\k<=6
 .obtain⟨h1,h2⟩:=h
  rcases(by omega:k=1\/k=2\/k=3\/k=4\/k=5\/k=6)with rfl|rfl|rfl|rfl|rfl|rfl
  all_goals
   go_enter func15,ntmps15
   go_wp2_with (first|(go_at_call 55;refine(bQ _ _ _ _).mono ?_;rintro e w1 ⟨rfl,rfl⟩;simp only[show bV 1 1 6=true from rfl,show bV 2 1 6=true from rfl,show bV 3 1 6=true from rfl,show bV 4 1 6=true from rfl,show bV 5 1 6=true from rfl,show bV 6 1 6=true from rfl])|(go_at_call 56;refine(JP HT).mono ?_;rintro e w1 ⟨rfl,rfl⟩))
   go_ret
   exact⟨rfl,by go_grown⟩
 have hb:bV k 1 6=false:=by simp [bV];omega
 have hz:rD k=⟨#[63]⟩:=by simp [rD,show oJ k=false by simp [oJ];omega]
 rw[hz]
 go_enter func15,ntmps15
 go_wp2_with (go_at_call 55;refine(bQ _ _ _ _).mono ?_;rintro e w1 ⟨rfl,rfl⟩;rw[hb])
 go_ret
 exact⟨rfl,Below.refl _ _⟩
abbrev wB (kind:Int):Array Value:= #[[kind],.int .u64 0,.int .u64 0,.int .u64 0,.int .u64 0,.int .u64 0,.int .u64 0,.int .u64 0,.int .u64 0,.int .u64 0,.int .u64 0,.int .u64 0,.int .u64 0,.int .u64 0,.int .u64 0,.int .u64 0,.int .u64 0,.int .u64 0,.int .u64 0,.int .u64 0,.int .u64 0,.int .u64 0,.int .u64 0,.int .u64 0,.int .u64 0,.int .u64 0,.int .u64 0,.int .u64 0,.int .u64 0,.int .u64 0,.int .u64 0,.int .u64 0]
abbrev nN (kind:Int):Array Value:= #[.int .i64 kind,.slice none 0 0,.int .i64 0,.int .i64 0,.int .i64 0,.int .i64 0,.int .i64 0,.int .i64 0,.int .i64 0,.int .i64 0,.int .i64 0,.int .i64 0,.int .i64 0,.int .i64 0,.int .i64 0,.int .i64 0,.int .i64 0,.int .i64 0,.int .i64 0,.int .i64 0,.int .i64 0,.int .i64 0,.int .i64 0,.int .i64 0,.int .i64 0,.int .i64 0,.int .i64 0,.int .u64 0,.int .u64 0,.int .u64 0,.int .u64 0,.int .i64 0,.int .i64 0,.int .i64 0,.int .i64 0,.int .u64 0,.int .u64 0]
theorem Gm(kind:Int)(h1:1<=kind)(h2:kind<=6):cH (wB kind) 32 (fun i=>if i=0 then kind else 0):=by
 have h:=(cH.zero 32).set_ (k:=0) (v:=kind) I
 exact h.congr (fun i hi=>by by_cases e:i=0<;>simp [e])
theorem Az(kind:Int)(w:World)(hk:oJ kind=false):
 Calls prog 14 #[kind] w fun e w'=>e=.returned (.tuple #[.agg (32:Nat),.iface 53 (1:Int)])/\Below w w w':=by
 have HK:=aH hk
 clear hk
 have Hd:Hid (aY (w.alloc (.cells (32:Nat) 25)) w 25 (32:Nat)):=aH (aY.new _ _ _)
 go_enter func14,ntmps14
 generalize hQ:bodyPost prog Tryz.f14 (fun e w'=>e=.returned (.tuple #[.agg (32:Nat),.iface 53 (1:Int)])/\Below w.heap.size w w')=Q
 have HQ:=aH hQ
 clear hQ
 go_wp2_with (first
  |(go_at_call 54;refine(SN _ _).mono ?_;rintro e w1 ⟨rfl,rfl⟩;rw[HK.out])
  |(with_reducible refine fK 25 w (32:Nat) 25 (32:Nat) J J Hd.out J J J ?_))
 (try simp only[Exit.inBlock,Exit.then])
 rw[<-HQ.out]
 with_reducible refine bodyPost_ret (bR results14 _ _ w 25 (32:Nat) _ (.iface 53 (1:Int)) J J (aY.setRow Hd.out _) underlying25 J J) J ?_
 exact⟨rfl,aL (by go_grown) (Nat.le_refl _) _⟩
theorem Cj(kind:Int)(w:World)(hk:oJ kind=true):
 Calls prog 14 #[kind] w fun e w'=>e=.returned (.tuple #[.agg (wB kind),.nilIface])/\Below w w w':=by
 have hq:1<=kind/\kind<=6:=by simpa [oJ]using hk
 have kw:IntKind.u64.wrap kind=kind:=IntWalk.u64_in _ I
 have km:kind%18446744073709551616=kind:=I
 have HK:=aH hk
 clear hk hq
 have Hd:Hid (aY (w.alloc (.cells (32:Nat) 25)) w 25 (32:Nat)):=aH (aY.new _ _ _)
 go_enter func14,ntmps14
 generalize hQ:bodyPost prog Tryz.f14 (fun e w'=>e=.returned (.tuple #[.agg (wB kind),.nilIface])/\Below w.heap.size w w')=Q
 have HQ:=aH hQ
 clear hQ
 go_wp2_with (first
  |(go_at_call 54;refine(SN _ _).mono ?_;rintro e w1 ⟨rfl,rfl⟩;rw[HK.out])
  |(with_reducible refine fK 25 w (wB kind) 25 (32:Nat) J J Hd.out J J J ?_))
 (try simp only[Exit.inBlock,Exit.then])
 rw[<-HQ.out]
 with_reducible refine bodyPost_ret (bR results14 _ _ w 25 (wB kind) _ .nilIface J J (aY.setRow Hd.out _) underlying25 J J) J ?_
 exact⟨rfl,aL (by go_grown) (Nat.le_refl _) _⟩
theorem FU(kind:Int)(w:World):Calls prog 58 #[kind] w fun e w'=>e=.returned (.agg (nN kind))/\Below w w w':=by
 have Hd:Hid (aY (w.alloc (.cells #[.int .i64 0,.slice none 0 0,.int .i64 0,.int .i64 0,.int .i64 0,.int .i64 0,.int .i64 0,.int .i64 0,.int .i64 0,.int .i64 0,.int .i64 0,.int .i64 0,.int .i64 0,.int .i64 0,.int .i64 0,.int .i64 0,.int .i64 0,.int .i64 0,.int .i64 0,.int .i64 0,.int .i64 0,.int .i64 0,.int .i64 0,.int .i64 0,.int .i64 0,.int .i64 0,.int .i64 0,.int .u64 0,.int .u64 0,.int .u64 0,.int .u64 0,.int .i64 0,.int .i64 0,.int .i64 0,.int .i64 0,.int .u64 0,.int .u64 0] 136)) w.heap.size 136 #[.int .i64 0,.slice none 0 0,.int .i64 0,.int .i64 0,.int .i64 0,.int .i64 0,.int .i64 0,.int .i64 0,.int .i64 0,.int .i64 0,.int .i64 0,.int .i64 0,.int .i64 0,.int .i64 0,.int .i64 0,.int .i64 0,.int .i64 0,.int .i64 0,.int .i64 0,.int .i64 0,.int .i64 0,.int .i64 0,.int .i64 0,.int .i64 0,.int .i64 0,.int .i64 0,.int .i64 0,.int .u64 0,.int .u64 0,.int .u64 0,.int .u64 0,.int .i64 0,.int .i64 0,.int .i64 0,.int .i64 0,.int .u64 0,.int .u64 0]):=Lib.hid (aY.new _ _ _)
 go_enter func58,ntmps58
 generalize hQ:bodyPost prog Tryz.f58 (fun e w'=>e=.returned (.agg (nN kind))/\Below w.heap.size w w')=Q
 have HQ:=Lib.hid hQ
 clear hQ
 go_wp2_with (with_reducible refine fK 136 w.heap.size (nN kind) 136 #[.int .i64 0,.slice none 0 0,.int .i64 0,.int .i64 0,.int .i64 0,.int .i64 0,.int .i64 0,.int .i64 0,.int .i64 0,.int .i64 0,.int .i64 0,.int .i64 0,.int .i64 0,.int .i64 0,.int .i64 0,.int .i64 0,.int .i64 0,.int .i64 0,.int .i64 0,.int .i64 0,.int .i64 0,.int .i64 0,.int .i64 0,.int .i64 0,.int .i64 0,.int .i64 0,.int .i64 0,.int .u64 0,.int .u64 0,.int .u64 0,.int .u64 0,.int .i64 0,.int .i64 0,.int .i64 0,.int .i64 0,.int .u64 0,.int .u64 0] (by kernel_rfl) (by kernel_rfl) Hd.out (by kernel_rfl) (by kernel_rfl) (by kernel_rfl) ?_)
 (try simp only[Exit.inBlock,Exit.then])
 rw[<-HQ.out]
 refine bodyPost_ret (results_cell_row results58 _ _ w.heap.size 136 (nN kind) (0,0) _ (by kernel_rfl) (aY.setRow Hd _) underlying136 (by kernel_rfl) (by kernel_rfl)) (by kernel_rfl) ?_
 exact⟨rfl,aL (by go_grown) (Nat.le_refl _) _⟩
end
section
open Go.Maps
attribute [local go_sem↓] Go.wp_at_zero Go.wp_at_succ
def Fm(v:Value):Prop:=∃g,v=.slice (some ⟨g,0,none⟩) 32 32
def Fk(z:Nat->Int)(v:Value)(w':World):Prop:=∃g D,v=.slice (some ⟨g,0,none⟩) 32 32/\aY w' g 23 D/\cH D 32 z
theorem GO(k:Int)(h1:1<=k)(h2:k<=6):cK k (fun _=>0):=by
 unfold cK
 have hl:gW (fun _=>(0:Int)):=⟨aJ,fun i hi=>by unfold tY;simp⟩
 split
 .exact⟨fun i hi=>⟨by show(0:Int)<=1000;decide,by show(0:Int)<=4294967295;decide⟩,rfl,aJ⟩
 split
 .exact⟨aJ,fun i hi=>by simp⟩
 split
 .exact⟨hl,aJ⟩
 exact⟨h1,I,hl⟩
theorem NV(k:Int):∀i,i<32->(if i=0 then k else 0)=iW k (fun _=>0) (fun _=>0) (fun _=>0) (fun _=>0) (fun _=>0) 0 0 i:=by
 intro i hi
 have Re:uM (fun _=>0) 4=0:=by decide
 have hA:iV 0 0=0:=by decide
 unfold iW DY
 simp only[Re,hA]
 repeat' split
 all_goals first|rfl|(exfalso;omega)|simp_all
theorem Bf(k:Int):uD (nN k) ((nN k).extract 0 19) (fun _=>0) (fun _=>0) (fun _=>0) (fun _=>0) 0 0:=
 ⟨rfl,rfl,fun t ht=>by rcases(by omega:t=0\/t=1\/t=2\/t=3)with rfl|rfl|rfl|rfl<;>rfl,fun t ht=>by rcases(by omega:t=0\/t=1\/t=2\/t=3)with rfl|rfl|rfl|rfl<;>rfl,
  fun t ht=>by rcases(by omega:t=0\/t=1\/t=2\/t=3)with rfl|rfl|rfl|rfl<;>rfl,fun t ht=>by rcases(by omega:t=0\/t=1\/t=2\/t=3)with rfl|rfl|rfl|rfl<;>rfl,rfl,rfl⟩
abbrev US (k:Int):Array Value:= #[k,.slice none 0 0,(0:Int),(0:Int),(0:Int),(0:Int),(0:Int),(0:Int),(0:Int),(0:Int),(0:Int),(0:Int),(0:Int),(0:Int),(0:Int),(0:Int),(0:Int),(0:Int),(0:Int)]
theorem Bv(k:Int):(nN k).extract 0 19=US k:=J
theorem Bd(k:Int)(w:World):jE k (fun _=>0) ((nN k).extract 0 19) w:=by
 rw[Bv]
 have h:∀kind:Int,k=kind->lD (US k) kind none 0 0 (fun _=>0) 0:=fun kind e=>by
  subst e
  refine⟨J,J,J,fun i hi=>?_,J⟩
  rcases(by omega:i=0\/i=1\/i=2\/i=3\/i=4\/i=5\/i=6\/i=7\/i=8\/i=9\/i=10\/i=11\/i=12\/i=13\/i=14\/i=15)with rfl|rfl|rfl|rfl|rfl|rfl|rfl|rfl|rfl|rfl|rfl|rfl|rfl|rfl|rfl|rfl<;>rfl
 unfold jE
 split
 .exact h 5 ‹_›
 split
 .exact h 6 ‹_›
 exact⟨none,0,h k rfl,⟨rfl,Nat.le_refl _,aJ,fun i=>by simp [zL,zW],fun hn=>absurd hn aJ⟩⟩
theorem GY{z z':Nat->Int}{w w':World}{e:Ending}(h:tI z w e w')(hz:∀i,i<32->z' i=z i):tI z' w e w':=by
 obtain⟨g,D,he,hb,hU,hg,hB⟩:=h
 exact⟨g,D,he,hb,hU.congr hz,hg,hB⟩
theorem GF(k:Int)(R:Array Value)(w:World)(hR:R=nN k)(h1:1<=k)(h2:k<=6):Calls prog 59 #[.agg R] w (tI (fun i=>if i=0 then k else 0) w):=by
 have q1:uD R (R.extract 0 19) (fun _=>0) (fun _=>0) (fun _=>0) (fun _=>0) 0 0:=by rw[hR];exact Bf k
 have q2:jE k (fun _=>0) (R.extract 0 19) w:=by rw[hR];exact Bd k w
 clear hR
 have hz:=NV k
 have h:=uC R _ (fun _=>0) (fun _=>0) (fun _=>0) (fun _=>0) 0 0 k (fun _=>0) w q1 I (fun _ _=>Int.le_refl 0) (GO k h1 h2) q2 (fun _ _=>by decide) aJ aJ
 generalize iW k (fun _=>0) (fun _=>0) (fun _=>0) (fun _=>0) (fun _=>0) 0 0=y at h hz
 with_reducible refine h.mono ?_
 intro e w' ho
 exact GY ho hz
def Ep(gs:Nat)(pt:Nat->Nat)(k go:Nat)(i:Nat):Value:=
 if i=0 then cR gs else if i<17 then .int .u64 0 else if i<21 then(if i-17<k then cR (pt (i-17))else .pointer none)else if i=21 then .int .i64 0 else if i=22 then .slice none 0 0 else .map (some go)
def QK(gs:Nat)(pt:Nat->Nat)(k go:Nat):Array Value:=jM 24 (Ep gs pt k go)
theorem YA(gs:Nat)(pt:Nat->Nat)(go:Nat):QK gs pt 4 go=yJ gs (fun _=>0) pt 0 (.slice none 0 0) (.map (some go)):=jJ fun j hj=>by
 unfold Ep As
 by_cases h0:j=0
 .rw[iP h0,iP h0]
 rw[iN h0,iN h0]
 by_cases h1:j<17
 .rw[iP h1,iP h1]
 rw[iN h1,iN h1]
 by_cases h2:j<21
 .rw[iP h2,iP h2,iP I]
 rw[iN h2,iN h2]
theorem ZG(gs:Nat)(pt:Nat->Nat)(go:Nat):QK gs pt 0 go= #[cR gs,.int .u64 0,.int .u64 0,.int .u64 0,.int .u64 0,.int .u64 0,.int .u64 0,.int .u64 0,.int .u64 0,.int .u64 0,.int .u64 0,.int .u64 0,.int .u64 0,.int .u64 0,.int .u64 0,.int .u64 0,.int .u64 0,.pointer none,.pointer none,.pointer none,.pointer none,(0:Int),.slice none 0 0,.map (some go)]:=rfl
theorem Bp(gs:Nat)(pt:Nat->Nat)(k go:Nat)(hk:k<4):(QK gs pt k go)[17+k]? =some (.pointer none):=by
 rw[QK,cW I,Ep,iN I,iN I,iP I,iN I]
theorem XI(gs:Nat)(pt:Nat->Nat)(k go:Nat)(hk:k<4):(QK gs pt k go).setIfInBounds (17+k) (cR (pt k))=QK gs pt (k+1) go:=dP fun j hj=>by
 unfold Ep
 by_cases e:j=17+k
 .subst e
  rw[iP rfl,iN I,iN I,iP I,iP I,show 17+k-17=k by omega]
 rw[iN e]
 by_cases h0:j=0
 .rw[iP h0,iP h0]
 rw[iN h0,iN h0]
 by_cases h1:j<17
 .rw[iP h1,iP h1]
 rw[iN h1,iN h1]
 by_cases h2:j<21
 .rw[iP h2,iP h2]
  by_cases h3:j-17<k
  .rw[iP h3,iP I]
  rw[iN h3,iN I]
 rw[iN h2,iN h2]
def cN.nowE(y:Nat->Int):cN:={cN.new with now:=fun i=>if 8<=i/\i<40 then y (i-8)else 0}
theorem IP(D:Array Value){z:Nat->Int}(hD:cH D 32 z)(mp:Nat)(y:Nat->Int)(hy:∀i,i<32->y i=z i):((kD cN.new mp).toList.take 8++(D.toList++(kD cN.new mp).toList.drop (8+32))).toArray=kD (cN.nowE y) mp:=by
 have hDl:D.toList.length=32:=by rw[Array.length_toList];exact hD.size
 have Yu:(kD cN.new mp).toList.length=147:=by rw[Array.length_toList,sB]
 refine Array.ext_getElem? fun i=>?_
 rw[List.getElem?_toArray]
 by_cases hi:i<147
 .have hR:(kD (cN.nowE y) mp)[i]? =some (xZ (cN.nowE y) mp i):=by rw[kD,cW hi]
  rw[hR]
  by_cases h8:i<8
  .rw[List.getElem?_append_left (by rw[List.length_take,Yu];omega),List.getElem?_take,iP h8,Array.getElem?_toList,kD,cW hi]
   unfold xZ
   rw[iP I,iP I]
   show _=some (Value.int .u64 (if 8<=i/\i<40 then y (i-8)else 0))
   rw[iN I];rfl
  rw[List.getElem?_append_right (by rw[List.length_take,Yu];omega),List.length_take,Yu,show min 8 147=8 from rfl]
  by_cases h40:i<40
  .rw[List.getElem?_append_left (by rw[hDl];omega),Array.getElem?_toList,hD.get _ I]
   unfold xZ
   rw[iP I]
   show _=some (Value.int .u64 (if 8<=i/\i<40 then y (i-8)else 0))
   rw[iP I,hy _ I]
  rw[List.getElem?_append_right (by rw[hDl];omega),hDl,List.getElem?_drop,Array.getElem?_toList,show 8+32+(i-8-32)=i by omega,kD,cW hi]
  unfold xZ
  by_cases h72:i<72
  .rw[iP h72,iP h72]
   show _=some (Value.int .u64 (if 8<=i/\i<40 then y (i-8)else 0))
   rw[iN I];rfl
  rw[iN h72,iN h72];rfl
 rw[Array.getElem?_eq_none (by rw[sB];omega),List.getElem?_eq_none]
 simp only[List.length_append,List.length_take,List.length_drop,Yu,hDl]
 omega
theorem OF(k:Int):({cN.new with now:=(cN.nowE (pL k)).now,good:=(cN.nowE (pL k)).now}:cN)=YX (pL k) 4:=by
 have hg:(fun i=>if 8<=i/\i<8+8*4/\i<40 then pL k (i-8)else 0)=(cN.nowE (pL k)).now:=funext fun i=>by
  show _=if 8<=i/\i<40 then pL k (i-8)else 0
  by_cases h:8<=i/\i<40
  .rw[iP h,iP I]
  rw[iN h,iN I]
 show cN.mk (cN.nowE (pL k)).now (cN.nowE (pL k)).now _ _ _=cN.mk (cN.nowE (pL k)).now (fun i=>if 8<=i/\i<8+8*4/\i<40 then pL k (i-8)else 0) _ _ _
 rw[hg]
 rfl
theorem CC(s:cN)(m:Nat)(f:Nat->Int):fF (kD s m) 72 (jB f).toList=kD {s with good:=f} m:=by
 refine qS I fun j hj=>?_
 by_cases e:72<=j/\j<72+72
 .rw[iP e,xZ,iN I,iP I]
 rw[iN e,xZ,xZ]
 by_cases c:j<72
 .simp only[c,if_true]
 have c2:¬j<144:=I
 simp only[c,c2,if_false]
theorem FK{w:World}{h m:Nat}{s:cN}(hb:aY w h 74 (kD s m)):w.rangeAt h 0 (jB s.now).toList:=by
 have e:(kD s m).extract 0 (0+72)=jB s.now:=by
  rw[kD,pS I]
  exact jJ fun i hi=>by rw[xZ,iP I,Nat.zero_add]
 have:=World.rangeAt_of_block (t:=74) (fr:=(0,0)) hb 0 72
 rw[e]at this
 exact this
structure GG (w:World) (S1:cN) (p gs mp go Z j:Nat) (wr:World):Prop where
 sh:aY wr p 68 (QK gs (fun t=>Z+t) j go)
 st:aY wr gs 74 (kD S1 mp)
 wm:gP cN.new.want mp 0 wr
 om:wr.ownsMap prog 23 yG go 0 (.map [])
 th:∀t,t<j->aY wr (Z+t) 140 (vN t cQ.new 0 (.slice none 0 0) (.slice none 0 0) false)
 bl:Below w w wr
 sz:wr=Z+j
 ds:w<=gs/\w<=mp/\w<=go/\w<=p/\gs<Z/\mp<Z/\go<Z/\p<Z/\gs≠mp/\gs≠go/\gs≠p/\mp≠go/\mp≠p/\go≠p
theorem tX{w w':World}{S:Nat->Prop}{go:Nat}(h:w.ownsMap prog 23 yG go 0 (.map []))(hk:aD S w w')(hS:¬S go):w'.ownsMap prog 23 yG go 0 (.map []):=by
 have hb:=hk.block go h.lt hS
 obtain⟨es,clock,g1,g2,g3,g4⟩:=h
 exact⟨es,clock,hb.trans g1,g2,g3,g4⟩
theorem GG.next{w:World}{S1:cN}{p gs mp go Z j:Nat}{wr:World}(h:GG w S1 p gs mp go Z j wr)(hj:j<4):GG w S1 p gs mp go Z (j+1) ((wr.setCell (p,17+j) (Z+j,0)).alloc (.cells #[j,.slice none 0 0,(0:Int),(0:Int),(0:Int),(0:Int),(0:Int),false,(0:Int),(0:Int),(0:Int),.slice none 0 0,false] 140)):=by
 have hd:=h.ds
 have Hu:aD (cI p) wr ((wr.setCell (p,17+j) (Z+j,0)).alloc (.cells #[j,.slice none 0 0,(0:Int),(0:Int),(0:Int),(0:Int),(0:Int),false,(0:Int),(0:Int),(0:Int),.slice none 0 0,false] 140)):=(bP _ _ _ _).trans (aD.of_same ((Below.refl _ _).alloc (Nat.le_refl _) _))
 refine⟨?_,(Hu.block gs h.st.lt (fun e=>by have e':gs=p:=e;omega)).trans h.st,h.wm.kept Hu (fun e=>by have e':mp=p:=e;omega),tX h.om Hu (fun e=>by have e':go=p:=e;omega),fun t ht=>?_,h.bl.trans (Hu.below h.bl.size (fun b hb e=>by have e':b=p:=e;omega)),by have:=h.sz;simp [this];omega,hd⟩
 .have:=(h.sh.set_ (17+j) (cR (Z+j))).alloc (.cells #[j,.slice none 0 0,(0:Int),(0:Int),(0:Int),(0:Int),(0:Int),false,(0:Int),(0:Int),(0:Int),.slice none 0 0,false] 140)
  rw[XI gs (fun t=>Z+t) j go hj]at this
  exact this
 by_cases e:t=j
 .subst e
  exact aY.newAt _ _ _ (by have:=h.sz;simp [this])
 exact(Hu.block (Z+t) (h.th t I).lt (fun e'=>by have e':Z+t=p:=e';omega)).trans (h.th t I)
def pI(w:World)(tag:Nat->Nat)(p gs mp go Z b:Nat):Nat:=if b<w then tag b else if b=p then 102 else if b=gs then 100 else if b=mp then 101 else if b=go then 104 else if b<Z then 0 else 110+(b-Z)
theorem GG.done{w:World}{k:Int}{p gs mp go Z:Nat}{wr:World}(tag:Nat->Nat)(h:GG w (YX (pL k) 4) p gs mp go Z 4 wr):kK wr (pI w tag p gs mp go Z) (pH.new k) p gs go (fun t=>Z+t):=by
 have hd:=h.ds
 have tp:pI w tag p gs mp go Z p=102:=by unfold pI;rw[iN I,iP rfl]
 have ts:pI w tag p gs mp go Z gs=100:=by unfold pI;rw[iN I,iN I,iP rfl]
 have tm:pI w tag p gs mp go Z mp=101:=by unfold pI;rw[iN I,iN I,iN I,iP rfl]
 have tgo:pI w tag p gs mp go Z go=104:=by unfold pI;rw[iN I,iN I,iN I,iN I,iP rfl]
 have tt:∀t,t<4->pI w tag p gs mp go Z (Z+t)=110+t:=fun t ht=>by unfold pI;rw[iN I,iN I,iN I,iN I,iN I,iN I,Nat.add_sub_cancel_left]
 refine⟨0,mp,none,0,Nat.le_refl _,?_⟩
 refine⟨by have:=h.sh;rw[YA]at this;exact this,h.st,h.wm,⟨tgo,_,h.om,fun v=>⟨none,0,by simp [DataW.atKey,pH.new],cU.nil _ _ _ _,fun b hb=>by obtain⟨a,ha,_⟩:=hb;cases ha⟩⟩,cU.nil _ _ _ _,tp,ts,tm,fun b hb=>by(obtain⟨a,ha,_⟩:=hb;cases ha),fun t ht _=>?_⟩
 refine⟨⟨p,Z+t,0,0,0,0,0,0⟩,none,0,none,0,[],⟨h.th t ht,cU.nil _ _ _ _,cU.nil _ _ _ _,tt t ht,fun b hb=>by(obtain⟨a,ha,_⟩:=hb;cases ha),fun b hb=>by(obtain⟨a,ha,_⟩:=hb;cases ha)⟩,trivial,trivial,rfl,rfl⟩
theorem Ek(tag:Nat->Nat)(k:Int)(w:World)(h1:1<=k)(h2:k<=6):Calls prog 17 #[k] w fun e w'=>∃p gs go pt tag',e=.returned (p,0)/\bI w tag tag'/\kK w' tag' (pH.new k) p gs go pt/\Below w w w':=by
 have hmm:= @run_makeMap prog
 obtain⟨R,hR⟩:=aO (nN k:Array Value)
 have hNR:=fun w=>FU k w
 rw[<-hR]at hNR
 have HNR:=aH hNR
 have HWD:=aH (fun w=>GF k R w hR h1 h2)
 clear hNR hR
 go_enter func17,ntmps17
 go_wp2_with fail
 with_reducible refine(Eg w).mono ?_
 rintro e w1 ⟨gs,mp,rfl,n1,n2,n3,n4,n5,n6⟩
 refine aS ?_
 have hlg:=n4.lt
 have hlm:=n5.lt
 have hz:=n6.size
 have Gt:Below w1 w1 ((w1.alloc (.map #[] 0)).alloc (.cells (QK gs (fun t=>0+t) 0 w1) 68)):=((Below.refl _ _).alloc (Nat.le_refl _) _).alloc (by simp) _
 have Oo:=aH (n4.below Gt hlg)
 have HM2:=aH (n5.kept (aD.of_same (S:=bN) Gt) (fun x=>x))
 have Nn:Hid (((w1.alloc (.map #[] 0)).alloc (.cells (QK gs (fun t=>0+t) 0 w1) 68)).ownsMap prog 23 yG w1 0 (.map [])):=aH (tX (World.ownsMap_made w1 _ _ _) (aD.of_same (S:=bN) ((Below.refl _ _).alloc (Nat.le_refl _) _)) (fun x=>x))
 have Ve:Hid (aY ((w1.alloc (.map #[] 0)).alloc (.cells (QK gs (fun t=>0+t) 0 w1) 68)) (w1,1) 68 (QK gs (fun t=>0+t) 0 w1)):=aH (aY.newAt _ _ _ (by simp))
 have Ht:=aH (n6.trans (Gt.mono hz))
 have Lo:Hid (w<=gs/\w<=mp/\w.heap.size<=w1/\gs<w1/\mp<w1/\gs≠mp):=aH ⟨n1,n2,hz,hlg,hlm,n3⟩
 clear n1 n2 n3 n4 n5 n6 Gt hlg hlm hz
 rw[ZG]at Oo HM2 Nn Ve Ht
 unfold cR at Oo HM2 Nn Ve Ht
 refine aW ?_
 go_upto_region 2 with(fail)
 show Code.wp _ _ _ _ ((w1.alloc (.map #[] 0)).alloc (.cells #[(gs,0),.int .u64 0,.int .u64 0,.int .u64 0,.int .u64 0,.int .u64 0,.int .u64 0,.int .u64 0,.int .u64 0,.int .u64 0,.int .u64 0,.int .u64 0,.int .u64 0,.int .u64 0,.int .u64 0,.int .u64 0,.int .u64 0,.pointer none,.pointer none,.pointer none,.pointer none,(0:Int),.slice none 0 0,.map (some w1)] 68))
 generalize(w1.alloc (.map #[] 0)).alloc (.cells #[(gs,0),.int .u64 0,.int .u64 0,.int .u64 0,.int .u64 0,.int .u64 0,.int .u64 0,.int .u64 0,.int .u64 0,.int .u64 0,.int .u64 0,.int .u64 0,.int .u64 0,.int .u64 0,.int .u64 0,.int .u64 0,.int .u64 0,.pointer none,.pointer none,.pointer none,.pointer none,(0:Int),.slice none 0 0,.map (some w1.heap.size)] 68)=w2 at*
 generalize w1.heap.size=go at*
 have c0:w2.cell? (go+1,0)=(gs,0):=Ve.cell 0
 have Un:=Ve.lt
 have Mp:=Oo.lt
 refine aA 10 ?_
 iterate 8
  refine aR ?_;constructor
  .intro w9 Gq Gw
   refine aS ?_
   obtain⟨Gy,Gz⟩:=Gq.all
   refine aW ?_
   go_simp
   first
   |exact aE
 refine bA (.agg R) cX ?_ ?_
 .intro w9 Gq _
  refine aS ?_
  refine aW ?_
  go_simp
  go_at_call 58
  exact bS (HNR.out _)
 refine bC Fm (Fk (fun i=>if i=0 then k else 0)) ⟨_,0,rfl⟩ ?_ ?_
 .intro w9 Gq Gr
  refine aS ?_
  refine aW ?_
  go_simp
  go_at_call 59
  refine(HWD.out _).mono ?_
  rintro e Qw ⟨g,D,rfl,Gs,hu,hg,hbl⟩
  exact⟨_,rfl,⟨⟨g,rfl⟩,⟨g,D,rfl,Gs,hu⟩⟩,aD.of_same hbl⟩
 refine aZ ?_
 rintro _ ⟨g9,rfl⟩ w9 Gq hmet
 refine aQ ?_
 refine aS ?_
 obtain⟨w0,k0,k1,g',D,hv,hblk,hu⟩:=hmet.1 rfl
 cases hv
 have Ss:=aH (hblk.below (cA k1 J) hblk.lt)
 have HD:=aH hu
 have Sz:=aH (Oo.below Gq.same Oo.lt)
 have HM3:=aH (HM2.kept (aD.of_same (S:=bN) Gq.same) (fun x=>x))
 have Qs:=aH (tX Nn (aD.of_same (S:=bN) Gq.same) (fun x=>x))
 have HP3:=aH (Ve.below Gq.same Ve.lt)
 have Mh:=aH (Ht.trans (Gq.same.mono Ht.size))
 clear hmet hblk hu k0 k1 w0 Gq Oo HM2 Nn Ve Ht c0 Un Mp HNR HWD
 refine aW ?_
 refine wpList_copy_own rfl (.tmp 15) (.tmp 18) 91 91 rfl 23 underlying91 J gs 8 64 64 ⟨g9,0,none⟩ 32 32 rfl rfl (kD cN.new mp) 74 Sz D.toList (by rw[Array.length_toList,HD.size];rfl) ?hsrc ?hfit ?hone ?_
 case hsrc=>
  intro j v hj
  rw[Addr.add_lit,Nat.zero_add,Ss.cell j]
  simpa using hj
 case hfit=>rw[Array.length_toList,HD.size,sB];decide
 case hone=>
  intro v hv
  have:=HD.one
  rw[Array.all_eq_true]at this
  obtain⟨i,hi,rfl⟩:=List.getElem_of_mem hv
  have h9:=this i (by simpa using hi)
  simpa using h9
 rw[Array.length_toList,HD.size]
 obtain⟨Y,hY⟩:∃Y:Nat->Int,Y=(cN.nowE (pL k)).now:=⟨_,rfl⟩
 have hcp:((kD cN.new mp).toList.take 8++(D.toList++(kD cN.new mp).toList.drop (8+32))).toArray=kD {cN.new with now:=Y} mp:=by
  rw[hY];exact IP D HD mp (pL k) (fun i hi=>rfl)
 rw[hcp]
 have HYE:=aH hY
 clear hY hcp
 have Jf:aD (cI gs) w9 (w9.setRow gs (kD {cN.new with now:=Y} mp)):=jD _ _ _
 have Uu:=aH (Sz.setRow (kD {cN.new with now:=Y} mp))
 have HM5:=aH (HM3.kept Jf (fun e=>by have e':mp=gs:=e;have:=Lo.out;omega))
 have Rh:=aH (tX Qs Jf (fun e=>by have e':go=gs:=e;have:=Lo.out;omega))
 have HP5:Hid (aY (w9.setRow gs (kD {cN.new with now:=Y} mp)) (go+1) 68 _):=aH ((Jf.block (go+1) HP3.lt (fun e=>by have e':go+1=gs:=e;have:=Lo.out;omega)).trans HP3)
 have Ud:=aH (Mh.trans (Jf.below Mh.size (fun b hb e=>by have e':b=gs:=e;have:=Lo.out;omega)))
 clear Jf Sz HM3 Qs HP3 Mh Ss HD
 generalize w9.setRow gs (kD {cN.new with now:=Y} mp)=w5 at*
 have c0:w5.cell? (go+1,0)=(gs,0):=by rw[HP5.cell];rfl
 have hp5:=HP5.lt
 have hs5:=Uu.lt
 go_wp2
 refine aA 11 ?_
 iterate 10
  refine aR ?_;constructor
  .intro w9 Gq Gw
   refine aS ?_
   obtain⟨Gy,Gz⟩:=Gq.all
   refine aW ?_
   go_simp
   first
   |exact aE
 refine bA (.agg (jB Y)) cX ?_ ?_
 .intro w9 Gq _
  refine aS ?_
  have Sd:=aH (Uu.below Gq.same Uu.lt)
  refine aW ?_
  exact eG 71 _ rfl gs 0 rfl (jB Y) _ (FK Sd) underlying71 rfl (yX _) aE
 refine aZ ?_
 rintro w9 Gq _
 refine aQ ?_
 refine aS ?_
 have Rm:=aH (Uu.below Gq.same Uu.lt)
 have HM6:=aH (HM5.kept (aD.of_same (S:=bN) Gq.same) (fun x=>x))
 have HO6:=aH (tX Rh (aD.of_same (S:=bN) Gq.same) (fun x=>x))
 have HP6:=aH (HP5.below Gq.same HP5.lt)
 have HW6:=aH (Ud.trans (Gq.same.mono Ud.size))
 have hk7:aD (cI gs) w9 (w9.setCells gs 72 (jB Y).toList):=cE (S:=cI gs) (.inl rfl) 72 _
 have Lq:Hid (w9.there gs 72 (jB Y).size):=aH (Rm.there (by rw[sB,jB,dJ];omega))
 have HS7:Hid (aY (w9.setCells gs 72 (jB Y).toList) gs 74 (kD (YX (pL k) 4) mp)):=aH (by
  have hx:=aY.setCells (vs:=(jB Y).toList) (o:=72) Rm
  rw[CC]at hx
  have e:({cN.new with now:=Y,good:=Y}:cN)=YX (pL k) 4:=by
   rw[HYE.out];exact OF k
  rw[<-e]
  exact hx)
 have HM7:=aH (HM6.kept hk7 (fun e=>by have e':mp=gs:=e;have:=Lo.out;omega))
 have HO7:=aH (tX HO6 hk7 (fun e=>by have e':go=gs:=e;have:=Lo.out;omega))
 have HP7:Hid (aY (w9.setCells gs 72 (jB Y).toList) (go+1) 68 _):=aH ((hk7.block (go+1) HP6.lt (fun e=>by have e':go+1=gs:=e;have:=Lo.out;omega)).trans HP6)
 have HW7:=aH (HW6.trans (hk7.below HW6.size (fun b hb e=>by have e':b=gs:=e;have:=Lo.out;omega)))
 have HIW:=aH (yX Y)
 have Qt:=Lib.hid (JG Y)
 clear hk7 Uu HM5 Rh HP5 Ud Rm HM6 HO6 HP6 HW6 c0 hp5 hs5 Gq
 refine aW ?_
 go_wp2_with (with_reducible refine oI 71 gs 72 (jB Y) (by kernel_rfl) (by kernel_rfl) Lq.out HIW.out Qt.out ?_;generalize w9.setCells gs 72 (jB Y).toList=w7 at*)
 obtain⟨Z,hZ⟩:=aO w7.heap.size
 have Ip:Hid (GG w (YX (pL k) 4) (go+1) gs mp go Z 0 w7):=Lib.hid ⟨by have:=HP7.out;have e:=ZG gs (fun t=>Z+t) go;unfold cR at e;rw[e];exact this,HS7.out,HM7.out,HO7.out,fun t ht=>by omega,HW7.out,hZ.symm,by
  have h1:=Lo.out
  have h2:=HS7.lt
  have h3:=HM7.lt
  have h4:=HO7.lt
  have h5:=HP7.lt
  rw[<-hZ]at h2 h3 h4 h5
  omega⟩
 clear hZ HS7 HM7 HO7 HP7 HW7 Lq HIW Qt HYE Lo hmm
 go_loopw [33] (fun i wr=>∃j:Nat,j<=4/\i=.int .i64 j/\Hid (GG w (YX (pL k) 4) (go+1) gs mp go Z j wr)) (fun i _=>4-(intOf i).toNat)
 case atStart=>exact⟨0,I,rfl,Ip⟩
 case round=>
  clear Ip
  obtain⟨j,hj,rfl,HX⟩:=hrel
  by_cases hj4:j<4
  .have q3:(j:Int)<4:=I
   have HXN:=aH (HX.next hj4)
   have hsz:=HX.sz
   have hlp:=HX.sh.lt
   have Yq:wr.cell? (go+1,17+j)=some (.pointer none):=by rw[HX.sh.cell,Bp _ _ _ _ hj4]
   have f17:=HX.sh.frozen (17+j)
   rw[<-hsz]at HXN
   clear HX hsz
   go_wp2
   go_roundw
   case rel=>exact⟨j+1,I,aG,HXN⟩
   case measure=>simp [intOf];omega
  obtain rfl:j=4:=I
  have HF:Hid (∃p' gs' go' pt' tag',(.pointer (some ⟨go+1,0,none⟩):Value)=.pointer (some ⟨p',0,none⟩)/\bI w tag tag'/\kK wr tag' (pH.new k) p' gs' go' pt'/\Below w w wr):=aH ⟨go+1,gs,go,_,pI w tag (go+1) gs mp go Z,rfl,fun b hb=>iP hb,HX.done tag,HX.bl⟩
  clear HX
  go_wp2
  go_ret
  obtain⟨p',gs',go',pt',tag',e1,e2,e3,e4⟩:=HF.out
  exact⟨p',gs',go',pt',tag',congrArg Ending.returned e1,e2,e3,e4⟩
end
section
attribute [local go_sem↓] Go.wp_at_zero Go.wp_at_succ
theorem Gk:(false== !((⟨#[63]⟩:ByteArray).toList==[63]))=true:=J
theorem ZJ(k:Int):(oJ k== !((rD k).toList==[63]))=true:=by
 by_cases h:1<=k/\k<=6
 .obtain⟨h1,h2⟩:=h
  rcases(by omega:k=1\/k=2\/k=3\/k=4\/k=5\/k=6)with rfl|rfl|rfl|rfl|rfl|rfl
  all_goals kernel_rfl
 have hb:oJ k=false:=by simp [oJ];omega
 have hz:rD k=⟨#[63]⟩:=by simp [rD,hb]
 rw[hb,hz]
 exact Gk
theorem Fe(k:Int)(h:oJ k=true):((rD k).toList==[63])=false:=by
 have:=ZJ k
 rw[h]at this
 cases hx:((rD k).toList==[63])with
 |false=>rfl
 |true=>rw[hx]at this;cases this
theorem Fl(k:Int)(h:oJ k=false):((rD k).toList==[63])=true:=by
 have:=ZJ k
 rw[h]at this
 cases hx:((rD k).toList==[63])with
 |true=>rfl
 |false=>rw[hx]at this;cases this
section
variable{w:World}{tag:Nat->Nat}{t gw gm gs:Nat}{A D:Option Addr}{ca cd:Nat}{m:Nat->Int}{s:cN}{th:Nat->cQ}{V:Nat}
theorem WF{s':cN}(h:eX m s' th V)(ht:t<4)(d0:(th t).does≠0)(hW:gJ w tag t (th t) gw A ca D cd)(hR:fE w tag m gm)(hS:iQ w tag s gs)(hV:4*V+4<=1099511627776)(hfl:s.fl<=1000000000)(hfe:s.fe<=1000000000)(hsb:qG (th t))(hg:mR w)(h0:tag 2=0):
 Calls prog 23 #[(gw,0),(gm,0),(gs,0)] w fun e w'=>e=.returned (stp t m s (th t)).fin/\iZ w tag t gw gm gs (stp t m s (th t)) w':=by
 obtain⟨hop,htg⟩:=h.op t ht d0
 have Ta:=h.does t ht
 have Iz:=(WS.start hW hR hS).c1 rfl
 have hH:bO (th t).does->fO m s' V t (th t):=fun hin=>(h.holder ht hin).2.1
 generalize hθ:th t=θ at*
 have hd:θ.does=1\/θ.does=2\/θ.does=3\/θ.does=4\/θ.does=5\/θ.does=6\/θ.does=7\/θ.does=8\/θ.does=9\/θ.does=10\/θ.does=11\/θ.does=12\/θ.does=13\/θ.does=14\/θ.does=15\/θ.does=16\/θ.does=17\/θ.does=18\/θ.does=19\/θ.does=20\/θ.does=21:=I
 rcases hd with d|d|d|d|d|d|d|d|d|d|d|d|d|d|d|d|d|d|d|d|d
 .rw[show(stp t m s θ).fin=false by simp only[stp,d]]
  exact vR Iz I I (An hW hR hS ht d hop)
 .rw[show(stp t m s θ).fin=false by simp only[stp,d]]
  exact vR Iz I I (Ao hW hR hS ht d htg)
 .rw[show(stp t m s θ).fin=false by simp only[stp,d];split<;>rfl]
  by_cases hz:m 0=0
  .exact vR Iz I I (WE hW hR hS ht d hz)
  .exact vR Iz I I (XG hW hR hS ht d hz)
 .rw[show(stp t m s θ).fin=false by simp only[stp,d]]
  exact kI Iz I I (OU hW hR hS ht d)
 .have hh:=hH (by unfold bO;omega)
  unfold fO at hh
  simp only[d]at hh
  rw[show(stp t m s θ).fin=false by simp only[stp,d]]
  exact kI Iz I I (PJ hW hR hS ht d hh.2.2.1)
 .have hh:=hH (by unfold bO;omega)
  unfold fO at hh
  simp only[d]at hh
  obtain⟨hv,hi,hn,hq,hk⟩:=hh
  obtain⟨r1,r2,r3,r4⟩:=tK h.ok h.rec_ hq
  have hx:eE θ.r/\(∀i,i<32->0<=θ.r i/\θ.r i<18446744073709551616)/\jL θ.asks θ.na/\θ.na<=4/\θ.r 28+θ.na<=1099511627776/\θ.r 27+1<=1099511627776:=⟨r1,r4,hk,I,I,I⟩
  have ha:=(h.asks θ.i hi).1
  rw[show(stp t m s θ).fin=false by simp only[stp,d];split<;>rfl]
  by_cases hz:m (3+2*θ.i)=0
  .exact kI Iz I I (IY hW hR hS ht d hi hz hx hg h0)
  by_cases Hh:m (3+2*θ.i)-1=jA θ.r θ.i
  .exact kI Iz I I (FP hW hR hS ht d hi ⟨hz,Hh⟩ hx hg h0)
  exact kI Iz I I (GW hW hR hS ht d hi ⟨hz,Hh⟩ I hx hg h0)
 .have hh:=hH (by unfold bO;omega)
  unfold fO at hh
  simp only[d]at hh
  obtain⟨hv,hi,Lj,hn,hq,hk,Xa,Tu,hw⟩:=hh
  obtain⟨r1,r2,r3,r4⟩:=tK h.ok h.rec_ hq
  obtain⟨a,k,v,ho,hxx⟩:=(h.asks θ.i hi).2 hw
  rw[show(stp t m s θ).fin=false by simp only[stp,d]]
  exact kI Iz I I (OI hW hR hS ht d hi I ⟨r1,r4,wY (m:=m) hi hk Xa Tu ho hxx,I,I,I⟩ hg h0)
 .have hh:=hH (by unfold bO;omega)
  unfold fO at hh
  simp only[d]at hh
  rw[show(stp t m s θ).fin=false by simp only[stp,d]]
  exact oC Iz I I (XJ hW hR hS ht d hh.2.2.1 (by have:=hh.2.1;omega))
 .have hh:=hH (by unfold bO;omega)
  unfold fO at hh
  simp only[d]at hh
  rw[show(stp t m s θ).fin=false by simp only[stp,d]]
  exact oC Iz I I (YR hW hR hS ht d hh.2.2.1 (by have:=hh.2.1;omega) hfl)
 .rw[show(stp t m s θ).fin=false by simp only[stp,d]]
  exact oC Iz I I (QA hW hR hS ht d hfe)
 .have hh:=hH (by unfold bO;omega)
  unfold fO at hh
  simp only[d]at hh
  rw[show(stp t m s θ).fin=false by simp only[stp,d]]
  exact oC Iz I I (PY hW hR hS ht d (by have:=hh.2.1;omega))
 .rw[show(stp t m s θ).fin=false by simp only[stp,d]]
  exact oC Iz I I (UK hW hR hS ht d hfl)
 .rw[show(stp t m s θ).fin=false by simp only[stp,d]]
  exact oC Iz I I (RX hW hR hS ht d hfe)
 .have hh:=hH (by unfold bO;omega)
  unfold fO at hh
  simp only[d]at hh
  rw[show(stp t m s θ).fin=false by simp only[stp,d]]
  exact xK Iz I I (SD hW hR hS ht d (by have:=hh.1;omega))
 .rw[show(stp t m s θ).fin=false by simp only[stp,d]]
  exact xK Iz I I (TA hW hR hS ht d)
 .rw[show(stp t m s θ).fin=true by simp only[stp,d]]
  exact xK Iz I I (SF hW hR hS ht d)
 .rw[show(stp t m s θ).fin=false by simp only[stp,d]]
  exact mW Iz I (RN hW hR hS ht d)
 .rw[show(stp t m s θ).fin=false by simp only[stp,d]]
  exact mW Iz I (RE hW hR hS ht d)
 .rw[show(stp t m s θ).fin=false by simp only[stp,d]]
  exact mW Iz I (SM hW hR hS ht d)
 .rw[show(stp t m s θ).fin=false by simp only[stp,d]]
  exact mW Iz I (QY hW hR hS ht d)
 by_cases hv:m 1=θ.ver
 .by_cases hz:(if gO (θ.seen 0).toNat t=true then(1:Int)else 0)=θ.tg
  .rw[show(stp t m s θ).fin=true by simp only[stp,d];rw[iP ⟨hv,hz⟩]]
   exact mW Iz I (OS hW hR hS ht d hsb hv hz)
  rw[show(stp t m s θ).fin=false by simp only[stp,d];rw[iN (fun q=>hz q.2)]]
  exact mW Iz I (OA hW hR hS ht d hsb rfl hv hz)
 rw[show(stp t m s θ).fin=false by simp only[stp,d];rw[iN (fun q=>hv q.1)]]
 exact mW Iz I (MQ hW hR hS ht d hsb rfl hv)
end
theorem KY{t:Nat}{m:Nat->Int}{s s':cN}{θ:cQ}(h:s'.now=s.now):(stp t m s' θ).m=(stp t m s θ).m/\(stp t m s' θ).t=(stp t m s θ).t/\(stp t m s' θ).fin=(stp t m s θ).fin/\(stp t m s' θ).s.now=(stp t m s θ).s.now:=by
 have hf:∀l,(s'.flush t l).now=(s.flush t l).now:=fun l=>h
 have hs:∀a x,(s'.save a x).now=(s.save a x).now:=fun a x=>by show(fun i=>if i=a then x else s'.now i)=fun i=>if i=a then x else s.now i;rw[h]
 have he:(s'.fence t).now=(s.fence t).now:=h
 unfold stp
 split<;>(try split)<;>(try split)<;>first
  |exact⟨rfl,rfl,rfl,h⟩
  |exact⟨rfl,rfl,rfl,hf _⟩
  |exact⟨rfl,rfl,rfl,hs _ _⟩
  |exact⟨rfl,rfl,rfl,he⟩
  |exact⟨rfl,by rw[h],rfl,h⟩
theorem WL{t:Nat}{m:Nat->Int}{s:cN}{θ:cQ}(d:θ.does≠0)(hf:(stp t m s θ).t.does=0):(stp t m s θ).fin=true:=by
 have hn:∀(θ':cQ) n d,θ'.does≠0->d≠0->(θ'.next n d).does≠0:=fun θ' n d h1 h2=>by unfold cQ.next;split<;>assumption
 have ha:∀θ':cQ,θ'.does≠0->(θ'.all t).does≠0:=fun θ' h'=>by unfold cQ.all;split<;>exact h'
 revert hf
 unfold stp
 split<;>(try split)<;>(try split)<;>intro hf<;>first
  |rfl
  |exact absurd hf (Nat.succ_ne_zero _)
  |exact absurd hf d
  |exact absurd hf (hn _ _ _ d aJ)
  |exact absurd hf (hn _ _ _ (by exact d) aJ)
  |exact absurd hf (ha _ (hn _ _ _ d aJ))
  |exact absurd hf (ha _ (hn (θ.fill _) _ _ (Nat.succ_ne_zero _) aJ))
  |exact absurd hf (by show¬(if θ.said=true then 3 else 1)=0;split<;>decide)
structure jO (w:World) (m:Nat->Int) (s:cN) (θ:cQ) (σ:pH) (t gw gm gs q qs go:Nat) (pt:Nat->Nat) (w':World) (tag:Nat->Nat):Prop where
 t_:bI w (fun _=>0) tag
 b:Below w w w'
 ram:fE w' tag m gm
 sto:iQ w' tag s gs
 wk:∃A ca D cd,gJ w' tag t θ gw A ca D cd
 rs:kK w' tag σ q qs go pt
section
variable{w w' w'':World}{tag:Nat->Nat}{m:Nat->Int}{s:cN}{θ θ':cQ}{σ σ':pH}{t gw gm gs q qs go:Nat}{pt:Nat->Nat}
theorem jO.kept{tag':Nat->Nat}(h:jO w m s θ σ t gw gm gs q qs go pt w' tag)(hb:Below w' w' w'')(ht:bI w' tag tag'):jO w m s θ σ t gw gm gs q qs go pt w'' tag':=by
 have hk:aD bN w' w'':=aD.of_same hb
 obtain⟨A,ca,D,cd,hw⟩:=h.wk
 exact⟨h.t_.trans ht h.b.size,h.b.trans (hb.mono h.b.size),h.ram.kept hk ht (fun _ x=>x.elim),h.sto.kept hk ht (fun _ x=>x.elim),⟨A,ca,D,cd,hw.kept hk ht (fun _ x=>x.elim) (fun _ x=>x.elim) (fun _ x=>x.elim)⟩,h.rs.kept hk ht (fun _ x=>x.elim)⟩
theorem jO.below(h:jO w m s θ σ t gw gm gs q qs go pt w' tag)(hb:Below w' w' w''):jO w m s θ σ t gw gm gs q qs go pt w'' tag:=h.kept hb (bI.refl _ _)
theorem jO.box(h:jO w m s θ σ t gw gm gs q qs go pt w' tag)(o:Obj):jO w m s θ σ t gw gm gs q qs go pt (w'.alloc o) (cG w' tag 0):=h.kept ((Below.refl _ _).alloc (Nat.le_refl _) _) (cO _ _ _)
theorem jO.refr(h:jO w m s θ σ t gw gm gs q qs go pt w' tag)(hg:SI w' tag σ' q qs go pt w'')(Js:t<4):∃tag',(bI w' tag tag'/\aD (fun b=>tag b≠0) w' w'')/\jO w m s θ σ' t gw gm gs q qs go pt w'' tag':=by
 obtain⟨tag',hk,hr⟩:=hg
 obtain⟨A,ca,D,cd,hw⟩:=h.wk
 have hS:∀b,wM (tag b)->100<=tag b:=fun b e=>e
 exact⟨tag',⟨hk.t,hk.k.mono fun b e=>by have:=hS b e;omega⟩,h.t_.trans hk.t h.b.size,h.b.trans (hk.k.below h.b.size (fun b hb e=>by have h1:tag b=0:=h.t_ b hb;have:=hS b e;omega)),h.ram.kept hk.k hk.t (fun b e=>by have:=hS b e;omega),h.sto.kept hk.k hk.t (fun b e=>by have:=hS b e;omega),⟨A,ca,D,cd,hw.kept hk.k hk.t (fun b e=>by have:=hS b e;omega) (fun b e=>by have:=hS b e;omega) (fun b e=>by have:=hS b e;omega)⟩,hr⟩
theorem jO.step(h:jO w m s θ σ t gw gm gs q qs go pt w' tag){L:ZV}(hg:iZ w' tag t gw gm gs L w'')(Js:t<4):∃tag',(bI w' tag tag'/\aD (fun b=>tag b≠0) w' w'')/\jO w L.m L.s L.t σ t gw gm gs q qs go pt w'' tag':=by
 obtain⟨tag',A,ca,D,cd,ht,hk,hr,hs,hw⟩:=hg
 have hS:∀b,rW tag t b->tag b≠0/\tag b<100:=fun b e=>by unfold rW at e;omega
 exact⟨tag',⟨ht,hk.mono fun b e=>(hS b e).1⟩,h.t_.trans ht h.b.size,h.b.trans (hk.below h.b.size (fun b hb e=>by have h1:tag b=0:=h.t_ b hb;exact(hS b e).1 h1)),hr,hs,⟨A,ca,D,cd,hw⟩,h.rs.kept hk ht (fun b e=>(hS b e).2)⟩
theorem jO.call(h:jO w m s θ σ t gw gm gs q qs go pt w' tag)(hw:gJ w'' tag t θ' gw none 0 none 0)(hk:aD (cI gw) w' w'')(Js:t<4):(bI w' tag tag/\aD (fun b=>tag b≠0) w' w'')/\jO w m s θ' σ t gw gm gs q qs go pt w'' tag:=by
 have ht:=bI.refl w' tag
 have hS:∀b,cI gw b->tag b=10+t:=fun b e=>by rw[show b=gw from e];exact hw.tg
 exact⟨⟨ht,hk.mono fun b e=>by have:=hS b e;omega⟩,h.t_,h.b.trans (hk.below h.b.size (fun b hb e=>by have h1:tag b=0:=h.t_ b hb;have:=hS b e;omega)),h.ram.kept hk ht (fun b e=>by have:=hS b e;omega),h.sto.kept hk ht (fun b e=>by have:=hS b e;omega),⟨none,0,none,0,hw⟩,h.rs.kept hk ht (fun b e=>by have:=hS b e;omega)⟩
theorem jO.c(h:jO w m s θ σ t gw gm gs q qs go pt w' tag):w'.cell? (gw,1)=θ.does/\gw<w':=by
 obtain⟨A,ca,D,cd,hw⟩:=h.wk
 exact⟨mS hw.blk 1 I,hw.blk.lt⟩
end
structure FT (w:World) (t gw gm gs q qs go:Nat) (pt:Nat->Nat) (j:Nat) (tg:Int) (wr:World) (tagr:Nat->Nat) (σ:pH) (s:cN):Prop where
 one:jO w σ.m s (σ.th t) σ t gw gm gs q qs go pt wr tagr
 now:s.now=σ.s.now
 cost:s.fl<=j/\s.fe<=j
 ok:lM j σ
 sb:AR σ
 tgb:tg=0\/tg=1
 tg0:(σ.th t).does=0->σ.tgl t=tg
 tg1:(σ.th t).does≠0->(σ.th t).tg=tg
def Fz(v:Value):Prop:=∃g,v=.pointer (some ⟨g,0,none⟩)
def Fy(W:World)(ty:TypeId)(v:Value)(w':World):Prop:=∃g,v=.pointer (some ⟨g,0,none⟩)/\W<=g/\aY w' g ty (9:Int)
abbrev Gp:List IntKind:=[.i64,.i64,.i64]
theorem Dn:(prog.info? 25).map (·.size)=some 32:=J
theorem jO.save{w w':World}{tag:Nat->Nat}{m:Nat->Int}{s:cN}{θ:cQ}{σ:pH}{t gw gm gs q qs go:Nat}{pt:Nat->Nat}(h:jO w m s θ σ t gw gm gs q qs go pt w' tag){a:Nat}(ha:a<72)(x:Int):jO w m (s.save a x) θ σ t gw gm gs q qs go pt (w'.setCell (gs,a) [x]) tag/\aD (fun b=>tag b≠0) w' (w'.setCell (gs,a) [x]):=by
 have hk:=bP w' gs a [x]
 have ht:=bI.refl w' tag
 have hS:∀b,cI gs b->tag b=2:=fun b e=>by rw[show b=gs from e];exact h.sto.1
 obtain⟨A,ca,D,cd,hw⟩:=h.wk
 refine⟨⟨h.t_,h.b.trans (hk.below h.b.size (fun b hb e=>by have h1:tag b=0:=h.t_ b hb;have:=hS b e;omega)),h.ram.kept hk ht (fun b e=>by have:=hS b e;omega),⟨h.sto.1,?_⟩,⟨A,ca,D,cd,hw.kept hk ht (fun b e=>by have:=hS b e;omega) (fun b e=>by have:=hS b e;omega) (fun b e=>by have:=hS b e;omega)⟩,h.rs.kept hk ht (fun b e=>by have:=hS b e;omega)⟩,hk.mono fun b e=>by have:=hS b e;omega⟩
 have:=h.sto.2.set_ a [x]
 rw[DE s x ha]at this
 exact this
theorem Dj{m:Nat->Int}{w w':World}{tag:Nat->Nat}{s:cN}{θ:cQ}{σ:pH}{t gw gm gs q qs go:Nat}{pt:Nat->Nat}(h:jO w m s θ σ t gw gm gs q qs go pt w' tag)(Js:t<4)(a k v tg:Int):
 Calls prog 21 #[(gw,0),.agg #[a,k,v],tg,false] w' fun e w''=>e=.returned (.tuple #[])/\(bI w' tag tag/\aD (fun b=>tag b≠0) w' w'')/\jO w m s (cQ.call a k v tg false) σ t gw gm gs q qs go pt w'' tag:=by
 obtain⟨A,ca,D,cd,hw⟩:=h.wk
 refine(Bc hw a k v tg false).mono ?_
 rintro e w'' ⟨h1,h2,h3⟩
 exact⟨h1,h.call h2 h3 Js⟩
theorem Ei{j:Nat}{tg:Int}{w w':World}{tag:Nat->Nat}{s:cN}{σ:pH}{t gw gm gs q qs go:Nat}{pt:Nat->Nat}(h:FT w t gw gm gs q qs go pt j tg w' tag σ s)(hj:j<=1000)(Js:t<4)(d:(σ.th t).does≠0)(hE:mR w):
 Calls prog 23 #[(gw,0),(gm,0),(gs,0)] w' fun e w''=>e=.returned (σ.loc t).fin/\∃tag',(bI w' tag tag'/\aD (fun b=>tag b≠0) w' w'')/\jO w (σ.loc t).m (stp t σ.m s (σ.th t)).s (σ.loc t).t σ t gw gm gs q qs go pt w'' tag':=by
 obtain⟨A,ca,D,cd,hw⟩:=h.one.wk
 obtain⟨e1,e2,e3,e4⟩:=KY (t:=t) (m:=σ.m) (θ:=σ.th t) h.now
 have hv:=h.ok.ver
 have hs:=h.ok.stp
 have hc:=h.cost
 refine(WF h.ok.inv Js d hw h.one.ram h.one.sto I I I (h.sb t Js) (hE.below h.one.b) (h.one.t_ _ hE.pos)).mono ?_
 rintro e w'' ⟨h1,h2⟩
 obtain⟨tag',h3,h4⟩:=h.one.step h2 Js
 rw[e1,e2]at h4
 exact⟨by rw[h1,e3];rfl,tag',h3,h4⟩
theorem FT.next{j:Nat}{tg:Int}{w w' w'':World}{tag tag':Nat->Nat}{s:cN}{σ:pH}{t gw gm gs q qs go:Nat}{pt:Nat->Nat}(h:FT w t gw gm gs q qs go pt j tg w' tag σ s)(hj:j<=1000)(Js:t<4)(d:(σ.th t).does≠0)(ho:jO w (σ.loc t).m (stp t σ.m s (σ.th t)).s (σ.loc t).t (σ.step t) t gw gm gs q qs go pt w'' tag'):FT w t gw gm gs q qs go pt (j+1) tg w'' tag' (σ.step t) (stp t σ.m s (σ.th t)).s:=by
 obtain⟨e1,e2,e3,e4⟩:=KY (t:=t) (m:=σ.m) (θ:=σ.th t) h.now
 obtain⟨c1,c2⟩:=zS t σ.m s (σ.th t)
 obtain⟨o1,o2,o3,o4⟩:=VJ t σ.m σ.s (σ.th t)
 have hth:(σ.step t).th t=(σ.loc t).t:=cD _ _ _
 have hc:=h.cost
 refine⟨by rw[hth];exact ho,e4,⟨I,I⟩,FY h.ok Js d I,PK h.sb h.ok.inv.ok Js,h.tgb,fun h0=>?_,fun _=>?_⟩
 .rw[hth]at h0
  have hf:(σ.loc t).fin=true:=WL d h0
  show(if(σ.loc t).fin=true then(fun u=>if u=t then(σ.th t).tg else σ.tgl u)else σ.tgl) t=tg
  rw[iP hf]
  show(if t=t then(σ.th t).tg else σ.tgl t)=tg
  rw[iP rfl]
  exact h.tg1 d
 rw[hth]
 exact o4.trans (h.tg1 d)
theorem FT.asked{j:Nat}{tg:Int}{w w' w'':World}{tag tag':Nat->Nat}{s:cN}{σ:pH}{t gw gm gs q qs go:Nat}{pt:Nat->Nat}(h:FT w t gw gm gs q qs go pt j tg w' tag σ s)(hj:j<=1000)(Js:t<4)(d:(σ.th t).does=0){a k v:Int}(hop:gQ a k v)(ho:jO w σ.m s (cQ.call a k v (1-tg) false) (σ.call t a k v) t gw gm gs q qs go pt w'' tag'):FT w t gw gm gs q qs go pt (j+1) (1-tg) w'' tag' (σ.call t a k v) s:=by
 have hth:(σ.call t a k v).th t=cQ.call a k v (1-σ.tgl t) false:=cD _ _ _
 have hc:=h.cost
 have hb:=h.tgb
 rw[h.tg0 d]at hth
 refine⟨by rw[hth];exact ho,h.now,⟨I,I⟩,KI h.ok Js d hop,NH h.sb _ _ _ _,I,fun h0=>?_,fun _=>by rw[hth];rfl⟩
 rw[hth]at h0
 exact absurd h0 (Nat.succ_ne_zero _)
def Gg(w:World)(gm gs gw t b:Nat):Nat:=if b<w then 0 else if b=gm then 1 else if b=gs then 2 else if b=gw then 10+t else 0
end
end Go.Proofs.YtplpimkgihnmhaaGreatDoor
