/-
  Parts of a proof. For all values.
-/
import Derived.Attr
import Derived.Below
import Derived.BigGuardPart
import Derived.BigQuiet
import Derived.Deep.AppendLies
import Derived.Deep.DeepCutAuto
import Derived.Deep.DeepFit
import Derived.Deep.DrawnRows
import Derived.Deep.Draws
import Derived.Deep.LoopGhost
import Derived.Deep.MidRow
import Derived.Deep.OwnRows
import Derived.Deep.QuietTactic
import Derived.Deep.RegionHeld3
import Derived.Deep.RegionLaw
import Derived.Deep.RegionWith
import Derived.Deep.Slices
import Derived.Handed
import Derived.Handy
import Derived.LaidLaws
import Derived.Laws.AppendOwnNone
import Derived.Laws.CopyOwn
import Derived.Laws.EntriesVeiled
import Derived.Lib.Hide
import Derived.Lib.SmallJoins
import Derived.Maps.AppendAt
import Derived.Maps.OwnSet
import Derived.OpenShut
import Derived.Orders
import Derived.ProofKit
import Derived.SizedLaws
import Derived.Tactics
import Derived.Test.YtplpimkgihnmhaaGreatDoorProg
import Derived.WalkKit
import Derived.WalkLawsBesides
import Derived.WalkSpells
set_option maxRecDepth 100000
set_option maxHeartbeats 400000
set_option linter.all false
namespace Go.Proofs.YtplpimkgihnmhaaGreatDoor
open Go.Proofs.Tryz Go.RowKit
variable{S:Nat->Prop}{w W0 w':World}{a a0:Act}{k n m id:Nat}{u vs:Nat->Value}{o:Oper}{P:Program}{r l:List Oper}{C p B:Prop}{z:Nat->Int}{A:Option Addr}{tb:TypeId}
section
instance:Coe Int Value:=⟨fun i=>.int .i64 i⟩
instance:Coe Nat Value:=⟨fun i=>.int .i64 (i:Int)⟩
instance:Coe Bool Value:=⟨fun i=>.bool i⟩
instance {x:Int}:CoeDep (List Int) [x] Value:=⟨.int .u64 x⟩
instance {x:Nat}:CoeDep (List Nat) [x] Value:=⟨.int .u64 (x:Int)⟩
instance {x y:Nat}:CoeDep (Nat×Nat) (x,y) Value:=⟨.pointer (some ⟨x,y,none⟩)⟩
instance {x y:Nat}:CoeDep (Nat×Nat) (x,y) Addr:=⟨⟨x,y,none⟩⟩
instance {x:Int}:CoeDep (List Int) [x] (Option Value):=⟨some (.int .u64 x)⟩
instance {x:Nat}:CoeDep (List Nat) [x] (Option Value):=⟨some (.int .u64 (x:Int))⟩
instance {x y:Nat}:CoeDep (Nat×Nat) (x,y) (Option Value):=⟨some (.pointer (some ⟨x,y,none⟩))⟩
instance:CoeTail Int (Option Value):=⟨fun i=>some (.int .i64 i)⟩
instance:CoeTail Nat (Option Value):=⟨fun i=>some (.int .i64 (i:Int))⟩
instance:CoeTail Bool (Option Value):=⟨fun i=>some (.bool i)⟩
instance:CoeDep Nat 2 (Array Value):=⟨#[.int .u64 0,.int .u64 0]⟩
instance:CoeDep Int 2 (Array Value):=⟨#[.int .i64 0,.int .i64 0]⟩
instance:CoeDep Nat 3 (Array Value):=⟨#[.int .u64 0,.int .u64 0,.int .u64 0]⟩
instance:CoeDep Int 3 (Array Value):=⟨#[.int .i64 0,.int .i64 0,.int .i64 0]⟩
instance:CoeDep Nat 4 (Array Value):=⟨#[.int .u64 0,.int .u64 0,.int .u64 0,.int .u64 0]⟩
instance:CoeDep Int 4 (Array Value):=⟨#[.int .i64 0,.int .i64 0,.int .i64 0,.int .i64 0]⟩
instance:CoeDep Nat 9 (Array Value):=⟨#[.int .u64 0,.int .u64 0,.int .u64 0,.int .u64 0,.int .u64 0,.int .u64 0,.int .u64 0,.int .u64 0,.int .u64 0]⟩
instance:CoeDep Int 9 (Array Value):=⟨#[.int .i64 0,.int .i64 0,.int .i64 0,.int .i64 0,.int .i64 0,.int .i64 0,.int .i64 0,.int .i64 0,.int .i64 0]⟩
instance:CoeDep Nat 16 (Array Value):=⟨#[.int .u64 0,.int .u64 0,.int .u64 0,.int .u64 0,.int .u64 0,.int .u64 0,.int .u64 0,.int .u64 0,.int .u64 0,.int .u64 0,.int .u64 0,.int .u64 0,.int .u64 0,.int .u64 0,.int .u64 0,.int .u64 0]⟩
instance:CoeDep Int 16 (Array Value):=⟨#[.int .i64 0,.int .i64 0,.int .i64 0,.int .i64 0,.int .i64 0,.int .i64 0,.int .i64 0,.int .i64 0,.int .i64 0,.int .i64 0,.int .i64 0,.int .i64 0,.int .i64 0,.int .i64 0,.int .i64 0,.int .i64 0]⟩
instance:CoeDep Nat 17 (Array Value):=⟨#[.int .u64 0,.int .u64 0,.int .u64 0,.int .u64 0,.int .u64 0,.int .u64 0,.int .u64 0,.int .u64 0,.int .u64 0,.int .u64 0,.int .u64 0,.int .u64 0,.int .u64 0,.int .u64 0,.int .u64 0,.int .u64 0,.int .u64 0]⟩
instance:CoeDep Int 17 (Array Value):=⟨#[.int .i64 0,.int .i64 0,.int .i64 0,.int .i64 0,.int .i64 0,.int .i64 0,.int .i64 0,.int .i64 0,.int .i64 0,.int .i64 0,.int .i64 0,.int .i64 0,.int .i64 0,.int .i64 0,.int .i64 0,.int .i64 0,.int .i64 0]⟩
instance:CoeDep Nat 18 (Array Value):=⟨#[.int .u64 0,.int .u64 0,.int .u64 0,.int .u64 0,.int .u64 0,.int .u64 0,.int .u64 0,.int .u64 0,.int .u64 0,.int .u64 0,.int .u64 0,.int .u64 0,.int .u64 0,.int .u64 0,.int .u64 0,.int .u64 0,.int .u64 0,.int .u64 0]⟩
instance:CoeDep Int 18 (Array Value):=⟨#[.int .i64 0,.int .i64 0,.int .i64 0,.int .i64 0,.int .i64 0,.int .i64 0,.int .i64 0,.int .i64 0,.int .i64 0,.int .i64 0,.int .i64 0,.int .i64 0,.int .i64 0,.int .i64 0,.int .i64 0,.int .i64 0,.int .i64 0,.int .i64 0]⟩
instance:CoeDep Nat 32 (Array Value):=⟨#[.int .u64 0,.int .u64 0,.int .u64 0,.int .u64 0,.int .u64 0,.int .u64 0,.int .u64 0,.int .u64 0,.int .u64 0,.int .u64 0,.int .u64 0,.int .u64 0,.int .u64 0,.int .u64 0,.int .u64 0,.int .u64 0,.int .u64 0,.int .u64 0,.int .u64 0,.int .u64 0,.int .u64 0,.int .u64 0,.int .u64 0,.int .u64 0,.int .u64 0,.int .u64 0,.int .u64 0,.int .u64 0,.int .u64 0,.int .u64 0,.int .u64 0,.int .u64 0]⟩
instance:CoeDep Int 32 (Array Value):=⟨#[.int .i64 0,.int .i64 0,.int .i64 0,.int .i64 0,.int .i64 0,.int .i64 0,.int .i64 0,.int .i64 0,.int .i64 0,.int .i64 0,.int .i64 0,.int .i64 0,.int .i64 0,.int .i64 0,.int .i64 0,.int .i64 0,.int .i64 0,.int .i64 0,.int .i64 0,.int .i64 0,.int .i64 0,.int .i64 0,.int .i64 0,.int .i64 0,.int .i64 0,.int .i64 0,.int .i64 0,.int .i64 0,.int .i64 0,.int .i64 0,.int .i64 0,.int .i64 0]⟩
instance:CoeDep Int 37 (Array Value):=⟨#[.int .i64 0,.slice none 0 0,.int .i64 0,.int .i64 0,.int .i64 0,.int .i64 0,.int .i64 0,.int .i64 0,.int .i64 0,.int .i64 0,.int .i64 0,.int .i64 0,.int .i64 0,.int .i64 0,.int .i64 0,.int .i64 0,.int .i64 0,.int .i64 0,.int .i64 0,.int .i64 0,.int .i64 0,.int .i64 0,.int .i64 0,.int .i64 0,.int .i64 0,.int .i64 0,.int .i64 0,.int .u64 0,.int .u64 0,.int .u64 0,.int .u64 0,.int .i64 0,.int .i64 0,.int .i64 0,.int .i64 0,.int .u64 0,.int .u64 0]⟩
instance:Coe Int Lit:=⟨fun i=>.int .i64 i⟩
instance:Coe Bool Lit:=⟨fun i=>.bool i⟩
instance {x:Int}:CoeDep (List Int) [x] Lit:=⟨.int .u64 x⟩
instance {x:Nat}:CoeDep (List Nat) [x] Lit:=⟨.int .u64 (x:Int)⟩
instance:Coe World Nat:=⟨fun w=>w.heap.size⟩
theorem I(h:p:=by omega):p:=h
theorem J(h:p:=by kernel_rfl):p:=h
theorem aJ(h:p:=by decide):p:=h
theorem aG(h:p:=by go_num):p:=h
theorem aH(h:p):Hid p:=Lib.hid h
instance {w:World} {k:Nat}:CoeDep (World×Nat) (w,k) Nat:=⟨w.heap.size+k⟩
instance {w:World} {k:Nat}:CoeDep (World×Nat) (w,k) Addr:=⟨⟨w.heap.size+k,0,none⟩⟩
instance {w:World} {k o:Nat}:CoeDep ((World×Nat)×Nat) ((w,k),o) Addr:=⟨⟨w.heap.size+k,o,none⟩⟩
instance {w:World} {k:Nat}:CoeDep (World×Nat) (w,k) Value:=⟨.pointer (some ⟨w.heap.size+k,0,none⟩)⟩
instance {w:World} {k o:Nat}:CoeDep ((World×Nat)×Nat) ((w,k),o) Value:=⟨.pointer (some ⟨w.heap.size+k,o,none⟩)⟩
instance {w:World} {k:Nat}:CoeDep (World×Nat) (w,k) (Option Value):=⟨some (.pointer (some ⟨w.heap.size+k,0,none⟩))⟩
instance {w:World} {k o:Nat}:CoeDep ((World×Nat)×Nat) ((w,k),o) (Option Value):=⟨some (.pointer (some ⟨w.heap.size+k,o,none⟩))⟩
instance:Coe World Addr:=⟨fun w=>⟨w.heap.size,0,none⟩⟩
instance:Coe World Value:=⟨fun w=>.pointer (some ⟨w.heap.size,0,none⟩)⟩
instance:CoeTail World (Option Value):=⟨fun w=>some (.pointer (some ⟨w.heap.size,0,none⟩))⟩
theorem aO{α:Sort _}(e:α):∃x,x=e:=⟨_,rfl⟩
theorem aP{α:Sort _}(e:α):∃x,e=x:=⟨_,rfl⟩
theorem iN{c:Prop}{h:Decidable c}(Z:¬c){α:Sort _}{t e:α}:ite c t e=e:=if_neg Z
theorem iP{c:Prop}{h:Decidable c}(Z:c){α:Sort _}{t e:α}:ite c t e=t:=if_pos Z
theorem cJ{W Z:World}{B:Nat}(Y:Below B W Z):(∀b o,b<B->Z.cell? ⟨b,o,none⟩=W.cell? ⟨b,o,none⟩)/\(∀b o,b<B->Z.frozen? ⟨b,o,none⟩=W.frozen? ⟨b,o,none⟩):=
 ⟨fun b o h=>Y.cell (p:=⟨b,o,none⟩) h,fun b o h=>Y.frozen (p:=⟨b,o,none⟩) h⟩
theorem cZ{B:Nat}{a:World}(h:Below B a w)(n:Nat):Below B a (w.drewN n):=⟨h.os,h.tape,h.output,h.size,h.block⟩
theorem dF{a b:Bool}(h:a=true↔b=true):Ending.returned a=.returned b:=by rw[Bool.eq_iff_iff.2 h]
theorem gU{k:IntKind}{a b:Int}(h:a=b):Ending.returned (.int k a)=.returned (.int k b):=by rw[h]
theorem jW{k:IntKind}{a b:Int}(h:a=b):Value.int k a=.int k b:=by rw[h]
structure fI (w:World) (A:Option Addr) (n c:Nat) (xs:List Int):Prop where
 len:xs.length=n
 cap:n<=c
 cap63:c<=9223372036854775807
 bd:∀i:Nat,-9223372036854775808<=xs[i]?.getD 0/\xs[i]?.getD 0<=9223372036854775807
 at_:0<n->∃b off,A=some ⟨b,off,none⟩/\b<w/\∀i:Nat,i<n->w.cell? (b,off+i)=(xs[i]?.getD 0)
theorem fI.below{c:Nat}{xs:List Int}(h:fI w A n c xs)(X:Below w w w'):fI w' A n c xs:=
 ⟨h.len,h.cap,h.cap63,h.bd,fun W=>by
  obtain⟨b,Z,rfl,Y,V⟩:=h.at_ W;exact⟨b,Z,rfl,Nat.lt_of_lt_of_le Y X.size,fun i U=>(X.cell (p:=⟨b,Z+i,none⟩) Y).trans (V i U)⟩⟩
def aY(w:World)(g:Nat)(t:TypeId)(cs:Array Value):Prop:=w.heap[g]? =some (.cells cs t (0,0))
section
variable{w w':World}{g:Nat}{t:TypeId}{cs:Array Value}
theorem aY.lt(h:aY w g t cs):g<w:=by
 rcases Nat.lt_or_ge g w with Z|hge
 .exact Z
 unfold aY at h;rw[Array.getElem?_eq_none hge]at h;cases h
theorem aY.cell(h:aY w g t cs)(i:Nat):w.cell? (g,i)=cs[i]? :=cell_of_row w g i cs t (0,0) h
theorem aY.frozen(h:aY w g t cs)(i:Nat):w.frozen? ⟨g,i,none⟩=false:=by
 unfold aY at h;simp [World.frozen?,h]
theorem aY.new(w:World)(t:TypeId)(cs:Array Value):aY (w.alloc (.cells cs t)) w t cs:=heap_alloc_new w _
theorem aY.newAt(w:World)(t:TypeId)(cs:Array Value)(Z:n=w):aY (w.alloc (.cells cs t)) n t cs:=by subst Z;exact aY.new w t cs
theorem aY.drew(h:aY w g t cs):aY w.drew g t cs:=h
theorem aY.drewN(h:aY w g t cs)(n:Nat):aY (w.drewN n) g t cs:=h
theorem aY.alloc(h:aY w g t cs)(o:Obj):aY (w.alloc o) g t cs:=(Below.heap_alloc w o g h.lt).trans h
theorem aY.set_(h:aY w g t cs)(i:Nat)(u:Value):aY (w.setCell (g,i) u) g t (cs.setIfInBounds i u):=by
 unfold aY at h⊢;simp [World.setCell,Array.getElem?_modify,h]
theorem aY.far(h:aY w g t cs){p:Addr}(Z:g≠p.block)(u:Value):aY (w.setCell p u) g t cs:=(Below.heap_setCell w p u g Z).trans h
theorem aY.below{B:Nat}(h:aY w g t cs)(Z:Below B w w')(Y:g<B):aY w' g t cs:=(Z.block g Y).trans h
end
theorem aL{B:Nat}{a:World}{g:Nat}(h:Below B a w)(Y:B<=g)(cs:Array Value):Below B a (w.setRow g cs):=
 h.trans ⟨rfl,rfl,rfl,by simp [World.setRow],fun k Z=>setRow_other w g k cs I⟩
theorem aY.setRow{g:Nat}{t:TypeId}{cs:Array Value}(h:aY w g t cs)(Z:Array Value):aY (w.setRow g Z) g t Z:=setRow_heap w g cs Z t (0,0) h
structure cH (C:Array Value) (n:Nat) (z:Nat->Int):Prop where
 size:C.size=n
 get:∀i,i<n->C[i]? =some (.int .u64 (z i))
 bd:∀i,i<n->0<=z i/\z i<18446744073709551616
theorem cH.one{C:Array Value}(h:cH C n z):C.all (·.oneCell')=true:=by
 rw[Array.all_eq_true];intro i Z;have e:=h.get i (by rw[<-h.size];exact Z);rw[Array.getElem?_eq_getElem Z]at e;rw[Option.some.inj e];rfl
theorem cH.cut{C:Array Value}(h:cH C n z)(o m:Nat)(W:o+m<=n):cH (C.extract o (o+m)) m (fun i=>z (o+i)):=
 ⟨by simp [h.size];omega,fun i Y=>by
  have Z:=h.get (o+i) I;have X:=h.size;rw[Array.getElem?_extract];rw[iP I];exact Z,fun i Y=>h.bd (o+i) I⟩
theorem cH.congr{C:Array Value}{z':Nat->Int}(h:cH C n z)(e:∀i,i<n->z' i=z i):cH C n z':=
 ⟨h.size,fun i Z=>by rw[e i Z];exact h.get i Z,fun i Z=>by rw[e i Z];exact h.bd i Z⟩
theorem cH.set_{C:Array Value}(h:cH C n z){v:Int}(X:0<=v/\v<18446744073709551616):cH (C.setIfInBounds k [v]) n (fun i=>if i=k then v else z i):=
 ⟨by simp [h.size],fun i Y=>by
  rw[Array.getElem?_setIfInBounds];by_cases Z:k=i
  .subst Z;rw[iP rfl,iP (by rw[h.size];exact Y),iP rfl]
  .rw[iN Z,iN (fun e=>Z e.symm)];exact h.get i Y,fun i Y=>by
  by_cases Z:i=k
  .rw[iP Z];exact X
  rw[iN Z];exact h.bd i Y⟩
theorem cH.zero(n:Nat):cH (Array.replicate n (.int .u64 0)) n (fun _=>0):=
 ⟨by simp,fun i Z=>by simp [Z],fun _ _=>by decide⟩
structure qY (w:World) (A:Option Addr) (n c:Nat) (z:Nat->Int):Prop where
 cap:n<=c
 cap63:c<=9223372036854775807
 bd:∀i,i<n->0<=z i/\z i<18446744073709551616
 at_:0<n->∃b off,A=some ⟨b,off,none⟩/\b<w/\∀i:Nat,i<n->w.cell? (b,off+i)=[z i]
theorem qY.below{c:Nat}(h:qY w A n c z)(X:Below w w w'):qY w' A n c z:=
 ⟨h.cap,h.cap63,h.bd,fun W=>by
  obtain⟨b,Z,rfl,Y,V⟩:=h.at_ W;exact⟨b,Z,rfl,Nat.lt_of_lt_of_le Y X.size,fun i U=>(X.cell (p:=⟨b,Z+i,none⟩) Y).trans (V i U)⟩⟩
theorem qY.of_blk{g t o c:Nat}{C:Array Value}(h:aY w g t C)(Y:cH C m z)(V:o+n<=m)(W:n<=c)(Z:c<=9223372036854775807):
 qY w (some ⟨g,o,none⟩) n c (fun i=>z (o+i)):=
 ⟨W,Z,fun i X=>Y.bd (o+i) I,fun _=>⟨g,o,rfl,h.lt,fun i X=>by rw[h.cell];exact Y.get (o+i) I⟩⟩
theorem cH.ext{C D:Array Value}(h:cH C n z)(k:cH D n z):C=D:=by
 apply Array.ext_getElem?;intro i;by_cases Z:i<n
 .rw[h.get i Z,k.get i Z]
 rw[Array.getElem?_eq_none (by rw[h.size];omega),Array.getElem?_eq_none (by rw[k.size];omega)]
theorem fI.of_blk{g t c:Nat}{cs:Array Value}{xs:List Int}(h:aY w g t cs)(W:xs.length=n)(V:n<=c)(Z:c<=9223372036854775807)
 (Y:∀i:Nat,i<n->cs[i]? =some (.int .i64 (xs[i]?.getD 0))) (bd:∀i:Nat,-9223372036854775808<=xs[i]?.getD 0/\xs[i]?.getD 0<=9223372036854775807):
 fI w (some ⟨g,0,none⟩) n c xs:=
 ⟨W,V,Z,bd,fun _=>⟨g,0,rfl,h.lt,fun i X=>by rw[Nat.zero_add,h.cell i];exact Y i X⟩⟩
theorem OC{C:World->Prop}(ty:TypeId)(x:Operand)(Z:o.op=.load ty x)(g:Nat)(Y:a.eval x=.pointer (some ⟨g,0,none⟩))
 (t:TypeId) (cs:Array Value) (d:TypeDesc) (X:aY w g t cs) (W:P.underlying ty=some d) (V:(match d with|.struct _|.array _ _=>true|_=>false)=true) (U:(P.info? ty).map (·.size)=some cs.size):
 o.quietAt P a C w (.agg cs):=by
 unfold Oper.quietAt execOp;simp only[Z,Y,Instr.loadAt,Instr.sureAddr,Sem.run_bind,Sem.run_pure,Result.andThen_ok,run_loadVar_row w g t ty cs (0,0) d X W V U,Oper.quietUpon];exact⟨trivial,trivial⟩
end
section
open Go.ChangeAt Go.ChangeShapes Go.WideShapes
theorem rE{H:Type}{enc:TypeId×Value->H}{P:Program}(X:laidOutB P=true){W V:World}{Y:Nat->Bool}:
 ∀{ts:List TypeId} {vs:List Value} {ds:List (DataW H)} {ps:List MemPlace},(ts.all fun t=>P.readableRec t&&decide (t<P.types.size))=true->
  DataW.TrodAll enc P W 0 (fun _=>true) true ts vs ds ps->(∀p∈ps,W.sameAt V p)->(∀p∈ps,Y p.block=true)->DataW.TrodAll enc P V 0 Y true ts vs ds ps
 |[],[],[],_,_,h,_,_=>h
 |t::ts,v::vs,d::ds,ps,hr,h,hs,hp=>by
  obtain⟨p,q,h0,h1,rfl⟩:=h;simp only[List.all_cons,Bool.and_eq_true,decide_eq_true_eq]at hr;exact⟨p,q,WideElems.Trod_stays X hr.1.1 hr.1.2 h0 (fun x Z=>hs x (List.mem_append_left _ Z)) (fun x Z=>hp x (List.mem_append_left _ Z)),
   rE X hr.2 h1 (fun x Z=>hs x (List.mem_append_right _ Z)) (fun x Z=>hp x (List.mem_append_right _ Z)),rfl⟩
 |[],[],_::_,_,_,h,_,_=>h.elim
 |[],_::_,_,_,_,h,_,_=>h.elim
 |_::_,[],_,_,_,h,_,_=>h.elim
 |_::_,_::_,[],_,_,h,_,_=>h.elim
theorem CO{H:Type}{enc:TypeId×Value->H}{f:Func}{s:ChangeSpec}{W G:World}{args:Array Value}{T N:List (DataW H)}{Z:List MemPlace}
 (B:laidOutB P=true) (M:(f.params.toList.all fun t=>P.readableRec t&&decide (t<P.types.size))=true) (F:s.vars=[])
 (S:f.resultTypes= #[tb]) (L:P.underlying tb=some .bool)
 (E:DataW.Whole enc P f.params.toList s.vars false W args.toList T N Z) (D:Below W W G)
 (Y:s.fn H T={results:=[.lit (.bool true)],args:=T}):
 s.post enc P f false true false false W args true G:=by
 have V:=E.lt;obtain⟨p,q,K,R,U,Q,O⟩:=E;have C:N=[]/\q=[]:=by
  rw[F]at R;cases N with
  |nil=>exact⟨rfl,R⟩
  |cons g r=>exact absurd R (by intro h;cases h)
 obtain⟨rfl,rfl⟩:=C;simp only[List.append_nil]at U;subst U;rw[<-List.append_nil T]at Y;refine⟨T,[],Z,[],Z,[],⟨Z,[],K,R,by simp,Q,O⟩,?_,?_,?_,?_,fun h=>by cases h⟩
 .rw[Y,S];exact trodAll_mk1 (shut_bool L true)
 .rw[Y,List.append_nil];exact rE B M K (fun x X=>D.same (V x X)) (fun x X=>by simpa using V x X)
 .rw[Y,F];rfl
 exact World.keptBut_mono (fun x X=>⟨X,.inr (.inl X)⟩) (D.frame _)
theorem Bg{H:Type}{enc:TypeId×Value->H}{C:Checked}{os:Os}{f:FuncId}{fn:Func}{s:ChangeSpec}
 (own:ownKnob C.prog.godebug=none) (Z:os.Started) (X:C.prog.inits.idxOf? f=none) (N:C.prog.funcs[f]? =some fn)
 (Y:∃(w:World) (tape:Tape) (i:Input),w.os=os/\(w.forCall tape i).Shaped C.prog/\i.vars=[]/\Input.okWide C.prog (w.forCall tape i) .any w.heap.size f i/\
   s.pre6 enc C.prog fn [] false (w.forCall tape i).memory i.args/\({}:Assume).holds C.prog (lone (Frame.enter C.prog f i.args .normal) [] (w.forCall tape i)))
 (x:laidOutB C.prog=true) (M:(fn.params.toList.all fun t=>C.prog.readableRec t&&decide (t<C.prog.types.size))=true) (L:s.vars=[])
 (R:fn.resultTypes= #[tb]) (K:C.prog.underlying tb=some .bool)
 (walk:∀(W:World) (base:Nat) (args:Array Value) (ds:List (DataW H)) (ps:List MemPlace),
   (∀(j:Nat) t v,fn.params[j]? =some t->args[j]? =some v->Value.okWide C.prog W .any base t v)->
   DataW.TrodAll enc C.prog W 0 (fun _=>true) true fn.params.toList args.toList ds ps->
   (DataW.weightsEach C.prog fn.params.toList ds).all (·<=reachBytes)=true->
   s.fn H ds={results:=[.lit (.bool true)],args:=ds}/\Calls C.prog f args W fun e D=>e=.returned (.bool true)/\Below W.heap.size W D):
 ReturnsInHanded {} C os f .any (s.pre6 enc C.prog fn [] false) (s.post enc C.prog fn false true false false):=by
 refine returnsInHanded_of_change_sized own Z X N Y ?_;intro W base args ds G Q T F _ S _;have P:=F;obtain⟨p,q,A,E,_,_,_⟩:=F;have B:G=[]:=by
  rw[L]at E;cases G with
  |nil=>rfl
  |cons g r=>exact absurd E (by intro h;cases h)
 subst B;have O:s.plain.varTypes C.prog=[]:=by simp [DataSpec.varTypes,ChangeSpec.plain,L]
 rw[O,List.append_nil,List.append_nil]at S;obtain⟨V,U⟩:=walk W base args ds p T A S;refine U.mono fun e D ⟨z,y⟩=>?_
 subst z;exact⟨_,rfl,CO x M L R K P y V⟩
theorem VO{H:Type}{enc:TypeId×Value->H}{C:Checked}{os:Os}{f:FuncId}{fn:Func}{s:ChangeSpec}{X:World->Array Value->Prop}
 (o:∀(w w':World) (args:Array Value),w.heap=w'.heap->X w args->X w' args)
 (own:ownKnob C.prog.godebug=none) (Z:os.Started) (V:C.prog.inits.idxOf? f=none) (M:C.prog.funcs[f]? =some fn)
 (Y:∃(w:World) (tape:Tape) (i:Input),w.os=os/\(w.forCall tape i).Shaped C.prog/\i.vars=[]/\Input.okWide C.prog (w.forCall tape i) .any w.heap.size f i/\
   ((s.pre enc C.prog fn [] false (w.forCall tape i).memory i.args/\X (w.forCall tape i).memory i.args)/\sizedMet enc C.prog fn (OpenSpec.ofChange s) false (w.forCall tape i).memory i.args)/\({}:Assume).holds C.prog (lone (Frame.enter C.prog f i.args .normal) [] (w.forCall tape i)))
 (n:laidOutB C.prog=true) (L:(fn.params.toList.all fun t=>C.prog.readableRec t&&decide (t<C.prog.types.size))=true) (K:s.vars=[])
 (Q:fn.resultTypes= #[tb]) (G:C.prog.underlying tb=some .bool)
 (walk:∀(W:World) (base:Nat) (args:Array Value) (ds:List (DataW H)) (ps:List MemPlace),
   (∀(j:Nat) t v,fn.params[j]? =some t->args[j]? =some v->Value.okWide C.prog W .any base t v)->
   DataW.TrodAll enc C.prog W 0 (fun _=>true) true fn.params.toList args.toList ds ps->
   (DataW.weightsEach C.prog fn.params.toList ds).all (·<=reachBytes)=true->X W args->
   s.fn H ds={results:=[.lit (.bool true)],args:=ds}/\Calls C.prog f args W fun e B=>e=.returned (.bool true)/\Below W.heap.size W B):
 ReturnsInHanded {} C os f .any (fun w args=>(s.pre enc C.prog fn [] false w args/\X w args)/\sizedMet enc C.prog fn (OpenSpec.ofChange s) false w args) (s.post enc C.prog fn false true false false):=by
 refine returnsInHanded_of_change_and o own Z V M Y ?_;intro W base args ds F P S E _ R z _;have O:=E;obtain⟨p,q,y,D,_,_,_⟩:=E;have A:F=[]:=by
  rw[K]at D;cases F with
  |nil=>rfl
  |cons g r=>exact absurd D (by intro h;cases h)
 subst A;have N:s.plain.varTypes C.prog=[]:=by simp [DataSpec.varTypes,ChangeSpec.plain,K]
 rw[N,List.append_nil,List.append_nil]at R;obtain⟨U,T⟩:=walk W base args ds p S y R z;refine T.mono fun e B ⟨x,u⟩=>?_
 subst x;exact⟨_,rfl,CO n L K Q G O u U⟩
end
section
def cB(a k v:Int):Bool:=decide (1<=a/\a<=6/\0<=k/\k<=1000/\0<=v/\v<=4294967295)
def bV(n lo hi:Int):Bool:=decide (lo<=n/\n<=hi)
theorem bQ(n Z Y:Int)(w:World):Calls prog 55 #[n,Z,Y] w fun e w'=>e=.returned (bV n Z Y)/\w=w':=by
 go_enter func55,ntmps55
 go_wp2
 all_goals(go_ret;refine⟨dF ?_,rfl⟩;simp [bV];try omega)
theorem nG(a k v:Int)(w:World):Calls prog 74 #[.agg #[a,k,v]] w fun e w'=>e=.returned (cB a k v)/\Below w w w':=by
 go_enter func74,ntmps74
 go_wp2
 all_goals(go_ret;refine⟨dF ?_,by go_grown⟩;simp [cB];try omega)
theorem eK(a k v:Int)(w:World):Calls prog 20 #[.agg #[a,k,v]] w fun e w'=>e=.returned (cB a k v)/\Below w w w':=by
 go_enter func20,ntmps20
 go_wp2_with (go_at_call 55;refine(bQ _ _ _ _).mono ?_;rintro e w' ⟨rfl,rfl⟩)
 all_goals(go_ret;refine⟨dF ?_,by go_grown⟩;simp_all [cB,bV];try omega)
end
end Go.Proofs.YtplpimkgihnmhaaGreatDoor
namespace Go.Proofs.YtplpimkgihnmhaaGreatDoor.Pl
open Go.Proofs.Tryz Go.RowKit
variable{S:Nat->Prop}{w W0 w':World}{a a0:Act}{k n m id:Nat}{u vs:Nat->Value}{o:Oper}{P:Program}{r l:List Oper}{C p B:Prop}{z:Nat->Int}{A:Option Addr}{tb:TypeId}
section
def nof:List Nat->Nat
 |[]=>0
 |b::r=>b+2*nof r
def digs(w:Nat):List Nat:=(List.range 64).map fun i=>w/2^i%2
theorem digs_length(w:Nat):(digs w).length=64:=by simp [digs]
theorem digs_get(w i:Nat)(h:i<64):(digs w)[i]? =some (w/2^i%2):=by
 simp [digs,h]
theorem digs_bit(w:Nat):∀b∈digs w,b<2:=by
 intro b Z;simp only[digs,List.mem_map]at Z;obtain⟨i,_,rfl⟩:=Z;exact Nat.mod_lt _ aJ
theorem nof_lt(l:List Nat)(h:∀b∈l,b<2):nof l<2^l.length:=by
 induction l with
 |nil=>simp [nof]
 |cons b r ih=>
  have Y:=h b (by simp);have X:=ih (fun c Z=>h c (by simp [Z]));simp only[nof,List.length_cons,Nat.pow_succ];omega
theorem nof_testBit(l:List Nat)(h:∀b∈l,b<2)(i:Nat):(nof l).testBit i=decide (l[i]?.getD 0=1):=by
 induction l generalizing i with
 |nil=>simp [nof]
 |cons b r ih=>
  have X:=h b (by simp);have Z:=fun j=>ih (fun c Y=>h c (by simp [Y])) j
  cases i with
  |zero=>
   simp only[nof,Nat.testBit_zero,List.getElem?_cons_zero,Option.getD_some];congr 1;simp only[eq_iff_iff];omega
  |succ i=>
   have e:(b+2*nof r)/2=nof r:=I;simp only[nof,Nat.testBit_succ,e,List.getElem?_cons_succ];exact Z i
theorem testBit_div(w i:Nat):w.testBit i=decide (w/2^i%2=1):=Nat.testBit_eq_decide_div_mod_eq
theorem digs_getD(w i:Nat):(digs w)[i]?.getD 0=if i<64 then w/2^i%2 else 0:=by
 by_cases h:i<64
 .rw[digs_get w i h,iP h];rfl
 rw[iN h,List.getElem?_eq_none (by rw[digs_length];omega)];rfl
theorem testBit_high(w i:Nat)(Z:w<2^64)(Y:64<=i):w.testBit i=false:=
 Nat.testBit_lt_two_pow (Nat.lt_of_lt_of_le Z (Nat.pow_le_pow_right aJ Y))
theorem nof_digs(w:Nat)(Z:w<2^64):nof (digs w)=w:=by
 apply Nat.eq_of_testBit_eq;intro i;rw[nof_testBit _ (digs_bit w),digs_getD];by_cases h:i<64
 .rw[iP h,testBit_div]
 rw[iN h,testBit_high w i Z I];rfl
theorem mem_set_bit{l:List Nat}(h:∀b∈l,b<2){i v:Nat}(Y:v<2):∀b∈l.set i v,b<2:=by
 intro b Z;rcases List.mem_or_eq_of_mem_set Z with h1|h1
 .exact h b h1
 omega
theorem getD_set(l:List Nat)(i j v:Nat)(Z:i<l.length):(l.set i v)[j]?.getD 0=if i=j then v else l[j]?.getD 0:=by
 rw[List.getElem?_set];by_cases h:i=j
 .subst h;simp [Z]
 simp [h]
theorem nof_flip(w a:Nat)(Y:w<2^64)(X:a<64):nof ((digs w).set a (1-w/2^a%2))=w^^^2^a:=by
 apply Nat.eq_of_testBit_eq;intro i;rw[nof_testBit _ (mem_set_bit (digs_bit w) I),getD_set _ _ _ _ (by rw[digs_length];exact X),digs_getD,Nat.testBit_xor,Nat.testBit_two_pow];by_cases h:a=i
 .subst h;have W:w/2^a%2<2:=Nat.mod_lt _ aJ;rw[iP rfl,testBit_div];rcases(show w/2^a%2=0\/w/2^a%2=1 by omega)with e|e<;>simp [e]
 rw[iN h];by_cases Z:i<64
 .simp [Z,h,testBit_div]
 simp [Z,h,testBit_high w i Y I]
end
end Go.Proofs.YtplpimkgihnmhaaGreatDoor.Pl
namespace Go.Proofs.YtplpimkgihnmhaaGreatDoor
open Go.Proofs.Tryz Go.RowKit
variable{S:Nat->Prop}{w W0 w':World}{a a0:Act}{k n m id:Nat}{u vs:Nat->Value}{o:Oper}{P:Program}{r l:List Oper}{C p B:Prop}{z:Nat->Int}{A:Option Addr}{tb:TypeId}
section
open Go
structure aD (S:Nat->Prop) (w w':World):Prop where
 os:w'.os=w.os
 tape:w'.tape=w.tape
 output:w'.output=w.output
 size:w.heap.size<=w'.heap.size
 block:∀k,k<w.heap.size->¬S k->w'.heap[k]? =w.heap[k]?
def bN:Nat->Prop:=fun _=>False
theorem aD.refl(S:Nat->Prop)(w:World):aD S w w:=⟨rfl,rfl,rfl,Nat.le_refl _,fun _ _ _=>rfl⟩
theorem aD.trans{a b c:World}(h:aD S a b)(k:aD S b c):aD S a c:=
 ⟨k.os.trans h.os,k.tape.trans h.tape,k.output.trans h.output,Nat.le_trans h.size k.size,fun i Z Y=>(k.block i (Nat.lt_of_lt_of_le Z h.size) Y).trans (h.block i Z Y)⟩
theorem aD.mono{S':Nat->Prop}(h:aD S w w')(W:∀b,S b->S' b):aD S' w w':=⟨h.os,h.tape,h.output,h.size,fun k Z Y=>h.block k Z (fun X=>Y (W k X))⟩
theorem aD.of_below{B:Nat}(h:Below B w w'):aD (fun b=>B<=b) w w':=⟨h.os,h.tape,h.output,h.size,fun k _ Z=>h.block k I⟩
theorem aD.of_same(h:Below w w w'):aD S w w':=⟨h.os,h.tape,h.output,h.size,fun k Z _=>h.block k Z⟩
theorem aD.below{B:Nat}(h:aD S w w')(Y:B<=w)(X:∀b,b<B->¬S b):Below B w w':=⟨h.os,h.tape,h.output,h.size,fun k Z=>h.block k (Nat.lt_of_lt_of_le Z Y) (X k Z)⟩
theorem aD.cell(h:aD S w w'){p:Addr}(Z:p.block<w)(Y:¬S p.block):w'.cell? p=w.cell? p:=World.cell?_of_block (w:=w) (h.block p.block Z Y)
theorem aD.frozen(h:aD S w w'){p:Addr}(Z:p.block<w)(Y:¬S p.block):w'.frozen? p=w.frozen? p:=World.frozen?_of_block (w:=w) (h.block p.block Z Y)
theorem aD.drew(h:aD S w w'):aD S w w'.drew:=⟨h.os,h.tape,h.output,h.size,h.block⟩
theorem aD.drewN(h:aD S w w')(n:Nat):aD S w (w'.drewN n):=⟨h.os,h.tape,h.output,h.size,h.block⟩
theorem aD.alloc(h:aD S w w')(o:Obj):aD S w (w'.alloc o):=
 h.trans (aD.of_same ((Below.refl _ _).alloc (Nat.le_refl _) o))
theorem aD.setCell(h:aD S w w'){p:Addr}(hp:S p.block\/w<=p.block)(u:Value):aD S w (w'.setCell p u):=
 ⟨h.os,h.tape,h.output,by simpa using h.size,fun k Y Z=>(Below.heap_setCell w' p u k (fun e=>by
  rcases hp with hp|hp
  .exact Z (e▸hp)
  omega)).trans (h.block k Y Z)⟩
structure dO (a0:Act) (dst:Nat->Option Tmp) (L:Nat->Prop) (vs:Nat->Value) (a:Act):Prop where
 defers:a.defers=a0.defers
 size:a.tmps.size=a0.tmps.size
 hit:∀j t,L j->dst j=some t->t<a0.tmps.size->a.tmps[t]? =some (vs j)
 miss:∀t,(∀j,L j->dst j≠some t)->a.tmps[t]? =a0.tmps[t]?
section
variable{a0 a a':Act}{dst:Nat->Option Tmp}{L L':Nat->Prop}{vs vs':Nat->Value}
theorem dO.unique(h:dO a0 dst L vs a)(Y:dO a0 dst L vs a'):a=a':=by
 obtain⟨t,d⟩:=a;obtain⟨X,T⟩:=a';have V:d=T:=h.defers.trans Y.defers.symm;have U:t=X:=by
  apply Array.ext_getElem?;intro i;by_cases W:i<a0.tmps.size
  .by_cases hj:∃j,L j/\dst j=some i
   .obtain⟨j,Z,hdj⟩:=hj;exact(h.hit j i Z hdj W).trans (Y.hit j i Z hdj W).symm
   exact(h.miss i (fun j Z e=>hj ⟨j,Z,e⟩)).trans (Y.miss i (fun j Z e=>hj ⟨j,Z,e⟩)).symm
  have S:t.size=a0.tmps.size:=h.size;have R:X.size=a0.tmps.size:=Y.size;rw[Array.getElem?_eq_none I,Array.getElem?_eq_none I]
 rw[V,U]
theorem dO.start:dO a0 dst (fun _=>False) vs a0:=⟨rfl,rfl,fun _ _ h=>h.elim,fun _ _=>rfl⟩
theorem dO.put(h:dO a0 dst L vs a)(k:Nat)(S:∀j t,L j->dst j=some t->dst k≠some t)(v:Value)(R:vs' k=v)(W:∀j,L j->vs' j=vs j)(V:∀j,L' j↔j=k\/L j):
 dO a0 dst L' vs' (a.put (dst k) v):=by
 cases hk:dst k with
 |none=>
  refine⟨h.defers,h.size,fun j t X Z U=>?_,fun t T=>h.miss t fun j X=>T j ((V j).2 (.inr X))⟩;rcases(V j).1 X with rfl|hl'
  .rw[hk]at Z;cases Z
  .rw[W j hl'];exact h.hit j t hl' Z U
 |some d=>
  refine⟨h.defers,by simp [Act.put,h.size],fun j t X Z U=>?_,fun t T=>?_⟩
  .rcases(V j).1 X with rfl|hl'
   .rw[hk]at Z;cases Z;simp [Act.put,h.size,U,R]
   have Y:d≠t:=fun e=>S j t hl' Z (by rw[hk,e])
   simp only[Act.put,Array.getElem?_setIfInBounds_ne Y,W j hl'];exact h.hit j t hl' Z U
  .have Y:d≠t:=fun e=>T k ((V k).2 (.inl rfl)) (by rw[hk,e])
   simp only[Act.put,Array.getElem?_setIfInBounds_ne Y];exact h.miss t fun j X=>T j ((V j).2 (.inr X))
theorem dO.congr(h:dO a0 dst L vs a)(X:∀j,L' j↔L j)(W:∀j,L j->vs' j=vs j):dO a0 dst L' vs' a:=
 ⟨h.defers,h.size,fun j t Z Y V=>by rw[W j ((X j).1 Z)];exact h.hit j t ((X j).1 Z) Y V,fun t U=>h.miss t fun j Z=>U j ((X j).2 Z)⟩
end
section
variable{P:Program}{ops:Array Oper}
theorem MV(o:Oper)(W:∀cs b,o.op≠.select cs b){a':Act}(h:∀t∈o.looksAt ops,a.tmps[t]? =a'.tmps[t]?):
 execOp a.eval o=execOp a'.eval o/\Region.wanted o (yielded ops a.tmps)=Region.wanted o (yielded ops a'.tmps):=by
 constructor
 .refine execOp_congr o W fun x X=>?_
  cases x with
  |tmp t=>
   have:=h t (List.mem_append_left _ (List.mem_filterMap.2 ⟨.tmp t,by simpa using X,rfl⟩));simp [Act.eval,this]
  |_=>rfl
 unfold Region.wanted;cases hg:o.guard with
 |none=>rfl
 |some gw=>
  obtain⟨g,Z⟩:=gw;have Y:yielded ops a.tmps g=yielded ops a'.tmps g:=by
   unfold yielded;cases ht:(ops[g]?).bind (·.dst)with
   |none=>rfl
   |some t=>
    have:=h t (by simp [Oper.looksAt,hg,ht]);simp only[Option.bind_some,this]
  simp only[Y]
def PP(v0:Value)(F0:World->Prop)(v:Value)(w:World):Prop:=v=v0/\F0 w
def ZK(pv:Value->Prop)(F:Value->World->Prop)(v:Value)(w:World):Prop:=pv v/\F v w
def cX:(Nat->Value)->World->Prop:=fun _ _=>True
def ZF(T:Value->World->Prop)(e:Ending)(w:World):Prop:=∃v,e=.returned v/\T v w
def Bi(T:Value->World->Prop)(Z:Nat->Prop)(w:World)(v:Value)(w':World):Prop:=T v w'/\aD Z w w'
def jQ(P:Program)(T:Value->World->Prop):Result Next->Prop
 |.ok (.value u) w'=>T u w'
 |.ok .skip w'=>T undef w'
 |.ok (.enter f args) w'=>Calls P f args w' (ZF T)
 |_=>False
def eQ(P:Program)(o:Oper)(a:Act)(w:World)(T:Value->World->Prop):Prop:=jQ P T ((execOp a.eval o).run P w)
theorem BI{T:Value->World->Prop}{K:Act->World->Prop}{Q:Exit->Act->World->Prop}(h:eQ P o a w T)(Z:∀v w',T v w'->K (a.put o.dst v) w'):o.wp P a w K Q:=by
 unfold eQ at h;unfold Oper.wp;generalize(execOp a.eval o).run P w=r at*;cases r with
 |ok n w'=>
  cases n<;>simp only[jQ]at h<;>simp only[Oper.upon]
  case value u=>exact Z _ _ h
  case skip=>exact Z _ _ h
  case enter f args=>exact h.mono fun e Y ⟨v,X,W⟩=>by subst X;exact Z _ _ W
 |halt x w'=>simp only[jQ]at h
def oZ(ops:Array Oper)(k:Nat):List Nat:=match ops[k]? with|some o=>(o.after.toList.filter fun e=>Region.binds .any e).map (·.on)|none=>[]
def Ag(T:List Nat)(ds:List Nat):Nat:=ds.foldl (fun m d=>m|||(1<<<d)|||T.getD d 0) 0
def oB(ops:Array Oper):Nat->List Nat
 |0=>[]
 |k+1=>let T:=oB ops k
       T++[Ag T (oZ ops k)]
def vK(T:List Nat)(k j:Nat):Bool:=(T.getD k 0).testBit j
def Gd(ops:Array Oper)(k j:Nat):Prop:=∀L:Nat->Prop,(∀i,L i->∀d∈oZ ops i,L d)->(∀d∈oZ ops k,L d)->L j
theorem tF(T:List Nat)(j:Nat):∀(ds:List Nat) (m:Nat),(ds.foldl (fun m d=>m|||(1<<<d)|||T.getD d 0) m).testBit j=true->m.testBit j=true\/∃d∈ds,j=d\/(T.getD d 0).testBit j=true
 |[],m,h=>.inl h
 |d::r,m,h=>by
  simp only[List.foldl_cons]at h;rcases tF T j r _ h with h|⟨d',hd,h⟩
  .rw[Nat.testBit_or,Nat.testBit_or]at h;simp only[Bool.or_eq_true]at h;rcases h with(h|h)|h
   .exact .inl h
   .refine .inr ⟨d,by simp,.inl ?_⟩;rw[Nat.one_shiftLeft,Nat.testBit_two_pow]at h;have:=of_decide_eq_true h;omega
   exact .inr ⟨d,by simp,.inr h⟩
  .exact .inr ⟨d',by simp [hd],h⟩
theorem jY(ops:Array Oper):∀n,(oB ops n).length=n
 |0=>rfl
 |n+1=>by simp [oB,jY ops n]
theorem zJ(ops:Array Oper):∀n k j,vK (oB ops n) k j=true->Gd ops k j
 |0,k,j,h=>by simp [vK,oB]at h
 |n+1,k,j,h=>by
  have ih:=zJ ops n;unfold vK at h;simp only[oB]at h;rcases Nat.lt_trichotomy k n with hk|hk|hk
  .refine ih k j ?_;unfold vK;rw[List.getD_eq_getElem?_getD,List.getElem?_append_left (by rw[jY];exact hk),<-List.getD_eq_getElem?_getD]at h;exact h
  .subst hk;rw[List.getD_eq_getElem?_getD,List.getElem?_append_right (by rw[jY];omega),jY,Nat.sub_self]at h;simp only[List.getElem?_cons_zero,Option.getD_some]at h;rcases tF _ _ _ _ h with h|⟨d,Z,h⟩
   .simp at h
   intro L Y hk;rcases h with rfl|h
   .exact hk _ Z
   exact ih d j h L Y (Y d (hk d Z))
  .rw[List.getD_eq_getElem?_getD,List.getElem?_eq_none (by simp [jY];omega)]at h;simp at h
def eZ(ops:Array Oper)(j:Nat):Option Tmp:=(ops[j]?).bind (·.dst)
def Rely.okB(ops:Array Oper)(m:Nat):Bool:=
 let T:=oB ops ops.size
 Region.noSelect ops&&decide (m<=ops.size)&&
 ((List.range ops.size).all fun k=>(oZ ops k).all fun d=>decide (d<k))&&
 ((List.range ops.size).all fun k=>decide (k<m)||(List.range k).all fun j=>vK T k j)&&
 ((List.range m).all fun k=>(List.range m).all fun j=>j==k||match eZ ops j with
   |none=>true
   |some t=>(eZ ops k !=some t)&&(match ops[k]? with|some o=> !(o.looksAt ops).contains t||vK T k j|none=>true))
structure Rely.Ok (ops:Array Oper) (m:Nat) (anc:Nat->Nat->Bool):Prop where
 nosel:Region.noSelect ops=true
 le:m<=ops.size
 deps:∀k,k<ops.size->∀d∈oZ ops k,d<k
 sound:∀k j,anc k j=true->Gd ops k j
 tail:∀k,m<=k->k<ops.size->∀j,j<k->anc k j=true
 dist:∀k j t,k<m->j<m->j≠k->eZ ops j=some t->eZ ops k≠some t
 looks:∀k j t o,k<m->j<m->j≠k->eZ ops j=some t->ops[k]? =some o->t∈o.looksAt ops->anc k j=true
theorem Rely.ok(h:Rely.okB ops m=true):Rely.Ok ops m (vK (oB ops ops.size)):=by
 simp only[Rely.okB,Bool.and_eq_true,List.all_eq_true,List.mem_range,decide_eq_true_eq,Bool.or_eq_true,beq_iff_eq]at h;obtain⟨⟨⟨⟨T,S⟩,R⟩,Q⟩,U⟩:=h;refine⟨T,S,R,fun k j=>zJ ops _ k j,fun k X W j Y=>?_,fun k j t X Y Z V=>?_,fun k j t o X Y Z V P O=>?_⟩
 .rcases Q k W with h|h
  .omega
  exact h j Y
 .have:=(U k X j Y).resolve_left Z;simp only[V,Bool.and_eq_true,bne_iff_ne,ne_eq]at this;exact this.1
 have:=(U k X j Y).resolve_left Z;simp only[V,Bool.and_eq_true,P,Bool.or_eq_true,Bool.not_eq_true',List.contains_eq_mem,decide_eq_false_iff_not]at this;exact this.2.resolve_left (fun h=>h O)
def QZ(n k:Nat)(listed:Array Bool):Prop:=listed.size=n/\∀j,j<n->listed.getD j true=decide (j<k)
theorem QZ.next{Z:Array Bool}(h:QZ n k Z)(X:k<n):QZ n (k+1) (Z.setIfInBounds k true):=by
 refine⟨by simp [h.1],fun j Y=>?_⟩;by_cases e:k=j
 .subst e;simp [h.1,X]
 rw[getD_set_ne true e,h.2 j Y];simp only[decide_eq_decide];omega
theorem mZ{Z:Array Bool}{j:Nat}(h:j<Z.size):Z.getD j false=Z.getD j true:=by simp [h]
theorem mP{Z:Array Bool}:k∈Region.ready .any ops Z↔Z.getD k true=false/\k<ops.size/\∀d∈oZ ops k,Z.getD d false=true:=by
 rw[mem_ready];constructor
 .rintro⟨V,o,ho,h⟩;refine⟨V,(Array.getElem?_eq_some_iff.1 ho).1,fun d U=>?_⟩;simp only[oZ,ho,List.mem_map,List.mem_filter,Array.mem_toList_iff]at U;obtain⟨e,⟨X,W⟩,rfl⟩:=U;exact h e X W
 rintro⟨V,Y,h⟩;refine⟨V,ops[k],Array.getElem?_eq_getElem Y,fun e X W=>h e.on ?_⟩;simp only[oZ,Array.getElem?_eq_getElem Y,List.mem_map,List.mem_filter,Array.mem_toList_iff];exact⟨e,⟨X,W⟩,rfl⟩
theorem rM{m:Nat}{S:Nat->Nat->Bool}{Q:Exit->Act->World->Prop}(ok:Rely.Ok ops m S):∀(f k:Nat) (listed:Array Bool) (a:Act) (w:World),m<=k->k+f=ops.size->QZ ops.size k listed->
 wpOps P ops Q (List.range' k f) a w->wpAny P .any ops Q f listed a w
 |0,k,listed,a,w,hm,hk,hu,h=>by
  refine⟨?_,by simpa [wpOps]using h⟩;rw[List.eq_nil_iff_forall_not_mem];intro i hi;obtain⟨h0,hlt,_⟩:=mP.1 hi;rw[hu.2 i hlt]at h0;have:=of_decide_eq_false h0;omega
 |f+1,k,listed,a,w,hm,hk,hu,h=>by
  have Y:k<ops.size:=I;have Z:k∈Region.ready .any ops listed:=by
   refine mP.2 ⟨by rw[hu.2 k Y];simp,Y,fun d W=>?_⟩;have V:=ok.deps k Y d W;rw[mZ (by rw[hu.1];omega),hu.2 d I];simpa using V
  refine⟨fun h0=>(by rw[h0]at Z;cases Z),fun i hi=>?_⟩;have U:i=k:=by
   obtain⟨h0,hlt,W⟩:=mP.1 hi;rw[hu.2 i hlt]at h0;have R:k<=i:=by have:=of_decide_eq_false h0;omega
   rcases Nat.lt_or_ge k i with hki|hki
   .have:=ok.sound i k (ok.tail i I hlt k hki) (fun j=>listed.getD j false=true) (fun q T d W=>by
     have X:q<ops.size:=by
      rcases Nat.lt_or_ge q ops.size with h|h
      .exact h
      simp [Array.getElem?_eq_none (show listed.size<=q by rw[hu.1];exact h)]at T
     rw[mZ (by rw[hu.1];exact X),hu.2 q X]at T;have O:=ok.deps q X d W;have:=of_decide_eq_true T;rw[mZ (by rw[hu.1];omega),hu.2 d I];simp;omega) W
    rw[mZ (by rw[hu.1];omega),hu.2 k Y]at this;simp at this
   omega
  subst U;rw[List.range'_succ,wpOps_cons]at h;exact wpOp_mono (fun N M L=>rM ok f (i+1) _ N M I I (hu.next Y) L) h
structure nU where
 pv:Value->Prop
 f:(Nat->Value)->Value->World->Prop
def cV(anc:Nat->Nat->Bool)(k:Nat)(vs:Nat->Value):Nat->Value:=fun i=>if anc k i=true then vs i else undef
theorem jK{Z:Nat->Nat->Bool}{Y:Nat->Value}(h:∀i,Z k i=true->vs i=Y i):cV Z k vs=cV Z k Y:=by
 funext i
 unfold cV;by_cases e:Z k i=true
 .rw[iP e,iP e,h i e]
 rw[iN e,iN e]
theorem Rely.Ok.lt{Z:Nat->Nat->Bool}(ok:Rely.Ok ops m Z){q:Nat}(V:k<ops.size)(h:Z k q=true):q<k:=
 ok.sound k q h (fun i=>i<k) (fun i W d Y=>by have X:i<k:=W;have:=ok.deps i I d Y;show d<k;omega) (fun d Y=>ok.deps k V d Y)
def iY(W0:World)(S:Nat->Prop)(calm:Bool)(Φ:World->Prop)(w:World):Prop:=∃w0,aD S W0 w0/\aD (fun b=>calm=false/\S b) w0 w/\Φ w0
theorem iY.weak{c c':Bool}{Φ:World->Prop}(h:iY W0 S c Φ w)(T:c'=true->c=true):iY W0 S c' Φ w:=by
 obtain⟨Y,X,W,V⟩:=h;refine⟨Y,X,W.mono fun b ⟨Z,U⟩=>⟨?_,U⟩,V⟩;cases c' with
 |false=>rfl
 |true=>rw[T rfl]at Z;cases Z
def BR(wl:List Nat)(anc:Nat->Nat->Bool)(k j:Nat):Bool:=wl.all fun i=>i==k||i==j||anc i k||anc j i
def sM(wl:List Nat)(anc:Nat->Nat->Bool)(k:Nat):Bool:=wl.all fun i=>i==k||anc i k
def lO(wl:List Nat)(anc:Nat->Nat->Bool)(j:Nat):Bool:=wl.all fun i=>i==j||anc j i
def oP(P:Program)(ops:Array Oper)(W0:World)(S:Nat->Prop)(wl:List Nat)(anc:Nat->Nat->Bool)(a0:Act)(spec:Nat->nU)(k:Nat):Prop:=
 (∃v,(spec k).pv v)/\∀o,ops[k]? =some o->∀vs:Nat->Value,(∀j,j<k->(spec j).pv (vs j))->∀a',dO a0 (eZ ops) (fun j=>j<k) vs a'->
   (Region.wanted o (yielded ops a'.tmps)=true/\∀w,aD S W0 w->aD (fun b=>sM wl anc k=false/\S b) W0 w->(∀j,j<k->anc k j=true->iY W0 S (BR wl anc k j) ((spec j).f (cV anc j vs) (vs j)) w)->
     eQ P o a' w fun v w'=>(spec k).pv v/\(spec k).f (cV anc k vs) v w'/\aD (fun b=>wl.contains k=true/\S b) w w')\/
   (Region.wanted o (yielded ops a'.tmps)=false/\(spec k).pv undef/\∀w,(spec k).f (cV anc k vs) undef w)
structure Fi (ops:Array Oper) (m:Nat) (W0:World) (S:Nat->Prop) (wl:List Nat) (anc:Nat->Nat->Bool) (a0:Act) (spec:Nat->nU) (listed:Array Bool) (vs:Nat->Value) (a:Act) (w:World):Prop where
 size:listed.size=ops.size
 pv:∀j,j<m->(spec j).pv (vs j)
 filled:dO a0 (eZ ops) (fun j=>j<m/\listed.getD j false=true) vs a
 kept:aD S W0 w
 start:aD (fun b=>(wl.all fun i=> !listed.getD i false)=false/\S b) W0 w
 high:∀j,m<=j->listed.getD j false=false
 closed:∀i,listed.getD i false=true->∀d∈oZ ops i,listed.getD d false=true
 facts:∀j,j<m->listed.getD j false=true->iY W0 S (wl.all fun i=>i==j||anc j i|| !listed.getD i false) ((spec j).f (cV anc j vs) (vs j)) w
def cnt(n:Nat)(listed:Array Bool):Nat:=((List.range n).filter fun j=> !listed.getD j true).length
theorem uX{p q:Nat->Bool}{i:Nat}:∀(l:List Nat),l.Nodup->i∈l->p i=true->q i=false->(∀j,j≠i->q j=p j)->(l.filter p).length=(l.filter q).length+1
 |[],_,h,_,_,_=>by cases h
 |x::r,hn,hi,hp,hq,hpq=>by
  rw[List.nodup_cons]at hn;by_cases e:x=i
  .subst e;have:r.filter q=r.filter p:=List.filter_congr fun j Y=>hpq j (fun e=>hn.1 (e▸Y))
   simp [hp,hq,this]
  .have hir:i∈r:=by simpa [Ne.symm e]using hi
   have Z:=uX r hn.2 hir hp hq hpq;simp only[List.filter_cons,hpq x e];split
   .simp [Z]
   exact Z
theorem WA{i:Nat}{Z:Array Bool}(W:Z.size=n)(Y:i<n)(V:Z.getD i true=false):cnt n Z=cnt n (Z.setIfInBounds i true)+1:=by
 unfold cnt;refine uX (i:=i) _ List.nodup_range (by simpa using Y) (by simp [V]) (by simp [W,Y]) (fun j X=>?_);rw[getD_set_ne true (Ne.symm X)]
theorem Fi.done{T:List Nat}{V:Nat->Nat->Bool}{W:Nat->nU}{Z:Array Bool}(h:Fi ops m W0 S T V a0 W Z vs a w)
 (Y:∀j,j<m->Z.getD j false=true):QZ ops.size m Z/\dO a0 (eZ ops) (fun j=>j<m) vs a/\∀j,j<m->iY W0 S (lO T V j) ((W j).f (cV V j vs) (vs j)) w:=by
 refine⟨⟨h.size,fun j X=>?_⟩,h.filled.congr (fun j=>⟨fun X=>⟨X,Y j X⟩,fun X=>X.1⟩) (fun _ _=>rfl),fun j X=>(h.facts j X (Y j X)).weak fun U=>?_⟩
 .rw[<-mZ (by rw[h.size];exact X)];rcases Nat.lt_or_ge j m with hjm|hjm
  .rw[Y j hjm];simp [hjm]
  rw[h.high j hjm];simp;omega
 unfold lO at U;rw[List.all_eq_true]at U⊢;intro i R;have:=U i R;simp only[Bool.or_eq_true]at this⊢;exact .inl this
theorem zK{K:List Nat}{anc:Nat->Nat->Bool}{X:Nat->nU}{Q:Exit->Act->World->Prop}(ok:Rely.Ok ops m anc)
 (zg:∀k,k<m->oP P ops W0 S K anc a0 X k)
 (c:∀vs:Nat->Value,(∀j,j<m->(X j).pv (vs j))->∀a w,dO a0 (eZ ops) (fun j=>j<m) vs a->aD S W0 w->(∀j,j<m->iY W0 S (lO K anc j) ((X j).f (cV anc j vs) (vs j)) w)->wpOps P ops Q (List.range' m (ops.size-m)) a w):
 ∀(f:Nat) (listed:Array Bool) (vs:Nat->Value) (a:Act) (w:World),cnt ops.size listed=f->Fi ops m W0 S K anc a0 X listed vs a w->wpAny P .any ops Q f listed a w:=by
 intro f
 induction f with
 |zero=>
  intro listed vs a w s Z;have p:∀j,j<ops.size->listed.getD j false=true:=fun j Y=>by
   unfold cnt at s;rw[List.length_eq_zero_iff,List.filter_eq_nil_iff]at s;have:=s j (by simpa using Y);rw[mZ (by rw[Z.size];exact Y)];simpa using this
  have zu:m=ops.size:=by
   rcases Nat.lt_or_ge m ops.size with h|h
   .have O:=Z.high m (Nat.le_refl _);rw[p m h]at O;cases O
   have:=ok.le;omega
  obtain⟨hu,hf,R⟩:=Z.done (fun j Y=>p j I);have:=c vs Z.pv a w hf Z.kept R;exact rM ok 0 m listed a w (Nat.le_refl _) I hu (by rw[zu,Nat.sub_self]at this;exact this)
 |succ f ih=>
  intro listed vs a w s Z;by_cases A:∀j,j<m->listed.getD j false=true
  .obtain⟨hu,hf,R⟩:=Z.done A;have zn:cnt ops.size listed=ops.size-m:=by
    unfold cnt;have e:(List.range ops.size).filter (fun j=> !listed.getD j true)=(List.range ops.size).filter (fun j=>decide (m<=j)):=List.filter_congr fun j Y=>by
     rw[hu.2 j (by simpa using Y)];rw[Bool.eq_iff_iff];simp
    rw[e];have key:∀n,m<=n->((List.range n).filter (fun j=>decide (m<=j))).length=n-m:=by
     intro n
     induction n with
     |zero=>intro h;simp
     |succ n ihn=>
      intro h;rw[List.range_succ,List.filter_append,List.length_append];rcases Nat.lt_or_ge n m with h'|h'
      .have:m=n+1:=I;subst this;rw[List.filter_eq_nil_iff.2 (by intro x W;simp at W⊢;omega)];simp
      .rw[ihn h'];simp [h'];omega
    exact key _ ok.le
   rw[<-s,zn];exact rM ok _ m listed a w (Nat.le_refl _) (by have:=ok.le;omega) hu (c vs Z.pv a w hf Z.kept R)
  .have z:∃k,k<m/\listed.getD k false=false/\∀j,j<k->listed.getD j false=true:=by
    have key:∀n,n<=m->(∀j,j<n->listed.getD j false=true)\/∃k,k<m/\listed.getD k false=false/\∀j,j<k->listed.getD j false=true:=by
     intro n
     induction n with
     |zero=>intro _;exact .inl fun j Y=>absurd Y I
     |succ n ihn=>
      intro hn;rcases ihn I with h|h
      .by_cases W:listed.getD n false=true
       .refine .inl fun j Y=>?_
        rcases Nat.lt_or_ge j n with h'|h'
        .exact h j h'
        rw[show j=n by omega];exact W
       exact .inr ⟨n,I,by simpa using W,h⟩
      .exact .inr h
    rcases key m (Nat.le_refl _)with h|h
    .exact absurd h A
    exact h
   obtain⟨k0,ze,l,zp⟩:=z;have zu:=ok.le;have M:k0∈Region.ready .any ops listed:=mP.2 ⟨by rw[<-mZ (by rw[Z.size];omega)];exact l,I,fun d F=>zp d (ok.deps k0 I d F)⟩;refine⟨fun h0=>(by rw[h0]at M;cases M),fun k hk=>?_⟩;obtain⟨g,H,zo⟩:=mP.1 hk;have U:listed.getD k false=false:=by rw[mZ (by rw[Z.size];exact H)];exact g
   have L:∀j,anc k j=true->listed.getD j false=true:=fun j Y=>ok.sound k j Y (fun i=>listed.getD i false=true) Z.closed zo
   have zt:∀i,listed.getD i false=true->anc i k=true->False:=fun i N zl=>by
    have:=ok.sound i k zl (fun i=>listed.getD i false=true) Z.closed (Z.closed i N);rw[U]at this;cases this
   have zz:k<m:=by
    rcases Nat.lt_or_ge k m with h|h
    .exact h
    have:=L k0 (ok.tail k h H k0 I);rw[l]at this;cases this
   obtain⟨o,ho⟩:∃o,ops[k]? =some o:=⟨ops[k],Array.getElem?_eq_getElem H⟩;have zm:eZ ops k=o.dst:=by simp [eZ,ho]
   have zs:∀n,n<=m->∃a',dO a0 (eZ ops) (fun j=>j<n) vs a':=by
    intro n
    induction n with
    |zero=>intro _;exact⟨a0,(dO.start (vs:=vs)).congr (fun j=>by simp) (fun _ h=>h.elim)⟩
    |succ n ihn=>
     intro hn;obtain⟨a',G⟩:=ihn I;exact⟨_,G.put n (fun j t Y F=>ok.dist n j t I I I F) (vs n) rfl (fun _ _=>rfl) (fun j=>by omega)⟩
   obtain⟨a',G⟩:=zs k I;have E:=MV (ops:=ops) o (fun cs b=>Region.noSelect_spec ok.nosel k o cs b ho) (a:=a') (a':=a) (fun t ht=>by
    by_cases z:∃j,j<m/\eZ ops j=some t/\(j<k\/listed.getD j false=true)
    .obtain⟨j,hjm,hdj,Y⟩:=z;have y:j≠k:=by
      rintro rfl;rcases Y with h|h
      .omega
      rw[U]at h;cases h
     have u:=ok.looks k j t o zz hjm y hdj ho ht;have zy:=L j u;by_cases r:t<a0.tmps.size
     .rw[Z.filled.hit j t ⟨hjm,zy⟩ hdj r];have zr:j<k:=by
       rcases Nat.lt_or_ge j k with h|h
       .exact h
       exfalso;have:∀q,anc k q=true->q<k:=fun q hq=>ok.sound k q hq (fun i=>i<k) (fun i N d F=>by have zf:i<k:=N;have:=ok.deps i I d F;show d<k;omega) (fun d F=>ok.deps k H d F)
       have:=this j u;omega
      exact G.hit j t zr hdj r
     rw[Array.getElem?_eq_none (show a'.tmps.size<=t by rw[G.size];exact Nat.le_of_not_lt r),Array.getElem?_eq_none (show a.tmps.size<=t by rw[Z.filled.size];exact Nat.le_of_not_lt r)]
    rw[G.miss t (fun j Y e=>z ⟨j,I,e,.inl Y⟩),Z.filled.miss t (fun j Y e=>z ⟨j,Y.1,e,.inr Y.2⟩)])
   obtain⟨⟨v1,zd⟩,zv⟩:=zg k zz;have hs:=zv o ho vs (fun j Y=>Z.pv j I) a' G;rw[E.2]at hs;have D:∀v B,(X k).pv v->(X k).f (cV anc k vs) v B->aD (fun b=>K.contains k=true/\S b) w B->wpAny P .any ops Q f (listed.setIfInBounds k true) (a.put o.dst v) B:=by
    intro v B zk zj V;have T:∀j,(listed.setIfInBounds k true).getD j false=true↔j=k\/listed.getD j false=true:=by
     intro j;by_cases e:k=j
     .subst e;simp [Z.size,H]
     rw[getD_set_ne false e];exact⟨.inr,fun h=>h.resolve_left (Ne.symm e)⟩
    have C:aD (fun b=>(K.all fun i=> !(listed.setIfInBounds k true).getD i false)=false/\S b) W0 B:=by
     cases W:(K.all fun i=> !(listed.setIfInBounds k true).getD i false)with
     |false=>exact Z.kept.trans (V.mono fun b h=>h.2)|>.mono fun b h=>⟨rfl,h⟩
     |true=>
      rw[List.all_eq_true]at W;have O:(K.all fun i=> !listed.getD i false)=true:=by
       rw[List.all_eq_true];intro i N;have:=W i N;cases hy:listed.getD i false with
       |false=>rfl
       |true=>rw[(T i).2 (.inr hy)]at this;cases this
      refine(Z.start.mono fun b h=>?_).trans (V.mono fun b h=>?_)
      .have h2:=h.1;rw[O]at h2;cases h2
      .have:=W k (by simpa using h.1);rw[(T k).2 (.inl rfl)]at this;cases this
    refine ih _ (fun j=>if j=k then v else vs j) _ _ ?_ ⟨by simp [Z.size],fun j Y=>?_,?_,Z.kept.trans (V.mono fun b h=>h.2),C,fun j Y=>?_,fun i N d F=>?_,fun j Y zy=>?_⟩
    .have:=WA Z.size H g;omega
    .by_cases e:j=k
     .subst e;simpa using zk
     simpa [e]using Z.pv j Y
    .rw[<-zm];refine Z.filled.put k (fun j t Y F=>ok.dist k j t zz Y.1 (fun e=>by rw[e,U]at Y;cases Y.2) F) v (by simp) (fun j Y=>?_) (fun j=>?_)
     .have:j≠k:=fun e=>by rw[e,U]at Y;cases Y.2
      simp [this]
     rw[T];constructor
     .rintro⟨O,h2|h2⟩
      .exact .inl h2
      exact .inr ⟨O,h2⟩
     rintro(h|h)
     .exact⟨I,.inl h⟩
     exact⟨h.1,.inr h.2⟩
    .cases W:(listed.setIfInBounds k true).getD j false with
     |false=>rfl
     |true=>
      rcases(T j).1 W with h|h
      .omega
      .rw[Z.high j Y]at h;cases h
    .rw[T];rcases(T i).1 N with rfl|h
     .exact .inr (zo d F)
     exact .inr (Z.closed i h d F)
    rcases(T j).1 zy with rfl|hjl'
    .rw[iP rfl,show cV anc j (fun i=>if i=j then v else vs i)=cV anc j vs from jK (fun i N=>by
      have O:=L i N;have:i≠j:=fun e=>by rw[e,U]at O;cases O
      simp [this])]
     exact⟨B,Z.kept.trans (V.mono fun b h=>h.2),aD.refl _ _,zj⟩
    have y:j≠k:=fun e=>by rw[e,U]at hjl';cases hjl'
    rw[show cV anc j (fun i=>if i=k then v else vs i)=cV anc j vs from jK (fun i N=>by
     have O:=ok.sound j i N (fun i=>listed.getD i false=true) Z.closed (Z.closed j hjl');have:i≠k:=fun e=>by
      have O:listed.getD i false=true:=O;rw[e,U]at O;cases O
     simp [this])]
    simp only[y,if_false];obtain⟨w0,q0,q1,hF⟩:=Z.facts j Y hjl';refine⟨w0,q0,?_,hF⟩;have zq:anc j k=true->False:=fun h=>by
     have:=ok.sound j k h (fun i=>listed.getD i false=true) Z.closed (Z.closed j hjl');rw[U]at this;cases this
    have zx:(K.all fun i=>i==j||anc j i|| !(listed.setIfInBounds k true).getD i false)=true->(K.all fun i=>i==j||anc j i|| !listed.getD i false)=true:=fun h=>by
     rw[List.all_eq_true]at h⊢;intro i N;have:=h i N;simp only[Bool.or_eq_true,Bool.not_eq_true']at this⊢;rcases this with h|h
     .exact .inl h
     right;cases W:listed.getD i false with
     |false=>rfl
     |true=>rw[(T i).2 (.inr W)]at h;cases h
    refine aD.trans (b:=w) (q1.mono fun b h=>⟨?_,h.2⟩) (V.mono fun b h=>⟨?_,h.2⟩)
    .have h:=h.1;cases W:(K.all fun i=>i==j||anc j i|| !(listed.setIfInBounds k true).getD i false)with
     |false=>rfl
     |true=>rw[zx W]at h;cases h
    cases W:(K.all fun i=>i==j||anc j i|| !(listed.setIfInBounds k true).getD i false)with
    |false=>rfl
    |true=>
     rw[List.all_eq_true]at W;have:=W k (by simpa using h.1);rw[(T k).2 (.inl rfl)]at this;simp only[Bool.or_eq_true,beq_iff_eq,Bool.not_true,Bool.false_eq_true,or_false]at this;rcases this with h|h
     .exact absurd h.symm y
     .exact(zq h).elim
   unfold wpOp;simp only[ho];rcases hs with⟨hw,hrel⟩|⟨hw,zi,zh⟩
   .rw[iP hw];have zw:eQ P o a w fun v B=>(X k).pv v/\(X k).f (cV anc k vs) v B/\aD (fun b=>K.contains k=true/\S b) w B:=?_
    .exact .inl (BI zw (fun v B h=>D v B h.1 h.2.1 h.2.2))
    have:=hrel w Z.kept (Z.start.mono fun b h=>⟨?_,h.2⟩) (fun j Y u=>(Z.facts j I (L j u)).weak fun s=>?_)
    .unfold eQ at this⊢;rw[E.1]at this;exact this
    .cases W:sM K anc k with
     |false=>rfl
     |true=>
      have O:=h.1;have:(K.all fun i=> !listed.getD i false)=true:=by
       unfold sM at W;rw[List.all_eq_true]at W⊢;intro i N;have:=W i N;simp only[Bool.or_eq_true,beq_iff_eq]at this;rcases this with e|e
       .rw[e,U];rfl
       cases hy:listed.getD i false with
       |false=>rfl
       |true=>exact(zt i hy e).elim
      rw[this]at O;cases O
    unfold BR at s;rw[List.all_eq_true]at s⊢;intro i N;have:=s i N;simp only[Bool.or_eq_true,beq_iff_eq,Bool.not_eq_true']at this⊢;rcases this with((h|h)|h)|h
    .right;rw[h];exact U
    .exact .inl (.inl h)
    .right;cases W:listed.getD i false with
     |false=>rfl
     |true=>exact(zt i W h).elim
    exact .inl (.inr h)
   rw[iN (by rw[hw];simp)];exact D undef w zi (zh w) (aD.refl _ _)
structure zX where
 k:Nat
 dst:Option Tmp
 pv:Value->Prop
 f:Value->World->Prop
abbrev fS:=Nat×((Nat->Value)->World->Prop)
def bM:List zX->List fS->Act->(Nat->Value)->(List fS->Act->(Nat->Value)->Prop)->Prop
 |[],H,a,u,K=>K H a u
 |e::r,H,a,u,K=>∀v,e.pv v->bM r ((e.k,fun _=>e.f v)::H) (a.put e.dst v) (fun i=>if i=e.k then v else u i) K
def BX(W0:World)(S:Nat->Prop)(see calm:Nat->Bool)(anc:Nat->Nat->Bool)(u:Nat->Value):List fS->World->Prop
 |[],_=>True
 |x::r,w=>(see x.1=true->iY W0 S (calm x.1) (x.2 (cV anc x.1 u)) w)/\BX W0 S see calm anc u r w
def bJ(P:Program)(ops:Array Oper)(W0:World)(S:Nat->Prop)(wl:List Nat)(anc:Nat->Nat->Bool)(k:Nat)(o:Oper)(E:List zX)(H:List fS)(a:Act)(u:Nat->Value)(T:(Nat->Value)->Value->World->Prop):Prop:=
 bM E H a u fun H' a' u'=>Region.wanted o (yielded ops a'.tmps)=true/\∀w,aD S W0 w->(aD (fun b=>sM wl anc k=false/\S b) W0 w/\BX W0 S (anc k) (BR wl anc k) anc u' H' w)->eQ P o a' w (Bi (T (cV anc k u')) (fun b=>wl.contains k=true/\S b) w)
def eR(P:Program)(ops:Array Oper)(W0:World)(S:Nat->Prop)(wl:List Nat)(anc:Nat->Nat->Bool)(Q:Act->World->Prop):List Oper->Nat->List zX->List fS->Act->(Nat->Value)->Prop
 |[],_,E,H,a,u=>bM E H a u fun H' a' u'=>∀w,aD S W0 w->BX W0 S (fun _=>true) (lO wl anc) anc u' H' w->Q a' w
 |o::r,k,E,H,a,u=>
  (∃(v0:Value) (F0:(Nat->Value)->World->Prop),bJ P ops W0 S wl anc k o E H a u (fun u'=>PP v0 (F0 u'))/\eR P ops W0 S wl anc Q r (k+1) E ((k,F0)::H) (a.put o.dst v0) (fun i=>if i=k then v0 else u i))\/
  (bM E H a u (fun _ a' _=>Region.wanted o (yielded ops a'.tmps)=false)/\eR P ops W0 S wl anc Q r (k+1) E H (a.put o.dst undef) (fun i=>if i=k then undef else u i))\/
  (∃(pv:Value->Prop) (F:Value->World->Prop),(∃v,pv v)/\bJ P ops W0 S wl anc k o E H a u (fun _=>ZK pv F)/\eR P ops W0 S wl anc Q r (k+1) (⟨k,o.dst,pv,F⟩::E) H a u)
theorem vS{W0:World}{S:Nat->Prop}{see calm:Nat->Bool}{anc:Nat->Nat->Bool}{u:Nat->Value}{w:World}:∀(H:List fS),(∀x∈H,see x.1=true->iY W0 S (calm x.1) (x.2 (cV anc x.1 u)) w)->BX W0 S see calm anc u H w
 |[],_=>trivial
 |x::r,h=>⟨h x (by simp),vS r fun y hy=>h y (by simp [hy])⟩
theorem iY.imp{c:Bool}{Φ Φ':World->Prop}(h:iY W0 S c Φ w)(V:∀w,Φ w->Φ' w):iY W0 S c Φ' w:=by
 obtain⟨Z,Y,X,W⟩:=h;exact⟨Z,Y,X,V _ W⟩
theorem zO{m:Nat}{U:Nat->Nat->Bool}(ok:Rely.Ok ops m U){a0:Act}{vs:Nat->Value}{K:List fS->Act->(Nat->Value)->Prop}:∀(E:List zX) (H:List fS) (a:Act) (u:Nat->Value) (L:Nat->Prop),
 (∀e∈E,e.k<m/\e.dst=eZ ops e.k/\e.pv (vs e.k)/\¬L e.k)->(E.map (·.k)).Nodup->(∀j,L j->j<m)->dO a0 (eZ ops) L vs a->(∀j,L j->u j=vs j)->bM E H a u K->
 ∃Y a' X,K Y a' X/\dO a0 (eZ ops) (fun j=>L j\/∃e∈E,e.k=j) vs a'/\(∀j,(L j\/∃e∈E,e.k=j)->X j=vs j)/\∀x∈Y,x∈H\/∃e∈E,x=(e.k,fun _=>e.f (vs e.k))
 |[],H,a,u,L,_,_,_,hf,hu,h=>⟨H,a,u,h,hf.congr (fun j=>by simp) (fun _ _=>rfl),fun j hj=>by simp at hj;exact hu j hj,fun x hx=>.inl hx⟩
 |e::r,H,a,u,L,hE,hn,hL,hf,hu,h=>by
  obtain⟨h1,h2,h3,h4⟩:=hE e (by simp);rw[List.map_cons,List.nodup_cons]at hn;have T:=h (vs e.k) h3;rw[h2]at T;have W:dO a0 (eZ ops) (fun j=>j=e.k\/L j) vs (a.put (eZ ops e.k) (vs e.k)):=
   hf.put e.k (fun j t hj S=>ok.dist e.k j t h1 (hL j hj) (fun q=>h4 (q▸hj)) S) _ rfl (fun _ _=>rfl) (fun j=>Iff.rfl)
  obtain⟨Y,a',X,R,Z,V,Q⟩:=zO ok r _ _ _ (fun j=>j=e.k\/L j) (fun x hx=>by
   obtain⟨P,O,N,M⟩:=hE x (by simp [hx]);refine⟨P,O,N,?_⟩;rintro(q|q)
   .exact hn.1 (by rw[<-q];exact List.mem_map.2 ⟨x,hx,rfl⟩)
   .exact M q) hn.2 (fun j hj=>by
   rcases hj with rfl|hj
   .exact h1
   .exact hL j hj) W (fun j hj=>by
   by_cases q:j=e.k
   .simp [q]
   simp only[q,if_false];exact hu j (hj.resolve_left q)) T
  refine⟨Y,a',X,R,Z.congr (fun j=>?_) (fun _ _=>rfl),fun j hj=>V j ?_,fun x hx=>?_⟩
  .constructor
   .rintro(q|⟨x,hx,rfl⟩)
    .exact .inl (.inr q)
    rcases List.mem_cons.1 hx with rfl|hx
    .exact .inl (.inl rfl)
    exact .inr ⟨x,hx,rfl⟩
   rintro((rfl|q)|⟨x,hx,rfl⟩)
   .exact .inr ⟨e,by simp,rfl⟩
   .exact .inl q
   exact .inr ⟨x,by simp [hx],rfl⟩
  .rcases hj with q|⟨x,hx,rfl⟩
   .exact .inl (.inr q)
   rcases List.mem_cons.1 hx with rfl|hx
   .exact .inl (.inl rfl)
   exact .inr ⟨x,hx,rfl⟩
  .rcases Q x hx with q|⟨y,hy,rfl⟩
   .rcases List.mem_cons.1 q with rfl|q
    .exact .inr ⟨e,by simp,rfl⟩
    exact .inl q
   exact .inr ⟨y,by simp [hy],rfl⟩
structure St (ops:Array Oper) (a0:Act) (spec:Nat->nU) (k:Nat) (E:List zX) (H:List fS) (a:Act) (u:Nat->Value):Prop where
 ent:∀e∈E,e.k<k/\e.dst=eZ ops e.k/\(∀v,(spec e.k).pv v->e.pv v)/\∀vs v w,(spec e.k).f vs v w->e.f v w
 nodup:(E.map (·.k)).Nodup
 facts:∀x∈H,x.1<k/\∀vs v w,(spec x.1).pv v->(spec x.1).f vs v w->x.2 vs w
 frame:dO a0 (eZ ops) (fun j=>j<k/\∀e∈E,e.k≠j) u a
 known:∀j,j<k->(∀e∈E,e.k≠j)->∀v,(spec j).pv v->v=u j
theorem St.fill{L:Nat->Nat->Bool}(ok:Rely.Ok ops m L){Y:Nat->nU}{E:List zX}{H:List fS}(U:St ops a0 Y k E H a u)(y:k<=m)(X:∀j,j<k->(Y j).pv (vs j))
 {K:List fS->Act->(Nat->Value)->Prop} (h:bM E H a u K):
 ∃P a' O,K P a' O/\dO a0 (eZ ops) (fun j=>j<k) vs a'/\(∀j,j<k->O j=vs j)/\∀x∈P,x.1<k/\∀S w,(Y x.1).f S (vs x.1) w->x.2 S w:=by
 have R:dO a0 (eZ ops) (fun j=>j<k/\∀e∈E,e.k≠j) vs a:=U.frame.congr (fun _=>Iff.rfl) (fun j Z=>U.known j Z.1 Z.2 _ (X j Z.1));have W:∀j,j<k->((j<k/\∀e∈E,e.k≠j)\/∃e∈E,e.k=j):=fun j Z=>by
  by_cases Q:∃e∈E,e.k=j
  .exact .inr Q
  exact .inl ⟨Z,fun e V q=>Q ⟨e,V,q⟩⟩
 obtain⟨P,a',O,G,F,D,C⟩:=zO ok E H a u _ (fun e V=>by
  obtain⟨T,N,B,_⟩:=U.ent e V;exact⟨I,N,B _ (X _ T),fun q=>q.2 e V rfl⟩) U.nodup (fun j Z=>by have:=Z.1;omega) R (fun j Z=>(U.known j Z.1 Z.2 _ (X j Z.1)).symm) h
 refine⟨P,a',O,G,F.congr (fun j=>?_) (fun _ _=>rfl),fun j Z=>D j (W j Z),fun x A=>?_⟩
 .constructor
  .exact W j
  rintro(q|⟨e,V,rfl⟩)
  .exact q.1
  exact(U.ent e V).1
 rcases C x A with q|⟨e,V,rfl⟩
 .obtain⟨T,N⟩:=U.facts x q;exact⟨T,fun S w M=>N S _ w (X _ T) M⟩
 obtain⟨T,_,_,z⟩:=U.ent e V;exact⟨T,fun S w M=>z S _ w M⟩
theorem oP.congr{R:List Nat}{X:Nat->Nat->Bool}{Y Z:Nat->nU}(h:oP P ops W0 S R X a0 Y k)(e:∀j,j<=k->Z j=Y j):oP P ops W0 S R X a0 Z k:=by
 obtain⟨Q,O⟩:=h;unfold oP;rw[e k (Nat.le_refl _)];refine⟨Q,fun o N M W L V=>?_⟩;rcases O o N M (fun j U=>by rw[<-e j I];exact W j U) L V with⟨hw,h⟩|h
 .exact .inl ⟨hw,fun w K H G=>h w K H fun j U T=>by rw[<-e j I];exact G j U T⟩
 exact .inr h
theorem yR{A:List Nat}{Y:Nat->Nat->Bool}(ok:Rely.Ok ops m Y){X Z:Nat->nU}{E:List zX}{H:List fS}(st:St ops a0 X k E H a u)(hk:k<m)(ho:ops[k]? =some o)
 {s:nU} (D:Z k=s) (z:∀j,j<k->Z j=X j) (C:∃v,s.pv v) (h:bJ P ops W0 S A Y k o E H a u (fun us v w'=>s.pv v/\s.f us v w')):oP P ops W0 S A Y a0 Z k:=by
 have y:k<ops.size:=Nat.lt_of_lt_of_le hk ok.le;unfold oP;rw[D];refine⟨C,fun o' V vs Q a' O=>?_⟩;rw[ho]at V;cases V;obtain⟨t,N,q,B,p,l,T⟩:=st.fill ok I (vs:=vs) (fun j M=>by rw[<-z j M];exact Q j M) h;have e:=p.unique O;subst e;have W:∀j,j<=k->cV Y j q=cV Y j vs:=fun j M=>jK (fun i g=>l i (by have:=ok.lt I g;omega))
 refine .inl ⟨B.1,fun w d L K=>?_⟩;have:=B.2 w d (.intro L<|vS t fun x R U=>(K x.1 (T x R).1 U).imp fun c G=>(T x R).2 _ c (by rw[W x.1 (by have:=(T x R).1;omega),<-z x.1 (T x R).1];exact G))
 rw[W k (Nat.le_refl _)]at this;unfold eQ at this⊢;generalize(execOp N.eval o).run P w=r at*;cases r with
 |ok n w'=>
  cases n<;>simp only[jQ]at this⊢
  case value v=>exact⟨this.1.1,this.1.2,this.2⟩
  case skip=>exact⟨this.1.1,this.1.2,this.2⟩
  case enter f args=>exact this.mono fun e b ⟨v,he,F⟩=>⟨v,he,F.1.1,F.1.2,F.2⟩
 |halt x w'=>simp only[jQ]at this
theorem sK{m:Nat}{y:World}{S:Nat->Prop}{p:List Nat}{Z:Nat->Nat->Bool}{Q:Act->World->Prop}(ok:Rely.Ok ops m Z){a0:Act}:∀(l:List Oper) (k:Nat) (E:List zX) (H:List fS) (a:Act) (u:Nat->Value) (spec:Nat->nU),
 (∀j o,l[j]? =some o->ops[k+j]? =some o)->k+l.length=m->St ops a0 spec k E H a u->(∀T,T<k->oP P ops y S p Z a0 spec T)->eR P ops y S p Z Q l k E H a u->
 ∃V:Nat->nU,(∀T,T<m->oP P ops y S p Z a0 V T)/\
  ∀vs:Nat->Value,(∀j,j<m->(V j).pv (vs j))->∀a w,dO a0 (eZ ops) (fun j=>j<m) vs a->aD S y w->(∀j,j<m->iY y S (lO p Z j) ((V j).f (cV Z j vs) (vs j)) w)->Q a w
 |[],k,E,H,a,u,spec,_,hk,st,hop,h=>by
  simp only[List.length_nil,Nat.add_zero]at hk;subst hk;refine⟨spec,hop,fun vs A a' w z B zu=>?_⟩;obtain⟨H',a'',u',hK,hf,hu,hH⟩:=st.fill ok (Nat.le_refl _) A h;have e:=hf.unique z;subst e;refine hK w B (vS H' fun x O _=>(zu x.1 (hH x O).1).imp fun w0 zx=>(hH x O).2 _ w0 ?_);have zy:=(hH x O).1;rw[show cV Z x.1 u'=cV Z x.1 vs from jK (fun i hi=>hu i (by have:=ok.lt (Nat.lt_of_lt_of_le zy ok.le) hi;omega))];exact zx
 |o::r,k,E,H,a,u,spec,hl,hk,st,hop,h=>by
  have ho:ops[k]? =some o:=by simpa using hl 0 o (by simp)
  have K:k<m:=by simp at hk;omega
  have n:o.dst=eZ ops k:=by simp [eZ,ho]
  have G:∀j d,r[j]? =some d->ops[k+1+j]? =some d:=fun j d U=>by
   have:=hl (j+1) d (by simpa using U)
   rwa [show k+1+j=k+(j+1) by omega]
  have D:k+1+r.length=m:=by simp at hk;omega
  have W:∀(s:nU) j,j<k->(fun j=>if j=k then s else spec j) j=spec j:=fun s j U=>by simp [show j≠k by omega]
  have R:∀s:nU,oP P ops y S p Z a0 (fun j=>if j=k then s else spec j) k->∀T,T<k+1->oP P ops y S p Z a0 (fun j=>if j=k then s else spec j) T:=fun s hs T zt=>by
   rcases Nat.lt_or_ge T k with q|q
   .exact(hop T q).congr fun j U=>W s j I
   rw[show T=k by omega];exact hs
  have Y:∀(M:Value) (C:(Nat->Value)->World->Prop) (H':List fS),(∀x∈H',x∈H\/x=(k,C))->St ops a0 (fun j=>if j=k then⟨fun v=>v=M,fun c _=>C c⟩else spec j) (k+1) E H' (a.put o.dst M) (fun i=>if i=k then M else u i):=fun M C H' zw=>by
   refine⟨fun e he=>?_,st.nodup,fun x O=>?_,?_,fun j U hE v L=>?_⟩
   .obtain⟨N,X,h3,h4⟩:=st.ent e he;simp only[iN (Nat.ne_of_lt N)];exact⟨I,X,h3,h4⟩
   .rcases zw x O with q|rfl
    .obtain⟨N,X⟩:=st.facts x q;simp only[iN (Nat.ne_of_lt N)];exact⟨I,X⟩
    refine⟨by simp,fun c v w _ B=>?_⟩;simpa using B
   .rw[n];refine st.frame.put k (fun j t U hd=>ok.dist k j t K I I hd) M (by simp) (fun j U=>by simp [show j≠k by omega]) (fun j=>?_);constructor
    .rintro⟨N,X⟩;by_cases e:j=k
     .exact .inl e
     exact .inr ⟨I,X⟩
    rintro(rfl|⟨N,X⟩)
    .exact⟨I,fun e he q=>by have:=(st.ent e he).1;omega⟩
    exact⟨I,X⟩
   by_cases e:j=k
   .subst e;simpa using L
   simp only[e,if_false]at L⊢;exact st.known j I hE v L
  rcases h with⟨M,C,hr,b⟩|⟨B,b⟩|⟨pv,F,zv,hr,b⟩
  .exact sK ok r (k+1) E _ _ _ _ G D (Y M C ((k,C)::H) (fun x O=>(List.mem_cons.1 O).symm))
    (R _ (yR ok st K ho (s:=⟨fun v=>v=M,fun c _=>C c⟩) (by simp) (fun j U=>W _ j U) ⟨M,rfl⟩ hr)) b
  .refine sK ok r (k+1) E _ _ _ _ G D (Y undef (fun _ _=>True) H (fun x O=>.inl O)) (R _ ?_) b;unfold oP;simp only[if_true];refine⟨⟨undef,rfl⟩,fun d zz vs A a' z=>?_⟩;rw[ho]at zz;cases zz;obtain⟨H',a'',u',hK,hf,hu,hH⟩:=st.fill ok I (vs:=vs) (fun j U=>by have:=A j U;simpa [show j≠k by omega]using this) B;have e:=hf.unique z;subst e;exact .inr ⟨hK,trivial,fun _=>trivial⟩
  .refine sK ok r (k+1) _ H a u _ G D ⟨fun e he=>?_,?_,fun x O=>?_,?_,fun j U hE v L=>?_⟩
    (R ⟨pv,fun _=>F⟩ (yR ok st K ho (s:=⟨pv,fun _=>F⟩) (by simp) (fun j U=>W _ j U) zv hr)) b
   .rcases List.mem_cons.1 he with rfl|he
    .exact⟨by simp,n,fun v L=>by simpa using L,fun c v w B=>by simpa using B⟩
    obtain⟨N,X,h3,h4⟩:=st.ent e he;simp only[iN (Nat.ne_of_lt N)];exact⟨I,X,h3,h4⟩
   .rw[List.map_cons,List.nodup_cons];refine⟨fun q=>?_,st.nodup⟩;obtain⟨e,he,q⟩:=List.mem_map.1 q;have:=(st.ent e he).1;simp only at q;omega
   .obtain⟨N,X⟩:=st.facts x O;simp only[iN (Nat.ne_of_lt N)];exact⟨I,X⟩
   .refine st.frame.congr (fun j=>?_) (fun _ _=>rfl);constructor
    .rintro⟨N,X⟩;have g:j≠k:=fun q=>X ⟨k,o.dst,pv,F⟩ (by simp) q.symm
     exact⟨I,fun e he=>X e (by simp [he])⟩
    rintro⟨N,X⟩;refine⟨I,fun e he=>?_⟩;rcases List.mem_cons.1 he with rfl|he
    .simp only;omega
    exact X e he
   have g:j≠k:=fun q=>hE ⟨k,o.dst,pv,F⟩ (by simp) q.symm
   simp only[g,if_false]at L;exact st.known j I (fun e he=>hE e (by simp [he])) v L
theorem bK{Q:Exit->Act->World->Prop}(m:Nat)(S:Nat->Prop)(G:List Nat)(F:P.follows .mixedOrders=true)(E:Rely.okB l.toArray m=true)
 (h:eR P l.toArray w S G (vK (oB l.toArray l.toArray.size)) (fun a w=>wpList P l.toArray Q (l.drop m) a w) (l.take m) 0 [] [] a (fun _=>undef)):(Code.region id l.toArray true).wp P Q a w:=by
 have ok:=Rely.ok E;have U:=ok.le;simp only[List.size_toArray]at U;obtain⟨X,W,V⟩:=sK (P:=P) ok (a0:=a) (l.take m) 0 [] [] a (fun _=>undef) (fun _=>⟨fun _=>True,fun _ _ _=>True⟩) (fun j o Z=>by
  rw[List.getElem?_take]at Z;split at Z
  .simpa using Z
  .cases Z) (by rw[List.length_take];omega)
  ⟨fun e L=>absurd L (by simp),List.nodup_nil,fun x K=>absurd K (by simp),(dO.start (vs:=fun _=>undef)).congr (fun j=>by simp) (fun _ h=>h.elim),fun j Z=>absurd Z I⟩ (fun k R=>absurd R I) h
 refine wp_region_any F ?_;have T:∀j,∃v,j<m->(X j).pv v:=fun j=>by
  by_cases Z:j<m
  .obtain⟨v,hv⟩:=(W j Z).1;exact⟨v,fun _=>hv⟩
  exact⟨undef,fun h=>absurd h Z⟩
 obtain⟨vs,Y⟩:=Classical.axiomOfChoice T;refine zK ok W (fun vs Y a w H R O=>?_) _ _ vs _ _ ?_ ⟨by simp,Y,?_,?_,⟨rfl,rfl,rfl,Nat.le_refl _,fun _ _ _=>rfl⟩,fun j Z=>?_,fun i N=>?_,fun j Z M=>?_⟩
 .have:=V vs Y a w H R O;have e:=wpOps_eq_wpList (P:=P) (ops:=l.toArray) (Q:=Q) (l.drop m) m (fun j=>by rw[List.getElem?_drop];simp);rw[List.length_drop]at e;rw[List.size_toArray,e];exact this
 .unfold cnt;rw[List.filter_eq_self.2 (fun j Z=>by simp at Z;simp [Z])];simp
 .exact(dO.start (vs:=vs)).congr (fun j=>by simp [Array.getElem?_replicate];intro _;split<;>simp) (fun _ h=>h.elim)
 .exact⟨rfl,rfl,rfl,Nat.le_refl _,fun _ _ _=>rfl⟩
 .simp [Array.getElem?_replicate];split<;>simp
 .exfalso;simp [Array.getElem?_replicate]at N;split at N<;>simp at N
 exfalso;simp [Array.getElem?_replicate]at M;split at M<;>simp at M
attribute [go_sem] eQ jQ
theorem aC{Y:List Nat}{Z:Nat->Nat->Bool}{Q:Act->World->Prop}{E:List zX}{H:List fS}
 (h:∀K:List zX->List fS->Act->(Nat->Value)->Prop,(∀E H a u,eR P ops W0 S Y Z Q r (k+1) E H a u->K E H a u)->
   (∃(v0:Value) (F0:(Nat->Value)->World->Prop),bJ P ops W0 S Y Z k o E H a u (fun X=>PP v0 (F0 X))/\K E ((k,F0)::H) (a.put o.dst v0) (fun i=>if i=k then v0 else u i))\/
   (bM E H a u (fun _ a' _=>Region.wanted o (yielded ops a'.tmps)=false)/\K E H (a.put o.dst undef) (fun i=>if i=k then undef else u i))\/
   (∃(pv:Value->Prop) (F:Value->World->Prop),(∃v,pv v)/\bJ P ops W0 S Y Z k o E H a u (fun _=>ZK pv F)/\K (⟨k,o.dst,pv,F⟩::E) H a u)):
 eR P ops W0 S Y Z Q (o::r) k E H a u:=h _ (fun _ _ _ _ h=>h)
theorem sA{u:Value}{T:Value->World->Prop}(h:(execOp a.eval o).run P w=.ok (.value u) w)(Z:T u w):eQ P o a w T:=by
 unfold eQ;rw[h];exact Z
theorem yM{u:Value}{T:Value->World->Prop}(h:(execOp a.eval o).run P w=.ok (.value u) w')(Z:T u w'):eQ P o a w T:=by
 unfold eQ;rw[h];exact Z
theorem bS{f:FuncId}{Z:Array Value}{Y:Value}(h:Calls P f Z w fun e w'=>e=.returned Y/\Below w w w'):
 Calls P f Z w (ZF (Bi (PP Y (cX u)) S w)):=h.mono fun _ _ ⟨X,W⟩=>⟨Y,X,⟨rfl,trivial⟩,aD.of_same W⟩
theorem aD.rules(h:aD S w w'){B:Nat}(Y:B<=w)(X:∀b,b<B->¬S b):
 (∀b o,b<B->w'.cell? ⟨b,o,none⟩=w.cell? ⟨b,o,none⟩)/\(∀b o,b<B->w'.frozen? ⟨b,o,none⟩=w.frozen? ⟨b,o,none⟩):=
 ⟨fun b o Z=>h.cell (p:=⟨b,o,none⟩) (Nat.lt_of_lt_of_le Z Y) (X b Z),fun b o Z=>h.frozen (p:=⟨b,o,none⟩) (Nat.lt_of_lt_of_le Z Y) (X b Z)⟩
theorem aD.all(h:aD bN w w'):
 (∀b o,b<w.heap.size->w'.cell? ⟨b,o,none⟩=w.cell? ⟨b,o,none⟩)/\(∀b o,b<w.heap.size->w'.frozen? ⟨b,o,none⟩=w.frozen? ⟨b,o,none⟩):=
 h.rules (Nat.le_refl _) (fun _ _ h=>h)
theorem aD.same(h:aD bN w w'):Below w w w':=h.below (Nat.le_refl _) (fun _ _ h=>h)
theorem cP{Y:List Nat}{Z:Nat->Nat->Bool}{Q:Act->World->Prop}{E:List zX}{H:List fS}
 (h:bM E H a u fun X a' W=>∀w,aD S W0 w->BX W0 S (fun _=>true) (lO Y Z) Z W X w->Q a' w):eR P ops W0 S Y Z Q [] k E H a u:=h
theorem iY.out{c:Bool}{Φ:World->Prop}(h:iY W0 bN c Φ w):∃w0,Below W0 W0 w0/\Below w0 w0 w/\Φ w0:=by
 obtain⟨w0,Z,Y,X⟩:=h;exact⟨w0,Z.same,(Y.mono (S':=bN) fun b h=>h.2).same,X⟩
end
end
section
def gS(e:Int):Value:=if e=0 then .nilIface else .iface 53 e
end
section
open Go.ChangeAt Go.ChangeShapes Go.Deep Go.WideShapes
structure PQ (K:List IntKind) (w:World) (A:Option Addr) (n c:Nat) (f:Nat->Nat->Int):Prop where
 cap:n<=c
 cap63:c<=9223372036854775807
 wf:∀i j,i<n->j<K.length->(Lit.int (K.getD j .i64) (f i j)).wf=true
 at_:0<n->∃b off,A=some ⟨b,off,none⟩/\b<w/\∀i j:Nat,i<n->j<K.length->w.cell? (b,off+i*K.length+j)=some (.int (K.getD j .i64) (f i j))
theorem PQ.below{K:List IntKind}{c:Nat}{f:Nat->Nat->Int}(h:PQ K w A n c f)(X:Below w w w'):PQ K w' A n c f:=
 ⟨h.cap,h.cap63,h.wf,fun W=>by
  obtain⟨b,Z,rfl,Y,V⟩:=h.at_ W;exact⟨b,Z,rfl,Nat.lt_of_lt_of_le Y X.size,fun i j U T=>(X.cell (p:=⟨b,Z+i*K.length+j,none⟩) Y).trans (V i j U T)⟩⟩
end
section
theorem eY(c v:Int)(w:World):Calls prog 206 #[c,v] w fun e w'=>e=.returned (.agg #[c,v])/\w'=w.alloc (.cells #[c,v] 44):=by
 go_enter func206,ntmps206
 go_wp2
 go_returns
 exact⟨rfl,rfl⟩
end
section
open Go.Maps
section
variable{P:Program}{ops:Array Oper}{rest:List Oper}{a:Act}{w:World}{Q:Exit->Act->World->Prop}{ty':TypeId}{pos:String}{af:Array Edge}
theorem fK(ty:TypeId){x y:Operand}(g:Nat)(cells:Array Value)(t:TypeId)(Z:Array Value)(X:a.eval x=.pointer (some ⟨g,0,none⟩))(W:a.eval y=.agg cells)
 (V:aY w g t Z) (U:(P.info? ty).map (·.size)=some cells.size) (Y:Z.size=cells.size) (T:cells.all (·.oneCell')=true)
 (h:wpList P ops Q rest a (w.setRow g cells)):wpList P ops Q ({dst:=none,op:=.store ty x y,type:=ty',pos:=pos,after:=af,guard:=none}::rest) a w:=
 wpList_store_row rfl ty x y rfl g cells X W t Z V U Y T h
theorem lL(ty:TypeId){x:Operand}{d:Option Tmp}(g:Nat)(t:TypeId)(cs:Array Value){Z:TypeDesc}(Y:a.eval x=.pointer (some ⟨g,0,none⟩))(X:aY w g t cs)(W:P.underlying ty=some Z)
 (V:(match Z with|.struct _|.array _ _=>true|_=>false)=true) (U:(P.info? ty).map (·.size)=some cs.size)
 (h:wpList P ops Q rest (a.put d (.agg cs)) w):wpList P ops Q ({dst:=d,op:=.load ty x,type:=ty',pos:=pos,after:=af,guard:=none}::rest) a w:=
 wpList_load_row rfl ty x rfl g Y t cs (0,0) Z X W V U h
theorem JJ{H:Type}{m x v:Operand}{d:Option Tmp}(t:TypeId)(k e:TypeId)(K:Keyed P k)(V:P.underlying t=some (.map k e))(R:Value->Option (DataW H×List MemPlace))(b n:Nat)(D:DataW H)
 (key val:Value) (kl:Lit) (U:a.eval m=.map (some b)) (T:a.eval x=key) (S:a.eval v=val) (Z:w.ownsMap P k R b n D) (O:n<maxLen) (Y:keyOf P k key=some kl)
 (W:DataW H) (ps:List MemPlace) (X:R val=some (W,ps))
 (N:∀w',w'.ownsMap P k R b (n+1) (D.put kl W)->w.grownBy w' (some b)->wpList P ops Q rest (a.put d undef) w'):
 wpList P ops Q ({dst:=d,op:=.mapUpdate t m x v,type:=ty',pos:=pos,after:=af,guard:=none}::rest) a w:=
 wpList_mapUpdate_own w rfl m x v t rfl k e K V R b n D U Z O key val kl T S Y W ps X N
end
end
section
def oW(d:Nat)(e:TypeId)(m:Nat)(X Y:Array Value):List Nat->Sem Bool
 |[]=>pure true
 |i::r=>do
  let a<-part e X (i*m)
  let b<-part e Y (i*m)
  let q<-Op.equalIn d e a b
  if(!q)=true then pure false else oW d e m X Y r
section
variable{P:Program}(w:World)
theorem sJ(d n m:Nat)(t e:TypeId)(X Y:Array Value)(Z:P.underlying t=some (.array n e))(T:∀w:World,(sizeOf e).run P w=.ok m w):
 (Op.equalIn (d+1) t (.agg X) (.agg Y)).run P w=(oW d e m X Y (List.range n)).run P w:=by
 simp only[Op.equalIn,Sem.run_bind,run_underlying Z,Result.andThen_ok,T];rw[Std.Legacy.Range.forIn_eq_forIn_range'];simp only[Std.Legacy.Range.size];rw[show List.range' 0 ((n-0+1-1)/1) 1=List.range n by rw[List.range_eq_range'];simp];generalize List.range n=l;clear Z
 induction l generalizing w with
 |nil=>simp [oW]
 |cons i r ih=>
  simp only[List.forIn_cons,oW,Sem.run_bind,Sem.run_ite];generalize(part e X (i*m)).run P w=W;cases W with
  |ok a w1=>
   simp only[Result.andThen_ok];generalize(part e Y (i*m)).run P w1=V;cases V with
   |ok b w2=>
    simp only[Result.andThen_ok];generalize(Op.equalIn d e a b).run P w2=U;cases U with
    |ok q w3=>
     cases q
     .simp only[Result.andThen_ok,Bool.not_false,if_true,Sem.run_pure]
     .simp only[Result.andThen_ok,Bool.not_true,Bool.false_eq_true,if_false,Sem.run_pure];exact ih w3
    |halt x w3=>simp [Result.andThen]
   |halt x w2=>simp [Result.andThen]
  |halt x w1=>simp [Result.andThen]
theorem sT{e:TypeId}{k:IntKind}{X:Array Value}{i:Nat}{v:Value}(Z:P.underlying e=some (.int k))(h:X[i]? =some v):(part e X i).run P w=.ok v w:=by
 simp [part,isAgg,Sem.run_bind,run_underlying Z,h]
theorem pK(d:Nat){e:TypeId}{k:IntKind}{X Y:Array Value}{x y:Nat->Int}(Z:P.underlying e=some (.int k)):
 ∀l:List Nat,(∀i∈l,X[i]? =some (.int k (x i)))->(∀i∈l,Y[i]? =some (.int k (y i)))->(oW (d+1) e 1 X Y l).run P w=.ok (decide (∀i∈l,x i=y i)) w
 |[],_,_=>by simp [oW]
 |i::r,hX,hY=>by
  have ih:=pK d Z r (fun j W=>hX j (by simp [W])) (fun j W=>hY j (by simp [W]));simp only[oW,Sem.run_bind,Nat.mul_one,sT w Z (hX i (by simp)),sT w Z (hY i (by simp)),Result.andThen_ok,run_equalIn_int (P:=P) w d e k k _ _ Z,Sem.run_ite];by_cases h:x i=y i
  .have e1:(x i==y i)=true:=by simpa using h
   rw[e1];simp only[Bool.not_true,Bool.false_eq_true,if_false,ih];simp [h]
  .have e1:(x i==y i)=false:=by simpa using h
   rw[e1];simp [h]
theorem uH(d n:Nat){t e:TypeId}{k:IntKind}{X Y:Array Value}{x y:Nat->Int}(W:P.underlying t=some (.array n e))(V:P.underlying e=some (.int k))(U:∀w:World,(sizeOf e).run P w=.ok 1 w)
 (T:∀i,i<n->X[i]? =some (.int k (x i))) (S:∀i,i<n->Y[i]? =some (.int k (y i))):
 (Op.equalIn (d+2) t (.agg X) (.agg Y)).run P w=.ok (decide (∀i,i<n->x i=y i)) w:=by
 rw[sJ w (d+1) n 1 t e X Y W U,pK w d V (List.range n) (fun i Z=>T i (by simpa using Z)) (fun i Z=>S i (by simpa using Z))];congr 1;simp
end
def Tg(j:Int):Prop:=j=j
instance {j : Int} {h : Tg j} : CoeDep (Tg j) h Int := ⟨j⟩
instance {j : Int} {h : Tg j} : CoeDep (Tg j) h Value := ⟨.int .i64 j⟩
end
section
open Go.Maps
structure cL (p:Prop):Prop where
 out:p
theorem cC(h:cL p):p:=h.out
section
variable{P:Program}{ops:Array Oper}
structure qX where
 k:Nat
 dst:Option Tmp
 pv:Value->Prop
 f:(Nat->Value)->Value->World->Prop
def cM:List qX->List fS->Act->(Nat->Value)->(List fS->Act->(Nat->Value)->Prop)->Prop
 |[],H,a,u,K=>K H a u
 |e::r,H,a,u,K=>∀v,e.pv v->cM r ((e.k,fun us=>e.f us v)::H) (a.put e.dst v) (fun i=>if i=e.k then v else u i) K
def bW(P:Program)(ops:Array Oper)(W0:World)(S:Nat->Prop)(wl:List Nat)(anc:Nat->Nat->Bool)(k:Nat)(o:Oper)(E:List qX)(H:List fS)(a:Act)(u:Nat->Value)(T:(Nat->Value)->Value->World->Prop):Prop:=
 cM E H a u fun H' a' u'=>Region.wanted o (yielded ops a'.tmps)=true/\∀w,aD S W0 w->(aD (fun b=>sM wl anc k=false/\S b) W0 w/\BX W0 S (anc k) (BR wl anc k) anc u' H' w)->eQ P o a' w (Bi (T (cV anc k u')) (fun b=>wl.contains k=true/\S b) w)
def fL(P:Program)(ops:Array Oper)(W0:World)(S:Nat->Prop)(wl:List Nat)(anc:Nat->Nat->Bool)(Q:Act->World->Prop):List Oper->Nat->List qX->List fS->Act->(Nat->Value)->Prop
 |[],_,E,H,a,u=>cM E H a u fun H' a' u'=>∀w,aD S W0 w->BX W0 S (fun _=>true) (lO wl anc) anc u' H' w->Q a' w
 |o::r,k,E,H,a,u=>
  (∃(v0:Value) (F0:(Nat->Value)->World->Prop),bW P ops W0 S wl anc k o E H a u (fun u'=>PP v0 (F0 u'))/\fL P ops W0 S wl anc Q r (k+1) E ((k,F0)::H) (a.put o.dst v0) (fun i=>if i=k then v0 else u i))\/
  (cM E H a u (fun _ a' _=>Region.wanted o (yielded ops a'.tmps)=false)/\fL P ops W0 S wl anc Q r (k+1) E H (a.put o.dst undef) (fun i=>if i=k then undef else u i))\/
  (∃(pv:Value->Prop) (F:(Nat->Value)->Value->World->Prop),(∃v,pv v)/\bW P ops W0 S wl anc k o E H a u (fun us=>ZK pv (F us))/\fL P ops W0 S wl anc Q r (k+1) (⟨k,o.dst,pv,F⟩::E) H a u)
theorem yF{m:Nat}{U:Nat->Nat->Bool}(ok:Rely.Ok ops m U){a0:Act}{vs:Nat->Value}{K:List fS->Act->(Nat->Value)->Prop}:∀(E:List qX) (H:List fS) (a:Act) (u:Nat->Value) (L:Nat->Prop),
 (∀e∈E,e.k<m/\e.dst=eZ ops e.k/\e.pv (vs e.k)/\¬L e.k)->(E.map (·.k)).Nodup->(∀j,L j->j<m)->dO a0 (eZ ops) L vs a->(∀j,L j->u j=vs j)->cM E H a u K->
 ∃Y a' X,K Y a' X/\dO a0 (eZ ops) (fun j=>L j\/∃e∈E,e.k=j) vs a'/\(∀j,(L j\/∃e∈E,e.k=j)->X j=vs j)/\∀x∈Y,x∈H\/∃e∈E,x=(e.k,fun G=>e.f G (vs e.k))
 |[],H,a,u,L,_,_,_,hf,hu,h=>⟨H,a,u,h,hf.congr (fun j=>by simp) (fun _ _=>rfl),fun j hj=>by simp at hj;exact hu j hj,fun x hx=>.inl hx⟩
 |e::r,H,a,u,L,hE,hn,hL,hf,hu,h=>by
  obtain⟨h1,h2,h3,h4⟩:=hE e (by simp);rw[List.map_cons,List.nodup_cons]at hn;have T:=h (vs e.k) h3;rw[h2]at T;have W:dO a0 (eZ ops) (fun j=>j=e.k\/L j) vs (a.put (eZ ops e.k) (vs e.k)):=
   hf.put e.k (fun j t hj S=>ok.dist e.k j t h1 (hL j hj) (fun q=>h4 (q▸hj)) S) _ rfl (fun _ _=>rfl) (fun j=>Iff.rfl)
  obtain⟨Y,a',X,R,Z,V,Q⟩:=yF ok r _ _ _ (fun j=>j=e.k\/L j) (fun x hx=>by
   obtain⟨P,O,N,M⟩:=hE x (by simp [hx]);refine⟨P,O,N,?_⟩;rintro(q|q)
   .exact hn.1 (by rw[<-q];exact List.mem_map.2 ⟨x,hx,rfl⟩)
   .exact M q) hn.2 (fun j hj=>by
   rcases hj with rfl|hj
   .exact h1
   .exact hL j hj) W (fun j hj=>by
   by_cases q:j=e.k
   .simp [q]
   simp only[q,if_false];exact hu j (hj.resolve_left q)) T
  refine⟨Y,a',X,R,Z.congr (fun j=>?_) (fun _ _=>rfl),fun j hj=>V j ?_,fun x hx=>?_⟩
  .constructor
   .rintro(q|⟨x,hx,rfl⟩)
    .exact .inl (.inr q)
    rcases List.mem_cons.1 hx with rfl|hx
    .exact .inl (.inl rfl)
    exact .inr ⟨x,hx,rfl⟩
   rintro((rfl|q)|⟨x,hx,rfl⟩)
   .exact .inr ⟨e,by simp,rfl⟩
   .exact .inl q
   exact .inr ⟨x,by simp [hx],rfl⟩
  .rcases hj with q|⟨x,hx,rfl⟩
   .exact .inl (.inr q)
   rcases List.mem_cons.1 hx with rfl|hx
   .exact .inl (.inl rfl)
   exact .inr ⟨x,hx,rfl⟩
  .rcases Q x hx with q|⟨y,hy,rfl⟩
   .rcases List.mem_cons.1 q with rfl|q
    .exact .inr ⟨e,by simp,rfl⟩
    exact .inl q
   exact .inr ⟨y,by simp [hy],rfl⟩
structure Ej (ops:Array Oper) (a0:Act) (spec:Nat->nU) (k:Nat) (E:List qX) (H:List fS) (a:Act) (u:Nat->Value):Prop where
 ent:∀e∈E,e.k<k/\e.dst=eZ ops e.k/\(∀v,(spec e.k).pv v->e.pv v)/\∀vs v w,(spec e.k).f vs v w->e.f vs v w
 nodup:(E.map (·.k)).Nodup
 facts:∀x∈H,x.1<k/\∀vs v w,(spec x.1).pv v->(spec x.1).f vs v w->x.2 vs w
 frame:dO a0 (eZ ops) (fun j=>j<k/\∀e∈E,e.k≠j) u a
 known:∀j,j<k->(∀e∈E,e.k≠j)->∀v,(spec j).pv v->v=u j
theorem Ej.fill{L:Nat->Nat->Bool}(ok:Rely.Ok ops m L){Y:Nat->nU}{E:List qX}{H:List fS}(U:Ej ops a0 Y k E H a u)(y:k<=m)(X:∀j,j<k->(Y j).pv (vs j))
 {K:List fS->Act->(Nat->Value)->Prop} (h:cM E H a u K):
 ∃P a' O,K P a' O/\dO a0 (eZ ops) (fun j=>j<k) vs a'/\(∀j,j<k->O j=vs j)/\∀x∈P,x.1<k/\∀S w,(Y x.1).f S (vs x.1) w->x.2 S w:=by
 have R:dO a0 (eZ ops) (fun j=>j<k/\∀e∈E,e.k≠j) vs a:=U.frame.congr (fun _=>Iff.rfl) (fun j Z=>U.known j Z.1 Z.2 _ (X j Z.1));have W:∀j,j<k->((j<k/\∀e∈E,e.k≠j)\/∃e∈E,e.k=j):=fun j Z=>by
  by_cases Q:∃e∈E,e.k=j
  .exact .inr Q
  exact .inl ⟨Z,fun e V q=>Q ⟨e,V,q⟩⟩
 obtain⟨P,a',O,G,F,D,C⟩:=yF ok E H a u _ (fun e V=>by
  obtain⟨T,N,B,_⟩:=U.ent e V;exact⟨I,N,B _ (X _ T),fun q=>q.2 e V rfl⟩) U.nodup (fun j Z=>by have:=Z.1;omega) R (fun j Z=>(U.known j Z.1 Z.2 _ (X j Z.1)).symm) h
 refine⟨P,a',O,G,F.congr (fun j=>?_) (fun _ _=>rfl),fun j Z=>D j (W j Z),fun x A=>?_⟩
 .constructor
  .exact W j
  rintro(q|⟨e,V,rfl⟩)
  .exact q.1
  exact(U.ent e V).1
 rcases C x A with q|⟨e,V,rfl⟩
 .obtain⟨T,N⟩:=U.facts x q;exact⟨T,fun S w M=>N S _ w (X _ T) M⟩
 obtain⟨T,_,_,z⟩:=U.ent e V;exact⟨T,fun S w M=>z S _ w M⟩
theorem wH{A:List Nat}{Y:Nat->Nat->Bool}(ok:Rely.Ok ops m Y){X Z:Nat->nU}{E:List qX}{H:List fS}(st:Ej ops a0 X k E H a u)(hk:k<m)(ho:ops[k]? =some o)
 {s:nU} (D:Z k=s) (z:∀j,j<k->Z j=X j) (C:∃v,s.pv v) (h:bW P ops W0 S A Y k o E H a u (fun us v w'=>s.pv v/\s.f us v w')):oP P ops W0 S A Y a0 Z k:=by
 have y:k<ops.size:=Nat.lt_of_lt_of_le hk ok.le;unfold oP;rw[D];refine⟨C,fun o' V vs Q a' O=>?_⟩;rw[ho]at V;cases V;obtain⟨t,N,q,B,p,l,T⟩:=st.fill ok I (vs:=vs) (fun j M=>by rw[<-z j M];exact Q j M) h;have e:=p.unique O;subst e;have W:∀j,j<=k->cV Y j q=cV Y j vs:=fun j M=>jK (fun i g=>l i (by have:=ok.lt I g;omega))
 refine .inl ⟨B.1,fun w d L K=>?_⟩;have:=B.2 w d (.intro L<|vS t fun x R U=>(K x.1 (T x R).1 U).imp fun c G=>(T x R).2 _ c (by rw[W x.1 (by have:=(T x R).1;omega),<-z x.1 (T x R).1];exact G))
 rw[W k (Nat.le_refl _)]at this;unfold eQ at this⊢;generalize(execOp N.eval o).run P w=r at*;cases r with
 |ok n w'=>
  cases n<;>simp only[jQ]at this⊢
  case value v=>exact⟨this.1.1,this.1.2,this.2⟩
  case skip=>exact⟨this.1.1,this.1.2,this.2⟩
  case enter f args=>exact this.mono fun e b ⟨v,he,F⟩=>⟨v,he,F.1.1,F.1.2,F.2⟩
 |halt x w'=>simp only[jQ]at this
theorem qM{m:Nat}{p:World}{S:Nat->Prop}{n:List Nat}{Z:Nat->Nat->Bool}{Q:Act->World->Prop}(ok:Rely.Ok ops m Z){a0:Act}:∀(l:List Oper) (k:Nat) (E:List qX) (H:List fS) (a:Act) (u:Nat->Value) (spec:Nat->nU),
 (∀j o,l[j]? =some o->ops[k+j]? =some o)->k+l.length=m->Ej ops a0 spec k E H a u->(∀T,T<k->oP P ops p S n Z a0 spec T)->fL P ops p S n Z Q l k E H a u->
 ∃V:Nat->nU,(∀T,T<m->oP P ops p S n Z a0 V T)/\
  ∀vs:Nat->Value,(∀j,j<m->(V j).pv (vs j))->∀a w,dO a0 (eZ ops) (fun j=>j<m) vs a->aD S p w->(∀j,j<m->iY p S (lO n Z j) ((V j).f (cV Z j vs) (vs j)) w)->Q a w
 |[],k,E,H,a,u,spec,_,hk,st,hop,h=>by
  simp only[List.length_nil,Nat.add_zero]at hk;subst hk;refine⟨spec,hop,fun vs z a' w y A zu=>?_⟩;obtain⟨H',a'',u',hK,hf,hu,hH⟩:=st.fill ok (Nat.le_refl _) z h;have e:=hf.unique y;subst e;refine hK w A (vS H' fun x O _=>(zu x.1 (hH x O).1).imp fun w0 zx=>(hH x O).2 _ w0 ?_);have zy:=(hH x O).1;rw[show cV Z x.1 u'=cV Z x.1 vs from jK (fun i hi=>hu i (by have:=ok.lt (Nat.lt_of_lt_of_le zy ok.le) hi;omega))];exact zx
 |o::r,k,E,H,a,u,spec,hl,hk,st,hop,h=>by
  have ho:ops[k]? =some o:=by simpa using hl 0 o (by simp)
  have G:k<m:=by simp at hk;omega
  have g:o.dst=eZ ops k:=by simp [eZ,ho]
  have D:∀j c,r[j]? =some c->ops[k+1+j]? =some c:=fun j c U=>by
   have:=hl (j+1) c (by simpa using U)
   rwa [show k+1+j=k+(j+1) by omega]
  have C:k+1+r.length=m:=by simp at hk;omega
  have W:∀(s:nU) j,j<k->(fun j=>if j=k then s else spec j) j=spec j:=fun s j U=>by simp [show j≠k by omega]
  have R:∀s:nU,oP P ops p S n Z a0 (fun j=>if j=k then s else spec j) k->∀T,T<k+1->oP P ops p S n Z a0 (fun j=>if j=k then s else spec j) T:=fun s hs T zt=>by
   rcases Nat.lt_or_ge T k with q|q
   .exact(hop T q).congr fun j U=>W s j I
   rw[show T=k by omega];exact hs
  have Y:∀(L:Value) (B:(Nat->Value)->World->Prop) (H':List fS),(∀x∈H',x∈H\/x=(k,B))->Ej ops a0 (fun j=>if j=k then⟨fun v=>v=L,fun M _=>B M⟩else spec j) (k+1) E H' (a.put o.dst L) (fun i=>if i=k then L else u i):=fun L B H' zw=>by
   refine⟨fun e he=>?_,st.nodup,fun x O=>?_,?_,fun j U hE v K=>?_⟩
   .obtain⟨N,X,h3,h4⟩:=st.ent e he;simp only[iN (Nat.ne_of_lt N)];exact⟨I,X,h3,h4⟩
   .rcases zw x O with q|rfl
    .obtain⟨N,X⟩:=st.facts x q;simp only[iN (Nat.ne_of_lt N)];exact⟨I,X⟩
    refine⟨by simp,fun M v w _ A=>?_⟩;simpa using A
   .rw[g];refine st.frame.put k (fun j t U hd=>ok.dist k j t G I I hd) L (by simp) (fun j U=>by simp [show j≠k by omega]) (fun j=>?_);constructor
    .rintro⟨N,X⟩;by_cases e:j=k
     .exact .inl e
     exact .inr ⟨I,X⟩
    rintro(rfl|⟨N,X⟩)
    .exact⟨I,fun e he q=>by have:=(st.ent e he).1;omega⟩
    exact⟨I,X⟩
   by_cases e:j=k
   .subst e;simpa using K
   simp only[e,if_false]at K⊢;exact st.known j I hE v K
  rcases h with⟨L,B,hr,b⟩|⟨A,b⟩|⟨pv,F,zv,hr,b⟩
  .exact qM ok r (k+1) E _ _ _ _ D C (Y L B ((k,B)::H) (fun x O=>(List.mem_cons.1 O).symm))
    (R _ (wH ok st G ho (s:=⟨fun v=>v=L,fun M _=>B M⟩) (by simp) (fun j U=>W _ j U) ⟨L,rfl⟩ hr)) b
  .refine qM ok r (k+1) E _ _ _ _ D C (Y undef (fun _ _=>True) H (fun x O=>.inl O)) (R _ ?_) b;unfold oP;simp only[if_true];refine⟨⟨undef,rfl⟩,fun c zz vs z a' y=>?_⟩;rw[ho]at zz;cases zz;obtain⟨H',a'',u',hK,hf,hu,hH⟩:=st.fill ok I (vs:=vs) (fun j U=>by have:=z j U;simpa [show j≠k by omega]using this) A;have e:=hf.unique y;subst e;exact .inr ⟨hK,trivial,fun _=>trivial⟩
  .refine qM ok r (k+1) _ H a u _ D C ⟨fun e he=>?_,?_,fun x O=>?_,?_,fun j U hE v K=>?_⟩
    (R ⟨pv,fun M=>F M⟩ (wH ok st G ho (s:=⟨pv,fun M=>F M⟩) (by simp) (fun j U=>W _ j U) zv hr)) b
   .rcases List.mem_cons.1 he with rfl|he
    .exact⟨by simp,g,fun v K=>by simpa using K,fun M v w A=>by simpa using A⟩
    obtain⟨N,X,h3,h4⟩:=st.ent e he;simp only[iN (Nat.ne_of_lt N)];exact⟨I,X,h3,h4⟩
   .rw[List.map_cons,List.nodup_cons];refine⟨fun q=>?_,st.nodup⟩;obtain⟨e,he,q⟩:=List.mem_map.1 q;have:=(st.ent e he).1;simp only at q;omega
   .obtain⟨N,X⟩:=st.facts x O;simp only[iN (Nat.ne_of_lt N)];exact⟨I,X⟩
   .refine st.frame.congr (fun j=>?_) (fun _ _=>rfl);constructor
    .rintro⟨N,X⟩;have d:j≠k:=fun q=>X ⟨k,o.dst,pv,F⟩ (by simp) q.symm
     exact⟨I,fun e he=>X e (by simp [he])⟩
    rintro⟨N,X⟩;refine⟨I,fun e he=>?_⟩;rcases List.mem_cons.1 he with rfl|he
    .simp only;omega
    exact X e he
   have d:j≠k:=fun q=>hE ⟨k,o.dst,pv,F⟩ (by simp) q.symm
   simp only[d,if_false]at K;exact st.known j I (fun e he=>hE e (by simp [he])) v K
theorem vG{Q:Exit->Act->World->Prop}(m:Nat)(S:Nat->Prop)(G:List Nat)(F:P.follows .mixedOrders=true)(E:Rely.okB l.toArray m=true)
 (h:fL P l.toArray w S G (vK (oB l.toArray l.toArray.size)) (fun a w=>wpList P l.toArray Q (l.drop m) a w) (l.take m) 0 [] [] a (fun _=>undef)):(Code.region id l.toArray true).wp P Q a w:=by
 have ok:=Rely.ok E;have U:=ok.le;simp only[List.size_toArray]at U;obtain⟨X,W,V⟩:=qM (P:=P) ok (a0:=a) (l.take m) 0 [] [] a (fun _=>undef) (fun _=>⟨fun _=>True,fun _ _ _=>True⟩) (fun j o Z=>by
  rw[List.getElem?_take]at Z;split at Z
  .simpa using Z
  .cases Z) (by rw[List.length_take];omega)
  ⟨fun e L=>absurd L (by simp),List.nodup_nil,fun x K=>absurd K (by simp),(dO.start (vs:=fun _=>undef)).congr (fun j=>by simp) (fun _ h=>h.elim),fun j Z=>absurd Z I⟩ (fun k R=>absurd R I) h
 refine wp_region_any F ?_;have T:∀j,∃v,j<m->(X j).pv v:=fun j=>by
  by_cases Z:j<m
  .obtain⟨v,hv⟩:=(W j Z).1;exact⟨v,fun _=>hv⟩
  exact⟨undef,fun h=>absurd h Z⟩
 obtain⟨vs,Y⟩:=Classical.axiomOfChoice T;refine zK ok W (fun vs Y a w H R O=>?_) _ _ vs _ _ ?_ ⟨by simp,Y,?_,?_,⟨rfl,rfl,rfl,Nat.le_refl _,fun _ _ _=>rfl⟩,fun j Z=>?_,fun i N=>?_,fun j Z M=>?_⟩
 .have:=V vs Y a w H R O;have e:=wpOps_eq_wpList (P:=P) (ops:=l.toArray) (Q:=Q) (l.drop m) m (fun j=>by rw[List.getElem?_drop];simp);rw[List.length_drop]at e;rw[List.size_toArray,e];exact this
 .unfold cnt;rw[List.filter_eq_self.2 (fun j Z=>by simp at Z;simp [Z])];simp
 .exact(dO.start (vs:=vs)).congr (fun j=>by simp [Array.getElem?_replicate];intro _;split<;>simp) (fun _ h=>h.elim)
 .exact⟨rfl,rfl,rfl,Nat.le_refl _,fun _ _ _=>rfl⟩
 .simp [Array.getElem?_replicate];split<;>simp
 .exfalso;simp [Array.getElem?_replicate]at N;split at N<;>simp at N
 exfalso;simp [Array.getElem?_replicate]at M;split at M<;>simp at M
theorem aI{Y:List Nat}{Z:Nat->Nat->Bool}{Q:Act->World->Prop}{E:List qX}{H:List fS}
 (h:∀K:List qX->List fS->Act->(Nat->Value)->Prop,(∀E H a u,fL P ops W0 S Y Z Q r (k+1) E H a u->K E H a u)->
   (∃(v0:Value) (F0:(Nat->Value)->World->Prop),bW P ops W0 S Y Z k o E H a u (fun X=>PP v0 (F0 X))/\K E ((k,F0)::H) (a.put o.dst v0) (fun i=>if i=k then v0 else u i))\/
   (cM E H a u (fun _ a' _=>Region.wanted o (yielded ops a'.tmps)=false)/\K E H (a.put o.dst undef) (fun i=>if i=k then undef else u i))\/
   (∃(pv:Value->Prop) (F:(Nat->Value)->Value->World->Prop),(∃v,pv v)/\bW P ops W0 S Y Z k o E H a u (fun W=>ZK pv (F W))/\K (⟨k,o.dst,pv,F⟩::E) H a u)):
 fL P ops W0 S Y Z Q (o::r) k E H a u:=h _ (fun _ _ _ _ h=>h)
theorem kS{Y:List Nat}{Z:Nat->Nat->Bool}{Q:Act->World->Prop}{E:List qX}{H:List fS}
 (h:cM E H a u fun X a' W=>∀w,aD S W0 w->BX W0 S (fun _=>true) (lO Y Z) Z W X w->Q a' w):fL P ops W0 S Y Z Q [] k E H a u:=h
theorem eL{Q:Exit->Act->World->Prop}(m:Nat)(S:Nat->Prop)(Y:List Nat)(X:P.follows .mixedOrders=true)(W:Rely.okB l.toArray m=true)
 (h:∀Z:Nat->Nat->Bool,Hid (Z=vK (oB l.toArray l.toArray.size))->fL P l.toArray w S Y Z (fun a w=>wpList P l.toArray Q (l.drop m) a w) (l.take m) 0 [] [] a (fun _=>undef)):(Code.region id l.toArray true).wp P Q a w:=
 vG m S Y X W (h _ (aH rfl))
end
end
section
theorem aN{P Q:Prop}(k:Q)(h:cL Q->P:=by
 intro kk
 first
 |(simp only[Act.put,List.setIfInBounds_toArray,List.set_cons_zero,List.set_cons_succ];exact kk.out)
 |exact kk.out):P:=h ⟨k⟩
theorem aQ{P Q:Prop}(k:Q)(h:cL Q->P:=by
 intro kk;simp only[List.drop_succ_cons,List.drop_zero,List.drop,Act.put,List.setIfInBounds_toArray,List.set_cons_zero,List.set_cons_succ];exact kk.out):P:=h ⟨k⟩
theorem aW{P Q:Prop}(k:Q)(h:Q->P:=by with_reducible exact fun k=>cL.mk k):P:=h k
theorem aS{P Q:Prop}(k:Q)(h:Q->P:=by with_reducible exact fun k=>cC k):P:=h k
inductive aX (B C:Value->Prop):Prop
 |mk (v:Value) (b:B v) (c:C v):aX B C
theorem aR{ops:Array Oper}{Y:List Nat}{Z:Nat->Nat->Bool}{Q:Act->World->Prop}{E:List zX}{H:List fS}{B C:Value->Prop}(b:aX B C)
 (X:∀v,cL (B v)->bJ P ops W0 S Y Z k o E H a u (fun V=>PP v (cX V)):=by
   intro v kk;simp only[bJ,bM];refine⟨?_,kk.out⟩
   first|rfl|(go_simp;done))
 (W:∀v,cL (C v)->eR P ops W0 S Y Z Q r (k+1) E ((k,cX)::H) (a.put o.dst v) (fun i=>if i=k then v else u i):=by
   intro v kk
   first
   |(simp only[Act.put,List.setIfInBounds_toArray,List.set_cons_zero,List.set_cons_succ];exact kk.out)
   |exact kk.out):eR P ops W0 S Y Z Q (o::r) k E H a u:=
 let⟨v,hb,hc⟩:=b
 .inl ⟨v,cX,X v ⟨hb⟩,W v ⟨hc⟩⟩
theorem aV{ops:Array Oper}{Y:List Nat}{Z:Nat->Nat->Bool}{Q:Act->World->Prop}{E:List qX}{H:List fS}{B C:Value->Prop}(b:aX B C)
 (X:∀v,cL (B v)->bW P ops W0 S Y Z k o E H a u (fun V=>PP v (cX V)):=by
   intro v kk;simp only[bW,cM];refine⟨?_,kk.out⟩
   first|rfl|(go_simp;done))
 (W:∀v,cL (C v)->fL P ops W0 S Y Z Q r (k+1) E ((k,cX)::H) (a.put o.dst v) (fun i=>if i=k then v else u i):=by
   intro v kk
   first
   |(simp only[Act.put,List.setIfInBounds_toArray,List.set_cons_zero,List.set_cons_succ];exact kk.out)
   |exact kk.out):fL P ops W0 S Y Z Q (o::r) k E H a u:=
 let⟨v,hb,hc⟩:=b
 .inl ⟨v,cX,X v ⟨hb⟩,W v ⟨hc⟩⟩
theorem Kf{ops:Array Oper}{Y:List Nat}{Z:Nat->Nat->Bool}{Q:Act->World->Prop}{E:List zX}{H:List fS}{B C:Value->Prop}(b:aX B C)
 (X:∀v,cL (B v)->bJ P ops W0 S Y Z k o E H a u (fun V=>PP v (cX V)):=by
   intro v kk;simp only[bJ,bM];constructor
   .first|rfl|(go_simp;done)
   intro w9 hw9 hx;clear hx;obtain⟨hc9,hf9⟩:=hw9.all;revert hf9 hc9 hw9 w9;exact kk.out)
 (W:∀v,cL (C v)->eR P ops W0 S Y Z Q r (k+1) E ((k,cX)::H) (a.put o.dst v) (fun i=>if i=k then v else u i):=by
   intro v kk
   first
   |(simp only[Act.put,List.setIfInBounds_toArray,List.set_cons_zero,List.set_cons_succ];exact kk.out)
   |exact kk.out):eR P ops W0 S Y Z Q (o::r) k E H a u:=
 let⟨v,hb,hc⟩:=b
 .inl ⟨v,cX,X v ⟨hb⟩,W v ⟨hc⟩⟩
theorem aU{ops:Array Oper}{Y:List Nat}{Z:Nat->Nat->Bool}{Q:Act->World->Prop}{E:List zX}{H:List fS}(c:C)
 (X:bM E H a u (fun _ a' _=>Region.wanted o (yielded ops a'.tmps)=false):=by
   simp only[bM]
   first|rfl|(go_simp;done))
 (W:cL C->eR P ops W0 S Y Z Q r (k+1) E H (a.put o.dst undef) (fun i=>if i=k then undef else u i):=by
   intro kk
   first
   |(simp only[Act.put,List.setIfInBounds_toArray,List.set_cons_zero,List.set_cons_succ];exact kk.out)
   |exact kk.out):eR P ops W0 S Y Z Q (o::r) k E H a u:=.inr (.inl ⟨X,W ⟨c⟩⟩)
theorem aZ{Y:List Nat}{Z:Nat->Nat->Bool}{Q:Act->World->Prop}{ops:Array Oper}{E:List zX}{H:List fS}(c:C)
 (h:cL C->eR P ops W0 S Y Z Q [] k E H a u:=by
   intro kk;refine cP ?_;simp only[bM];exact kk.out):eR P ops W0 S Y Z Q [] k E H a u:=h ⟨c⟩
theorem bZ{Y:List Nat}{Z:Nat->Nat->Bool}{Q:Act->World->Prop}{ops:Array Oper}{E:List zX}{H:List fS}(c:C)
 (h:cL C->eR P ops W0 S Y Z Q [] k E H a u:=by
   intro kk;refine cP ?_;simp only[bM];intro w9 hw9 hx;clear hx;obtain⟨hc9,hf9⟩:=hw9.all;revert hf9 hc9 hw9 w9;exact kk.out):eR P ops W0 S Y Z Q [] k E H a u:=h ⟨c⟩
theorem aE(h:p:=by exact⟨⟨rfl,trivial⟩,aD.refl _ _⟩):p:=h
theorem aA{Q:Exit->Act->World->Prop}(m:Nat)(h:eR P l.toArray w bN [] (vK (oB l.toArray l.toArray.size)) (fun a w=>wpList P l.toArray Q (l.drop m) a w) (l.take m) 0 [] [] a (fun _=>undef))
 (Z:P.follows .mixedOrders=true:=by kernel_rfl) (Y:Rely.okB l.toArray m=true:=by kernel_rfl):(Code.region id l.toArray true).wp P Q a w:=bK m bN [] Z Y h
theorem aF(h:p:=by first|rfl|(go_simp;done)):p:=h
theorem bA{ops:Array Oper}{Y:List Nat}{Z:Nat->Nat->Bool}{Q:Act->World->Prop}{E:List zX}{H:List fS}(v:Value)(F:(Nat->Value)->World->Prop)(b:B)(c:C)
 (X:cL B->bJ P ops W0 S Y Z k o E H a u (fun V=>PP v (F V)):=by
   intro kk;simp only[bJ,bM];refine⟨?_,kk.out⟩
   first|rfl|(go_simp;done))
 (W:cL C->eR P ops W0 S Y Z Q r (k+1) E ((k,F)::H) (a.put o.dst v) (fun i=>if i=k then v else u i):=by
   intro kk
   first
   |(simp only[Act.put,List.setIfInBounds_toArray,List.set_cons_zero,List.set_cons_succ];exact kk.out)
   |exact kk.out):eR P ops W0 S Y Z Q (o::r) k E H a u:=.inl ⟨v,F,X ⟨b⟩,W ⟨c⟩⟩
theorem bB{ops:Array Oper}{Y:List Nat}{Z:Nat->Nat->Bool}{Q:Act->World->Prop}{E:List zX}{H:List fS}(v:Value)(F:(Nat->Value)->World->Prop)(b:B)(c:C)
 (X:cL B->bJ P ops W0 S Y Z k o E H a u (fun V=>PP v (F V)):=by
   intro kk;simp only[bJ,bM];exact kk.out)
 (W:cL C->eR P ops W0 S Y Z Q r (k+1) E ((k,F)::H) (a.put o.dst v) (fun i=>if i=k then v else u i):=by
   intro kk
   first
   |(simp only[Act.put,List.setIfInBounds_toArray,List.set_cons_zero,List.set_cons_succ];exact kk.out)
   |exact kk.out):eR P ops W0 S Y Z Q (o::r) k E H a u:=.inl ⟨v,F,X ⟨b⟩,W ⟨c⟩⟩
theorem bC{ops:Array Oper}{X:List Nat}{Z:Nat->Nat->Bool}{Q:Act->World->Prop}{E:List zX}{H:List fS}(Y:Value->Prop)(F:Value->World->Prop)(x:∃v,Y v)(b:B)(c:C)
 (W:cL B->bJ P ops W0 S X Z k o E H a u (fun _=>ZK Y F):=by
   intro kk;simp only[bJ,bM];refine⟨?_,kk.out⟩
   first|rfl|(go_simp;done))
 (V:cL C->eR P ops W0 S X Z Q r (k+1) (⟨k,o.dst,Y,F⟩::E) H a u:=by
   intro kk
   first
   |(simp only[Act.put,List.setIfInBounds_toArray,List.set_cons_zero,List.set_cons_succ];exact kk.out)
   |exact kk.out):eR P ops W0 S X Z Q (o::r) k E H a u:=.inr (.inr ⟨Y,F,x,W ⟨b⟩,V ⟨c⟩⟩)
theorem bD{ops:Array Oper}{X:List Nat}{Z:Nat->Nat->Bool}{Q:Act->World->Prop}{E:List zX}{H:List fS}(Y:Value->Prop)(F:Value->World->Prop)(x:∃v,Y v)(b:B)(c:C)
 (W:cL B->bJ P ops W0 S X Z k o E H a u (fun _=>ZK Y F):=by
   intro kk;simp only[bJ,bM];exact kk.out)
 (V:cL C->eR P ops W0 S X Z Q r (k+1) (⟨k,o.dst,Y,F⟩::E) H a u:=by
   intro kk
   first
   |(simp only[Act.put,List.setIfInBounds_toArray,List.set_cons_zero,List.set_cons_succ];exact kk.out)
   |exact kk.out):eR P ops W0 S X Z Q (o::r) k E H a u:=.inr (.inr ⟨Y,F,x,W ⟨b⟩,V ⟨c⟩⟩)
theorem bE{ops:Array Oper}{Y:List Nat}{Z:Nat->Nat->Bool}{Q:Act->World->Prop}{E:List qX}{H:List fS}(v:Value)(F:(Nat->Value)->World->Prop)(b:B)(c:C)
 (X:cL B->bW P ops W0 S Y Z k o E H a u (fun V=>PP v (F V)):=by
   intro kk;simp only[bW,cM];refine⟨?_,kk.out⟩
   first|rfl|(go_simp;done))
 (W:cL C->fL P ops W0 S Y Z Q r (k+1) E ((k,F)::H) (a.put o.dst v) (fun i=>if i=k then v else u i):=by
   intro kk
   first
   |(simp only[Act.put,List.setIfInBounds_toArray,List.set_cons_zero,List.set_cons_succ];exact kk.out)
   |exact kk.out):fL P ops W0 S Y Z Q (o::r) k E H a u:=.inl ⟨v,F,X ⟨b⟩,W ⟨c⟩⟩
theorem bF{ops:Array Oper}{Y:List Nat}{Z:Nat->Nat->Bool}{Q:Act->World->Prop}{E:List qX}{H:List fS}(v:Value)(F:(Nat->Value)->World->Prop)(b:B)(c:C)
 (X:cL B->bW P ops W0 S Y Z k o E H a u (fun V=>PP v (F V)):=by
   intro kk;simp only[bW,cM];exact kk.out)
 (W:cL C->fL P ops W0 S Y Z Q r (k+1) E ((k,F)::H) (a.put o.dst v) (fun i=>if i=k then v else u i):=by
   intro kk
   first
   |(simp only[Act.put,List.setIfInBounds_toArray,List.set_cons_zero,List.set_cons_succ];exact kk.out)
   |exact kk.out):fL P ops W0 S Y Z Q (o::r) k E H a u:=.inl ⟨v,F,X ⟨b⟩,W ⟨c⟩⟩
theorem bG{ops:Array Oper}{X:List Nat}{Z:Nat->Nat->Bool}{Q:Act->World->Prop}{E:List qX}{H:List fS}(Y:Value->Prop)(F:(Nat->Value)->Value->World->Prop)(x:∃v,Y v)(b:B)(c:C)
 (W:cL B->bW P ops W0 S X Z k o E H a u (fun U=>ZK Y (F U)):=by
   intro kk;simp only[bW,cM];refine⟨?_,kk.out⟩
   first|rfl|(go_simp;done))
 (V:cL C->fL P ops W0 S X Z Q r (k+1) (⟨k,o.dst,Y,F⟩::E) H a u:=by
   intro kk
   first
   |(simp only[Act.put,List.setIfInBounds_toArray,List.set_cons_zero,List.set_cons_succ];exact kk.out)
   |exact kk.out):fL P ops W0 S X Z Q (o::r) k E H a u:=.inr (.inr ⟨Y,F,x,W ⟨b⟩,V ⟨c⟩⟩)
theorem bH{ops:Array Oper}{X:List Nat}{Z:Nat->Nat->Bool}{Q:Act->World->Prop}{E:List qX}{H:List fS}(Y:Value->Prop)(F:(Nat->Value)->Value->World->Prop)(x:∃v,Y v)(b:B)(c:C)
 (W:cL B->bW P ops W0 S X Z k o E H a u (fun U=>ZK Y (F U)):=by
   intro kk;simp only[bW,cM];exact kk.out)
 (V:cL C->fL P ops W0 S X Z Q r (k+1) (⟨k,o.dst,Y,F⟩::E) H a u:=by
   intro kk
   first
   |(simp only[Act.put,List.setIfInBounds_toArray,List.set_cons_zero,List.set_cons_succ];exact kk.out)
   |exact kk.out):fL P ops W0 S X Z Q (o::r) k E H a u:=.inr (.inr ⟨Y,F,x,W ⟨b⟩,V ⟨c⟩⟩)
