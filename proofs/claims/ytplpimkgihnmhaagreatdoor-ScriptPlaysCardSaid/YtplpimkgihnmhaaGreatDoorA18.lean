/-
  Parts of a proof. For all values.
-/
import Derived.DeepKeys4
import Derived.Maps.Keyed
import Derived.Test.YtplpimkgihnmhaaGreatDoorA17
set_option maxRecDepth 100000
set_option maxHeartbeats 400000
set_option linter.all false
namespace Go.Proofs.YtplpimkgihnmhaaGreatDoor
open Go.Proofs.Tryz Go.RowKit
variable{w:World}{gm n t l:Nat}
section
open Go.Maps
attribute [local go_sem↓] Go.wp_at_zero Go.wp_at_succ
theorem RD:laidOutB prog=true:=J
theorem Au:Keyed prog 315:=Keyed.of_law (deep_law_laid RD (m:=2) aJ (of_decide_eq_true J) J J)
def PL(t l:Nat):Lit:=.string (keyBytes [.int .i64 t,.int .i64 l])
theorem RJ:((List.range 4).all fun t=>(List.range 9).all fun l=>((prog.keyLits (prog.types.size+1) 315 [.int .i64 (t:Nat),.int .i64 (l:Nat)]).map keyBytes)==some (keyBytes [.int .i64 (t:Nat),.int .i64 (l:Nat)]))=true:=J
theorem TF:prog.keyType 315=true:=J
theorem YS:((List.range 4).all fun t=>(List.range 9).all fun l=>(Value.agg #[(t:Nat),(l:Nat)]).formed prog 315)=true:=J
theorem IG(Y:t<4)(X:l<9):keyOf prog 315 (.agg #[t,l])=some (PL t l):=by
 have h:=List.all_eq_true.1 (List.all_eq_true.1 YS t (List.mem_range.2 Y)) l (List.mem_range.2 X);unfold keyOf;rw[underlying315];simp only[TF,h,Bool.and_self,if_true];rw[show(Value.agg #[t,l]).cells.toList=[.int .i64 (t:Int),.int .i64 (l:Int)]from rfl];have Z:=List.all_eq_true.1 (List.all_eq_true.1 RJ t (List.mem_range.2 Y)) l (List.mem_range.2 X);rw[beq_iff_eq,Option.map_eq_some_iff]at Z;obtain⟨U,W,V⟩:=Z;rw[W,Option.map_some,V];rfl
theorem XT:((List.range 4).all fun t=>(List.range 9).all fun l=>(List.range 4).all fun Z=>(List.range 9).all fun Y=>
 (keyBytes [.int .i64 (t:Nat),.int .i64 (l:Nat)] !=keyBytes [.int .i64 (Z:Nat),.int .i64 (Y:Nat)])||(t==Z&&l==Y))=true:=by decide+kernel
theorem Bh(t:Nat)(U:t<4)(l:Nat)(T:l<9)(Z:Nat)(X:Z<4)(Y:Nat)(W:Y<9)(h:keyBytes [.int .i64 (t:Nat),.int .i64 (l:Nat)]=keyBytes [.int .i64 (Z:Nat),.int .i64 (Y:Nat)]):t=Z/\l=Y:=by
 have V:=List.all_eq_true.1 (List.all_eq_true.1 (List.all_eq_true.1 (List.all_eq_true.1 XT t (List.mem_range.2 U)) l (List.mem_range.2 T)) Z (List.mem_range.2 X)) Y (List.mem_range.2 W);rw[h]at V;simpa using V
theorem LM{Z Y:Nat}(V:t<4)(U:l<9)(X:Z<4)(W:Y<9)(h:PL t l=PL Z Y):t=Z/\l=Y:=
 Bh t V l U Z X Y W (by unfold PL at h;exact Lit.string.inj h)
theorem Cb(t l:Nat):WideAt.IsKeyLit (PL t l):=by
 unfold PL
 first|exact trivial|(unfold WideAt.IsKeyLit;trivial)|(simp [WideAt.IsKeyLit])
theorem Av(w:World):(zeroValue 4).run prog w=.ok false w:=J
def gP(f:Nat->Nat->Bool)(gm n:Nat)(w:World):Prop:=
 ∃D:DataW Unit,w.ownsMap prog 315 (plainElem prog 4) gm n D/\∀t l,t<4->l<9->D.atKey (PL t l) (.lit (.bool false))=.lit (.bool (f t l))
theorem gP.lt{f:Nat->Nat->Bool}(h:gP f gm n w):gm<w:=by
 obtain⟨D,Z,_⟩:=h;exact Z.lt
theorem gP.mono{f:Nat->Nat->Bool}{Z:Nat}(h:gP f gm n w)(W:n<=Z):gP f gm Z w:=by
 obtain⟨D,Y,X⟩:=h;exact⟨D,Y.mono W,X⟩
theorem gP.congr{f X:Nat->Nat->Bool}(h:gP f gm n w)(e:∀t l,t<4->l<9->X t l=f t l):gP X gm n w:=by
 obtain⟨D,W,V⟩:=h;exact⟨D,W,fun t l Z Y=>by rw[V t l Z Y,e t l Z Y]⟩
theorem gP.look{f:Nat->Nat->Bool}(h:gP f gm n w)(Y:t<4)(X:l<9):
 (Instr.lookup 72 (.map (some gm)) (.agg #[t,l]) false).run prog w=.ok (f t l) w:=by
 obtain⟨D,W,V⟩:=h;obtain⟨v,T,U,Z⟩:=W.lookup Au underlying72 (Av w) (plainElem_bool underlying4 false) (IG Y X);rw[V t l Y X]at Z;unfold plainElem at Z;rw[underlying4]at Z;cases v<;>simp at Z
 rw[U,Z.1]
theorem gP.kept{f:Nat->Nat->Bool}{w':World}{S:Nat->Prop}(h:gP f gm n w)(P:aD S w w')(O:¬S gm):gP f gm n w':=by
 obtain⟨D,Y,W⟩:=h;have X:=P.block gm Y.lt O;obtain⟨V,Z,U,T,R,Q⟩:=Y;exact⟨D,⟨V,Z,X.trans U,T,R,Q⟩,W⟩
theorem gP.start(w:World):gP (fun _ _=>false) w 0 (w.alloc (.map #[] 0)):=
 ⟨.map [],World.ownsMap_made w _ _ _,fun t l _ _=>by simp [DataW.atKey]⟩
theorem vE{w':World}{b:Nat}(h:w.mapTurned w' b):aD (nQ b) w w':=by
 have Z:=h.grown;exact⟨Z.os,Z.tape,Z.output,Z.size,fun k Y X=>Z.block k Y (fun e=>X (Option.some.inj e))⟩
