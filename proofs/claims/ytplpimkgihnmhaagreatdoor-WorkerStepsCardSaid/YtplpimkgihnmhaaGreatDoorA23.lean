/-
  Part of a proof: StR. For all values.
-/
import Derived.DeepKeys4
import Derived.Maps.Keyed
import Derived.Test.YtplpimkgihnmhaaGreatDoorA21
set_option maxRecDepth 100000
set_option maxHeartbeats 400000
set_option linter.all false
namespace Go.Proofs.YtplpimkgihnmhaaGreatDoor
open Go.Proofs.Tryz Go.RowKit
section
open Go.Maps
attribute [local go_sem↓] Go.wp_at_zero Go.wp_at_succ
theorem RD:laidOutB prog=true:=J
theorem Au:Keyed prog 315:=Keyed.of_law (deep_law_laid RD (m:=2) aJ (of_decide_eq_true J) J J)
def PL(t l:Nat):Lit:=.string (keyBytes [.int .i64 t,.int .i64 l])
theorem RJ:((List.range 4).all fun t=>(List.range 9).all fun l=>((prog.keyLits (prog.types.size+1) 315 [.int .i64 (t:Nat),.int .i64 (l:Nat)]).map keyBytes)==some (keyBytes [.int .i64 (t:Nat),.int .i64 (l:Nat)]))=true:=J
theorem TF:prog.keyType 315=true:=J
theorem YS:((List.range 4).all fun t=>(List.range 9).all fun l=>(Value.agg #[(t:Nat),(l:Nat)]).formed prog 315)=true:=J
theorem IG{t l:Nat}(ht:t<4)(hl:l<9):keyOf prog 315 (.agg #[t,l])=some (PL t l):=by
 have h:=List.all_eq_true.1 (List.all_eq_true.1 YS t (List.mem_range.2 ht)) l (List.mem_range.2 hl)
 unfold keyOf
 rw[underlying315]
 simp only[TF,h,Bool.and_self,if_true]
 rw[show(Value.agg #[t,l]).cells.toList=[.int .i64 (t:Int),.int .i64 (l:Int)]from rfl]
 have h2:=List.all_eq_true.1 (List.all_eq_true.1 RJ t (List.mem_range.2 ht)) l (List.mem_range.2 hl)
 rw[beq_iff_eq,Option.map_eq_some_iff]at h2
 obtain⟨ls,e1,e2⟩:=h2
 rw[e1,Option.map_some,e2]
 rfl
theorem XT:((List.range 4).all fun t=>(List.range 9).all fun l=>(List.range 4).all fun t'=>(List.range 9).all fun l'=>
 (keyBytes [.int .i64 (t:Nat),.int .i64 (l:Nat)] !=keyBytes [.int .i64 (t':Nat),.int .i64 (l':Nat)])||(t==t'&&l==l'))=true:=by decide+kernel
theorem Bh(t:Nat)(ht:t<4)(l:Nat)(hl:l<9)(t':Nat)(ht':t'<4)(l':Nat)(hl':l'<9)(h:keyBytes [.int .i64 (t:Nat),.int .i64 (l:Nat)]=keyBytes [.int .i64 (t':Nat),.int .i64 (l':Nat)]):t=t'/\l=l':=by
 have h1:=List.all_eq_true.1 (List.all_eq_true.1 (List.all_eq_true.1 (List.all_eq_true.1 XT t (List.mem_range.2 ht)) l (List.mem_range.2 hl)) t' (List.mem_range.2 ht')) l' (List.mem_range.2 hl')
 rw[h]at h1
 simpa using h1
theorem LM{t l t' l':Nat}(ht:t<4)(hl:l<9)(ht':t'<4)(hl':l'<9)(h:PL t l=PL t' l'):t=t'/\l=l':=
 Bh t ht l hl t' ht' l' hl' (by unfold PL at h;exact Lit.string.inj h)
theorem Cb(t l:Nat):WideAt.IsKeyLit (PL t l):=by
 unfold PL
 first|exact trivial|(unfold WideAt.IsKeyLit;trivial)|(simp [WideAt.IsKeyLit])
theorem Av(w:World):(zeroValue 4).run prog w=.ok false w:=J
def gP(f:Nat->Nat->Bool)(gm n:Nat)(w:World):Prop:=
 ∃D:DataW Unit,w.ownsMap prog 315 (plainElem prog 4) gm n D/\∀t l,t<4->l<9->D.atKey (PL t l) (.lit (.bool false))=.lit (.bool (f t l))
theorem gP.lt{f:Nat->Nat->Bool}{gm n:Nat}{w:World}(h:gP f gm n w):gm<w:=by
 obtain⟨D,ho,_⟩:=h
 exact ho.lt
theorem gP.congr{f f':Nat->Nat->Bool}{gm n:Nat}{w:World}(h:gP f gm n w)(e:∀t l,t<4->l<9->f' t l=f t l):gP f' gm n w:=by
 obtain⟨D,ho,hD⟩:=h
 exact⟨D,ho,fun t l ht hl=>by rw[hD t l ht hl,e t l ht hl]⟩
theorem gP.look{f:Nat->Nat->Bool}{gm n:Nat}{w:World}(h:gP f gm n w){t l:Nat}(ht:t<4)(hl:l<9):
 (Instr.lookup 72 (.map (some gm)) (.agg #[t,l]) false).run prog w=.ok (f t l) w:=by
 obtain⟨D,ho,hD⟩:=h
 obtain⟨v,ps,hr,hv⟩:=ho.lookup Au underlying72 (Av w) (plainElem_bool underlying4 false) (IG ht hl)
 rw[hD t l ht hl]at hv
 unfold plainElem at hv
 rw[underlying4]at hv
 cases v<;>simp at hv
 rw[hr,hv.1]
theorem gP.kept{f:Nat->Nat->Bool}{gm n:Nat}{w w':World}{S:Nat->Prop}(h:gP f gm n w)(hk:aD S w w')(hS:¬S gm):gP f gm n w':=by
 obtain⟨D,ho,hD⟩:=h
 have hb:=hk.block gm ho.lt hS
 obtain⟨es,clock,h1,h2,h3,h4⟩:=ho
 exact⟨D,⟨es,clock,hb.trans h1,h2,h3,h4⟩,hD⟩
theorem gP.start(w:World):gP (fun _ _=>false) w 0 (w.alloc (.map #[] 0)):=
 ⟨.map [],World.ownsMap_made w _ _ _,fun t l _ _=>by simp [DataW.atKey]⟩
theorem vE{w w':World}{b:Nat}(h:w.mapTurned w' b):aD (nQ b) w w':=by
 have hg:=h.grown
 exact⟨hg.os,hg.tape,hg.output,hg.size,fun k hk hn=>hg.block k hk (fun e=>hn (Option.some.inj e))⟩
end
end Go.Proofs.YtplpimkgihnmhaaGreatDoor
