/-
  Does returns what the reference returns for each thread, behind any moves. No condition beyond the tied variables.
-/
import Derived.Test.YtplpimkgihnmhaaGreatDoorCards
import Derived.Test.YtplpimkgihnmhaaGreatDoorTie
import Derived.Test.YtplpimkgihnmhaaGreatDoorA33
import Derived.Test.YtplpimkgihnmhaaGreatDoorA49
import Derived.Test.YtplpimkgihnmhaaGreatDoorA53
set_option maxRecDepth 100000
set_option maxHeartbeats 4000000
set_option linter.all false
namespace Go.Proofs.YtplpimkgihnmhaaGreatDoor.lawShopDoes
open Go.Proofs.Tryz Go.RowKit
section
open Go.ChangeAt Go.ChangeShapes Go.Joins Go.WideShapes
attribute [local go_sem ↓] Go.wp_at_zero Go.wp_at_succ
def laidE:List (String×DataW Unit):=[("errors.errorType",Rows.laid_errors_errorType),("unicode.White_Space",Rows.laid_unicode_White_Space),("strings.asciiSpace",Rows.laid_strings_asciiSpace)]
def laidP:List (String×DataW Unit):=[("unicode.White_Space",Rows.laid_unicode_White_Space),("strings.asciiSpace",Rows.laid_strings_asciiSpace)]
noncomputable def base (os:Os):World:=
 let w0:=World.holding prog os ⟨#[],#[],[]⟩
 {w0 with heap:=w0.heap.modify 2 fun
   |.cells _ t frozen=>.cells #[.iface 258 (.agg #[.pointer (some ⟨4,27,none⟩)])] t frozen
   |o=>o}
noncomputable def laidWorld (os:Os):World:=(base os).layVars prog laidP
theorem laidWorld_os(os:Os):(laidWorld os).os=os:=World.layVars_os _ _ _
theorem laidWorld_met(os:Os)(Z:Array Value):laidMetH prog laidE ((laidWorld os).forCall (fun _ _=>0) ⟨#[],Z,[]⟩).memory:=by
 have h:laidMetH prog laidE (laidWorld os):=laidMetH_of_parts (show laidMet prog laidP (laidWorld os)from ZH (by kernel_rfl) (by kernel_rfl)) (by kernel_rfl);exact h.of_heap (by simp [World.memory,World.forCall,Input.heap])
theorem factsOf{W:World}(h:laidMetH prog laidE W):Et W.heap.size W/\mR W:=⟨Ga (Cg h (by simp [laidE]) rfl),En h (by simp [laidE])⟩
theorem walk(k:Int)(A:Option Addr)(n c:Nat)(f:Nat->Nat->Int)(w:World)(L:PQ Aj w A n c f)(Q:Et w.heap.size w)(P:mR w):
 Calls prog 4 #[.int .i64 k,.slice A n c] w fun e w'=>e=.returned (.bool true)/\Below w.heap.size w w':=by
 have Z:Hid (Below w.heap.size w w):=Lib.hid (Below.refl _ _);cases hk:mvB k n with
 |false=>
  have R:=Lib.hid (gV k A n c w hk (vQ Q Z.out));clear L Q P hk
  go_enter func4,ntmps4
  go_wp2_with fail
  with_reducible refine R.out.mono ?_
  rintro e K ⟨rfl,W⟩;have O:=Lib.hid (Z.out.trans (W.mono Z.out.size));clear W Z;go_wp2;go_ret;exact⟨rfl,O.out⟩
 |true=>
  have R:=Lib.hid (fM k A n c f w hk (L.below Z.out) (vQ Q Z.out) (P.below Z.out));have H:=Lib.hid (P.below Z.out);clear L Q P hk
  go_enter func4,ntmps4
  go_wp2_with fail
  with_reducible refine R.out.mono ?_
  rintro e K ⟨y,x,rfl,p,v,u,t,q,s,go,r,D,rfl,rfl,V,U,T,S⟩;have Y:=Lib.hid V;have X:=Lib.hid U;have N:=Lib.hid T;have M:=Lib.hid S;clear V U T S R;generalize(pH.new k).play (bL f) n=F at*;have G:=Lib.hid (QV Y.out.ps);have E:=Lib.hid (Es Y.out.rs X.out);have O:=Lib.hid Y.out.b;clear Y X N M H Z;go_wp2
  go_loopw [8] (fun i wr=>∃j:Nat,j<=6/\i=.int .i64 ((j:Int)-1)/\K=wr) (fun i _=>6-(intOf i+1).toNat)
  case atStart=>exact⟨0,by omega,rfl,rfl⟩
  case round=>
   obtain⟨j,o,rfl,rfl⟩:=hrel;by_cases B:j<6
   .have q1:(j:Int)-1<=4:=by omega
    have z:IntKind.i64.wrap ((j:Int)-1+1)=(j:Int):=by rw[show(j:Int)-1+1=j by omega];exact dE (by omega) (by omega)
    go_wp2_with fail
    with_reducible refine(G.out _).mono ?_
    rintro e C ⟨rfl,rfl⟩;go_wp2_with fail
    with_reducible refine(E.out _).mono ?_
    rintro e C ⟨rfl,rfl⟩;go_wp2;go_roundw
    case rel=>exact⟨j+1,by omega,by go_num,trivial⟩
    case measure=>simp [intOf];omega
   .obtain rfl:j=6:=by omega
    go_wp2;go_ret;exact⟨rfl,O.out⟩
theorem own:ownKnob prog.godebug=none:=by kernel_rfl
theorem lifted(os:Os)(V:os.Started)(H:Type)(enc:TypeId×Value->H):
 ReturnsInHanded {} Tryz.checked os 4 .any (fun w Z=>(Rows.shopDoesSpec.pre enc prog Tryz.f4 [] false w Z/\laidMetH prog laidE w)/\sizedMet enc prog Tryz.f4 (OpenSpec.ofChange Rows.shopDoesSpec) false w Z) (Rows.shopDoesSpec.post enc prog Tryz.f4 false true false false):=by
 refine VO (C:=Tryz.checked) (X:=fun w _=>laidMetH prog laidE w) (fun _ _ _ P h=>h.of_heap P) own V (by kernel_rfl) func4
  (ChangeSpec.witness_shaped (enc:=enc) (C:=Tryz.checked) (os:=os) (X:=fun w _=>laidMetH prog laidE w) false (laidWorld os) #[.int .i64 0,.slice none 0 0] 8 (laidWorld_os os) (World.shaped_of_ZipB (by kernel_rfl) (by kernel_rfl)) (by kernel_rfl) (by kernel_rfl) (by kernel_rfl) (laidWorld_met os _))
  (by kernel_rfl) (by kernel_rfl) rfl rfl underlying4 ?_
 intro W base Z O N U T Q M;have S:=factsOf M;have Y:∀(j:Nat) t v,Tryz.f4.params[j]? =some t->Z[j]? =some v->Value.okWide prog W .any base t v:=U;have R:DataW.TrodAll enc prog W 0 (fun _=>true) true Tryz.f4.params.toList Z.toList O N:=T;rw[params4]at R Y;obtain⟨L,G,y,x,u,s,rfl,rfl,rfl,F,E⟩:=trodAll_two R;obtain⟨k,rfl,rfl,rfl,r⟩:=open_int underlying3 (Y 0 3 L rfl rfl) F;obtain⟨D,B,A,l,rfl,z⟩:=Dz (K:=Aj) 4 underlying76 (by kernel_rfl) (by kernel_rfl) (by decide) (Y 1 76 G rfl rfl) E;exact⟨rfl,walk k D B A l W z S.1 S.2⟩
theorem kinPlace:(Rows.shopDoesRow.inPlace==Tryz.pinned.checked.prog.inPlace 4)=true:=by kernel_rfl
theorem kunfollowed:(Rows.shopDoesRow.unfollowed==Tryz.pinned.checked.prog.unfollowed 4)=true:=by kernel_rfl
theorem krecurses:(Rows.shopDoesRow.recurses==Tryz.pinned.checked.prog.recurses 4)=true:=by kernel_rfl
theorem knamed:(Rows.shopDoesRow.named==Tryz.pinned.checked.prog.varsNamed 4)=true:=by kernel_rfl
theorem closed:joinedFacts Tryz.pinned.checked.prog 4 Tryz.f4 Rows.shopDoesSpec Rows.shopDoesRow=true:=by
 unfold joinedFacts;simp only[Bool.and_eq_true]
 repeat' apply And.intro
 all_goals first|(with_reducible exact kinPlace)|(with_reducible exact kunfollowed)|(with_reducible exact krecurses)|(with_reducible exact knamed)|(with_reducible exact Cu)|(with_reducible exact Ce)|kernel_rfl
theorem goes:false=Rows.shopDoesRow.goesBy Tryz.pinned.checked.prog:=by kernel_rfl
theorem wfText:Rows.shopDoesRow.wfByText (OpenSpec.ofChange Rows.shopDoesSpec)=true:=by kernel_rfl
theorem row:Rows.ShopDoesSaid:=
 OpenClaim.holds_of_wide 4 Tryz.f4 rfl rfl rfl rfl rfl rfl rfl ⟨rfl,rfl,rfl,rfl,rfl⟩ rfl rfl rfl rfl rfl (by kernel_rfl) func4 closed
  (of_decide_eq_true (by kernel_rfl)) (by unfold Func.isWrapper;first|(rw[if_pos (by decide+kernel)];kernel_rfl)|(rw[if_neg (by decide+kernel)];exact⟨rfl,rfl⟩))
  (fun X Z H Y _=>lifted X Z H Y)
theorem holds:Rows.ShopDoesCardSaid:=
 Claim7.holds_tied_plain_at .later [] [.handle,.listed,.data] true Rows.shopDoesCard.stood.harness true
  row (fun _ h=>by cases h) wfText (fun _ h=>by cases h) shopDoes_row_tie rfl ⟨rfl,rfl⟩ (by kernel_rfl) rfl
  (fun f W V Y=>by
    obtain rfl:f=4:=Option.some.inj ((show prog.funcNamed Rows.shopDoesRow.func=some 4 by kernel_rfl).symm.trans V)|>.symm
    obtain rfl:W=Tryz.f4:=(Option.some.inj (func4.symm.trans Y)).symm;refine⟨Fa,fun j t U=>?_⟩;have Z:(Tryz.f4.params.toList.all fun t=> !(prog.wantsStandIn t))=true:=by kernel_rfl
    have X:t∈Tryz.f4.params.toList:=List.mem_of_getElem? (by simpa using U);have h:=List.all_eq_true.1 Z t X;show prog.wantsStandIn t=false;simpa using h)
  goes
#print axioms holds
