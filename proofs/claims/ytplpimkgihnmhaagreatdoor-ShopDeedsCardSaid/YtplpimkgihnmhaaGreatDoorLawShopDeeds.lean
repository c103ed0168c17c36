/-
  Deeds returns what the reference returns, behind any moves. No condition beyond the tied variables.
-/
import Derived.Test.YtplpimkgihnmhaaGreatDoorCards
import Derived.Test.YtplpimkgihnmhaaGreatDoorTie
import Derived.Test.YtplpimkgihnmhaaGreatDoorA33
import Derived.Test.YtplpimkgihnmhaaGreatDoorA48
import Derived.Test.YtplpimkgihnmhaaGreatDoorA49
import Derived.Test.YtplpimkgihnmhaaGreatDoorA53
import Derived.Test.YtplpimkgihnmhaaGreatDoorA55
import Derived.Test.YtplpimkgihnmhaaGreatDoorA58
set_option maxRecDepth 100000
set_option maxHeartbeats 4000000
set_option linter.all false
namespace Go.Proofs.YtplpimkgihnmhaaGreatDoor.lawShopDeeds
open Go.Proofs.Tryz Go.RowKit
section
open Go.ChangeAt Go.ChangeShapes Go.Joins Go.WideShapes
attribute [local go_sem ↓] Go.wp_at_zero Go.wp_at_succ
def laidE:List (String×DataW Unit):=[("errors.errorType",Rows.laid_errors_errorType),("unicode.White_Space",Rows.laid_unicode_White_Space),("strings.asciiSpace",Rows.laid_strings_asciiSpace)]
def laidP:List (String×DataW Unit):=[("unicode.White_Space",Rows.laid_unicode_White_Space),("strings.asciiSpace",Rows.laid_strings_asciiSpace)]
noncomputable def base (os:Os):World:=
 let w0:=World.holding prog os ⟨#[],#[],[]⟩
 {w0 with heap:=w0.heap.modify 2 fun
   |.cells _ t frozen=>.cells #[.iface 258 (.agg #[.pointer (some ⟨4,27,none⟩)])] t frozen
   |o=>o}
noncomputable def laidWorld (os:Os):World:=(base os).layVars prog laidP
theorem laidWorld_os(os:Os):(laidWorld os).os=os:=World.layVars_os _ _ _
theorem laidWorld_met(os:Os)(Z:Array Value):laidMetH prog laidE ((laidWorld os).forCall (fun _ _=>0) ⟨#[],Z,[]⟩).memory:=by
 have h:laidMetH prog laidE (laidWorld os):=laidMetH_of_parts (show laidMet prog laidP (laidWorld os)from ZH (by kernel_rfl) (by kernel_rfl)) (by kernel_rfl);exact h.of_heap (by simp [World.memory,World.forCall,Input.heap])
theorem factsOf{W:World}(h:laidMetH prog laidE W):Et W.heap.size W/\mR W:=⟨Ga (Cg h (by simp [laidE]) rfl),En h (by simp [laidE])⟩
theorem walk(k:Int)(A:Option Addr)(n c:Nat)(f:Nat->Nat->Int)(w:World)(z:PQ Aj w A n c f)(G:Et w.heap.size w)(E:mR w):
 Calls prog 7 #[.int .i64 k,.slice A n c] w fun e w'=>e=.returned (.bool true)/\Below w.heap.size w w':=by
 have Z:Hid (Below w.heap.size w w):=Lib.hid (Below.refl _ _);cases hk:mvB k n with
 |false=>
  have H:=Lib.hid (gV k A n c w hk (vQ G Z.out));clear z G E hk
  go_enter func7,ntmps7
  go_wp2_with fail
  with_reducible refine H.out.mono ?_
  rintro e t ⟨rfl,Y⟩;have D:=Lib.hid (Z.out.trans (Y.mono Z.out.size));clear Y Z;go_wp2;go_ret;exact⟨rfl,D.out⟩
 |true=>
  have H:=Lib.hid (fM k A n c f w hk (z.below Z.out) (vQ G Z.out) (E.below Z.out));have i:=Lib.hid (E.below Z.out);clear z G E hk
  go_enter func7,ntmps7
  go_wp2_with fail
  with_reducible refine H.out.mono ?_
  rintro e t ⟨h,g,rfl,p,d,a,gw,q,qs,go,pt,s,rfl,rfl,Q,P,O,N⟩;have X:=Lib.hid Q;have W:=Lib.hid P;have x:=Lib.hid O;have v:=Lib.hid N;clear Q P O N H;generalize(pH.new k).play (bL f) n=F at*;have y:=Lib.hid (aAI X.out.ps W.out (by omega));have C:Hid (∀r∈(aB F.of F.V).map (·.2),aBP r):=Lib.hid (aAO W.out);go_wp2_with fail
  with_reducible refine y.out.mono ?_
  rintro e w2 ⟨o,c1,rfl,M,Y⟩;have S:=Lib.hid M.slr;have U:=Lib.hid (X.out.below Y);clear M Y y X;have R:=Lib.hid (aAM U.out.rs W.out (by omega));go_wp2_with fail
  with_reducible refine R.out.mono ?_
  rintro e m ⟨l,j,rfl,L,T⟩;have u:=Lib.hid (pB o l _ c1 j _ m (S.out.below T) L.slr C.out);have B:=Lib.hid (U.out.below T);clear L T R U S;go_wp2_with fail
  with_reducible refine u.out.mono ?_
  rintro e w4 ⟨rfl,K⟩;have D:=Lib.hid (Z.out.trans ((B.out.below K).b.mono Z.out.size));clear K;go_wp2;go_ret;exact⟨dF (by simp),D.out⟩
theorem own:ownKnob prog.godebug=none:=by kernel_rfl
theorem lifted(os:Os)(V:os.Started)(H:Type)(enc:TypeId×Value->H):
 ReturnsInHanded {} Tryz.checked os 7 .any (fun w Z=>(Rows.shopDeedsSpec.pre enc prog Tryz.f7 [] false w Z/\laidMetH prog laidE w)/\sizedMet enc prog Tryz.f7 (OpenSpec.ofChange Rows.shopDeedsSpec) false w Z) (Rows.shopDeedsSpec.post enc prog Tryz.f7 false true false false):=by
 refine VO (C:=Tryz.checked) (X:=fun w _=>laidMetH prog laidE w) (fun _ _ _ P h=>h.of_heap P) own V (by kernel_rfl) func7
  (ChangeSpec.witness_shaped (enc:=enc) (C:=Tryz.checked) (os:=os) (X:=fun w _=>laidMetH prog laidE w) false (laidWorld os) #[.int .i64 0,.slice none 0 0] 8 (laidWorld_os os) (World.shaped_of_ZipB (by kernel_rfl) (by kernel_rfl)) (by kernel_rfl) (by kernel_rfl) (by kernel_rfl) (laidWorld_met os _))
  (by kernel_rfl) (by kernel_rfl) rfl rfl underlying4 ?_
 intro W base Z O N U T Q M;have S:=factsOf M;have Y:∀(j:Nat) t v,Tryz.f7.params[j]? =some t->Z[j]? =some v->Value.okWide prog W .any base t v:=U;have R:DataW.TrodAll enc prog W 0 (fun _=>true) true Tryz.f7.params.toList Z.toList O N:=T;rw[params7]at R Y;obtain⟨L,G,y,x,u,s,rfl,rfl,rfl,F,E⟩:=trodAll_two R;obtain⟨k,rfl,rfl,rfl,r⟩:=open_int underlying3 (Y 0 3 L rfl rfl) F;obtain⟨D,B,A,l,rfl,z⟩:=Dz (K:=Aj) 4 underlying76 (by kernel_rfl) (by kernel_rfl) (by decide) (Y 1 76 G rfl rfl) E;exact⟨rfl,walk k D B A l W z S.1 S.2⟩
theorem kinPlace:(Rows.shopDeedsRow.inPlace==Tryz.pinned.checked.prog.inPlace 7)=true:=by kernel_rfl
theorem kunfollowed:(Rows.shopDeedsRow.unfollowed==Tryz.pinned.checked.prog.unfollowed 7)=true:=by kernel_rfl
theorem krecurses:(Rows.shopDeedsRow.recurses==Tryz.pinned.checked.prog.recurses 7)=true:=by kernel_rfl
theorem knamed:(Rows.shopDeedsRow.named==Tryz.pinned.checked.prog.varsNamed 7)=true:=by kernel_rfl
theorem closed:joinedFacts Tryz.pinned.checked.prog 7 Tryz.f7 Rows.shopDeedsSpec Rows.shopDeedsRow=true:=by
 unfold joinedFacts;simp only[Bool.and_eq_true]
 repeat' apply And.intro
 all_goals first|(with_reducible exact kinPlace)|(with_reducible exact kunfollowed)|(with_reducible exact krecurses)|(with_reducible exact knamed)|(with_reducible exact Cu)|(with_reducible exact Ce)|kernel_rfl
theorem goes:false=Rows.shopDeedsRow.goesBy Tryz.pinned.checked.prog:=by kernel_rfl
theorem wfText:Rows.shopDeedsRow.wfByText (OpenSpec.ofChange Rows.shopDeedsSpec)=true:=by kernel_rfl
theorem row:Rows.ShopDeedsSaid:=
 OpenClaim.holds_of_wide 7 Tryz.f7 rfl rfl rfl rfl rfl rfl rfl ⟨rfl,rfl,rfl,rfl,rfl⟩ rfl rfl rfl rfl rfl (by kernel_rfl) func7 closed
  (of_decide_eq_true (by kernel_rfl)) (by unfold Func.isWrapper;first|(rw[if_pos (by decide+kernel)];kernel_rfl)|(rw[if_neg (by decide+kernel)];exact⟨rfl,rfl⟩))
  (fun X Z H Y _=>lifted X Z H Y)
theorem holds:Rows.ShopDeedsCardSaid:=
 Claim7.holds_tied_plain_at .later [] [.handle,.listed,.data] true Rows.shopDeedsCard.stood.harness true
  row (fun _ h=>by cases h) wfText (fun _ h=>by cases h) shopDeeds_row_tie rfl ⟨rfl,rfl⟩ (by kernel_rfl) rfl
  (fun f W V Y=>by
    obtain rfl:f=7:=Option.some.inj ((show prog.funcNamed Rows.shopDeedsRow.func=some 7 by kernel_rfl).symm.trans V)|>.symm
    obtain rfl:W=Tryz.f7:=(Option.some.inj (func7.symm.trans Y)).symm;refine⟨Fa,fun j t U=>?_⟩;have Z:(Tryz.f7.params.toList.all fun t=> !(prog.wantsStandIn t))=true:=by kernel_rfl
    have X:t∈Tryz.f7.params.toList:=List.mem_of_getElem? (by simpa using U);have h:=List.all_eq_true.1 Z t X;show prog.wantsStandIn t=false;simpa using h)
  goes
#print axioms holds
