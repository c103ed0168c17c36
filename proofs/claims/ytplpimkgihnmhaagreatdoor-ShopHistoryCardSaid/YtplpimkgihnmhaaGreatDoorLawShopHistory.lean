/-
  History returns what the reference returns, behind any moves. No condition beyond the tied variables.
-/
import Derived.Test.YtplpimkgihnmhaaGreatDoorCards
import Derived.Test.YtplpimkgihnmhaaGreatDoorTie
import Derived.Test.YtplpimkgihnmhaaGreatDoorA33
import Derived.Test.YtplpimkgihnmhaaGreatDoorA45
import Derived.Test.YtplpimkgihnmhaaGreatDoorA49
import Derived.Test.YtplpimkgihnmhaaGreatDoorA53
import Derived.Test.YtplpimkgihnmhaaGreatDoorA57
set_option maxRecDepth 100000
set_option maxHeartbeats 4000000
set_option linter.all false
namespace Go.Proofs.YtplpimkgihnmhaaGreatDoor.lawShopHistory
open Go.Proofs.Tryz Go.RowKit
section
open Go.ChangeAt Go.ChangeShapes Go.Joins Go.WideShapes
attribute [local go_sem ↓] Go.wp_at_zero Go.wp_at_succ
def laidE:List (String×DataW Unit):=[("errors.errorType",Rows.laid_errors_errorType),("unicode.White_Space",Rows.laid_unicode_White_Space),("strings.asciiSpace",Rows.laid_strings_asciiSpace)]
def laidP:List (String×DataW Unit):=[("unicode.White_Space",Rows.laid_unicode_White_Space),("strings.asciiSpace",Rows.laid_strings_asciiSpace)]
noncomputable def base (os:Os):World:=
 let w0:=World.holding prog os ⟨#[],#[],[]⟩
 {w0 with heap:=w0.heap.modify 2 fun
   |.cells _ t frozen=>.cells #[.iface 258 (.agg #[.pointer (some ⟨4,27,none⟩)])] t frozen
   |o=>o}
noncomputable def laidWorld (os:Os):World:=(base os).layVars prog laidP
theorem laidWorld_os(os:Os):(laidWorld os).os=os:=World.layVars_os _ _ _
theorem laidWorld_met(os:Os)(Z:Array Value):laidMetH prog laidE ((laidWorld os).forCall (fun _ _=>0) ⟨#[],Z,[]⟩).memory:=by
 have h:laidMetH prog laidE (laidWorld os):=laidMetH_of_parts (show laidMet prog laidP (laidWorld os)from ZH (by kernel_rfl) (by kernel_rfl)) (by kernel_rfl);exact h.of_heap (by simp [World.memory,World.forCall,Input.heap])
theorem factsOf{W:World}(h:laidMetH prog laidE W):Et W.heap.size W/\mR W:=⟨Ga (Cg h (by simp [laidE]) rfl),En h (by simp [laidE])⟩
theorem walk(k:Int)(A:Option Addr)(n c:Nat)(f:Nat->Nat->Int)(w:World)(m:PQ Aj w A n c f)(L:Et w.heap.size w)(G:mR w):
 Calls prog 5 #[.int .i64 k,.slice A n c] w fun e w'=>e=.returned (.bool true)/\Below w.heap.size w w':=by
 have Z:Hid (Below w.heap.size w w):=Lib.hid (Below.refl _ _);cases hk:mvB k n with
 |false=>
  have M:=Lib.hid (gV k A n c w hk (vQ L Z.out));clear m L G hk
  go_enter func5,ntmps5
  go_wp2_with fail
  with_reducible refine M.out.mono ?_
  rintro e l ⟨rfl,T⟩;have E:=Lib.hid (Z.out.trans (T.mono Z.out.size));clear T Z;go_wp2;go_ret;exact⟨rfl,E.out⟩
 |true=>
  have M:=Lib.hid (fM k A n c f w hk (m.below Z.out) (vQ L Z.out) (G.below Z.out));have HE:=Lib.hid (G.below Z.out);clear m L G hk
  go_enter func5,ntmps5
  go_wp2_with fail
  with_reducible refine M.out.mono ?_
  rintro e l ⟨pv,rv,rfl,p,gm,gs,gw,q,qs,go,pt,zz,rfl,rfl,S,R,Q,P⟩;have W:=Lib.hid S;have D:=Lib.hid R;have a:=Lib.hid Q;have U:=Lib.hid P;clear S R Q P M;generalize(pH.new k).play (bL f) n=F at*;have C:Hid (∀r∈F.hist,∀u∈r,u.oneCell'=true):=Lib.hid (fun r V u j=>by
   obtain⟨x0,x1,x2,x3,x4,x5,x6,x7,x8,rfl⟩:=U.out r V;simp only[List.mem_cons,List.not_mem_nil,or_false]at j;rcases j with rfl|rfl|rfl|rfl|rfl|rfl|rfl|rfl|rfl<;>rfl)
  obtain⟨n',mp,H,i,v,V⟩:=W.out.rs;have B:l.cell? ⟨q,22,none⟩=some (.slice H F.hist.length i):=by rw[V.sh.cell,QW]
  have hq:=V.sh.lt;have z:=Lib.hid V.hi.slr;clear V v;go_wp2;refine bK 6 bN [] (by kernel_rfl) (by kernel_rfl) ?_
  first|(with_reducible refine aC (fun K Y=>?_))|(refine aC (fun K Y=>?_))
  refine .inl ?_;apply Exists.intro;refine⟨cX,?_,Y _ _ _ _ ?_⟩
  .simp only[bJ,bM];refine⟨?_,fun w9 hw9 t=>?_⟩
   .first|rfl|(go_simp;done)
   with_reducible refine cC ?_
   obtain⟨hc9,hf9⟩:=hw9.all
   with_reducible refine cL.mk ?_
   go_simp
   first
   |exact⟨⟨rfl,trivial⟩,aD.refl _ _⟩
  clear Y K
  try simp only[Act.put,List.setIfInBounds_toArray,List.set_cons_zero,List.set_cons_succ]
  first|(with_reducible refine aC (fun K Y=>?_))|(refine aC (fun K Y=>?_))
  refine .inr (.inr ⟨(DN F.hist.length),(fun vv w'=>∃A' c',vv=.slice A' F.hist.length c'/\FI 9 w' A' F.hist.length c' F.hist),⟨_,none,0,rfl⟩,?_,Y _ _ _ _ ?_⟩)
  .simp only[bJ,bM];refine⟨?_,fun w9 hw9 s=>?_⟩
   .first|rfl|(go_simp;done)
   with_reducible refine cC ?_
   have y:=Lib.hid (OO (W.out.ps.below hw9.same) D.out (by omega) C.out)
   with_reducible refine cL.mk ?_
   go_simp;go_at_call 31;refine y.out.mono ?_;rintro e zy ⟨A,c,rfl,ho,hb⟩;exact⟨_,rfl,⟨⟨_,_,rfl⟩,⟨_,_,rfl,ho.slr⟩⟩,aD.of_same hb⟩
  iterate 4
   clear Y K
   try simp only[Act.put,List.setIfInBounds_toArray,List.set_cons_zero,List.set_cons_succ]
   first|(with_reducible refine aC (fun K Y=>?_))|(refine aC (fun K Y=>?_))
   refine .inl ?_;apply Exists.intro;refine⟨cX,?_,Y _ _ _ _ ?_⟩
   .simp only[bJ,bM];rintro _ ⟨h,g,rfl⟩;refine⟨?_,fun w9 hw9 t=>?_⟩
    .first|rfl|(go_simp;done)
    with_reducible refine cC ?_
    obtain⟨hc9,hf9⟩:=hw9.all
    with_reducible refine cL.mk ?_
    go_simp
    first
    |exact⟨⟨rfl,trivial⟩,aD.refl _ _⟩
  clear Y K
  try simp only[Act.put,List.setIfInBounds_toArray,List.set_cons_zero,List.set_cons_succ]
  refine cP ?_;simp only[bM];rintro _ ⟨h,g,rfl⟩ w9 hw9 X;simp only[List.drop_succ_cons,List.drop_zero,List.drop,Act.put,List.setIfInBounds_toArray,List.set_cons_zero,List.set_cons_succ]
  with_reducible refine cC ?_
  obtain⟨w0,k0,d,A8,c8,o,O⟩:=X.1 rfl;cases o;have HS:=Lib.hid (lX h H _ g i _ w9 (O.below (cA d (by kernel_rfl))) (z.out.below hw9.same) U.out);have x:=Lib.hid (W.out.below hw9.same);clear X O k0 d w0 hw9 B hq
  with_reducible refine cL.mk ?_
  go_wp2_with fail
  with_reducible refine HS.out.mono ?_
  rintro e w4 ⟨rfl,N⟩;have E:=Lib.hid (Z.out.trans ((x.out.below N).b.mono Z.out.size));clear N;go_wp2;go_ret;exact⟨dF (by simp),E.out⟩
theorem own:ownKnob prog.godebug=none:=by kernel_rfl
theorem lifted(os:Os)(V:os.Started)(H:Type)(enc:TypeId×Value->H):
 ReturnsInHanded {} Tryz.checked os 5 .any (fun w Z=>(Rows.shopHistorySpec.pre enc prog Tryz.f5 [] false w Z/\laidMetH prog laidE w)/\sizedMet enc prog Tryz.f5 (OpenSpec.ofChange Rows.shopHistorySpec) false w Z) (Rows.shopHistorySpec.post enc prog Tryz.f5 false true false false):=by
 refine VO (C:=Tryz.checked) (X:=fun w _=>laidMetH prog laidE w) (fun _ _ _ P h=>h.of_heap P) own V (by kernel_rfl) func5
  (ChangeSpec.witness_shaped (enc:=enc) (C:=Tryz.checked) (os:=os) (X:=fun w _=>laidMetH prog laidE w) false (laidWorld os) #[.int .i64 0,.slice none 0 0] 8 (laidWorld_os os) (World.shaped_of_ZipB (by kernel_rfl) (by kernel_rfl)) (by kernel_rfl) (by kernel_rfl) (by kernel_rfl) (laidWorld_met os _))
  (by kernel_rfl) (by kernel_rfl) rfl rfl underlying4 ?_
 intro W base Z O N U T Q M;have S:=factsOf M;have Y:∀(j:Nat) t v,Tryz.f5.params[j]? =some t->Z[j]? =some v->Value.okWide prog W .any base t v:=U;have R:DataW.TrodAll enc prog W 0 (fun _=>true) true Tryz.f5.params.toList Z.toList O N:=T;rw[params5]at R Y;obtain⟨L,G,y,x,u,s,rfl,rfl,rfl,F,E⟩:=trodAll_two R;obtain⟨k,rfl,rfl,rfl,r⟩:=open_int underlying3 (Y 0 3 L rfl rfl) F;obtain⟨D,B,A,l,rfl,z⟩:=Dz (K:=Aj) 4 underlying76 (by kernel_rfl) (by kernel_rfl) (by decide) (Y 1 76 G rfl rfl) E;exact⟨rfl,walk k D B A l W z S.1 S.2⟩
theorem kinPlace:(Rows.shopHistoryRow.inPlace==Tryz.pinned.checked.prog.inPlace 5)=true:=by kernel_rfl
theorem kunfollowed:(Rows.shopHistoryRow.unfollowed==Tryz.pinned.checked.prog.unfollowed 5)=true:=by kernel_rfl
theorem krecurses:(Rows.shopHistoryRow.recurses==Tryz.pinned.checked.prog.recurses 5)=true:=by kernel_rfl
theorem knamed:(Rows.shopHistoryRow.named==Tryz.pinned.checked.prog.varsNamed 5)=true:=by kernel_rfl
theorem closed:joinedFacts Tryz.pinned.checked.prog 5 Tryz.f5 Rows.shopHistorySpec Rows.shopHistoryRow=true:=by
 unfold joinedFacts;simp only[Bool.and_eq_true]
 repeat' apply And.intro
 all_goals first|(with_reducible exact kinPlace)|(with_reducible exact kunfollowed)|(with_reducible exact krecurses)|(with_reducible exact knamed)|(with_reducible exact Cu)|(with_reducible exact Ce)|kernel_rfl
theorem goes:false=Rows.shopHistoryRow.goesBy Tryz.pinned.checked.prog:=by kernel_rfl
theorem wfText:Rows.shopHistoryRow.wfByText (OpenSpec.ofChange Rows.shopHistorySpec)=true:=by kernel_rfl
theorem row:Rows.ShopHistorySaid:=
 OpenClaim.holds_of_wide 5 Tryz.f5 rfl rfl rfl rfl rfl rfl rfl ⟨rfl,rfl,rfl,rfl,rfl⟩ rfl rfl rfl rfl rfl (by kernel_rfl) func5 closed
  (of_decide_eq_true (by kernel_rfl)) (by unfold Func.isWrapper;first|(rw[if_pos (by decide+kernel)];kernel_rfl)|(rw[if_neg (by decide+kernel)];exact⟨rfl,rfl⟩))
  (fun X Z H Y _=>lifted X Z H Y)
theorem holds:Rows.ShopHistoryCardSaid:=
 Claim7.holds_tied_plain_at .later [] [.handle,.listed,.data] true Rows.shopHistoryCard.stood.harness true
  row (fun _ h=>by cases h) wfText (fun _ h=>by cases h) shopHistory_row_tie rfl ⟨rfl,rfl⟩ (by kernel_rfl) rfl
  (fun f W V Y=>by
    obtain rfl:f=5:=Option.some.inj ((show prog.funcNamed Rows.shopHistoryRow.func=some 5 by kernel_rfl).symm.trans V)|>.symm
    obtain rfl:W=Tryz.f5:=(Option.some.inj (func5.symm.trans Y)).symm;refine⟨Fa,fun j t U=>?_⟩;have Z:(Tryz.f5.params.toList.all fun t=> !(prog.wantsStandIn t))=true:=by kernel_rfl
    have X:t∈Tryz.f5.params.toList:=List.mem_of_getElem? (by simpa using U);have h:=List.all_eq_true.1 Z t X;show prog.wantsStandIn t=false;simpa using h)
  goes
#print axioms holds
