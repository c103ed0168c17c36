/-
  Run returns what the reference returns, behind any moves. No condition beyond the tied variables.
-/
import Derived.Test.YtplpimkgihnmhaaGreatDoorCards
import Derived.Test.YtplpimkgihnmhaaGreatDoorTie
import Derived.Test.YtplpimkgihnmhaaGreatDoorA33
import Derived.Test.YtplpimkgihnmhaaGreatDoorA35
import Derived.Test.YtplpimkgihnmhaaGreatDoorA49
import Derived.Test.YtplpimkgihnmhaaGreatDoorA53
set_option maxRecDepth 100000
set_option maxHeartbeats 4000000
set_option linter.all false
namespace Go.Proofs.YtplpimkgihnmhaaGreatDoor.lawShopRuns
open Go.Proofs.Tryz Go.RowKit
section
open Go.ChangeAt Go.ChangeShapes Go.Joins Go.WideShapes
attribute [local go_sem ↓] Go.wp_at_zero Go.wp_at_succ
def laidE:List (String×DataW Unit):=[("errors.errorType",Rows.laid_errors_errorType),("unicode.White_Space",Rows.laid_unicode_White_Space),("strings.asciiSpace",Rows.laid_strings_asciiSpace)]
def laidP:List (String×DataW Unit):=[("unicode.White_Space",Rows.laid_unicode_White_Space),("strings.asciiSpace",Rows.laid_strings_asciiSpace)]
noncomputable def base (os:Os):World:=
 let w0:=World.holding prog os ⟨#[],#[],[]⟩
 {w0 with heap:=w0.heap.modify 2 fun
   |.cells _ t frozen=>.cells #[.iface 258 (.agg #[.pointer (some ⟨4,27,none⟩)])] t frozen
   |o=>o}
noncomputable def laidWorld (os:Os):World:=(base os).layVars prog laidP
theorem laidWorld_os(os:Os):(laidWorld os).os=os:=World.layVars_os _ _ _
theorem laidWorld_met(os:Os)(Z:Array Value):laidMetH prog laidE ((laidWorld os).forCall (fun _ _=>0) ⟨#[],Z,[]⟩).memory:=by
 have h:laidMetH prog laidE (laidWorld os):=laidMetH_of_parts (show laidMet prog laidP (laidWorld os)from ZH (by kernel_rfl) (by kernel_rfl)) (by kernel_rfl);exact h.of_heap (by simp [World.memory,World.forCall,Input.heap])
theorem factsOf{W:World}(h:laidMetH prog laidE W):Et W.heap.size W/\mR W:=⟨Ga (Cg h (by simp [laidE]) rfl),En h (by simp [laidE])⟩
theorem walk(k:Int)(A:Option Addr)(n c:Nat)(f:Nat->Nat->Int)(t m:Int)(w:World)(g:PQ Aj w A n c f)(v:Et w.heap.size w)(V:mR w):
 Calls prog 11 #[.int .i64 k,.slice A n c,.int .i64 t,.int .i64 m] w fun e w'=>e=.returned (.bool true)/\Below w.heap.size w w':=by
 have Z:Hid (Below w.heap.size w w):=Lib.hid (Below.refl _ _);cases hk:mvB k n with
 |false=>
  have y:=Lib.hid (gV k A n c w hk (vQ v Z.out));clear g v V hk
  go_enter func11,ntmps11
  go_wp2_with fail
  with_reducible refine y.out.mono ?_
  rintro e w1 ⟨rfl,K⟩;have u:=Lib.hid (Z.out.trans (K.mono Z.out.size));clear K Z;go_wp2;go_ret;exact⟨rfl,u.out⟩
 |true=>
  have y:=Lib.hid (fM k A n c f w hk (g.below Z.out) (vQ v Z.out) (V.below Z.out));have d:=Lib.hid (V.below Z.out);clear g v V hk
  go_enter func11,ntmps11
  go_wp2_with fail
  with_reducible refine y.out.mono ?_
  rintro e w1 ⟨pv,rv,rfl,p,gm,gs,gw,q,qs,go,pt,zw,rfl,rfl,H,G,D,C⟩;have U:=Lib.hid H;have Y:=Lib.hid G;have O:=Lib.hid D;have zx:=Lib.hid C;clear H G D C y;generalize(pH.new k).play (bL f) n=F at*;have T:=Lib.hid (aCu U.out.rs Y.out (by omega) O.out t m);obtain⟨E,V⟩:∃E,E=lG t m:=⟨_,rfl⟩;obtain⟨a,o⟩:∃a:Int,a=(if E=0 then((pH.run t.toNat m.toNat F).2:Int)else 0):=⟨_,rfl⟩;obtain⟨l,x⟩:∃l,l=(if E=0 then(pH.run t.toNat m.toNat F).1 else F):=⟨_,rfl⟩;have N:Hid (lM 1001000 l):=Lib.hid (by
   rw[x,V];split
   .rename_i e;unfold lG at e;have ht:0<=t/\t<4:=by
     by_cases h:0<=t/\t<4
     .exact h
     .rw[if_pos h]at e;omega
    have hm:0<=m/\m<=1000:=by
     rw[if_neg (fun q=>q ht)]at e;by_cases h:0<=m/\m<=1000
     .exact h
     .rw[if_pos h]at e;omega
    exact(JN (by omega) _ Y.out (by omega)).1.mono (by omega)
   .exact Y.out.mono (by omega))
  rw[<-V,<-o,<-x]at T;have S:=Lib.hid (And.intro V (And.intro o x));clear V o x;go_wp2_with fail
  with_reducible refine T.out.mono ?_
  rintro e w2 ⟨rfl,B⟩;obtain⟨zz,j,z⟩:=U.out.refr B;have X:=Lib.hid z;clear B j z T U;have R:=X.out.err d.out;have Q:=aCm X.out.ps Y.out (by omega) O.out R.1 R.2 t m;rw[<-S.out.1,<-S.out.2.1,<-S.out.2.2]at Q;have M:=Lib.hid Q;clear R Q;go_wp2_with fail
  with_reducible refine M.out.mono ?_
  rintro e w3 ⟨rfl,B⟩;obtain⟨zy,i,z⟩:=X.out.prog B;have P:=Lib.hid z;clear B i z M X;have L:=Lib.hid (FO E E w3 (P.out.err d.out).1);go_wp2_with fail
  with_reducible refine L.out.mono ?_
  rintro e w4 ⟨rfl,hb⟩;have W:=Lib.hid (P.out.below hb);clear hb P L;have s:=Lib.hid (QV W.out.ps t);have r:=Lib.hid (Es W.out.rs N.out t);have u:=Lib.hid (Z.out.trans (W.out.b.mono Z.out.size));clear W;go_wp2_with fail
  with_reducible refine s.out.mono ?_
  rintro e w5 ⟨rfl,rfl⟩;go_wp2_with fail
  with_reducible refine r.out.mono ?_
  rintro e w5 ⟨rfl,rfl⟩;go_wp2;go_ret;exact⟨dF (by simp),u.out⟩
theorem own:ownKnob prog.godebug=none:=by kernel_rfl
theorem lifted(os:Os)(V:os.Started)(H:Type)(enc:TypeId×Value->H):
 ReturnsInHanded {} Tryz.checked os 11 .any (fun w Y=>(Rows.shopRunsSpec.pre enc prog Tryz.f11 [] false w Y/\laidMetH prog laidE w)/\sizedMet enc prog Tryz.f11 (OpenSpec.ofChange Rows.shopRunsSpec) false w Y) (Rows.shopRunsSpec.post enc prog Tryz.f11 false true false false):=by
 refine VO (C:=Tryz.checked) (X:=fun w _=>laidMetH prog laidE w) (fun _ _ _ P h=>h.of_heap P) own V (by kernel_rfl) func11
  (ChangeSpec.witness_shaped (enc:=enc) (C:=Tryz.checked) (os:=os) (X:=fun w _=>laidMetH prog laidE w) false (laidWorld os) #[.int .i64 0,.slice none 0 0,.int .i64 0,.int .i64 0] 8 (laidWorld_os os) (World.shaped_of_ZipB (by kernel_rfl) (by kernel_rfl)) (by kernel_rfl) (by kernel_rfl) (by kernel_rfl) (laidWorld_met os _))
  (by kernel_rfl) (by kernel_rfl) rfl rfl underlying4 ?_
 intro W base Y O N U T Q M;have S:=factsOf M;have Z:∀(j:Nat) t v,Tryz.f11.params[j]? =some t->Y[j]? =some v->Value.okWide prog W .any base t v:=U;have R:DataW.TrodAll enc prog W 0 (fun _=>true) true Tryz.f11.params.toList Y.toList O N:=T;rw[params11]at R Z;obtain⟨L,G,F,E,r,q,p,o,n,i,g,f,rfl,rfl,rfl,D,B,A,z⟩:=trodAll_four R;obtain⟨k,rfl,rfl,rfl,e⟩:=open_int underlying3 (Z 0 3 L rfl rfl) D;obtain⟨y,x,u,l,rfl,s⟩:=Dz (K:=Aj) 4 underlying76 (by kernel_rfl) (by kernel_rfl) (by decide) (Z 1 76 G rfl rfl) B;obtain⟨t,rfl,rfl,rfl,d⟩:=open_int underlying3 (Z 2 3 F rfl rfl) A;obtain⟨m,rfl,rfl,rfl,c⟩:=open_int underlying3 (Z 3 3 E rfl rfl) z;exact⟨rfl,walk k y x u l t m W s S.1 S.2⟩
theorem kinPlace:(Rows.shopRunsRow.inPlace==Tryz.pinned.checked.prog.inPlace 11)=true:=by kernel_rfl
theorem kunfollowed:(Rows.shopRunsRow.unfollowed==Tryz.pinned.checked.prog.unfollowed 11)=true:=by kernel_rfl
theorem krecurses:(Rows.shopRunsRow.recurses==Tryz.pinned.checked.prog.recurses 11)=true:=by kernel_rfl
theorem knamed:(Rows.shopRunsRow.named==Tryz.pinned.checked.prog.varsNamed 11)=true:=by kernel_rfl
theorem closed:joinedFacts Tryz.pinned.checked.prog 11 Tryz.f11 Rows.shopRunsSpec Rows.shopRunsRow=true:=by
 unfold joinedFacts;simp only[Bool.and_eq_true]
 repeat' apply And.intro
 all_goals first|(with_reducible exact kinPlace)|(with_reducible exact kunfollowed)|(with_reducible exact krecurses)|(with_reducible exact knamed)|(with_reducible exact Cu)|(with_reducible exact Ce)|kernel_rfl
theorem goes:false=Rows.shopRunsRow.goesBy Tryz.pinned.checked.prog:=by kernel_rfl
theorem wfText:Rows.shopRunsRow.wfByText (OpenSpec.ofChange Rows.shopRunsSpec)=true:=by kernel_rfl
theorem row:Rows.ShopRunsSaid:=
 OpenClaim.holds_of_wide 11 Tryz.f11 rfl rfl rfl rfl rfl rfl rfl ⟨rfl,rfl,rfl,rfl,rfl⟩ rfl rfl rfl rfl rfl (by kernel_rfl) func11 closed
  (of_decide_eq_true (by kernel_rfl)) (by unfold Func.isWrapper;first|(rw[if_pos (by decide+kernel)];kernel_rfl)|(rw[if_neg (by decide+kernel)];exact⟨rfl,rfl⟩))
  (fun X Z H Y _=>lifted X Z H Y)
theorem holds:Rows.ShopRunsCardSaid:=
 Claim7.holds_tied_plain_at .later [] [.handle,.listed,.data] true Rows.shopRunsCard.stood.harness true
  row (fun _ h=>by cases h) wfText (fun _ h=>by cases h) shopRuns_row_tie rfl ⟨rfl,rfl⟩ (by kernel_rfl) rfl
  (fun f W V Y=>by
    obtain rfl:f=11:=Option.some.inj ((show prog.funcNamed Rows.shopRunsRow.func=some 11 by kernel_rfl).symm.trans V)|>.symm
    obtain rfl:W=Tryz.f11:=(Option.some.inj (func11.symm.trans Y)).symm;refine⟨Fa,fun j t U=>?_⟩;have Z:(Tryz.f11.params.toList.all fun t=> !(prog.wantsStandIn t))=true:=by kernel_rfl
    have X:t∈Tryz.f11.params.toList:=List.mem_of_getElem? (by simpa using U);have h:=List.all_eq_true.1 Z t X;show prog.wantsStandIn t=false;simpa using h)
  goes
#print axioms holds
