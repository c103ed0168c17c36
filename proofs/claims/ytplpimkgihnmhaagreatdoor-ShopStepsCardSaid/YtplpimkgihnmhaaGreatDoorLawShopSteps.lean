/-
  Step returns what the reference returns for the next steps of any thread, behind any moves. No condition beyond the tied variables.
-/
import Derived.Test.YtplpimkgihnmhaaGreatDoorCards
import Derived.Test.YtplpimkgihnmhaaGreatDoorTie
import Derived.Test.YtplpimkgihnmhaaGreatDoorA33
import Derived.Test.YtplpimkgihnmhaaGreatDoorA35
import Derived.Test.YtplpimkgihnmhaaGreatDoorA49
import Derived.Test.YtplpimkgihnmhaaGreatDoorA53
import Derived.Test.YtplpimkgihnmhaaGreatDoorA56
set_option maxRecDepth 100000
set_option maxHeartbeats 4000000
set_option linter.all false
namespace Go.Proofs.YtplpimkgihnmhaaGreatDoor.lawShopSteps
open Go.Proofs.Tryz Go.RowKit
section
open Go.ChangeAt Go.ChangeShapes Go.Joins Go.WideShapes
attribute [local go_sem ↓] Go.wp_at_zero Go.wp_at_succ
def laidE:List (String×DataW Unit):=[("errors.errorType",Rows.laid_errors_errorType),("unicode.White_Space",Rows.laid_unicode_White_Space),("strings.asciiSpace",Rows.laid_strings_asciiSpace)]
def laidP:List (String×DataW Unit):=[("unicode.White_Space",Rows.laid_unicode_White_Space),("strings.asciiSpace",Rows.laid_strings_asciiSpace)]
noncomputable def base (os:Os):World:=
 let w0:=World.holding prog os ⟨#[],#[],[]⟩
 {w0 with heap:=w0.heap.modify 2 fun
   |.cells _ t frozen=>.cells #[.iface 258 (.agg #[.pointer (some ⟨4,27,none⟩)])] t frozen
   |o=>o}
noncomputable def laidWorld (os:Os):World:=(base os).layVars prog laidP
theorem laidWorld_os(os:Os):(laidWorld os).os=os:=World.layVars_os _ _ _
theorem laidWorld_met(os:Os)(Z:Array Value):laidMetH prog laidE ((laidWorld os).forCall (fun _ _=>0) ⟨#[],Z,[]⟩).memory:=by
 have h:laidMetH prog laidE (laidWorld os):=laidMetH_of_parts (show laidMet prog laidP (laidWorld os)from ZH (by kernel_rfl) (by kernel_rfl)) (by kernel_rfl);exact h.of_heap (by simp [World.memory,World.forCall,Input.heap])
theorem factsOf{W:World}(h:laidMetH prog laidE W):Et W.heap.size W/\mR W:=⟨Ga (Cg h (by simp [laidE]) rfl),En h (by simp [laidE])⟩
theorem walk(k:Int)(A:Option Addr)(n c:Nat)(f:Nat->Nat->Int)(t m:Int)(w:World)(hl:PQ Aj w A n c f)(hT:Et w.heap.size w)(C:mR w):
 Calls prog 10 #[.int .i64 k,.slice A n c,.int .i64 t,.int .i64 m] w fun e w'=>e=.returned (.bool true)/\Below w.heap.size w w':=by
 have X:Hid (Below w.heap.size w w):=Lib.hid (Below.refl _ _);cases hk:mvB k n with
 |false=>
  have HM:=Lib.hid (gV k A n c w hk (vQ hT X.out));clear hl hT C hk
  go_enter func10,ntmps10
  go_wp2_with fail
  with_reducible refine HM.out.mono ?_
  rintro e w1 ⟨rfl,zv⟩;have z:=Lib.hid (X.out.trans (zv.mono X.out.size));clear zv X;go_wp2;go_ret;exact⟨rfl,z.out⟩
 |true=>
  have HM:=Lib.hid (fM k A n c f w hk (hl.below X.out) (vQ hT X.out) (C.below X.out));have HE:=Lib.hid (C.below X.out);clear hl hT C hk
  go_enter func10,ntmps10
  go_wp2_with fail
  with_reducible refine HM.out.mono ?_
  rintro e w1 ⟨pv,rv,rfl,p,gm,gs,gw,q,qs,go,pt,zm,rfl,rfl,P,O,N,zu⟩;have W:=Lib.hid P;have V:=Lib.hid O;have U:=Lib.hid N;have zo:=Lib.hid zu;clear P O N zu HM;generalize(pH.new k).play (bL f) n=Z at*;have T:=Lib.hid X.out;have o:Hid (∃Y Fr,Ev w Fr Fr p gm gs gw q qs go pt w1 Y/\lM (1000000+0) Fr/\AR Fr):=Lib.hid ⟨zm,Z,W.out,V.out,U.out⟩;clear W V U zo;go_wp2
  go_loopw [12] (fun i wr=>∃j:Nat,j<=200/\i=.int .i64 j/\Hid (∃Y Fr,Ev w Fr Fr p gm gs gw q qs go pt wr Y/\lM (1000000+j) Fr/\AR Fr)) (fun i _=>200-(intOf i).toNat)
  case atStart=>exact⟨0,by omega,rfl,o⟩
  case round=>
   clear o;obtain⟨j,hj,rfl,zt⟩:=hrel;obtain⟨Y,Fr,P,O,N⟩:=zt.out;have W:=Lib.hid P;have V:=Lib.hid O;have U:=Lib.hid N;clear zt P O N;by_cases zj:(j:Int)<m
   .by_cases hj2:(j:Int)<200
    .have HRS:=Lib.hid (aCl W.out.rs V.out (by omega) U.out t);obtain⟨a,ha⟩:∃a,a=QU Fr t:=⟨_,rfl⟩;obtain⟨b,hb⟩:∃b,b=Er Fr t:=⟨_,rfl⟩;obtain⟨F,hF⟩:∃F,F=IX Fr t:=⟨_,rfl⟩;obtain⟨E,C⟩:∃E,E=CJ Fr t:=⟨_,rfl⟩;rw[<-ha,<-hb,<-hF,<-C]at HRS;have r:=Lib.hid (And.intro ha (And.intro hb (And.intro hF C)));clear ha hb hF C;go_wp2_with fail
     with_reducible refine HRS.out.mono ?_
     rintro e s ⟨rfl,hg⟩;obtain⟨B,zl,hx⟩:=W.out.refr hg;have L:=Lib.hid (hx.box (.cells #[.int .i64 a,.int .i64 b] 44));have l:Hid (LB (s.alloc (.cells #[.int .i64 a,.int .i64 b] 44)) (cG s B 0) s.heap.size 44 #[.int .i64 a,.int .i64 b]):=Lib.hid ⟨dT _ _ _ (Nat.le_refl _),aY.new _ _ _⟩;clear hg zl hx HRS W
     go_upto_region 8 with(fail)
     show Code.wp _ _ _ _ (s.alloc (.cells #[.int .i64 a,.int .i64 b] 44));generalize s.alloc (.cells #[.int .i64 a,.int .i64 b] 44)=w3 at*;generalize s.heap.size=b3 at*;generalize cG s B 0=zk at*;have y:=L.out.err HE.out;have v:=aCh L.out.ps V.out (by omega) U.out y.1 y.2 t;rw[<-r.out.1,<-r.out.2.1,<-r.out.2.2.1,<-r.out.2.2.2]at v;have h:=Lib.hid v;clear y v;go_wp2_with fail
     with_reducible refine h.out.mono ?_
     rintro e G ⟨rfl,hg⟩;obtain⟨M,⟨zs,zr⟩,hx⟩:=L.out.prog hg;have u:=Lib.hid (hx.box (.cells #[.int .i64 a,.int .i64 b] 44));have g:=Lib.hid ((l.out.kept zr zs (fun _ e=>e)).kept (S:=bN) (w':=G.alloc (.cells #[.int .i64 a,.int .i64 b] 44)) (aD.of_same ((Below.refl _ _).alloc (Nat.le_refl _) _)) (cO G M 0) (fun _ x=>x.elim));have d:Hid (LB (G.alloc (.cells #[.int .i64 a,.int .i64 b] 44)) (cG G M 0) G.heap.size 44 #[.int .i64 a,.int .i64 b]):=Lib.hid ⟨dT _ _ _ (Nat.le_refl _),aY.new _ _ _⟩;clear hg zs zr hx h L l
     go_upto_region 9 with(fail)
     show Code.wp _ _ _ _ (G.alloc (.cells #[.int .i64 a,.int .i64 b] 44));generalize G.alloc (.cells #[.int .i64 a,.int .i64 b] 44)=w5 at*;generalize G.heap.size=b5 at*;generalize cG G M 0=zp at*;have zz:=Lib.hid (FO E E w5 (u.out.err HE.out).1);go_wp2_with fail
     with_reducible refine zz.out.mono ?_
     rintro e w6 ⟨rfl,D⟩;have R:=Lib.hid (u.out.below D);have K:=Lib.hid (g.out.below D);have H:=Lib.hid (d.out.below D);clear D u g d zz;have Q:=aBL V.out (by omega) t;have zy:=Lib.hid (QV R.out.ps t);have zx:=Lib.hid (Es R.out.rs Q t);have zn:Hid (∃Y Fr,Ev w Fr Fr p gm gs gw q qs go pt w6 Y/\lM (1000000+(j+1)) Fr/\AR Fr):=Lib.hid ⟨zp,_,R.out,Q,aBe V.out U.out t⟩;have x0:w6.cell? ⟨b3,0,none⟩=some (.int .i64 a):=K.out.cell 0;have x1:w6.cell? ⟨b3,1,none⟩=some (.int .i64 b):=K.out.cell 1;have y0:w6.cell? ⟨b5,0,none⟩=some (.int .i64 a):=H.out.cell 0;have y1:w6.cell? ⟨b5,1,none⟩=some (.int .i64 b):=H.out.cell 1;have lx:=K.out.2.lt;have ly:=H.out.2.lt;have z:=Lib.hid (T.out.trans (R.out.b.mono T.out.size));have zw:=r.out.2.2.2;clear Q K H R V U r;by_cases zq:E=0
     .have HE0:=Lib.hid zq;subst zq;clear zw;go_wp2_with fail
      with_reducible refine zy.out.mono ?_
      rintro e w7 ⟨rfl,rfl⟩;go_wp2_with fail
      with_reducible refine zx.out.mono ?_
      rintro e w7 ⟨rfl,rfl⟩;go_wp2;go_roundw
      case rel=>exact⟨j+1,by omega,by go_num,zn⟩
      case measure=>simp [intOf];omega
     .clear zw;go_wp2_with fail
      with_reducible refine zy.out.mono ?_
      rintro e w7 ⟨rfl,rfl⟩;go_wp2_with fail
      with_reducible refine zx.out.mono ?_
      rintro e w7 ⟨rfl,rfl⟩;go_wp2;go_ret;exact⟨dF (by simp),z.out⟩
    .have z:=Lib.hid (T.out.trans (W.out.b.mono T.out.size));go_wp2;go_ret;exact⟨dF (by simp),z.out⟩
   .have z:=Lib.hid (T.out.trans (W.out.b.mono T.out.size));go_wp2;go_ret;exact⟨dF (by simp),z.out⟩
theorem own:ownKnob prog.godebug=none:=by kernel_rfl
theorem lifted(os:Os)(V:os.Started)(H:Type)(enc:TypeId×Value->H):
 ReturnsInHanded {} Tryz.checked os 10 .any (fun w Y=>(Rows.shopStepsSpec.pre enc prog Tryz.f10 [] false w Y/\laidMetH prog laidE w)/\sizedMet enc prog Tryz.f10 (OpenSpec.ofChange Rows.shopStepsSpec) false w Y) (Rows.shopStepsSpec.post enc prog Tryz.f10 false true false false):=by
 refine VO (C:=Tryz.checked) (X:=fun w _=>laidMetH prog laidE w) (fun _ _ _ P h=>h.of_heap P) own V (by kernel_rfl) func10
  (ChangeSpec.witness_shaped (enc:=enc) (C:=Tryz.checked) (os:=os) (X:=fun w _=>laidMetH prog laidE w) false (laidWorld os) #[.int .i64 0,.slice none 0 0,.int .i64 0,.int .i64 0] 8 (laidWorld_os os) (World.shaped_of_ZipB (by kernel_rfl) (by kernel_rfl)) (by kernel_rfl) (by kernel_rfl) (by kernel_rfl) (laidWorld_met os _))
  (by kernel_rfl) (by kernel_rfl) rfl rfl underlying4 ?_
 intro W base Y O N U T Q M;have S:=factsOf M;have Z:∀(j:Nat) t v,Tryz.f10.params[j]? =some t->Y[j]? =some v->Value.okWide prog W .any base t v:=U;have R:DataW.TrodAll enc prog W 0 (fun _=>true) true Tryz.f10.params.toList Y.toList O N:=T;rw[params10]at R Z;obtain⟨L,G,F,E,r,q,p,o,n,i,g,f,rfl,rfl,rfl,D,B,A,z⟩:=trodAll_four R;obtain⟨k,rfl,rfl,rfl,e⟩:=open_int underlying3 (Z 0 3 L rfl rfl) D;obtain⟨y,x,u,l,rfl,s⟩:=Dz (K:=Aj) 4 underlying76 (by kernel_rfl) (by kernel_rfl) (by decide) (Z 1 76 G rfl rfl) B;obtain⟨t,rfl,rfl,rfl,d⟩:=open_int underlying3 (Z 2 3 F rfl rfl) A;obtain⟨m,rfl,rfl,rfl,c⟩:=open_int underlying3 (Z 3 3 E rfl rfl) z;exact⟨rfl,walk k y x u l t m W s S.1 S.2⟩
theorem kinPlace:(Rows.shopStepsRow.inPlace==Tryz.pinned.checked.prog.inPlace 10)=true:=by kernel_rfl
theorem kunfollowed:(Rows.shopStepsRow.unfollowed==Tryz.pinned.checked.prog.unfollowed 10)=true:=by kernel_rfl
theorem krecurses:(Rows.shopStepsRow.recurses==Tryz.pinned.checked.prog.recurses 10)=true:=by kernel_rfl
theorem knamed:(Rows.shopStepsRow.named==Tryz.pinned.checked.prog.varsNamed 10)=true:=by kernel_rfl
theorem closed:joinedFacts Tryz.pinned.checked.prog 10 Tryz.f10 Rows.shopStepsSpec Rows.shopStepsRow=true:=by
 unfold joinedFacts;simp only[Bool.and_eq_true]
 repeat' apply And.intro
 all_goals first|(with_reducible exact kinPlace)|(with_reducible exact kunfollowed)|(with_reducible exact krecurses)|(with_reducible exact knamed)|(with_reducible exact Cu)|(with_reducible exact Ce)|kernel_rfl
theorem goes:false=Rows.shopStepsRow.goesBy Tryz.pinned.checked.prog:=by kernel_rfl
theorem wfText:Rows.shopStepsRow.wfByText (OpenSpec.ofChange Rows.shopStepsSpec)=true:=by kernel_rfl
theorem row:Rows.ShopStepsSaid:=
 OpenClaim.holds_of_wide 10 Tryz.f10 rfl rfl rfl rfl rfl rfl rfl ⟨rfl,rfl,rfl,rfl,rfl⟩ rfl rfl rfl rfl rfl (by kernel_rfl) func10 closed
  (of_decide_eq_true (by kernel_rfl)) (by unfold Func.isWrapper;first|(rw[if_pos (by decide+kernel)];kernel_rfl)|(rw[if_neg (by decide+kernel)];exact⟨rfl,rfl⟩))
  (fun X Z H Y _=>lifted X Z H Y)
theorem holds:Rows.ShopStepsCardSaid:=
 Claim7.holds_tied_plain_at .later [] [.handle,.listed,.data] true Rows.shopStepsCard.stood.harness true
  row (fun _ h=>by cases h) wfText (fun _ h=>by cases h) shopSteps_row_tie rfl ⟨rfl,rfl⟩ (by kernel_rfl) rfl
  (fun f W V Y=>by
    obtain rfl:f=10:=Option.some.inj ((show prog.funcNamed Rows.shopStepsRow.func=some 10 by kernel_rfl).symm.trans V)|>.symm
    obtain rfl:W=Tryz.f10:=(Option.some.inj (func10.symm.trans Y)).symm;refine⟨Fa,fun j t U=>?_⟩;have Z:(Tryz.f10.params.toList.all fun t=> !(prog.wantsStandIn t))=true:=by kernel_rfl
    have X:t∈Tryz.f10.params.toList:=List.mem_of_getElem? (by simpa using U);have h:=List.all_eq_true.1 Z t X;show prog.wantsStandIn t=false;simpa using h)
  goes
#print axioms holds
