/-
  a crash leaves what the reference leaves, behind any moves. No condition beyond the tied variables.
-/
import Derived.Test.YtplpimkgihnmhaaGreatDoorCards
import Derived.Test.YtplpimkgihnmhaaGreatDoorTie
import Derived.Test.YtplpimkgihnmhaaGreatDoorA53
import Derived.Test.YtplpimkgihnmhaaGreatDoorA57
import Derived.Test.YtplpimkgihnmhaaGreatDoorA58
import Derived.Test.YtplpimkgihnmhaaGreatDoorA59
set_option maxRecDepth 100000
set_option maxHeartbeats 4000000
set_option linter.all false
namespace Go.Proofs.YtplpimkgihnmhaaGreatDoor.lawShopCrashes
open Go.Proofs.Tryz Go.RowKit
section
open Go.ChangeAt Go.ChangeShapes Go.Joins Go.WideShapes
attribute [local go_sem ↓] Go.wp_at_zero Go.wp_at_succ
def laidE:List (String×DataW Unit):=[("errors.errorType",Rows.laid_errors_errorType),("unicode.White_Space",Rows.laid_unicode_White_Space),("strings.asciiSpace",Rows.laid_strings_asciiSpace)]
def laidP:List (String×DataW Unit):=[("unicode.White_Space",Rows.laid_unicode_White_Space),("strings.asciiSpace",Rows.laid_strings_asciiSpace)]
noncomputable def base (os:Os):World:=
 let w0:=World.holding prog os ⟨#[],#[],[]⟩
 {w0 with heap:=w0.heap.modify 2 fun
   |.cells _ t frozen=>.cells #[.iface 258 (.agg #[.pointer (some ⟨4,27,none⟩)])] t frozen
   |o=>o}
noncomputable def laidWorld (os:Os):World:=(base os).layVars prog laidP
theorem laidWorld_os(os:Os):(laidWorld os).os=os:=World.layVars_os _ _ _
theorem laidWorld_met(os:Os)(Z:Array Value):laidMetH prog laidE ((laidWorld os).forCall (fun _ _=>0) ⟨#[],Z,[]⟩).memory:=by
 have h:laidMetH prog laidE (laidWorld os):=laidMetH_of_parts (show laidMet prog laidP (laidWorld os)from ZH (by kernel_rfl) (by kernel_rfl)) (by kernel_rfl);exact h.of_heap (by simp [World.memory,World.forCall,Input.heap])
theorem factsOf{W:World}(h:laidMetH prog laidE W):Et W.heap.size W/\mR W:=⟨Ga (Cg h (by simp [laidE]) rfl),En h (by simp [laidE])⟩
theorem walk(k:Int)(A:Option Addr)(n c:Nat)(f:Nat->Nat->Int)(x:Int)(hx:(Lit.int .u64 x).wf=true)(w:World)(hl:PQ Aj w A n c f)(hT:Et w w)(hE:mR w):
 Calls prog 12 #[k,.slice A n c,[x]] w fun e w'=>e=.returned true/\Below w w w':=by
 have S:Hid (Below w w w):=aH (Below.refl _ _);cases hk:mvB k n with
 |false=>
  have HM:=aH (gV k A n c w hk (vQ hT S));clear hl hT hE hk
  go_enter func12,ntmps12
  go_wp2_with fail
  with_reducible refine HM.out.mono ?_
  rintro e w1 ⟨rfl,zw⟩;have HB:=aH (S.trans (zw.mono S.size));clear zw S;go_wp2;go_ret;exact⟨rfl,HB.out⟩
 |true=>
  have HM:=aH (fM k A n c f w hk (hl.below S) (vQ hT S) (hE.below S));have HE:=aH (hE.below S);clear hl hT hE hk
  go_enter func12,ntmps12
  go_wp2_with fail
  with_reducible refine HM.out.mono ?_
  rintro e w1 ⟨pv,rv,rfl,p,gm,gs,gw,q,qs,go,pt,zv,rfl,rfl,zu,zt,zs,zr⟩;have X:=aH zu;have U:=aH zt;have zk:=aH zs;have L:=aH zr;clear zu zt zs zr HM;generalize(pH.new k).play (bL f) n=F at*;have zy:=Mg hx;have o:=aAX X.ps U I x.toNat I;rw[show((x.toNat:Nat):Int)=x by omega]at o;have zx:=aH o;have m:=aH zy;clear o hx zy;go_wp2_with fail
  with_reducible refine zx.out.mono ?_
  rintro e w2 ⟨rfl,hg⟩;obtain⟨yw,_,zq⟩:=X.prog hg;have l:=aH zq;clear hg zq zx X;have h:=aBX l.rs U I x.toNat (by have:=m.out;omega);rw[show((x.toNat:Nat):Int)=x by have:=m.out;omega]at h;have v:=aH h;clear h;go_wp2_with fail
  with_reducible refine v.out.mono ?_
  rintro e w3 ⟨rfl,hg⟩;obtain⟨zv,_,a⟩:=l.refr hg;have G:=(BH U x.toNat).1.mono (show 1000000+1<=1000001 by omega);have E:dL (F.crash x.toNat).hist:=L.add _ _ _ _ _ _ _ _ _;clear hg v l U L zk HE m;obtain⟨F,hσ⟩:=aO (F.crash x.toNat);rw[<-hσ]at a G E;have X:=aH a;have U:=aH G;have L:=aH E;clear hσ a G E;have HD:=aH (QV X.ps);have HR:=aH (Es X.rs U);have zj:Hid (∀r∈F.hist,∀u∈r,u.oneCell'=true):=aH (fun r hr u t=>by
   obtain⟨x0,x1,x2,x3,x4,x5,x6,x7,x8,rfl⟩:=L.out r hr;simp only[List.mem_cons,List.not_mem_nil,or_false]at t;rcases t with rfl|rfl|rfl|rfl|rfl|rfl|rfl|rfl|rfl<;>rfl)
  obtain⟨n',mp,H,ch,zb,hr⟩:=X.rs;have zi:w3.cell? (q,22)=some (.slice H F.hist.length ch):=by rw[hr.sh.cell,QW]
  have hq:=hr.sh.lt;have zh:=aH hr.hi.slr;have zg:=aH (aAO U);clear hr zb;obtain⟨D,hD⟩:=aO (kT F.rcd:Array Value);have g:cH D 32 F.rcd:=by rw[hD];exact xA (NX U)
  have zf:Hid (∀W,gH W zv F p gm gs gw->Calls prog 38 #[(p,0)] W fun e w'=>e=.returned (.agg D)/\Below W W w'):=aH (fun W hW=>by rw[hD];exact Ic hW U I);have ze:=aH g;have zd:=aH (aBC g);clear g hD;go_wp2
  go_loopw [10] (fun i wr=>∃j:Nat,j<=4/\i=.int .i64 (j:Int)/\w3=wr) (fun i _=>4-(intOf i).toNat)
  case atStart=>exact⟨0,I,rfl,rfl⟩
  case round=>
   obtain⟨j,hj,rfl,rfl⟩:=hrel;by_cases ys:j<4
   .have q1:(j:Int)<4:=I;go_wp2_with fail
    with_reducible refine(HD.out _).mono ?_
    rintro e w2 ⟨rfl,rfl⟩;go_wp2_with fail
    with_reducible refine(HR.out _).mono ?_
    rintro e w2 ⟨rfl,rfl⟩;go_wp2;go_roundw
    case rel=>exact⟨j+1,I,aG,trivial⟩
    case measure=>simp [intOf];omega
   obtain rfl:j=4:=I;go_wp2;refine aA 20 ?_;refine aR ?_;constructor
   .intro w9 hw9 M;refine aS ?_;obtain⟨hc9,hf9⟩:=hw9.all;refine aW ?_;go_simp
    first
    |exact aE
   refine bA (.agg D) cX ?_ ?_
   .intro w9 hw9 _;refine aS ?_;have R:=aH (zf.out _ (X.ps.below hw9.same));refine aW ?_;go_simp;go_at_call 38;exact bS R
   refine aR ?_;constructor
   .intro w9 hw9 M;refine aS ?_;obtain⟨hc9,hf9⟩:=hw9.all;refine aW ?_;go_simp
    first
    |exact aE
   refine bC (DN 32) (fun vv w'=>∃O N,vv=.slice O 32 N/\qY w' O 32 N F.rcd) ⟨_,none,0,rfl⟩ ?_ ?_
   .intro w9 hw9 Z;refine aS ?_;have R:=aH (Jy (X.rs.below hw9.same) U I);refine aW ?_;go_simp;go_at_call 40;refine R.mono ?_;rintro e zz ⟨A,c,rfl,ho,hb⟩;exact⟨_,rfl,⟨⟨_,_,rfl⟩,⟨_,_,rfl,ho⟩⟩,aD.of_same hb⟩
   refine bB (.agg D) cX ?_ ?_
   .rintro _ ⟨C,B,rfl⟩;refine⟨aF,fun w9 hw9 Z=>?_⟩;refine aS ?_;have Y:=Z.2;obtain⟨w0,k0,s,O,N,hv,t⟩:=Y.1 J;cases hv;have d:=aH (sR C 32 B F.rcd _ (t.below (cA s J)) I D (ze.congr (fun i hi=>by rw[iP hi])));clear Y Z t k0 s;refine aW ?_;go_simp;go_at_call 39;exact bS d
   first|(with_reducible refine aC (fun K T=>?_))|(refine aC (fun K T=>?_))
   refine .inl ?_;apply Exists.intro;refine⟨cX,?_,T _ _ _ _ ?_⟩
   .simp only[bJ,bM];rintro _ ⟨C,B,rfl⟩;refine⟨?_,fun w9 hw9 M=>?_⟩
    .first|rfl|(go_simp;done)
    refine aS ?_;obtain⟨hc9,hf9⟩:=hw9.all;have yx:=zd.out;refine aW ?_;go_simp
    first
    |exact aE
   iterate 2
    clear T K;refine aN ?_
    first|(with_reducible refine aC (fun K T=>?_))|(refine aC (fun K T=>?_))
    refine .inl ?_;apply Exists.intro;refine⟨cX,?_,T _ _ _ _ ?_⟩
    .simp only[bJ,bM];rintro _ ⟨C,B,rfl⟩;refine⟨?_,fun w9 hw9 M=>?_⟩
     .first|rfl|(go_simp;done)
     refine aS ?_;obtain⟨hc9,hf9⟩:=hw9.all;refine aW ?_;go_simp
     first
     |exact aE
   clear T K;refine aN ?_;refine bD (DN (aB F.of F.V).length) (fun vv w'=>∃O N,vv=.slice O (aB F.of F.V).length N/\FI 6 w' O (aB F.of F.V).length N ((aB F.of F.V).map (·.2))) ⟨_,none,0,rfl⟩ ?_ ?_
   .rintro _ ⟨C,B,rfl⟩;refine⟨aF,fun w9 hw9 Z=>?_⟩;refine aS ?_;have R:=aH (aAI (X.ps.below hw9.same) U I);refine aW ?_;go_simp;go_at_call 36;refine R.mono ?_;rintro e zz ⟨A,c,rfl,ho,hb⟩;exact⟨_,rfl,⟨⟨_,_,rfl⟩,⟨_,_,rfl,ho.slr⟩⟩,aD.of_same hb⟩
   first|(with_reducible refine aC (fun K T=>?_))|(refine aC (fun K T=>?_))
   refine .inl ?_;apply Exists.intro;refine⟨cX,?_,T _ _ _ _ ?_⟩
   .simp only[bJ,bM];rintro _ ⟨Q,P,rfl⟩;rintro _ ⟨C,B,rfl⟩;refine⟨?_,fun w9 hw9 M=>?_⟩
    .first|rfl|(go_simp;done)
    refine aS ?_;obtain⟨hc9,hf9⟩:=hw9.all;refine aW ?_;go_simp
    first
    |exact aE
   clear T K;refine aN ?_;refine bD (DN (aB F.of F.V).length) (fun vv w'=>∃O N,vv=.slice O (aB F.of F.V).length N/\FI 6 w' O (aB F.of F.V).length N ((aB F.of F.V).map (·.2))) ⟨_,none,0,rfl⟩ ?_ ?_
   .rintro _ ⟨Q,P,rfl⟩;rintro _ ⟨C,B,rfl⟩;refine⟨aF,fun w9 hw9 Z=>?_⟩;refine aS ?_;have R:=aH (aAM (X.rs.below hw9.same) U I);refine aW ?_;go_simp;go_at_call 37;refine R.mono ?_;rintro e zz ⟨A,c,rfl,ho,hb⟩;exact⟨_,rfl,⟨⟨_,_,rfl⟩,⟨_,_,rfl,ho.slr⟩⟩,aD.of_same hb⟩
   first|(with_reducible refine aC (fun K T=>?_))|(refine aC (fun K T=>?_))
   refine .inl ⟨.bool true,cX,?_,T _ _ _ _ ?_⟩
   .simp only[bJ,bM];rintro _ ⟨z,y,rfl⟩;rintro _ ⟨Q,P,rfl⟩;rintro _ ⟨C,B,rfl⟩;refine⟨?_,fun w9 hw9 Z=>?_⟩
    .first|rfl|(go_simp;done)
    refine aS ?_;have Y:=Z.2;obtain⟨w0,k0,s,O,N,hv,t⟩:=Y.2.1 J;cases hv;obtain⟨yv,za,zp,yu,yt,yz,zo⟩:=Y.2.2.1 J;cases yz;have d:=aH (pB Q z _ P y _ _ (t.below (cA s J)) (zo.below (cA zp J)) zg);clear Y Z t k0 s zo za zp;refine aW ?_;go_simp;go_at_call 35;exact bS d
   iterate 3
    clear T K;refine aN ?_
    first|(with_reducible refine aC (fun K T=>?_))|(refine aC (fun K T=>?_))
    refine .inl ?_;apply Exists.intro;refine⟨cX,?_,T _ _ _ _ ?_⟩
    .simp only[bJ,bM];rintro _ ⟨z,y,rfl⟩;rintro _ ⟨Q,P,rfl⟩;rintro _ ⟨C,B,rfl⟩;refine⟨?_,fun w9 hw9 M=>?_⟩
     .first|rfl|(go_simp;done)
     refine aS ?_;obtain⟨hc9,hf9⟩:=hw9.all;refine aW ?_;go_simp
     first
     |exact aE
   clear T K;refine aN ?_
   first|(with_reducible refine aC (fun K T=>?_))|(refine aC (fun K T=>?_))
   refine .inr (.inr ⟨(DN F.hist.length),(fun vv w'=>∃O N,vv=.slice O F.hist.length N/\FI 9 w' O F.hist.length N F.hist),⟨_,none,0,rfl⟩,?_,T _ _ _ _ ?_⟩)
   .simp only[bJ,bM];rintro _ ⟨z,y,rfl⟩;rintro _ ⟨Q,P,rfl⟩;rintro _ ⟨C,B,rfl⟩;refine⟨?_,fun w9 hw9 Z=>?_⟩
    .first|rfl|(go_simp;done)
    refine aS ?_;have R:=aH (OO (X.ps.below hw9.same) U I zj);refine aW ?_;go_simp;go_at_call 31;refine R.mono ?_;rintro e zz ⟨A,c,rfl,ho,hb⟩;exact⟨_,rfl,⟨⟨_,_,rfl⟩,⟨_,_,rfl,ho.slr⟩⟩,aD.of_same hb⟩
   iterate 4
    clear T K;refine aN ?_
    first|(with_reducible refine aC (fun K T=>?_))|(refine aC (fun K T=>?_))
    refine .inl ?_;apply Exists.intro;refine⟨cX,?_,T _ _ _ _ ?_⟩
    .simp only[bJ,bM];rintro _ ⟨Ah,zn,rfl⟩;rintro _ ⟨z,y,rfl⟩;rintro _ ⟨Q,P,rfl⟩;rintro _ ⟨C,B,rfl⟩;refine⟨?_,fun w9 hw9 M=>?_⟩
     .first|rfl|(go_simp;done)
     refine aS ?_;obtain⟨hc9,hf9⟩:=hw9.all;refine aW ?_;go_simp
     first
     |exact aE
   clear T K;refine aN ?_;refine aZ ?_;rintro _ ⟨Ah,zn,rfl⟩ _ ⟨z,y,rfl⟩ _ ⟨Q,P,rfl⟩ _ ⟨C,B,rfl⟩ w9 hw9 Y;refine aQ ?_;refine aS ?_;obtain⟨w0,k0,s,A8,c8,yy,zm⟩:=Y.2.2.2.1 rfl;cases yy;have HS:=aH (lX Ah H _ zn ch _ w9 (zm.below (cA s J)) (zh.below hw9.same) L);have zc:=aH (X.below hw9.same);clear Y zm k0 s w0 hw9 zi hq;refine aW ?_;go_wp2_with fail
   with_reducible refine HS.out.mono ?_
   rintro e w4 ⟨rfl,zl⟩;have HB:=aH (S.trans ((zc.below zl).b.mono S.size));clear zl;go_wp2;go_ret;exact⟨dF (by simp),HB.out⟩
theorem own:ownKnob prog.godebug=none:=by kernel_rfl
theorem lifted(os:Os)(V:os.Started)(H:Type)(enc:TypeId×Value->H):
 ReturnsInHanded {} Tryz.checked os 12 .any (fun w Z=>(Rows.shopCrashesSpec.pre enc prog Tryz.f12 [] false w Z/\laidMetH prog laidE w)/\sizedMet enc prog Tryz.f12 (OpenSpec.ofChange Rows.shopCrashesSpec) false w Z) (Rows.shopCrashesSpec.post enc prog Tryz.f12 false true false false):=by
 refine VO (C:=Tryz.checked) (X:=fun w _=>laidMetH prog laidE w) (fun _ _ _ P h=>h.of_heap P) own V (by kernel_rfl) func12
  (ChangeSpec.witness_shaped (enc:=enc) (C:=Tryz.checked) (os:=os) (X:=fun w _=>laidMetH prog laidE w) false (laidWorld os) #[.int .i64 0,.slice none 0 0,.int .u64 0] 8 (laidWorld_os os) (World.shaped_of_ZipB (by kernel_rfl) (by kernel_rfl)) (by kernel_rfl) (by kernel_rfl) (by kernel_rfl) (laidWorld_met os _))
  (by kernel_rfl) (by kernel_rfl) rfl rfl underlying4 ?_
 intro W base Z O N U T Q M;have S:=factsOf M;have Y:∀(j:Nat) t v,Tryz.f12.params[j]? =some t->Z[j]? =some v->Value.okWide prog W .any base t v:=U;have R:DataW.TrodAll enc prog W 0 (fun _=>true) true Tryz.f12.params.toList Z.toList O N:=T;rw[params12]at R Y;obtain⟨L,G,F,r,q,p,o,n,m,rfl,rfl,rfl,E,D,B⟩:=trodAll_three R;obtain⟨k,rfl,rfl,rfl,i⟩:=open_int underlying3 (Y 0 3 L rfl rfl) E;obtain⟨A,z,y,l,rfl,u⟩:=Dz (K:=Aj) 4 underlying76 (by kernel_rfl) (by kernel_rfl) (by decide) (Y 1 76 G rfl rfl) D;obtain⟨x,rfl,rfl,rfl,s⟩:=open_int underlying23 (Y 2 23 F rfl rfl) B;exact⟨rfl,walk k A z y l x s W u S.1 S.2⟩
theorem kinPlace:(Rows.shopCrashesRow.inPlace==Tryz.pinned.checked.prog.inPlace 12)=true:=by kernel_rfl
theorem kunfollowed:(Rows.shopCrashesRow.unfollowed==Tryz.pinned.checked.prog.unfollowed 12)=true:=by kernel_rfl
theorem krecurses:(Rows.shopCrashesRow.recurses==Tryz.pinned.checked.prog.recurses 12)=true:=by kernel_rfl
theorem knamed:(Rows.shopCrashesRow.named==Tryz.pinned.checked.prog.varsNamed 12)=true:=by kernel_rfl
theorem closed:joinedFacts Tryz.pinned.checked.prog 12 Tryz.f12 Rows.shopCrashesSpec Rows.shopCrashesRow=true:=by
 unfold joinedFacts;simp only[Bool.and_eq_true]
 repeat' apply And.intro
 all_goals first|(with_reducible exact kinPlace)|(with_reducible exact kunfollowed)|(with_reducible exact krecurses)|(with_reducible exact knamed)|(with_reducible exact Cu)|(with_reducible exact Ce)|kernel_rfl
theorem goes:false=Rows.shopCrashesRow.goesBy Tryz.pinned.checked.prog:=by kernel_rfl
theorem wfText:Rows.shopCrashesRow.wfByText (OpenSpec.ofChange Rows.shopCrashesSpec)=true:=by kernel_rfl
theorem row:Rows.ShopCrashesSaid:=
 OpenClaim.holds_of_wide 12 Tryz.f12 rfl rfl rfl rfl rfl rfl rfl ⟨rfl,rfl,rfl,rfl,rfl⟩ rfl rfl rfl rfl rfl (by kernel_rfl) func12 closed
  (of_decide_eq_true (by kernel_rfl)) (by unfold Func.isWrapper;first|(rw[if_pos (by decide+kernel)];kernel_rfl)|(rw[if_neg (by decide+kernel)];exact⟨rfl,rfl⟩))
  (fun X Z H Y _=>lifted X Z H Y)
theorem holds:Rows.ShopCrashesCardSaid:=
 Claim7.holds_tied_plain_at .later [] [.handle,.listed,.data] true Rows.shopCrashesCard.stood.harness true
  row (fun _ h=>by cases h) wfText (fun _ h=>by cases h) shopCrashes_row_tie rfl ⟨rfl,rfl⟩ (by kernel_rfl) rfl
  (fun f W V Y=>by
    obtain rfl:f=12:=Option.some.inj ((show prog.funcNamed Rows.shopCrashesRow.func=some 12 by kernel_rfl).symm.trans V)|>.symm
    obtain rfl:W=Tryz.f12:=(Option.some.inj (func12.symm.trans Y)).symm;refine⟨Fa,fun j t U=>?_⟩;have Z:(Tryz.f12.params.toList.all fun t=> !(prog.wantsStandIn t))=true:=by kernel_rfl
    have X:t∈Tryz.f12.params.toList:=List.mem_of_getElem? (by simpa using U);have h:=List.all_eq_true.1 Z t X;show prog.wantsStandIn t=false;simpa using h)
  goes
#print axioms holds
