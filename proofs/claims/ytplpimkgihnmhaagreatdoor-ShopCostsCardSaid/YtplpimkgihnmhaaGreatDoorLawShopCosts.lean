/-
  Costs and Dirty return what the reference returns, behind any moves. No condition beyond the tied variables.
-/
import Derived.Test.YtplpimkgihnmhaaGreatDoorCards
import Derived.Test.YtplpimkgihnmhaaGreatDoorTie
import Derived.Test.YtplpimkgihnmhaaGreatDoorA33
import Derived.Test.YtplpimkgihnmhaaGreatDoorA41
import Derived.Test.YtplpimkgihnmhaaGreatDoorA46
import Derived.Test.YtplpimkgihnmhaaGreatDoorA49
import Derived.Test.YtplpimkgihnmhaaGreatDoorA53
set_option maxRecDepth 100000
set_option maxHeartbeats 4000000
set_option linter.all false
namespace Go.Proofs.YtplpimkgihnmhaaGreatDoor.lawShopCosts
open Go.Proofs.Tryz Go.RowKit
section
open Go.ChangeAt Go.ChangeShapes Go.Joins Go.WideShapes
attribute [local go_sem ↓] Go.wp_at_zero Go.wp_at_succ
def laidE:List (String×DataW Unit):=[("errors.errorType",Rows.laid_errors_errorType),("unicode.White_Space",Rows.laid_unicode_White_Space),("strings.asciiSpace",Rows.laid_strings_asciiSpace)]
def laidP:List (String×DataW Unit):=[("unicode.White_Space",Rows.laid_unicode_White_Space),("strings.asciiSpace",Rows.laid_strings_asciiSpace)]
noncomputable def base (os:Os):World:=
 let w0:=World.holding prog os ⟨#[],#[],[]⟩
 {w0 with heap:=w0.heap.modify 2 fun
   |.cells _ t frozen=>.cells #[.iface 258 (.agg #[.pointer (some ⟨4,27,none⟩)])] t frozen
   |o=>o}
noncomputable def laidWorld (os:Os):World:=(base os).layVars prog laidP
theorem laidWorld_os(os:Os):(laidWorld os).os=os:=World.layVars_os _ _ _
theorem laidWorld_met(os:Os)(Z:Array Value):laidMetH prog laidE ((laidWorld os).forCall (fun _ _=>0) ⟨#[],Z,[]⟩).memory:=by
 have h:laidMetH prog laidE (laidWorld os):=laidMetH_of_parts (show laidMet prog laidP (laidWorld os)from ZH (by kernel_rfl) (by kernel_rfl)) (by kernel_rfl);exact h.of_heap (by simp [World.memory,World.forCall,Input.heap])
theorem factsOf{W:World}(h:laidMetH prog laidE W):Et W.heap.size W/\mR W:=⟨Ga (Cg h (by simp [laidE]) rfl),En h (by simp [laidE])⟩
theorem walk(k:Int)(A:Option Addr)(n c:Nat)(f:Nat->Nat->Int)(Z:Int)(w:World)(o:PQ Aj w A n c f)(y:Et w.heap.size w)(x:mR w):
 Calls prog 6 #[.int .i64 k,.slice A n c,.int .i64 Z] w fun e w'=>e=.returned (.bool true)/\Below w.heap.size w w':=by
 have Y:Hid (Below w.heap.size w w):=Lib.hid (Below.refl _ _);cases hk:mvB k n with
 |false=>
  have B:=Lib.hid (gV k A n c w hk (vQ y Y.out));clear o y x hk
  go_enter func6,ntmps6
  go_wp2_with fail
  with_reducible refine B.out.mono ?_
  rintro e w1 ⟨rfl,S⟩;have R:=Lib.hid (Y.out.trans (S.mono Y.out.size));clear S Y;go_wp2;go_ret;exact⟨rfl,R.out⟩
 |true=>
  have B:=Lib.hid (fM k A n c f w hk (o.below Y.out) (vQ y Y.out) (x.below Y.out));have HE:=Lib.hid (x.below Y.out);clear o y x hk
  go_enter func6,ntmps6
  go_wp2_with fail
  with_reducible refine B.out.mono ?_
  rintro e w1 ⟨pv,rv,rfl,p,gm,gs,gw,q,O,go,pt,zw,rfl,rfl,L,K,G,E⟩;have Q:=Lib.hid L;have j:=Lib.hid K;have i:=Lib.hid G;have g:=Lib.hid E;clear L K G E B;generalize(pH.new k).play (bL f) n=F at*;have m:=Lib.hid (aCn Q.out.ps);go_wp2_with fail
  with_reducible refine m.out.mono ?_
  rintro e D ⟨rfl,S⟩;have V:=Lib.hid (Q.out.below S);clear S Q m;obtain⟨n',mp,H,ch,t,P⟩:=V.out.rs;have a:D.cell? ⟨q,0,none⟩=some (.pointer (some ⟨O,0,none⟩)):=by rw[P.sh.cell,Dq];rfl
  have s3:D.cell? ⟨O,145,none⟩=some (.int .i64 (F.s.fl:Int)):=by rw[P.st_.cell,Cd]
  have s4:D.cell? ⟨O,146,none⟩=some (.int .i64 (F.s.fe:Int)):=by rw[P.st_.cell,Bu]
  have l:=P.sh.lt;have zz:=P.st_.lt;have N:=Lib.hid P.st_;clear P t;have U:=Lib.hid (aCo V.out.ps Z);by_cases T:0<=Z/\Z<9
  .have HRD:Hid (∀W,Below D.heap.size D W->Calls prog 34 #[.pointer (some ⟨O,0,none⟩),.int .i64 Z] W fun e w'=>e=.returned (.bool (F.s.dirty Z.toNat))/\Below W.heap.size W w'):=Lib.hid (fun W hW=>by
    have:=aCL O mp Z.toNat F.s W (N.out.below hW N.out.lt) (by omega);rw[show((Z.toNat:Nat):Int)=Z by omega]at this;exact this)
   obtain⟨d,r⟩:∃d,d=F.s.dirty Z.toNat:=⟨_,rfl⟩;have M:(decide (0<=Z/\Z<9)&&F.s.dirty Z.toNat)=d:=by rw[decide_eq_true T,Bool.true_and,r]
   rw[M]at U;rw[<-r]at HRD;obtain⟨l1,l2⟩:=T;clear M r;go_wp2_with fail
   with_reducible refine U.out.mono ?_
   rintro e z ⟨rfl,X⟩;have zy:z.cell? ⟨q,0,none⟩=some (.pointer (some ⟨O,0,none⟩)):=(X.cell (p:=⟨q,0,none⟩) l).trans a;have zx:=Nat.lt_of_lt_of_le l X.size;have v:=Lib.hid X;have u:=Lib.hid (V.out.below X);clear X V U;go_wp2_with fail
   with_reducible refine(HRD.out z v.out).mono ?_
   rintro e w4 ⟨rfl,C⟩;have R:=Lib.hid (Y.out.trans ((u.out.below C).b.mono Y.out.size));clear C;go_wp2;go_ret;exact⟨dF (by simp),R.out⟩
  .have M:(decide (0<=Z/\Z<9)&&F.s.dirty Z.toNat)=false:=by rw[decide_eq_false T,Bool.false_and]
   rw[M]at U;clear M;by_cases l1:0<=Z
   .have l2:¬Z<9:=fun h=>T ⟨l1,h⟩
    clear T;go_wp2_with fail
    with_reducible refine U.out.mono ?_
    rintro e z ⟨rfl,X⟩;have R:=Lib.hid (Y.out.trans ((V.out.below X).b.mono Y.out.size));clear X;go_wp2;go_ret;exact⟨dF (by simp),R.out⟩
   .clear T;go_wp2_with fail
    with_reducible refine U.out.mono ?_
    rintro e z ⟨rfl,X⟩;have R:=Lib.hid (Y.out.trans ((V.out.below X).b.mono Y.out.size));clear X;go_wp2;go_ret;exact⟨dF (by simp),R.out⟩
theorem own:ownKnob prog.godebug=none:=by kernel_rfl
theorem lifted(os:Os)(V:os.Started)(H:Type)(enc:TypeId×Value->H):
 ReturnsInHanded {} Tryz.checked os 6 .any (fun w Z=>(Rows.shopCostsSpec.pre enc prog Tryz.f6 [] false w Z/\laidMetH prog laidE w)/\sizedMet enc prog Tryz.f6 (OpenSpec.ofChange Rows.shopCostsSpec) false w Z) (Rows.shopCostsSpec.post enc prog Tryz.f6 false true false false):=by
 refine VO (C:=Tryz.checked) (X:=fun w _=>laidMetH prog laidE w) (fun _ _ _ N h=>h.of_heap N) own V (by kernel_rfl) func6
  (ChangeSpec.witness_shaped (enc:=enc) (C:=Tryz.checked) (os:=os) (X:=fun w _=>laidMetH prog laidE w) false (laidWorld os) #[.int .i64 0,.slice none 0 0,.int .i64 0] 8 (laidWorld_os os) (World.shaped_of_ZipB (by kernel_rfl) (by kernel_rfl)) (by kernel_rfl) (by kernel_rfl) (by kernel_rfl) (laidWorld_met os _))
  (by kernel_rfl) (by kernel_rfl) rfl rfl underlying4 ?_
 intro W base Z M L U S O G;have Q:=factsOf G;have Y:∀(j:Nat) t v,Tryz.f6.params[j]? =some t->Z[j]? =some v->Value.okWide prog W .any base t v:=U;have P:DataW.TrodAll enc prog W 0 (fun _=>true) true Tryz.f6.params.toList Z.toList M L:=S;rw[params6]at P Y;obtain⟨F,E,D,r,q,p,o,n,m,rfl,rfl,rfl,B,A,z⟩:=trodAll_three P;obtain⟨k,rfl,rfl,rfl,i⟩:=open_int underlying3 (Y 0 3 F rfl rfl) B;obtain⟨y,x,u,l,rfl,s⟩:=Dz (K:=Aj) 4 underlying76 (by kernel_rfl) (by kernel_rfl) (by decide) (Y 1 76 E rfl rfl) A;obtain⟨T,rfl,rfl,rfl,R⟩:=open_int underlying3 (Y 2 3 D rfl rfl) z;exact⟨rfl,walk k y x u l T W s Q.1 Q.2⟩
theorem kinPlace:(Rows.shopCostsRow.inPlace==Tryz.pinned.checked.prog.inPlace 6)=true:=by kernel_rfl
theorem kunfollowed:(Rows.shopCostsRow.unfollowed==Tryz.pinned.checked.prog.unfollowed 6)=true:=by kernel_rfl
theorem krecurses:(Rows.shopCostsRow.recurses==Tryz.pinned.checked.prog.recurses 6)=true:=by kernel_rfl
theorem knamed:(Rows.shopCostsRow.named==Tryz.pinned.checked.prog.varsNamed 6)=true:=by kernel_rfl
theorem closed:joinedFacts Tryz.pinned.checked.prog 6 Tryz.f6 Rows.shopCostsSpec Rows.shopCostsRow=true:=by
 unfold joinedFacts;simp only[Bool.and_eq_true]
 repeat' apply And.intro
 all_goals first|(with_reducible exact kinPlace)|(with_reducible exact kunfollowed)|(with_reducible exact krecurses)|(with_reducible exact knamed)|(with_reducible exact Cu)|(with_reducible exact Ce)|kernel_rfl
theorem goes:false=Rows.shopCostsRow.goesBy Tryz.pinned.checked.prog:=by kernel_rfl
theorem wfText:Rows.shopCostsRow.wfByText (OpenSpec.ofChange Rows.shopCostsSpec)=true:=by kernel_rfl
theorem row:Rows.ShopCostsSaid:=
 OpenClaim.holds_of_wide 6 Tryz.f6 rfl rfl rfl rfl rfl rfl rfl ⟨rfl,rfl,rfl,rfl,rfl⟩ rfl rfl rfl rfl rfl (by kernel_rfl) func6 closed
  (of_decide_eq_true (by kernel_rfl)) (by unfold Func.isWrapper;first|(rw[if_pos (by decide+kernel)];kernel_rfl)|(rw[if_neg (by decide+kernel)];exact⟨rfl,rfl⟩))
  (fun X Z H Y _=>lifted X Z H Y)
theorem holds:Rows.ShopCostsCardSaid:=
 Claim7.holds_tied_plain_at .later [] [.handle,.listed,.data] true Rows.shopCostsCard.stood.harness true
  row (fun _ h=>by cases h) wfText (fun _ h=>by cases h) shopCosts_row_tie rfl ⟨rfl,rfl⟩ (by kernel_rfl) rfl
  (fun f W V Y=>by
    obtain rfl:f=6:=Option.some.inj ((show prog.funcNamed Rows.shopCostsRow.func=some 6 by kernel_rfl).symm.trans V)|>.symm
    obtain rfl:W=Tryz.f6:=(Option.some.inj (func6.symm.trans Y)).symm;refine⟨Fa,fun j t U=>?_⟩;have Z:(Tryz.f6.params.toList.all fun t=> !(prog.wantsStandIn t))=true:=by kernel_rfl
    have X:t∈Tryz.f6.params.toList:=List.mem_of_getElem? (by simpa using U);have h:=List.all_eq_true.1 Z t X;show prog.wantsStandIn t=false;simpa using h)
  goes
#print axioms holds
