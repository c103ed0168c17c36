/-
  Version and Record return what the reference returns, behind any moves. No condition beyond the tied variables.
-/
import Derived.Test.YtplpimkgihnmhaaGreatDoorCards
import Derived.Test.YtplpimkgihnmhaaGreatDoorTie
import Derived.Test.YtplpimkgihnmhaaGreatDoorA33
import Derived.Test.YtplpimkgihnmhaaGreatDoorA53
import Derived.Test.YtplpimkgihnmhaaGreatDoorA59
set_option maxRecDepth 100000
set_option maxHeartbeats 4000000
namespace Go.Proofs.YtplpimkgihnmhaaGreatDoor.lawShopRecords
open Go.Proofs.Tryz Go.RowKit
open Go.ChangeAt Go.ChangeShapes Go.Joins Go.WideShapes
attribute [local go_sem ↓] Go.wp_at_zero Go.wp_at_succ
theorem aAc:(prog.info? 25).map (·.size)=some 32:=J
theorem sR(A:Option Addr)(n c:Nat)(z:Nat->Int)(w:World)(h:qY w A n c z)(s:n<=32)(D:Array Value)(G:cH D 32 (fun i=>if i<n then z i else 0)):
 Calls prog 39 #[.slice A n c] w fun e w'=>e=.returned (.agg D)/\Below w w w':=by
 have H:=aH h;clear h;have U:=aH G;clear G;have T:=U.one;have Z:=aH U.size;have F:0<=(n:Int):=I
 go_enter func39,ntmps39
 go_wp2
 go_loopw [4] (fun i wr=>∃k:Nat,k<=n/\i=.int .i64 k/\Hid (∃E,aY wr (w,1) 25 E/\cH E 32 (fun i=>if i<k then z i else 0))/\Hid (aY wr w 25 (32:Nat))/\Below w w wr) (fun i _=>n-(intOf i).toNat)
 case atStart=>exact⟨0,I,rfl,aH ⟨(32:Nat),aY.newAt _ _ _ (by simp),(cH.zero 32).congr (fun i y=>by simp)⟩,aH ((aY.new _ _ _).alloc _),by go_grown⟩
 case round=>
  obtain⟨k,t,rfl,M,P,V⟩:=hrel;obtain⟨E,X,L⟩:=M.out;clear M;have S:=aH L;clear L;have Y:=aH X;clear X;have N:k<=32:=I;have C:=V.size;by_cases W:k<n
  .obtain⟨b,off,rfl,hblt,hcell⟩:=H.at_ I;have x:=(V.cell (p:=⟨b,off+k,none⟩) hblt).trans (hcell k W);clear hcell;have R:=H.bd k W;have B:wr.cell? ⟨w.heap.size+1,k,none⟩=some (.int .u64 0):=by
    rw[Y.cell,S.get k I,iN I]
   have v:=Y.frozen k;have u:(k:Int)<32:=I;go_wp2;go_roundw
   case rel=>exact⟨k+1,I,aG,aH ⟨_,Y.set_ k _,(S.set_ R).congr (fun i y=>by
    by_cases O:i=k
    .subst O;simp
    by_cases K:i<k
    .rw[iP I,iN O,iP K]
    rw[iN I,iN O,iN K])⟩,aH (P.far (by simp) _),V.setCell (by simp) _⟩
   case measure=>simp [intOf];omega
  obtain rfl:k=n:=I;have Q:=S.ext U;subst Q
  go_wp2_with (first
   |(refine wpList_load_row rfl 25 _ rfl (w,1) rfl 25 E (0,0) _ ?ha underlying25 rfl ?hb1 ?_)
   |(refine wpList_store_row rfl 25 _ _ rfl w E rfl rfl 25 (32:Nat) ?hg ?hj ?ho T ?_))
  case ha=>exact Y
  case hb1=>rw[aAc,Z.out]
  case hg=>exact P
  case hj=>rw[aAc,Z.out]
  case ho=>rw[Z.out];rfl
  refine bodyPost_ret (results_cell_row results39 _ _ w 25 E (0,0) _ rfl (P.setRow E) underlying25 rfl (by rw[aAc,Z.out])) rfl ⟨rfl,aL V (Nat.le_refl _) _⟩
theorem aCp(w:World):(sizeOf 23).run prog w=.ok 1 w:=J
theorem aBC{D:Array Value}{z:Nat->Int}(h:cH D 32 z)(w:World):(Op.equalIn 10000 25 (.agg D) (.agg D)).run prog w=.ok true w:=by
 rw[uH w 9998 32 underlying25 underlying23 aCp h.get h.get];simp
def al:List (String×DataW Unit):=[("errors.errorType",Rows.laid_errors_errorType),("unicode.White_Space",Rows.laid_unicode_White_Space),("strings.asciiSpace",Rows.laid_strings_asciiSpace)]
def am:List (String×DataW Unit):=[("unicode.White_Space",Rows.laid_unicode_White_Space),("strings.asciiSpace",Rows.laid_strings_asciiSpace)]
noncomputable def an (os:Os):World:=
 let w0:=World.holding prog os ⟨#[],#[],[]⟩
 {w0 with heap:=w0.heap.modify 2 fun
   |.cells _ t frozen=>.cells #[.iface 258 (.agg #[.pointer (some ⟨4,27,none⟩)])] t frozen
   |o=>o}
noncomputable def ad (os:Os):World:=(an os).layVars prog am
theorem ab(os:Os):(ad os).os=os:=World.layVars_os _ _ _
theorem aa(os:Os)(Z:Array Value):laidMetH prog al ((ad os).forCall (fun _ _=>0) ⟨#[],Z,[]⟩).memory:=by
 have h:laidMetH prog al (ad os):=laidMetH_of_parts (show laidMet prog am (ad os)from ZH J J) J;exact h.of_heap (by simp [World.memory,World.forCall,Input.heap])
theorem ag{W:World}(h:laidMetH prog al W):Et W.heap.size W/\mR W:=⟨Ga (Cg h (by simp [al]) rfl),En h (by simp [al])⟩
theorem ao(k:Int)(A:Option Addr)(n c:Nat)(f:Nat->Nat->Int)(w:World)(t:PQ Aj w A n c f)(C:Et w w)(B:mR w):
 Calls prog 8 #[k,.slice A n c] w fun e w'=>e=.returned true/\Below w w w':=by
 have Z:Hid (Below w w w):=aH (Below.refl _ _);cases hk:mvB k n with
 |false=>
  have E:=aH (gV k A n c w hk (vQ C Z));clear t C B hk
  go_enter func8,ntmps8
  go_wp2_with fail
  with_reducible refine E.out.mono ?_
  rintro e g ⟨rfl,X⟩;have z:=aH (Z.trans (X.mono Z.size));clear X Z;go_wp2;go_ret;exact⟨rfl,z.out⟩
 |true=>
  have E:=aH (fM k A n c f w hk (t.below Z) (vQ C Z) (B.below Z));have HE:=aH (B.below Z);clear t C B hk
  go_enter func8,ntmps8
  go_wp2_with fail
  with_reducible refine E.out.mono ?_
  rintro e g ⟨pv,rv,rfl,p,gm,gs,gw,q,qs,go,pt,d,rfl,rfl,N,M,L,K⟩;have W:=aH N;have Y:=aH M;have m:=aH L;have l:=aH K;clear N M L K E;generalize(pH.new k).play (bL f) n=F at*;have j:Hid (F.V<=1000000):=aH (by have:=Y.ver;have:=Y.stp;omega);have hv:=j.out;have s:=NX Y;obtain⟨D,u⟩:=aO (kT F.rcd:Array Value);have U:cH D 32 F.rcd:=by rw[u];exact xA s
  have h:=aBC U;have T:=Ic W.ps Y I;rw[<-u]at T;have Q:=aH T;have y:=aH U;have k1:IntKind.u64.wrap (F.V:Int)=F.V:=IntWalk.u64_in _ I;have k2:(F.V:Int)%18446744073709551616=F.V:=I;clear T U u s;go_wp2_with fail
  with_reducible refine Q.out.mono ?_
  rintro e w2 ⟨rfl,X⟩;have S:=aH (W.below X);clear X Q W;have P:=aH (Jy S.rs Y I);go_wp2_with fail
  with_reducible refine P.out.mono ?_
  rintro e a ⟨A2,c2,rfl,o,H⟩;have r:=aH (sR A2 32 c2 F.rcd a o I D (y.congr (fun i hi=>by rw[iP hi])));have O:=aH (S.below H);clear o H P S;go_wp2_with fail
  with_reducible refine r.out.mono ?_
  rintro e w4 ⟨rfl,G⟩;have R:=aH (O.below G);clear G O r;have x:=aH (aBj R.ps Y I);have v:=aH (Ou R.rs Y);have z:=aH (Z.trans (R.b.mono Z.size));go_wp2_with fail
  with_reducible refine x.out.mono ?_
  rintro e w5 ⟨rfl,rfl⟩;go_wp2_with fail
  with_reducible refine v.out.mono ?_
  rintro e w5 ⟨rfl,rfl⟩;go_wp2;go_ret;exact⟨dF (by simp),z.out⟩
theorem aq:ownKnob prog.godebug=none:=J
theorem ah(os:Os)(V:os.Started)(H:Type)(enc:TypeId×Value->H):
 ReturnsInHanded {} Tryz.checked os 8 .any (fun w Z=>(Rows.shopRecordsSpec.pre enc prog Tryz.f8 [] false w Z/\laidMetH prog al w)/\sizedMet enc prog Tryz.f8 (OpenSpec.ofChange Rows.shopRecordsSpec) false w Z) (Rows.shopRecordsSpec.post enc prog Tryz.f8 false true false false):=by
 refine VO (C:=Tryz.checked) (X:=fun w _=>laidMetH prog al w) (fun _ _ _ P h=>h.of_heap P) aq V J func8
  (ChangeSpec.witness_shaped (enc:=enc) (C:=Tryz.checked) (os:=os) (X:=fun w _=>laidMetH prog al w) false (ad os) #[.int .i64 0,.slice none 0 0] 8 (ab os) (World.shaped_of_ZipB J J) J J J (aa os _))
  J J rfl rfl underlying4 ?_
 intro W an Z O N U T Q M;have S:=ag M;have Y:∀(j:Nat) t v,Tryz.f8.params[j]? =some t->Z[j]? =some v->Value.okWide prog W .any an t v:=U;have R:DataW.TrodAll enc prog W 0 (fun _=>true) true Tryz.f8.params.toList Z.toList O N:=T;rw[params8]at R Y;obtain⟨L,G,y,x,u,s,rfl,rfl,rfl,F,E⟩:=trodAll_two R;obtain⟨k,rfl,rfl,rfl,r⟩:=open_int underlying3 (Y 0 3 L rfl rfl) F;obtain⟨D,B,A,l,rfl,z⟩:=Dz (K:=Aj) 4 underlying76 J J (by decide) (Y 1 76 G rfl rfl) E;exact⟨rfl,ao k D B A l W z S.1 S.2⟩
theorem af:(Rows.shopRecordsRow.inPlace==Tryz.pinned.checked.prog.inPlace 8)=true:=J
theorem ac:(Rows.shopRecordsRow.unfollowed==Tryz.pinned.checked.prog.unfollowed 8)=true:=J
theorem ae:(Rows.shopRecordsRow.recurses==Tryz.pinned.checked.prog.recurses 8)=true:=J
theorem ai:(Rows.shopRecordsRow.named==Tryz.pinned.checked.prog.varsNamed 8)=true:=J
theorem aj:joinedFacts Tryz.pinned.checked.prog 8 Tryz.f8 Rows.shopRecordsSpec Rows.shopRecordsRow=true:=by
 unfold joinedFacts;simp only[Bool.and_eq_true]
 repeat' apply And.intro
 all_goals first|(with_reducible exact af)|(with_reducible exact ac)|(with_reducible exact ae)|(with_reducible exact ai)|(with_reducible exact Cu)|(with_reducible exact Ce)|kernel_rfl
theorem ap:false=Rows.shopRecordsRow.goesBy Tryz.pinned.checked.prog:=J
theorem ak:Rows.shopRecordsRow.wfByText (OpenSpec.ofChange Rows.shopRecordsSpec)=true:=J
theorem ar:Rows.ShopRecordsSaid:=
 OpenClaim.holds_of_wide 8 Tryz.f8 rfl rfl rfl rfl rfl rfl rfl ⟨rfl,rfl,rfl,rfl,rfl⟩ rfl rfl rfl rfl rfl J func8 aj
  (of_decide_eq_true J) (by unfold Func.isWrapper;first|(rw[if_pos (by decide+kernel)];kernel_rfl)|(rw[if_neg (by decide+kernel)];exact⟨rfl,rfl⟩))
  (fun X Z H Y _=>ah X Z H Y)
theorem holds:Rows.ShopRecordsCardSaid:=
 Claim7.holds_tied_plain_at .later [] [.handle,.listed,.data] true Rows.shopRecordsCard.stood.harness true
  ar (fun _ h=>by cases h) ak (fun _ h=>by cases h) shopRecords_row_tie rfl ⟨rfl,rfl⟩ J rfl
  (fun f W V Y=>by
    obtain rfl:f=8:=Option.some.inj ((show prog.funcNamed Rows.shopRecordsRow.func=some 8 by kernel_rfl).symm.trans V)|>.symm
    obtain rfl:W=Tryz.f8:=(Option.some.inj (func8.symm.trans Y)).symm;refine⟨Fa,fun j t U=>?_⟩;have Z:(Tryz.f8.params.toList.all fun t=> !(prog.wantsStandIn t))=true:=J
    have X:t∈Tryz.f8.params.toList:=List.mem_of_getElem? (by simpa using U);have h:=List.all_eq_true.1 Z t X;show prog.wantsStandIn t=false;simpa using h)
  ap
