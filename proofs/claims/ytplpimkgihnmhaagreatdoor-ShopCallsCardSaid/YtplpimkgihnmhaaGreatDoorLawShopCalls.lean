/-
  Call returns what the reference returns, behind any moves. No condition beyond the tied variables.
-/
import Derived.Test.YtplpimkgihnmhaaGreatDoorCards
import Derived.Test.YtplpimkgihnmhaaGreatDoorTie
import Derived.Test.YtplpimkgihnmhaaGreatDoorA34
import Derived.Test.YtplpimkgihnmhaaGreatDoorA35
import Derived.Test.YtplpimkgihnmhaaGreatDoorA49
import Derived.Test.YtplpimkgihnmhaaGreatDoorA53
set_option maxRecDepth 100000
set_option maxHeartbeats 4000000
set_option linter.all false
namespace Go.Proofs.YtplpimkgihnmhaaGreatDoor.lawShopCalls
open Go.Proofs.Tryz Go.RowKit
section
open Go.ChangeAt Go.ChangeShapes Go.Joins Go.WideShapes
attribute [local go_sem ↓] Go.wp_at_zero Go.wp_at_succ
def laidE:List (String×DataW Unit):=[("errors.errorType",Rows.laid_errors_errorType),("unicode.White_Space",Rows.laid_unicode_White_Space),("strings.asciiSpace",Rows.laid_strings_asciiSpace)]
def laidP:List (String×DataW Unit):=[("unicode.White_Space",Rows.laid_unicode_White_Space),("strings.asciiSpace",Rows.laid_strings_asciiSpace)]
noncomputable def base (os:Os):World:=
 let w0:=World.holding prog os ⟨#[],#[],[]⟩
 {w0 with heap:=w0.heap.modify 2 fun
   |.cells _ t frozen=>.cells #[.iface 258 (.agg #[.pointer (some ⟨4,27,none⟩)])] t frozen
   |o=>o}
noncomputable def laidWorld (os:Os):World:=(base os).layVars prog laidP
theorem laidWorld_os(os:Os):(laidWorld os).os=os:=World.layVars_os _ _ _
theorem laidWorld_met(os:Os)(Z:Array Value):laidMetH prog laidE ((laidWorld os).forCall (fun _ _=>0) ⟨#[],Z,[]⟩).memory:=by
 have h:laidMetH prog laidE (laidWorld os):=laidMetH_of_parts (show laidMet prog laidP (laidWorld os)from ZH (by kernel_rfl) (by kernel_rfl)) (by kernel_rfl);exact h.of_heap (by simp [World.memory,World.forCall,Input.heap])
theorem factsOf{W:World}(h:laidMetH prog laidE W):Et W.heap.size W/\mR W:=⟨Ga (Cg h (by simp [laidE]) rfl),En h (by simp [laidE])⟩
theorem walk(k:Int)(A:Option Addr)(n c:Nat)(f:Nat->Nat->Int)(t a kk v:Int)(w:World)(hl:PQ Aj w A n c f)(hT:Et w.heap.size w)(hE:mR w):
 Calls prog 9 #[.int .i64 k,.slice A n c,.int .i64 t,.agg #[.int .i64 a,.int .i64 kk,.int .i64 v]] w fun e w'=>e=.returned (.bool true)/\Below w.heap.size w w':=by
 have S:Hid (Below w.heap.size w (w.alloc (.cells #[.int .i64 a,.int .i64 kk,.int .i64 v] 39))):=Lib.hid ((Below.refl _ _).alloc (Nat.le_refl _) _);cases hk:mvB k n with
 |false=>
  have HM:=Lib.hid (gV k A n c (w.alloc (.cells #[.int .i64 a,.int .i64 kk,.int .i64 v] 39)) hk (vQ hT S.out));clear hl hT hE hk
  go_enter func9,ntmps9
  go_wp2_with fail
  with_reducible refine HM.out.mono ?_
  rintro e G ⟨rfl,i⟩;have HB:=Lib.hid (S.out.trans (i.mono S.out.size));clear i S;go_wp2;go_ret;exact⟨rfl,HB.out⟩
 |true=>
  have HM:=Lib.hid (fM k A n c f (w.alloc (.cells #[.int .i64 a,.int .i64 kk,.int .i64 v] 39)) hk (hl.below S.out) (vQ hT S.out) (hE.below S.out));have HE:=Lib.hid (hE.below S.out);clear hl hT hE hk
  go_enter func9,ntmps9
  go_wp2_with fail
  with_reducible refine HM.out.mono ?_
  rintro e G ⟨pv,rv,rfl,p,gm,gs,gw,q,qs,go,pt,N,rfl,rfl,g,d,zz,zy⟩;have O:=Lib.hid g;have z:=Lib.hid d;have zw:=Lib.hid zz;have zv:=Lib.hid zy;clear g d zz zy HM;generalize(pH.new k).play (bL f) n=F at*;have R:Hid (aY (w.alloc (.cells #[.int .i64 a,.int .i64 kk,.int .i64 v] 39)) w.heap.size 39 #[.int .i64 a,.int .i64 kk,.int .i64 v]):=Lib.hid (aY.new _ _ _);obtain⟨E,y⟩:∃E,E=F.callE t a kk v:=⟨_,rfl⟩;obtain⟨D,x⟩:∃D,D=(if E=0 then F.call t.toNat a kk v else F):=⟨_,rfl⟩;have m:Hid (lM 1000001 D):=Lib.hid (by
   rw[x,y];split
   .rename_i e;obtain⟨_,e1,e2,e3⟩:=Ot e;exact KI z.out e1 e2 e3
   .exact z.out.mono (by omega))
  have zu:Hid (∀W,gH W N F p gm gs gw->Calls prog 44 #[.pointer (some ⟨p,0,none⟩),.int .i64 t,.agg #[.int .i64 a,.int .i64 kk,.int .i64 v]] W fun e w'=>e=.returned (gS E)/\DZ W N D p gm gs gw w'):=Lib.hid (fun W hW=>by rw[x,y];exact aBT hW z.out (by omega) t a kk v);have zt:Hid (∀W X,kK W X F q qs go pt->Calls prog 22 #[.pointer (some ⟨q,0,none⟩),.int .i64 t,.agg #[.int .i64 a,.int .i64 kk,.int .i64 v]] W fun e w'=>e=.returned (.int .i64 E)/\SI W X D q qs go pt w'):=Lib.hid (fun W X hW=>by rw[x,y];exact Ge hW z.out (by omega) t a kk v);have zs:Hid (∀W,mR W->Calls prog 43 #[gS E,.int .i64 E] W fun e w'=>e=.returned (.bool true)/\Below W.heap.size W w'):=Lib.hid (fun W hW=>by have:=FO E E W hW;rw[show(E==E)=true by simp]at this;exact this);have l:=Lib.hid (O.out.err HE.out).1;have zr:=l.out.pos;have zq:¬(N 2≠0\/G.heap.size<=2):=fun h=>by
   rcases h with h|h
   .exact h (O.out.err HE.out).2
   .omega
  have L:w.heap.size<G.heap.size:=Nat.lt_of_lt_of_le R.out.lt O.out.b.size;have H:¬(N w.heap.size≠0\/G.heap.size<=w.heap.size):=fun h=>by
   rcases h with h|h
   .exact h (O.out.t _ R.out.lt)
   .omega
  have o0:G.cell? ⟨w.heap.size,0,none⟩=some (.int .i64 a):=(O.out.b.cell (p:=⟨w.heap.size,0,none⟩) R.out.lt).trans (R.out.cell 0);have o1:G.cell? ⟨w.heap.size,1,none⟩=some (.int .i64 kk):=(O.out.b.cell (p:=⟨w.heap.size,1,none⟩) R.out.lt).trans (R.out.cell 1);have o2:G.cell? ⟨w.heap.size,2,none⟩=some (.int .i64 v):=(O.out.b.cell (p:=⟨w.heap.size,2,none⟩) R.out.lt).trans (R.out.cell 2);clear y x R zw zv HE;go_wp2;generalize zl:(w.alloc (.cells #[.int .i64 a,.int .i64 kk,.int .i64 v] 39))=W0 at*;refine bK 18 (fun b=>N b≠0\/G.heap.size<=b) [3,7] (by kernel_rfl) (by kernel_rfl) ?_
  iterate 3
   first|(with_reducible refine aC (fun K Z=>?_))|(refine aC (fun K Z=>?_))
   refine .inl ?_;apply Exists.intro;refine⟨cX,?_,Z _ _ _ _ ?_⟩
   .simp only[bJ,bM];refine⟨?_,fun w9 hw9 U=>?_⟩
    .first|rfl|(go_simp;done)
    with_reducible refine cC ?_
    have x0:=(hw9.cell (p:=⟨w.heap.size,0,none⟩) L H).trans o0;have x1:=(hw9.cell (p:=⟨w.heap.size,1,none⟩) L H).trans o1;have x2:=(hw9.cell (p:=⟨w.heap.size,2,none⟩) L H).trans o2
    with_reducible refine cL.mk ?_
    go_simp
    first
    |exact⟨⟨rfl,trivial⟩,aD.refl _ _⟩
   clear Z K
   try simp only[Act.put,List.setIfInBounds_toArray,List.set_cons_zero,List.set_cons_succ]
  first|(with_reducible refine aC (fun K Z=>?_))|(refine aC (fun K Z=>?_))
  refine .inl ⟨(gS E),(fun _ w'=>∃X,bI G N X/\Ev W0 D F p gm gs gw q qs go pt w' X),?_,Z _ _ _ _ ?_⟩
  .simp only[bJ,bM];refine⟨?_,fun w9 hw9 U=>?_⟩
   .first|rfl|(go_simp;done)
   with_reducible refine cC ?_
   have C:=cA U.1 (by kernel_rfl);have Q:=Lib.hid (O.out.below C);have P:=Lib.hid (zu.out _ Q.out.ps);clear C
   with_reducible refine cL.mk ?_
   go_simp;go_at_call 44;refine P.out.mono ?_;rintro e zo ⟨rfl,hg⟩;obtain⟨X,⟨u,zn⟩,hx⟩:=Q.out.prog hg;exact⟨_,rfl,⟨rfl,X,fun b s=>u b (Nat.lt_of_lt_of_le s hw9.size),hx⟩,zn.mono fun b s=>by first|exact .inl s|exact⟨by decide,.inl s⟩⟩
  iterate 3
   clear Z K
   try simp only[Act.put,List.setIfInBounds_toArray,List.set_cons_zero,List.set_cons_succ]
   first|(with_reducible refine aC (fun K Z=>?_))|(refine aC (fun K Z=>?_))
   refine .inl ?_;apply Exists.intro;refine⟨cX,?_,Z _ _ _ _ ?_⟩
   .simp only[bJ,bM];refine⟨?_,fun w9 hw9 U=>?_⟩
    .first|rfl|(go_simp;done)
    with_reducible refine cC ?_
    have x0:=(hw9.cell (p:=⟨w.heap.size,0,none⟩) L H).trans o0;have x1:=(hw9.cell (p:=⟨w.heap.size,1,none⟩) L H).trans o1;have x2:=(hw9.cell (p:=⟨w.heap.size,2,none⟩) L H).trans o2
    with_reducible refine cL.mk ?_
    go_simp
    first
    |exact⟨⟨rfl,trivial⟩,aD.refl _ _⟩
  clear Z K
  try simp only[Act.put,List.setIfInBounds_toArray,List.set_cons_zero,List.set_cons_succ]
  first|(with_reducible refine aC (fun K Z=>?_))|(refine aC (fun K Z=>?_))
  refine .inl ⟨(.int .i64 E),(fun _ w'=>∃T,bI G N T/\Ev W0 D D p gm gs gw q qs go pt w' T),?_,Z _ _ _ _ ?_⟩
  .simp only[bJ,bM];refine⟨?_,fun w9 hw9 U=>?_⟩
   .first|rfl|(go_simp;done)
   with_reducible refine cC ?_
   have Y:=U.2;obtain⟨w0,o,B,X,u,r⟩:=Y.2.2.2.1 (by kernel_rfl);have C:=cA B (by kernel_rfl);have Q:=Lib.hid (r.below C);have j:=Lib.hid u;have P:=Lib.hid (zt.out _ _ Q.out.rs);clear C r Y o B u
   with_reducible refine cL.mk ?_
   go_simp;go_at_call 22;refine P.out.mono ?_;rintro e zo ⟨rfl,hg⟩;obtain⟨T,⟨M,zm⟩,hx⟩:=Q.out.refr hg;exact⟨_,rfl,⟨rfl,T,fun b s=>(M b (Nat.lt_of_lt_of_le s hw9.size)).trans (j.out b s),hx⟩,zm.mono fun b s=>by
    have hS:N b≠0\/G.heap.size<=b:=by
     by_cases zx:b<G.heap.size
     .exact .inl (by rw[<-j.out b zx];exact s)
     .exact .inr (Nat.le_of_not_lt zx)
    first|exact hS|exact⟨by decide,hS⟩⟩
  clear Z K
  try simp only[Act.put,List.setIfInBounds_toArray,List.set_cons_zero,List.set_cons_succ]
  first|(with_reducible refine aC (fun K Z=>?_))|(refine aC (fun K Z=>?_))
  refine .inl ⟨.bool true,cX,?_,Z _ _ _ _ ?_⟩
  .simp only[bJ,bM];refine⟨?_,fun w9 hw9 _=>?_⟩
   .first|rfl|(go_simp;done)
   with_reducible refine cC ?_
   have zp:mR w9:=(hw9.cell (p:=⟨2,0,none⟩) zr zq).trans l.out;have P:=Lib.hid (zs.out w9 zp)
   with_reducible refine cL.mk ?_
   go_simp;go_at_call 43;exact bS P.out
  iterate 3
   clear Z K
   try simp only[Act.put,List.setIfInBounds_toArray,List.set_cons_zero,List.set_cons_succ]
   first|(with_reducible refine aC (fun K Z=>?_))|(refine aC (fun K Z=>?_))
   refine .inl ?_;apply Exists.intro;refine⟨cX,?_,Z _ _ _ _ ?_⟩
   .simp only[bJ,bM];refine⟨?_,fun w9 hw9 U=>?_⟩
    .first|rfl|(go_simp;done)
    go_simp
    first
    |exact⟨⟨rfl,trivial⟩,aD.refl _ _⟩
  clear Z K
  try simp only[Act.put,List.setIfInBounds_toArray,List.set_cons_zero,List.set_cons_succ]
  first|(with_reducible refine aC (fun K Z=>?_))|(refine aC (fun K Z=>?_))
  refine .inl ⟨(.int .i64 (KB D t)),cX,?_,Z _ _ _ _ ?_⟩
  .simp only[bJ,bM];refine⟨?_,fun w9 hw9 U=>?_⟩
   .first|rfl|(go_simp;done)
   with_reducible refine cC ?_
   have Y:=U.2;obtain⟨w0,o,B,T,M,V⟩:=Y.2.2.2.2.1 (by kernel_rfl);have C:=cA B (by kernel_rfl);have Q:=Lib.hid (V.below C);have P:Hid (Calls prog 29 #[.pointer (some ⟨p,0,none⟩),.int .i64 t] w9 fun e w'=>e=.returned (.int .i64 (KB D t))/\Below w9.heap.size w9 w'):=Lib.hid ((QV Q.out.ps t).mono fun e w' h'=>⟨h'.1,by rw[<-h'.2];exact Below.refl _ _⟩);clear C V Y o B M
   with_reducible refine cL.mk ?_
   go_simp;go_at_call 29;exact bS P.out
  iterate 2
   clear Z K
   try simp only[Act.put,List.setIfInBounds_toArray,List.set_cons_zero,List.set_cons_succ]
   first|(with_reducible refine aC (fun K Z=>?_))|(refine aC (fun K Z=>?_))
   refine .inl ?_;apply Exists.intro;refine⟨cX,?_,Z _ _ _ _ ?_⟩
   .simp only[bJ,bM];refine⟨?_,fun w9 hw9 U=>?_⟩
    .first|rfl|(go_simp;done)
    go_simp
    first
    |exact⟨⟨rfl,trivial⟩,aD.refl _ _⟩
  clear Z K
  try simp only[Act.put,List.setIfInBounds_toArray,List.set_cons_zero,List.set_cons_succ]
  first|(with_reducible refine aC (fun K Z=>?_))|(refine aC (fun K Z=>?_))
  refine .inl ⟨(.int .i64 (KB D t)),cX,?_,Z _ _ _ _ ?_⟩
  .simp only[bJ,bM];refine⟨?_,fun w9 hw9 U=>?_⟩
   .first|rfl|(go_simp;done)
   with_reducible refine cC ?_
   have Y:=U.2;obtain⟨w0,o,B,T,M,V⟩:=Y.2.2.2.2.2.2.2.1 (by kernel_rfl);have C:=cA B (by kernel_rfl);have Q:=Lib.hid (V.below C);have P:Hid (Calls prog 19 #[.pointer (some ⟨q,0,none⟩),.int .i64 t] w9 fun e w'=>e=.returned (.int .i64 (KB D t))/\Below w9.heap.size w9 w'):=Lib.hid ((Es Q.out.rs m.out t).mono fun e w' h'=>⟨h'.1,by rw[<-h'.2];exact Below.refl _ _⟩);clear C V Y o B M
   with_reducible refine cL.mk ?_
   go_simp;go_at_call 19;exact bS P.out
  iterate 2
   clear Z K
   try simp only[Act.put,List.setIfInBounds_toArray,List.set_cons_zero,List.set_cons_succ]
   first|(with_reducible refine aC (fun K Z=>?_))|(refine aC (fun K Z=>?_))
   refine .inl ?_;apply Exists.intro;refine⟨cX,?_,Z _ _ _ _ ?_⟩
   .simp only[bJ,bM];refine⟨?_,fun w9 hw9 U=>?_⟩
    .first|rfl|(go_simp;done)
    go_simp
    first
    |exact⟨⟨rfl,trivial⟩,aD.refl _ _⟩
  clear Z K
  try simp only[Act.put,List.setIfInBounds_toArray,List.set_cons_zero,List.set_cons_succ]
  refine cP ?_;simp only[bM];rintro w9 hw9 Y;simp only[List.drop_succ_cons,List.drop_zero,List.drop,Act.put,List.setIfInBounds_toArray,List.set_cons_zero,List.set_cons_succ]
  with_reducible refine cC ?_
  obtain⟨w0,o,B,T,M,V⟩:=Y.2.2.2.2.2.2.2.2.2.2.1 rfl;have HB:=Lib.hid (S.out.trans ((V.below (cA B (by kernel_rfl))).b.mono S.out.size));clear Y o B M V hw9
  with_reducible refine cL.mk ?_
  go_wp2;go_ret;exact⟨rfl,HB.out⟩
theorem own:ownKnob prog.godebug=none:=by kernel_rfl
theorem lifted(os:Os)(V:os.Started)(H:Type)(enc:TypeId×Value->H):
 ReturnsInHanded {} Tryz.checked os 9 .any (fun w Y=>(Rows.shopCallsSpec.pre enc prog Tryz.f9 [] false w Y/\laidMetH prog laidE w)/\sizedMet enc prog Tryz.f9 (OpenSpec.ofChange Rows.shopCallsSpec) false w Y) (Rows.shopCallsSpec.post enc prog Tryz.f9 false true false false):=by
 refine VO (C:=Tryz.checked) (X:=fun w _=>laidMetH prog laidE w) (fun _ _ _ P h=>h.of_heap P) own V (by kernel_rfl) func9
  (ChangeSpec.witness_shaped (enc:=enc) (C:=Tryz.checked) (os:=os) (X:=fun w _=>laidMetH prog laidE w) false (laidWorld os) #[.int .i64 0,.slice none 0 0,.int .i64 0,.agg #[.int .i64 0,.int .i64 0,.int .i64 0]] 8 (laidWorld_os os) (World.shaped_of_ZipB (by kernel_rfl) (by kernel_rfl)) (by kernel_rfl) (by kernel_rfl) (by kernel_rfl) (laidWorld_met os _))
  (by kernel_rfl) (by kernel_rfl) rfl rfl underlying4 ?_
 intro W base Y O N U T Q M;have S:=factsOf M;have Z:∀(j:Nat) t v,Tryz.f9.params[j]? =some t->Y[j]? =some v->Value.okWide prog W .any base t v:=U;have R:DataW.TrodAll enc prog W 0 (fun _=>true) true Tryz.f9.params.toList Y.toList O N:=T;rw[params9]at R Z;obtain⟨L,G,F,E,r,q,p,n,m,i,g,f,rfl,rfl,rfl,D,B,A,z⟩:=trodAll_four R;obtain⟨k,rfl,rfl,rfl,e⟩:=open_int underlying3 (Z 0 3 L rfl rfl) D;obtain⟨y,x,u,l,rfl,s⟩:=Dz (K:=Aj) 4 underlying76 (by kernel_rfl) (by kernel_rfl) (by decide) (Z 1 76 G rfl rfl) B;obtain⟨t,rfl,rfl,rfl,d⟩:=open_int underlying3 (Z 2 3 F rfl rfl) A;obtain⟨o,rfl,c⟩:=aAv 4 (K:=[.i64,.i64,.i64]) (by kernel_rfl) (by kernel_rfl) (by kernel_rfl) (Z 3 39 E rfl rfl) z;exact⟨rfl,walk k y x u l t (o 0) (o 1) (o 2) W s S.1 S.2⟩
theorem kinPlace:(Rows.shopCallsRow.inPlace==Tryz.pinned.checked.prog.inPlace 9)=true:=by kernel_rfl
theorem kunfollowed:(Rows.shopCallsRow.unfollowed==Tryz.pinned.checked.prog.unfollowed 9)=true:=by kernel_rfl
theorem krecurses:(Rows.shopCallsRow.recurses==Tryz.pinned.checked.prog.recurses 9)=true:=by kernel_rfl
theorem knamed:(Rows.shopCallsRow.named==Tryz.pinned.checked.prog.varsNamed 9)=true:=by kernel_rfl
theorem closed:joinedFacts Tryz.pinned.checked.prog 9 Tryz.f9 Rows.shopCallsSpec Rows.shopCallsRow=true:=by
 unfold joinedFacts;simp only[Bool.and_eq_true]
 repeat' apply And.intro
 all_goals first|(with_reducible exact kinPlace)|(with_reducible exact kunfollowed)|(with_reducible exact krecurses)|(with_reducible exact knamed)|(with_reducible exact Cu)|(with_reducible exact Ce)|kernel_rfl
theorem goes:false=Rows.shopCallsRow.goesBy Tryz.pinned.checked.prog:=by kernel_rfl
theorem wfText:Rows.shopCallsRow.wfByText (OpenSpec.ofChange Rows.shopCallsSpec)=true:=by kernel_rfl
theorem row:Rows.ShopCallsSaid:=
 OpenClaim.holds_of_wide 9 Tryz.f9 rfl rfl rfl rfl rfl rfl rfl ⟨rfl,rfl,rfl,rfl,rfl⟩ rfl rfl rfl rfl rfl (by kernel_rfl) func9 closed
  (of_decide_eq_true (by kernel_rfl)) (by unfold Func.isWrapper;first|(rw[if_pos (by decide+kernel)];kernel_rfl)|(rw[if_neg (by decide+kernel)];exact⟨rfl,rfl⟩))
  (fun X Z H Y _=>lifted X Z H Y)
theorem holds:Rows.ShopCallsCardSaid:=
 Claim7.holds_tied_plain_at .later [] [.handle,.listed,.data] true Rows.shopCallsCard.stood.harness true
  row (fun _ h=>by cases h) wfText (fun _ h=>by cases h) shopCalls_row_tie rfl ⟨rfl,rfl⟩ (by kernel_rfl) rfl
  (fun f W V Y=>by
    obtain rfl:f=9:=Option.some.inj ((show prog.funcNamed Rows.shopCallsRow.func=some 9 by kernel_rfl).symm.trans V)|>.symm
    obtain rfl:W=Tryz.f9:=(Option.some.inj (func9.symm.trans Y)).symm;refine⟨Fa,fun j t U=>?_⟩;have Z:(Tryz.f9.params.toList.all fun t=> !(prog.wantsStandIn t))=true:=by kernel_rfl
    have X:t∈Tryz.f9.params.toList:=List.mem_of_getElem? (by simpa using U);have h:=List.all_eq_true.1 Z t X;show prog.wantsStandIn t=false;simpa using h)
  goes
#print axioms holds
