/-
  what Play leads to of the moves of any text is what the reference tells. No condition beyond the tied variables.
-/
import Derived.Test.YtplpimkgihnmhaaGreatDoorCards
import Derived.Test.YtplpimkgihnmhaaGreatDoorTie
import Derived.Test.YtplpimkgihnmhaaGreatDoorA34
import Derived.Test.YtplpimkgihnmhaaGreatDoorA35
set_option maxRecDepth 100000
set_option maxHeartbeats 4000000
set_option linter.all false
namespace Go.Proofs.YtplpimkgihnmhaaGreatDoor.lawScriptPlays
open Go.Proofs.Tryz Go.RowKit
section
open Go.ChangeAt Go.ChangeShapes Go.Joins Go.WideShapes
attribute [local go_sem ↓] Go.wp_at_zero Go.wp_at_succ
open Go.ChangeMaps (open_string)
def al:List (String×DataW Unit):=[("errors.errorType",Rows.laid_errors_errorType),("unicode.White_Space",Rows.laid_unicode_White_Space),("strings.asciiSpace",Rows.laid_strings_asciiSpace)]
def am:List (String×DataW Unit):=[("unicode.White_Space",Rows.laid_unicode_White_Space),("strings.asciiSpace",Rows.laid_strings_asciiSpace)]
noncomputable def an (os:Os):World:=
 let w0:=World.holding prog os ⟨#[],#[],[]⟩
 {w0 with heap:=w0.heap.modify 2 fun
   |.cells _ t frozen=>.cells #[.iface 258 (.agg #[.pointer (some ⟨4,27,none⟩)])] t frozen
   |o=>o}
noncomputable def ad (os:Os):World:=(an os).layVars prog am
theorem ab(os:Os):(ad os).os=os:=World.layVars_os _ _ _
theorem aa(os:Os)(Z:Array Value):laidMetH prog al ((ad os).forCall (fun _ _=>0) ⟨#[],Z,[]⟩).memory:=by
 have h:laidMetH prog al (ad os):=laidMetH_of_parts (show laidMet prog am (ad os)from ZH J J) J;exact h.of_heap (by simp [World.memory,World.forCall,Input.heap])
theorem ag{W:World}(h:laidMetH prog al W):Et W.heap.size W/\mR W:=⟨Ga (Cg h (by simp [al]) rfl),En h (by simp [al])⟩
theorem ao(k:Int)(s:ByteArray)(w:World)(hT:Et w w)(hE:mR w):
 Calls prog 13 #[k,.string s] w fun e w'=>e=.returned true/\Below w w w':=by
 by_cases hs:s.size<=300
 .have q1:¬300<(s.size:Int):=I;have zs:=aH (aAd s w I);have zg:=aH hT;have HE:=aH hE;cases hk:oJ k with
  |false=>
   have hq:=Fl k hk;have ym:=aH (fun A n c W=>aBZ k A n c W hk);have yl:Hid (∀W,mR W->Calls prog 43 #[.iface 53 (1:Int),(1:Int)] W fun e w'=>e=.returned true/\Below W W w'):=aH (fun W hW=>by have:=FO 1 1 W hW;simpa [gS]using this);clear hT hE hk
   go_enter func13,ntmps13
   go_wp2_with fail
   with_reducible refine zs.out.mono ?_
   rintro e w1 ⟨A,j,c,rfl,hJ,d,zw⟩;have Q:=aH zw;clear hJ d zw zs;go_wp2_with fail
   with_reducible refine(ym.out A j c w1).mono ?_
   rintro e w2 ⟨rfl,zv⟩;have L:=aH (Q.trans (zv.mono Q.size));clear zv Q;have zz:=aH (YB k (zg.on L));go_wp2_with fail
   with_reducible refine zz.out.mono ?_
   rintro e w3 ⟨rfl,B⟩;have P:=aH (L.trans (B.mono L.size));clear B L zz;go_wp2_with fail
   with_reducible refine(yl.out w3 (HE.out.below P.out)).mono ?_
   rintro e w4 ⟨rfl,l⟩;have HB:=aH (P.trans (l.mono P.size));clear l P;go_wp2;go_ret;exact⟨dF (by simp),HB.out⟩
  |true=>
   have hq:=Fe k hk;have zm:1<=k/\k<=6:=by simpa [oJ]using hk
   have zf:=aH (fun A n c f W (hn:n<=900) hl hE=>aBY k A n c f W hk hn hl hE);have ze:=aH (fun zq A n c f W hl hA (hn:n<=10000)=>aCR zq k A n c f W zm.1 zm.2 hl hA hn);have yk:=aH hs;clear hT hE hk zm
   go_enter func13,ntmps13
   go_wp2_with fail
   with_reducible refine zs.out.mono ?_
   rintro e w1 ⟨A,j,c,rfl,hJ,d,zw⟩;have Q:=aH zw;have HJ:=aH hJ;have zd:Hid (j<=300):=aH (by have:=aCB hJ;omega);have zy:=aH (aAf d);clear hJ d zw zs;have zc:=aH (zf.out A j c (mvF s) w1 (by have:=zd.out;omega) zy (HE.below Q));go_wp2_with fail
   with_reducible refine zc.out.mono ?_
   rintro e w2 ⟨v,rfl,p,gm,gs,gw,E,rfl,yv,zv,yu,yt,yb,ys⟩;have zb:=aH yu;have G:=aH yt;have zl:=aH ys;have L:=aH (Q.trans (zv.mono Q.size));have za:Hid (bI w (fun _=>0) E):=aH (fun b h=>yv b (Nat.lt_of_lt_of_le h Q.size));clear yv zv yu yt yb ys zc zf zy Q;have zz:=aH (YB k (zg.on L));go_wp2_with fail
   with_reducible refine zz.out.mono ?_
   rintro e w3 ⟨rfl,B⟩;have P:=aH (L.trans (B.mono L.size));have zo:=aH (zb.below B);have yj:=aH B.size;clear B zz zb;have yz:=aH (aAC s w3 (by have:=yk.out;omega));go_wp2_with fail
   with_reducible refine yz.out.mono ?_
   rintro e w4 ⟨A2,j2,c2,rfl,yr,zp,l⟩;obtain rfl:=Ps.unique HJ yr;have zy:=aH (aAf zp);have zr:=aH (P.trans (l.mono P.size));have zn:Hid (gH w4 (cG w3 E 0) ((pH.new k).play (bL (mvF s)) j) p gm gs gw):=aH (zo.kept (aD.of_same (S:=bN) l) (cO _ _ _) (fun _ x=>x.elim));have zk:=aH (za.trans (cO w3 E 0) P.size);have yy:Hid (∀b,iI A2 b->cG w3 E 0 b<100):=aH (fun b h=>by
    obtain⟨a,rfl,rfl⟩:=h;obtain⟨z,y,hv,_,_,hp⟩:=JB zp;simp only[Value.slice.injEq,true_and]at hv;rw[dT _ _ _ (by
     rcases Nat.eq_zero_or_pos j with h0|h0
     .obtain⟨_,h2⟩:=zp;rcases h2 with⟨h2,_⟩|⟨g,xx,xw,yq,hB,_⟩
      .simp at h2
      simp only[Value.slice.injEq,Option.some.injEq]at yq;rw[yq.1];exact hB
     obtain⟨g,hg,hB,_⟩:=hp h0;rw[<-hv.1]at hg;cases hg;exact hB)]
    omega)
   clear yr zp l yz zo za P HJ yj;generalize cG w3 E 0=zt at*;have yx:=aH (ze.out zt A2 j c2 (mvF s) w4 zy yy (by have:=zd.out;omega));go_wp2_with fail
   with_reducible refine yx.out.mono ?_
   rintro e w5 ⟨v5,rfl,q,qs,go,pt,zq,rfl,zu,yp⟩;have zj:Ev w ((pH.new k).play (bL (mvF s)) j) ((pH.new k).play (bL (mvF s)) j) p gm gs gw q qs go pt w5 zq:=⟨zk.trans zu.t zr.size,zr.trans (zu.k.below zr.size (fun b h e=>by have h1:zt b=0:=zk.out b h;have e':100<=zt b:=e;omega)),zn.kept zu.k zu.t (fun b e=>.inr e),yp⟩;obtain⟨F,hσ⟩:=aO ((pH.new k).play (bL (mvF s)) j);rw[<-hσ]at zj G zl;have C:=aH zj;clear zu yp yx zy yy zn zk zr zj hσ ze;have yi:Hid (∀r∈F.hist,∀u∈r,u.oneCell'=true):=aH (fun r hr u hu=>by
    obtain⟨x0,x1,x2,x3,x4,x5,x6,x7,x8,rfl⟩:=zl.out r hr;simp only[List.mem_cons,List.not_mem_nil,or_false]at hu;rcases hu with rfl|rfl|rfl|rfl|rfl|rfl|rfl|rfl|rfl<;>rfl)
   obtain⟨n',mp,H,ch,ya,hr⟩:=C.rs;have yh:w5.cell? (q,22)=some (.slice H F.hist.length ch):=by rw[hr.sh.cell,QW]
   have hq:=hr.sh.lt;have yg:=aH hr.hi.slr;have yf:=aH (aAO G);clear hr ya;obtain⟨D,hD⟩:=aO (kT F.rcd:Array Value);have zi:cH D 32 F.rcd:=by rw[hD];exact xA (NX G)
   have ye:Hid (∀W,gH W zq F p gm gs gw->Calls prog 38 #[(p,0)] W fun e w'=>e=.returned (.agg D)/\Below W W w'):=aH (fun W hW=>by rw[hD];exact Ic hW G I);have yd:=aH zi;have yc:=aH (aBC zi);clear zi hD;go_wp2;refine aA 22 ?_;refine aR ?_;constructor
   .intro w9 hw9 m;refine aS ?_;obtain⟨hc9,hf9⟩:=hw9.all;refine aW ?_;go_simp
    first
    |exact aE
   first|(with_reducible refine aC (fun K Y=>?_))|(refine aC (fun K Y=>?_))
   refine .inr (.inr ⟨(DN F.hist.length),(fun vv w'=>∃z y,vv=.slice z F.hist.length y/\FI 9 w' z F.hist.length y F.hist),⟨_,none,0,rfl⟩,?_,Y _ _ _ _ ?_⟩)
   .simp only[bJ,bM];refine⟨?_,fun w9 hw9 Z=>?_⟩
    .first|rfl|(go_simp;done)
    refine aS ?_;have O:=aH (OO (C.ps.below hw9.same) G I yi);refine aW ?_;go_simp;go_at_call 31;refine O.mono ?_;rintro e zh ⟨A,c,rfl,d,h⟩;exact⟨_,rfl,⟨⟨_,_,rfl⟩,⟨_,_,rfl,d.slr⟩⟩,aD.of_same h⟩
   iterate 4
    clear Y K;refine aN ?_
    first|(with_reducible refine aC (fun K Y=>?_))|(refine aC (fun K Y=>?_))
    refine .inl ?_;apply Exists.intro;refine⟨cX,?_,Y _ _ _ _ ?_⟩
    .simp only[bJ,bM];rintro _ ⟨o,U,rfl⟩;refine⟨?_,fun w9 hw9 m=>?_⟩
     .first|rfl|(go_simp;done)
     refine aS ?_;obtain⟨hc9,hf9⟩:=hw9.all;refine aW ?_;go_simp
     first
     |exact aE
   clear Y K;refine aN ?_
   first|(with_reducible refine aC (fun K Y=>?_))|(refine aC (fun K Y=>?_))
   refine .inl ⟨.bool true,cX,?_,Y _ _ _ _ ?_⟩
   .simp only[bJ,bM];rintro _ ⟨o,U,rfl⟩;refine⟨?_,fun w9 hw9 Z=>?_⟩
    .first|rfl|(go_simp;done)
    refine aS ?_;have X:=Z.2;obtain⟨w0,k0,k1,z,y,hv,hu⟩:=X.1 J;cases hv;have zx:=aH (lX o H _ U ch _ _ (hu.below (cA k1 J)) (yg.below hw9.same) zl);clear X Z hu k0 k1;refine aW ?_;go_simp;go_at_call 30;exact bS zx
   iterate 2
    clear Y K;refine aN ?_
    first|(with_reducible refine aC (fun K Y=>?_))|(refine aC (fun K Y=>?_))
    refine .inl ?_;apply Exists.intro;refine⟨cX,?_,Y _ _ _ _ ?_⟩
    .simp only[bJ,bM];rintro _ ⟨o,U,rfl⟩;refine⟨?_,fun w9 hw9 m=>?_⟩
     .first|rfl|(go_simp;done)
     refine aS ?_;obtain⟨hc9,hf9⟩:=hw9.all;refine aW ?_;go_simp
     first
     |exact aE
   clear Y K;refine aN ?_;refine bD (DN (aB F.of F.V).length) (fun vv w'=>∃z y,vv=.slice z (aB F.of F.V).length y/\FI 6 w' z (aB F.of F.V).length y ((aB F.of F.V).map (·.2))) ⟨_,none,0,rfl⟩ ?_ ?_
   .rintro _ ⟨o,U,rfl⟩;refine⟨aF,fun w9 hw9 Z=>?_⟩;refine aS ?_;have O:=aH (aAI (C.ps.below hw9.same) G I);refine aW ?_;go_simp;go_at_call 36;refine O.mono ?_;rintro e zh ⟨A,c,rfl,d,h⟩;exact⟨_,rfl,⟨⟨_,_,rfl⟩,⟨_,_,rfl,d.slr⟩⟩,aD.of_same h⟩
   first|(with_reducible refine aC (fun K Y=>?_))|(refine aC (fun K Y=>?_))
   refine .inl ?_;apply Exists.intro;refine⟨cX,?_,Y _ _ _ _ ?_⟩
   .simp only[bJ,bM];rintro _ ⟨T,R,rfl⟩;rintro _ ⟨o,U,rfl⟩;refine⟨?_,fun w9 hw9 m=>?_⟩
    .first|rfl|(go_simp;done)
    refine aS ?_;obtain⟨hc9,hf9⟩:=hw9.all;refine aW ?_;go_simp
    first
    |exact aE
   clear Y K;refine aN ?_;refine bD (DN (aB F.of F.V).length) (fun vv w'=>∃z y,vv=.slice z (aB F.of F.V).length y/\FI 6 w' z (aB F.of F.V).length y ((aB F.of F.V).map (·.2))) ⟨_,none,0,rfl⟩ ?_ ?_
   .rintro _ ⟨T,R,rfl⟩;rintro _ ⟨o,U,rfl⟩;refine⟨aF,fun w9 hw9 Z=>?_⟩;refine aS ?_;have O:=aH (aAM (C.rs.below hw9.same) G I);refine aW ?_;go_simp;go_at_call 37;refine O.mono ?_;rintro e zh ⟨A,c,rfl,d,h⟩;exact⟨_,rfl,⟨⟨_,_,rfl⟩,⟨_,_,rfl,d.slr⟩⟩,aD.of_same h⟩
   first|(with_reducible refine aC (fun K Y=>?_))|(refine aC (fun K Y=>?_))
   refine .inl ⟨.bool true,cX,?_,Y _ _ _ _ ?_⟩
   .simp only[bJ,bM];rintro _ ⟨N,M,rfl⟩;rintro _ ⟨T,R,rfl⟩;rintro _ ⟨o,U,rfl⟩;refine⟨?_,fun w9 hw9 Z=>?_⟩
    .first|rfl|(go_simp;done)
    refine aS ?_;have X:=Z.2;obtain⟨w0,k0,k1,z,y,hv,hu⟩:=X.2.1 J;cases hv;obtain⟨xv,xB,yo,xu,xt,xz,yn⟩:=X.2.2.1 J;cases xz;have zx:=aH (pB T N _ R M _ _ (hu.below (cA k1 J)) (yn.below (cA yo J)) yf);clear X Z hu k0 k1 yn xB yo;refine aW ?_;go_simp;go_at_call 35;exact bS zx
   iterate 3
    clear Y K;refine aN ?_
    first|(with_reducible refine aC (fun K Y=>?_))|(refine aC (fun K Y=>?_))
    refine .inl ?_;apply Exists.intro;refine⟨cX,?_,Y _ _ _ _ ?_⟩
    .simp only[bJ,bM];rintro _ ⟨N,M,rfl⟩;rintro _ ⟨T,R,rfl⟩;rintro _ ⟨o,U,rfl⟩;refine⟨?_,fun w9 hw9 m=>?_⟩
     .first|rfl|(go_simp;done)
     refine aS ?_;obtain⟨hc9,hf9⟩:=hw9.all;refine aW ?_;go_simp
     first
     |exact aE
   clear Y K;refine aN ?_;refine bB (.agg D) cX ?_ ?_
   .rintro _ ⟨N,M,rfl⟩;rintro _ ⟨T,R,rfl⟩;rintro _ ⟨o,U,rfl⟩;refine⟨aF,fun w9 hw9 _=>?_⟩;refine aS ?_;have O:=aH (ye.out _ (C.ps.below hw9.same));refine aW ?_;go_simp;go_at_call 38;exact bS O
   first|(with_reducible refine aC (fun K Y=>?_))|(refine aC (fun K Y=>?_))
   refine .inl ?_;apply Exists.intro;refine⟨cX,?_,Y _ _ _ _ ?_⟩
   .simp only[bJ,bM];rintro _ ⟨N,M,rfl⟩;rintro _ ⟨T,R,rfl⟩;rintro _ ⟨o,U,rfl⟩;refine⟨?_,fun w9 hw9 m=>?_⟩
    .first|rfl|(go_simp;done)
    refine aS ?_;obtain⟨hc9,hf9⟩:=hw9.all;refine aW ?_;go_simp
    first
    |exact aE
   clear Y K;refine aN ?_;refine bD (DN 32) (fun vv w'=>∃z y,vv=.slice z 32 y/\qY w' z 32 y F.rcd) ⟨_,none,0,rfl⟩ ?_ ?_
   .rintro _ ⟨N,M,rfl⟩;rintro _ ⟨T,R,rfl⟩;rintro _ ⟨o,U,rfl⟩;refine⟨aF,fun w9 hw9 Z=>?_⟩;refine aS ?_;have O:=aH (Jy (C.rs.below hw9.same) G I);refine aW ?_;go_simp;go_at_call 40;refine O.mono ?_;rintro e zh ⟨A,c,rfl,d,h⟩;exact⟨_,rfl,⟨⟨_,_,rfl⟩,⟨_,_,rfl,d⟩⟩,aD.of_same h⟩
   refine bB (.agg D) cX ?_ ?_
   .rintro _ ⟨Ar,cr,rfl⟩;rintro _ ⟨N,M,rfl⟩;rintro _ ⟨T,R,rfl⟩;rintro _ ⟨o,U,rfl⟩;refine⟨aF,fun w9 hw9 Z=>?_⟩;refine aS ?_;have X:=Z.2;obtain⟨w0,k0,k1,z,y,hv,hu⟩:=X.2.2.2.1 J;cases hv;have zx:=aH (sR Ar 32 cr F.rcd _ (hu.below (cA k1 J)) I D (yd.congr (fun i hi=>by rw[iP hi])));clear X Z hu k0 k1;refine aW ?_;go_simp;go_at_call 39;exact bS zx
   first|(with_reducible refine aC (fun K Y=>?_))|(refine aC (fun K Y=>?_))
   refine .inl ?_;apply Exists.intro;refine⟨cX,?_,Y _ _ _ _ ?_⟩
   .simp only[bJ,bM];rintro _ ⟨Ar,cr,rfl⟩;rintro _ ⟨N,M,rfl⟩;rintro _ ⟨T,R,rfl⟩;rintro _ ⟨o,U,rfl⟩;refine⟨?_,fun w9 hw9 m=>?_⟩
    .first|rfl|(go_simp;done)
    refine aS ?_;obtain⟨hc9,hf9⟩:=hw9.all;have xy:=yc.out;refine aW ?_;go_simp
    first
    |exact aE
   clear Y K;refine aN ?_
   first|(with_reducible refine aC (fun K Y=>?_))|(refine aC (fun K Y=>?_))
   refine .inl ?_;apply Exists.intro;refine⟨cX,?_,Y _ _ _ _ ?_⟩
   .simp only[bJ,bM];rintro _ ⟨Ar,cr,rfl⟩;rintro _ ⟨N,M,rfl⟩;rintro _ ⟨T,R,rfl⟩;rintro _ ⟨o,U,rfl⟩;refine⟨?_,fun w9 hw9 m=>?_⟩
    .first|rfl|(go_simp;done)
    refine aS ?_;obtain⟨hc9,hf9⟩:=hw9.all;refine aW ?_;go_simp
    first
    |exact aE
   clear Y K;refine aN ?_;refine aZ ?_;rintro _ ⟨Ar,cr,rfl⟩ _ ⟨N,M,rfl⟩ _ ⟨T,R,rfl⟩ _ ⟨o,U,rfl⟩ w9 hw9 X;refine aQ ?_;refine aS ?_;have yw:=aH (C.below hw9.same).b;clear X hw9 yh hq;refine aW ?_;go_wp2;go_ret;exact⟨dF (by simp),yw.out⟩
 have q1:300<(s.size:Int):=I;clear hT hE hs
 go_enter func13,ntmps13
 go_wp2;go_ret;exact⟨rfl,Below.refl _ _⟩
theorem aq:ownKnob prog.godebug=none:=J
theorem ah(os:Os)(V:os.Started)(H:Type)(enc:TypeId×Value->H):
 ReturnsInHanded {} Tryz.checked os 13 .any (fun w Z=>(Rows.scriptPlaysSpec.pre enc prog Tryz.f13 [] false w Z/\laidMetH prog al w)/\sizedMet enc prog Tryz.f13 (OpenSpec.ofChange Rows.scriptPlaysSpec) false w Z) (Rows.scriptPlaysSpec.post enc prog Tryz.f13 false true false false):=by
 refine VO (C:=Tryz.checked) (X:=fun w _=>laidMetH prog al w) (fun _ _ _ P h=>h.of_heap P) aq V J func13
  (ChangeSpec.witness_shaped (enc:=enc) (C:=Tryz.checked) (os:=os) (X:=fun w _=>laidMetH prog al w) false (ad os) #[.int .i64 0,.string ByteArray.empty] 8 (ab os) (World.shaped_of_ZipB J J) J J J (aa os _))
  J J rfl rfl underlying4 ?_
 intro W an Z O N U T Q M;have S:=ag M;have Y:∀(j:Nat) t v,Tryz.f13.params[j]? =some t->Z[j]? =some v->Value.okWide prog W .any an t v:=U;have R:DataW.TrodAll enc prog W 0 (fun _=>true) true Tryz.f13.params.toList Z.toList O N:=T;rw[params13]at R Y;obtain⟨L,K,E,D,B,A,rfl,rfl,rfl,G,F⟩:=trodAll_two R;obtain⟨k,rfl,rfl,rfl,z⟩:=open_int underlying3 (Y 0 3 L rfl rfl) G;obtain⟨s,rfl,rfl,rfl,y⟩:=open_string underlying9 (Y 1 9 K rfl rfl) F;exact⟨rfl,ao k s W S.1 S.2⟩
theorem af:(Rows.scriptPlaysRow.inPlace==Tryz.pinned.checked.prog.inPlace 13)=true:=J
theorem ac:(Rows.scriptPlaysRow.unfollowed==Tryz.pinned.checked.prog.unfollowed 13)=true:=J
theorem ae:(Rows.scriptPlaysRow.recurses==Tryz.pinned.checked.prog.recurses 13)=true:=J
theorem ai:(Rows.scriptPlaysRow.named==Tryz.pinned.checked.prog.varsNamed 13)=true:=J
theorem aj:joinedFacts Tryz.pinned.checked.prog 13 Tryz.f13 Rows.scriptPlaysSpec Rows.scriptPlaysRow=true:=by
 unfold joinedFacts;simp only[Bool.and_eq_true]
 repeat' apply And.intro
 all_goals first|(with_reducible exact af)|(with_reducible exact ac)|(with_reducible exact ae)|(with_reducible exact ai)|(with_reducible exact Cu)|(with_reducible exact Ce)|kernel_rfl
theorem ap:false=Rows.scriptPlaysRow.goesBy Tryz.pinned.checked.prog:=J
theorem ak:Rows.scriptPlaysRow.wfByText (OpenSpec.ofChange Rows.scriptPlaysSpec)=true:=J
theorem ar:Rows.ScriptPlaysSaid:=
 OpenClaim.holds_of_wide 13 Tryz.f13 rfl rfl rfl rfl rfl rfl rfl ⟨rfl,rfl,rfl,rfl,rfl⟩ rfl rfl rfl rfl rfl J func13 aj
  (of_decide_eq_true J) (by unfold Func.isWrapper;first|(rw[if_pos (by decide+kernel)];kernel_rfl)|(rw[if_neg (by decide+kernel)];exact⟨rfl,rfl⟩))
  (fun X Z H Y _=>ah X Z H Y)
theorem holds:Rows.ScriptPlaysCardSaid:=
 Claim7.holds_tied_plain_at .later [] [.handle,.listed,.data] true Rows.scriptPlaysCard.stood.harness true
  ar (fun _ h=>by cases h) ak (fun _ h=>by cases h) scriptPlays_row_tie rfl ⟨rfl,rfl⟩ J rfl
  (fun f W V Y=>by
    obtain rfl:f=13:=Option.some.inj ((show prog.funcNamed Rows.scriptPlaysRow.func=some 13 by kernel_rfl).symm.trans V)|>.symm
    obtain rfl:W=Tryz.f13:=(Option.some.inj (func13.symm.trans Y)).symm;refine⟨Fa,fun j t U=>?_⟩;have Z:(Tryz.f13.params.toList.all fun t=> !(prog.wantsStandIn t))=true:=J
    have X:t∈Tryz.f13.params.toList:=List.mem_of_getElem? (by simpa using U);have h:=List.all_eq_true.1 Z t X;show prog.wantsStandIn t=false;simpa using h)
  ap
