/-
  Part of a proof: Ends Lists. For all values.
-/
import Derived.Test.YtplpimkgihnmhaaGreatDoorA04
set_option maxRecDepth 100000
set_option maxHeartbeats 2000000
set_option linter.all false
namespace Go.Proofs.YtplpimkgihnmhaaGreatDoor
open Go.Proofs.Tryz Go.RowKit
section
attribute [local go_sem↓] Go.wp_at_zero Go.wp_at_succ
theorem gX(c v:Int)(w:World):Calls prog 206 #[c,v] w fun e w'=>e=.returned (.agg #[c,v])/\Below w w w':=
 (eY c v w).mono fun _ _ ⟨Z,Y⟩=>⟨Z,by rw[Y];exact(Below.refl _ _).alloc (Nat.le_refl _) _⟩
def iA(xs:List Int)(a v:Int)(fr:Bool)(k:Nat):List Int:=if a=6 then xs else if a=1\/a=3 then(if xs.length<6 then(if fr then v::xs else xs++[v])else xs)else if a=5\/xs.length=0 then xs else xs.take k++xs.drop (k+1)
def gZ(xs:List Int)(a:Int):Int:=if a=6 then 1 else if a=1\/a=3 then(if xs.length<6 then 1 else 3)else if xs.length=0 then 2 else 1
def gY(xs:List Int)(a:Int)(k:Nat):Int:=if a=6 then xs.length else if a=1\/a=3 then 0 else if xs.length=0 then 0 else xs[k]?.getD 0
theorem RR(A:Option Addr)(n c:Nat)(xs:List Int)(a k v:Int)(fr:Bool)(out:Int)(p:Nat)(w:World)(h:fI w A n c xs)(hn:n<=60)(hv: -9223372036854775808<=v/\v<=9223372036854775807)(u:0<n)(hp:out=p)(zw:p<n):
 Calls prog 207 #[.slice A n c,.agg #[a,k,v],fr,out] w (fQ (iA xs a v fr p) (gZ xs a) (gY xs a p) w):=by
 subst hp;obtain⟨b,f,rfl,x,U⟩:=h.at_ u;have zq:=h.cap63;have zp:=h.cap;have E:=aH h.len;have D:=U p zw;obtain⟨x0,M⟩:=aP (xs[p]?.getD 0);rw[M]at D;have q:=aH M;clear M U;have H:=aH h;clear h;have C:=aH hv;clear hv
 go_enter func207,ntmps207
 have d0:((n:Int)==0)=false:=by simp;omega
 have zv:(p:Int)<n:=I
 go_wp2_with (first
  |(at_builtin;refine cY rfl (.const (.slice none 0 0)) (.tmp 11) rfl rfl rfl (H.below (by go_grown)) I ?_;intro A1 c1 L X F;obtain⟨hc,hf⟩:=cJ F;have hz:=F.size;simp only[World.size_alloc]at hz;have o:Below w w L:=Below.trans (by go_grown) (F.mono (by simp;omega));replace X:=X.mono (B':=w+2) (by simp);have q1:w.heap.size+1<L:=I;have q0:w.heap.size<L:=I;have m1:¬w.heap.size+1=L:=I;obtain⟨g,rfl,zn,zm,d⟩:=X.at_ u;have zu:=(X.sli H.bd).cap;have l:=(X.sli H.bd).cap63;clear d;have Y:=aH X;clear X;have rb:=(o.cell (p:=⟨b,f+p,none⟩) x).trans D;have z:=hc (w,1) 0 (by simp);have y:=hc (w,1) 1 (by simp);simp [go_sem]at z y)
  |(at_builtin;refine mQ rfl (.tmp 38) (.tmp 39) rfl rfl rfl (kC.one L 3 v C) (by simp) (by intro h;cases h) ((Y.sli H.bd).below (by go_grown)) I I ?_;intro A2 c2 R Z V;obtain⟨T,zz⟩:=cJ V;have O:=V.size;simp only[World.size_alloc]at O;have Q:Below w w R:=Below.trans (by go_grown) (V.mono (by simp;omega));have t:=(T (w,1) 0 (by simp;omega)).trans ((bX I).trans z);have s:=(T (w,1) 1 (by simp;omega)).trans ((bX I).trans y);replace Z:=Z.mono (B':=w+2) I;have W:=aH Z;clear Z;have q3:w.heap.size+1<R:=I;have q4:w.heap.size<R:=I;have m2:¬w.heap.size+1=R:=I)
  |(at_builtin;refine dM rfl (.tmp 42) (.tmp 45) rfl (B:=w+2) rfl (Y.alloc _) rfl ((aY.new _ _ _).cell 0) I (by simp;omega) ?_;intro g2 c2 R S V;obtain⟨T,zz⟩:=cJ V;have O:=V.size;simp only[World.size_alloc]at O;have Q:Below w w R:=Below.trans (by go_grown) (V.mono (by simp));have t:=(T (w,1) 0 (by simp)).trans ((bX I).trans z);have s:=(T (w,1) 1 (by simp)).trans ((bX I).trans y);have W:=aH (S.slo (nJ.app H.bd C));clear S;have q3:w.heap.size+1<R:=I;have q4:w.heap.size<R:=I;have m2:¬w.heap.size+1=R:=I)
  |(go_at_call 206;refine(eY _ _ _).mono ?_;rintro e R ⟨rfl,rfl⟩))
 rotate_right 1
 focus
  have e1:IntKind.i64.wrap ((p:Int)+1)=p+1:=IntWalk.i64_in _ I;have zt:b<L:=I;have zs:((c1:Int)-(p+1)).toNat=c1-(p+1):=I;have zr:((n:Int)-(p+1)).toNat=n-(p+1):=I;have zo:((p:Int)+1).toNat=p+1:=I;have b1:(p:Int)+1<=n:=I;have b2:(p:Int)+1<=c1:=I;have b3:(p:Int)<=c1:=I;have b4:(n:Int)<=c1:=I;have b5:(p:Int)<=n:=I;have N:fI L (some ⟨g,0,none⟩) n c1 xs:=Y.sli H.bd;have j:=aH (((Y.slo H.bd).take p I));have i:=aH (N.dropIf (p+1) I);have N:=aH N;refine aA 14 ?_
  iterate 14
   refine aC (fun K r=>?_)
   first
   |(refine .inl ?_
     apply Exists.intro;refine⟨cX,?_,r _ _ _ _ ?_⟩
     .simp only[bJ,bM]
      first
      |refine⟨rfl,fun w9 hw9 _=>?_⟩
      |(rintro _ ⟨A9,c9,rfl⟩;refine⟨rfl,fun w9 hw9 _=>?_⟩)
      obtain⟨hc9,hf9⟩:=hw9.all;go_simp
      first
      |exact aE
      |(go_at_call 206;exact bS (gX _ _ _))
     clear r K;refine aN ?_)
   |(refine .inr (.inr ⟨fun v=>∃A c,v=.slice A (n-1) c,fun v w'=>∃A c,v=.slice A (n-1) c/\kC w' (w+2) A (n-1) c (xs.take p++xs.drop (p+1)),⟨_,none,0,rfl⟩,?_,r _ _ _ _ ?_⟩)
     .simp only[bJ,bM];refine⟨rfl,fun w9 hw9 _=>?_⟩;refine rJ (.tmp 67) (.tmp 71) rfl (n:=p) (c:=p) (xs:=xs.take p) (ys:=xs.drop (p+1)) (m:=n-(p+1)) (G:=w+2) (A:=some ⟨g,0,none⟩) rfl ?_ (j.keeps hw9) ?_ ?_ (i.keeps hw9) ?_ ?_ ?_
      .simp [go_sem]
      .have:=hw9.size;omega
      .intro h;cases h
      .omega
      .omega
      intro A' c' w' Z zy;exact⟨⟨⟨A',c',by rw[show p+(n-(p+1))=n-1 by omega]⟩,⟨A',c',by rw[show p+(n-(p+1))=n-1 by omega],by rw[show n-1=p+(n-(p+1)) by omega];exact Z⟩⟩,aD.of_same zy⟩
     clear r K)
  refine aZ ?_;rintro _ ⟨A9,c9,rfl⟩ w9 hw9 P;obtain⟨w0,k0,k1,A8,c8,zx,Z⟩:=(P.1 rfl).out;cases zx;obtain⟨hc9,hf9⟩:=hw9.all;have t:=(hc9 (w,1) 0 I).trans z;have s:=(hc9 (w,1) 1 I).trans y;have Q:Below w w w9:=o.trans (hw9.same.mono I);have W:=aH (Z.below k1);clear P Z;go_wp2
 all_goals(refine bodyPost_ret (by first|(simp [results,results207,go_sem,t,s,m2,q3];try rfl;done)|(simp [results,results207,go_sem,t,s];try rfl;done)|(simp [results,results207,go_sem,z,y,m1,q1];try rfl;done)) rfl ?_)
 all_goals simp only[beq_iff_eq,beq_eq_false_iff_ne,ne_eq]at*
 all_goals(first
  |(refine dB W Q ?_ ?_ ?_ ?_ ?_ ?_ ?_)
  |(refine fQ.alloc (dB W Q ?_ ?_ ?_ ?_ ?_ ?_ ?_) _)
  |(refine fQ.alloc (dB (Y.slo H.bd) o ?_ ?_ ?_ ?_ ?_ ?_ ?_) _))
 all_goals first|(show w.heap.size+1<w+2;omega)|(show w.heap.size<=w+1;omega)|skip
 all_goals(have hx:=q.out;have hl:=E.out;simp only[iA,gZ,gY];(repeat' split)<;>first|rfl|(exfalso;omega)|(simp_all;done)|(simp_all;omega))
theorem UI(A:Option Addr)(c:Nat)(a k v:Int)(fr:Bool)(out:Int)(p:Nat)(w:World)(h:fI w A 0 c [])(y: -9223372036854775808<=v/\v<=9223372036854775807):
 Calls prog 207 #[.slice A 0 c,.agg #[a,k,v],fr,out] w (fQ (iA [] a v fr p) (gZ [] a) (gY [] a p) w):=by
 have x:=h.cap63;have H:=aH h;clear h;have P:=aH y;clear y
 go_enter func207,ntmps207
 go_wp2_with (first
  |(at_builtin;refine cY rfl (.const (.slice none 0 0)) (.tmp 11) rfl rfl rfl (H.below (by go_grown)) I ?_;intro m c1 N Z Q;obtain⟨z,l⟩:=cJ Q;have u:=Q.size;simp only[World.size_alloc]at u;have t:Below w w N:=Below.trans (by go_grown) (Q.mono (by simp;omega));replace Z:=Z.mono (B':=w+2) (by simp);have s:w.heap.size+1<N:=I;have n:w.heap.size<N:=I;have r:¬w.heap.size+1=N:=I;have K:=(Z.sli H.bd).cap63;have Y:=aH Z;clear Z;have M:=z (w,1) 0 (by simp);have L:=z (w,1) 1 (by simp);simp [go_sem]at M L)
  |(at_builtin;refine mQ rfl (.tmp 38) (.tmp 39) rfl rfl rfl (kC.one N 3 v P) (by simp) (by intro h;cases h) ((Y.sli H.bd).below (by go_grown)) I I ?_;intro j o S W X;obtain⟨U,E⟩:=cJ X;have R:=X.size;simp only[World.size_alloc]at R;have O:Below w w S:=Below.trans (by go_grown) (X.mono (by simp;omega));have G:=(U (w,1) 0 (by simp;omega)).trans ((bX I).trans M);have F:=(U (w,1) 1 (by simp;omega)).trans ((bX I).trans L);replace W:=W.mono (B':=w+2) I;have V:=aH W;clear W;have D:w.heap.size+1<S:=I;have q:w.heap.size<S:=I;have C:¬w.heap.size+1=S:=I)
  |(at_builtin;refine dM rfl (.tmp 42) (.tmp 45) rfl (B:=w+2) rfl (Y.alloc _) rfl ((aY.new _ _ _).cell 0) I (by simp;omega) ?_;intro i o S T X;obtain⟨U,E⟩:=cJ X;have R:=X.size;simp only[World.size_alloc]at R;have O:Below w w S:=Below.trans (by go_grown) (X.mono (by simp));have G:=(U (w,1) 0 (by simp)).trans ((bX I).trans M);have F:=(U (w,1) 1 (by simp)).trans ((bX I).trans L);have V:=aH (T.slo (nJ.app H.bd P));clear T;have D:w.heap.size+1<S:=I;have q:w.heap.size<S:=I;have C:¬w.heap.size+1=S:=I)
  |(go_at_call 206;refine(eY _ _ _).mono ?_;rintro e S ⟨rfl,rfl⟩))
 all_goals(refine bodyPost_ret (by first|(simp [results,results207,go_sem,G,F,C,D];try rfl;done)|(simp [results,results207,go_sem,G,F];try rfl;done)|(simp [results,results207,go_sem,M,L,r,s];try rfl;done)) rfl ?_)
 all_goals simp only[beq_iff_eq,beq_eq_false_iff_ne,ne_eq]at*
 all_goals(first
  |(refine fQ.alloc (dB V O ?_ ?_ ?_ ?_ ?_ ?_ ?_) _)
  |(refine fQ.alloc (dB (Y.slo H.bd) t ?_ ?_ ?_ ?_ ?_ ?_ ?_) _))
 all_goals first|(show w.heap.size+1<w+2;omega)|(show w.heap.size<=w+1;omega)|skip
 all_goals(simp only[iA,gZ,gY];(repeat' split)<;>first|rfl|(exfalso;omega)|(simp_all;done)|(simp_all;omega))
theorem mF(A:Option Addr)(n c:Nat)(xs:List Int)(a k v:Int)(fr:Bool)(out:Int)(p:Nat)(w:World)(h:fI w A n c xs)(X:n<=60)(Z: -9223372036854775808<=v/\v<=9223372036854775807)(Y:0<n->out=p/\p<n):
 Calls prog 207 #[.slice A n c,.agg #[a,k,v],fr,out] w (fQ (iA xs a v fr p) (gZ xs a) (gY xs a p) w):=by
 rcases Nat.eq_zero_or_pos n with hn0|hn0
 .subst hn0;obtain rfl:xs=[]:=List.eq_nil_of_length_eq_zero h.len;exact UI A c a k v fr out p w h Z
 exact RR A n c xs a k v fr out p w h X Z hn0 (Y hn0).1 (Y hn0).2
def AQ(A0:Option Addr)(n0:Nat)(ys:List Int)(code val:Int)(w:World)(e:Ending)(w':World):Prop:=
 ∃A n c,e=.returned (.tuple #[.slice A n c,.agg #[code,val]])/\fI w' A n c ys/\Below w w w'/\(0<n->(A=A0/\n=n0)\/∀b,A=some b->w<=b.block)
theorem fQ.weakJ{ys:List Int}{Z val:Int}{w:World}{e:Ending}{w':World}(h:fQ ys Z val w e w')(U:Option Addr)(T:Nat):AQ U T ys Z val w e w':=by
 obtain⟨A,n,c,X,Y,W⟩:=h;exact⟨A,n,c,X,Y.sli,W,fun V=>.inr (Y.up V)⟩
theorem xU{ys:List Int}{Z val Y X:Int}{w w':World}{A:Option Addr}{n c:Nat}(h:fI w A n c ys)(W:Below w w w')(V:Y=Z)(U:X=val):AQ A n ys Z val w (.returned (.tuple #[.slice A n c,.agg #[Y,X]])) w':=
 ⟨A,n,c,by rw[V,U],h.below W,W,fun _=>.inl ⟨rfl,rfl⟩⟩
def VP(xs:List Int)(a:Int):Int:=if a=1\/a=2\/a=5\/a=6 then gZ xs a else 5
def VT(xs:List Int)(a v:Int)(p:Nat):List Int:=if a=1\/a=2\/a=5\/a=6 then iA xs a v false p else xs
def VS(xs:List Int)(a:Int)(p:Nat):Int:=if a=1\/a=2\/a=5\/a=6 then gY xs a p else 0
theorem AV(A:Option Addr)(n c:Nat)(xs:List Int)(a k v:Int)(w:World)(h:fI w A n c xs)(L:n<=60)(N: -9223372036854775808<=v/\v<=9223372036854775807):
 Calls prog 197 #[.slice A n c,.agg #[a,k,v]] w (AQ A n (VT xs a v 0) (VP xs a) (VS xs a 0) w):=by
 have H:=aH h;clear h;have Y:=aH N;clear N
 go_enter func197,ntmps197
 go_wp2_with (first
  |(go_at_call 55;refine(bQ _ _ _ _).mono ?_;rintro e F ⟨rfl,rfl⟩)
  |(go_at_call 206;refine(eY _ _ _).mono ?_;rintro e E ⟨rfl,rfl⟩)
  |(go_at_call 207;refine(mF A n c xs a k v false 0 0 _ (H.below (by go_grown)) L Y (fun h=>⟨rfl,h⟩)).mono ?_;rintro e Q ⟨D,C,c1,rfl,P,T⟩;obtain⟨O,B⟩:=cJ T;have M:=T.size;simp only[World.size_alloc]at M;have S:=O (w,1) 0 (by simp);have R:=O (w,1) 1 (by simp);simp [go_sem]at S R;have K:w.heap.size+1<Q:=I;have G:¬w.heap.size+1=Q:=I;have X:=aH P;clear P))
 all_goals(refine bodyPost_ret (by first|(simp [results,results197,go_sem,S,R];try rfl;done)|(simp [results,results197,go_sem];try rfl;done)) rfl ?_)
 all_goals simp only[beq_iff_eq,beq_eq_false_iff_ne,ne_eq,bV,decide_eq_true_eq,decide_eq_false_iff_not]at*
 all_goals first
  |(have Z:a=1\/a=2\/a=5\/a=6:=I
    have W:VT xs a v 0=iA xs a v false 0:=iP Z;have V:VP xs a=gZ xs a:=iP Z;have U:VS xs a 0=gY xs a 0:=iP Z;rw[W,V,U];exact(oY X (by go_grown) T (by simp) (by simp) (by simp) (by simp)).weakJ A n)
  |(have Z:¬(a=1\/a=2\/a=5\/a=6):=I
    have W:VT xs a v 0=xs:=iN Z;have V:VP xs a=5:=iN Z;have U:VS xs a 0=0:=iN Z;rw[W,V,U];exact xU H (by go_grown) rfl rfl)
theorem AM(A:Option Addr)(n c:Nat)(xs:List Int)(a k v:Int)(w:World)(h:fI w A n c xs)(L:n<=60)(N: -9223372036854775808<=v/\v<=9223372036854775807):
 Calls prog 198 #[.slice A n c,.agg #[a,k,v]] w (AQ A n (VT xs a v (n-1)) (VP xs a) (VS xs a (n-1)) w):=by
 have H:=aH h;clear h;have X:=aH N;clear N
 go_enter func198,ntmps198
 have Y:IntKind.i64.wrap ((n:Int)-1)=n-1:=IntWalk.i64_in _ I
 go_wp2_with (first
  |(go_at_call 55;refine(bQ _ _ _ _).mono ?_;rintro e F ⟨rfl,rfl⟩)
  |(go_at_call 206;refine(eY _ _ _).mono ?_;rintro e E ⟨rfl,rfl⟩)
  |(go_at_call 207;refine(mF A n c xs a k v false _ (n-1) _ (H.below (by go_grown)) L X (fun h=>⟨I,I⟩)).mono ?_;rintro e Q ⟨D,C,c1,rfl,P,T⟩;obtain⟨O,B⟩:=cJ T;have M:=T.size;simp only[World.size_alloc]at M;have S:=O (w,1) 0 (by simp);have R:=O (w,1) 1 (by simp);simp [go_sem]at S R;have K:w.heap.size+1<Q:=I;have G:¬w.heap.size+1=Q:=I;have W:=aH P;clear P))
 all_goals(refine bodyPost_ret (by first|(simp [results,results198,go_sem,S,R];try rfl;done)|(simp [results,results198,go_sem];try rfl;done)) rfl ?_)
 all_goals simp only[beq_iff_eq,beq_eq_false_iff_ne,ne_eq,bV,decide_eq_true_eq,decide_eq_false_iff_not]at*
 all_goals first
  |(have Z:a=1\/a=2\/a=5\/a=6:=I
    have Y:VT xs a v (n-1)=iA xs a v false (n-1):=iP Z;have V:VP xs a=gZ xs a:=iP Z;have U:VS xs a (n-1)=gY xs a (n-1):=iP Z;rw[Y,V,U];exact(oY W (by go_grown) T (by simp) (by simp) (by simp) (by simp)).weakJ A n)
  |(have Z:¬(a=1\/a=2\/a=5\/a=6):=I
    have Y:VT xs a v (n-1)=xs:=iN Z;have V:VP xs a=5:=iN Z;have U:VS xs a (n-1)=0:=iN Z;rw[Y,V,U];exact xU H (by go_grown) rfl rfl)
