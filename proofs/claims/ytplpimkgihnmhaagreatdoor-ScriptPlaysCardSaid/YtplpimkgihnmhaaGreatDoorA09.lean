/-
  Parts of a proof. For all values.
-/
import Derived.Test.YtplpimkgihnmhaaGreatDoorA07
set_option maxRecDepth 100000
set_option maxHeartbeats 8000000
set_option linter.all false
namespace Go.Proofs.YtplpimkgihnmhaaGreatDoor
open Go.Proofs.Tryz Go.RowKit
section
attribute [local go_sem↓] Go.wp_at_zero Go.wp_at_succ
def DH(n:Nat)(a:Int):Nat:=if a=4 then n-1 else 0
def CR(xs:List Int)(a v:Int):List Int:=if 1<=a/\a<=6 then iA xs a v (decide (a=3)) (DH xs.length a)else xs
def PI(xs:List Int)(a:Int):Int:=if 1<=a/\a<=6 then gZ xs a else 5
def DB(xs:List Int)(a:Int):Int:=if 1<=a/\a<=6 then gY xs a (DH xs.length a)else 0
theorem AO(A:Option Addr)(n c:Nat)(xs:List Int)(a k v:Int)(w:World)(h:fI w A n c xs)(F:n<=60)(E: -9223372036854775808<=v/\v<=9223372036854775807):
 Calls prog 199 #[.slice A n c,.agg #[a,k,v]] w (AQ A n (CR xs a v) (PI xs a) (DB xs a) w):=by
 have Z:=aH h.len;have H:=aH h;clear h;have V:=aH E;clear E;have G:IntKind.i64.wrap ((n:Int)-1)=n-1:=IntWalk.i64_in _ I;by_cases M:a=4
 .subst M;have P:CR xs 4 v=iA xs 4 v false (n-1):=by have L:=Z.out;unfold CR DH;rw[iP I,iP rfl,L];rfl
  have O:PI xs 4=gZ xs 4:=iP I;have N:DB xs 4=gY xs 4 (n-1):=by have L:=Z.out;unfold DB DH;rw[iP I,iP rfl,L]
  rw[P,O,N];clear P O N
  go_enter func199,ntmps199
  go_wp2_with (first
   |(go_at_call 55;refine(bQ _ _ _ _).mono ?_;rintro e u ⟨rfl,rfl⟩)
   |(go_at_call 206;refine(eY _ _ _).mono ?_;rintro e t ⟨rfl,rfl⟩)
   |(go_at_call 207;refine(mF A n c xs 4 k v false ((n:Int)-1) (n-1) _ (H.below (by go_grown)) F V (by intro h;constructor<;>omega)).mono ?_;rintro e S ⟨s,r,c1,rfl,R,W⟩;obtain⟨Q,q⟩:=cJ W;have K:=W.size;simp only[World.size_alloc]at K;have U:=Q (w,1) 0 (by simp);have T:=Q (w,1) 1 (by simp);simp [go_sem]at U T;have D:w.heap.size+1<S:=I;have C:¬w.heap.size+1=S:=I;have Y:=aH R;clear R))
  all_goals(refine bodyPost_ret (by first|(simp [results,results199,go_sem,U,T];try rfl;done)|(simp [results,results199,go_sem];try rfl;done)) rfl ?_)
  all_goals simp only[beq_iff_eq,beq_eq_false_iff_ne,ne_eq,bV,decide_eq_true_eq,decide_eq_false_iff_not]at*
  all_goals exact(oY Y (by go_grown) W (by simp) (by simp) (by simp) (by simp)).weakJ A n
 have B:(a==4)=false:=by simpa using M
 go_enter func199,ntmps199
 go_wp2_with (first
  |(go_at_call 55;refine(bQ _ _ _ _).mono ?_;rintro e u ⟨rfl,rfl⟩)
  |(go_at_call 206;refine(eY _ _ _).mono ?_;rintro e t ⟨rfl,rfl⟩)
  |(go_at_call 207;refine(mF A n c xs a k v _ 0 0 _ (H.below (by go_grown)) F V (by intro h;constructor<;>omega)).mono ?_;rintro e S ⟨s,r,c1,rfl,R,W⟩;obtain⟨Q,q⟩:=cJ W;have K:=W.size;simp only[World.size_alloc]at K;have U:=Q (w,1) 0 (by simp);have T:=Q (w,1) 1 (by simp);simp [go_sem]at U T;have D:w.heap.size+1<S:=I;have C:¬w.heap.size+1=S:=I;have Y:=aH R;clear R))
 all_goals(refine bodyPost_ret (by first|(simp [results,results199,go_sem,U,T];try rfl;done)|(simp [results,results199,go_sem];try rfl;done)) rfl ?_)
 all_goals simp only[beq_iff_eq,beq_eq_false_iff_ne,ne_eq,bV,decide_eq_true_eq,decide_eq_false_iff_not]at*
 all_goals first
  |(have X:1<=a/\a<=6:=(by first|assumption|omega|(simp_all;done)|(simp_all;omega))
    have P:CR xs a v=iA xs a v (decide (a=3)) 0:=by unfold CR DH;rw[iP X,iN M]
    have O:PI xs a=gZ xs a:=iP X;have N:DB xs a=gY xs a 0:=by unfold DB DH;rw[iP X,iN M]
    have z:decide (a=3)=(a==3):=by rw[Bool.eq_iff_iff];simp
    rw[P,O,N,z];exact(oY Y (by go_grown) W (by simp) (by simp) (by simp) (by simp)).weakJ A n)
  |(have X:¬(1<=a/\a<=6):=(by first|assumption|omega|(simp_all;done)|(simp_all;omega))
    have G:CR xs a v=xs:=iN X;have y:PI xs a=5:=iN X;have x:DB xs a=0:=iN X;rw[G,y,x];exact xU H (by go_grown) rfl rfl)
theorem EX(A:Option Addr)(n c:Nat)(xs:List Int)(k v:Int)(w:World)(h:fI w A n c xs)(hn:n<6)(hv: -9223372036854775808<=v/\v<=9223372036854775807):
 Calls prog 200 #[.slice A n c,.agg #[(1:Int),k,v]] w (fQ (jS (xs++[v]) n) 1 0 w):=by
 have hl:=aH h.len;have H:=aH h;clear h;have F:=aH hv;clear hv;have d0:decide ((n:Int)<6)=true:=by simp;omega
 go_enter func200,ntmps200
 go_wp2_with (first
  |(at_builtin;refine cY rfl (.const (.slice none 0 0)) (.tmp 14) rfl rfl rfl (H.below (by go_grown)) I ?_;intro A1 c1 d U L;obtain⟨a,hf⟩:=cJ L;have hz:=L.size;simp only[World.size_alloc]at hz;have hB:Below w w d:=Below.trans (by go_grown) (L.mono (by simp;omega));replace U:=U.mono (B':=w+2) (by simp);have q1:w.heap.size+1<d:=I;have q0:w.heap.size<d:=I;have N:=aH U;clear U;have r0:=a (w,1) 0 (by simp);have r1:=a (w,1) 1 (by simp);have p0:=hf (w,1) 0 (by simp);have p1:=hf (w,1) 1 (by simp);simp [go_sem]at r0 r1 p0 p1;have m1:¬w.heap.size+1=d:=I)
  |(go_at_call 55;refine(bQ _ _ _ _).mono ?_;rintro e w' ⟨rfl,rfl⟩)
  |(at_builtin;refine dM rfl (.tmp 43) (.tmp 46) rfl (B:=w+2) rfl (N.alloc _) rfl ((aY.new _ _ _).cell 0) I (by simp;omega) ?_;intro K c2 l X G;obtain⟨S,Q⟩:=cJ G;have zz:=G.size;simp only[World.size_alloc]at zz;have E:Below w w l:=Below.trans (by go_grown) (G.mono (by simp));have s0:=(S (w,1) 0 (by simp)).trans ((bX I).trans r0);have s1:=(S (w,1) 1 (by simp)).trans ((bX I).trans r1);have y0:=(Q (w,1) 0 (by simp)).trans ((eP I).trans p0);have y1:=(Q (w,1) 1 (by simp)).trans ((eP I).trans p1);have V:=aH (X.sli (nJ.app H.bd F));obtain⟨g3,zt,j,P⟩:=X.row (nJ.app H.bd F) I;cases zt;have M:=aH P;clear P X;have g:w.heap.size+1<l:=I;have q4:w.heap.size<l:=I;have f:¬w.heap.size+1=l:=I))
 have hu:=aH S;have zq:=aH Q;have zp:=aH a;have zo:=aH hf;clear a hf S Q
 go_loopw [6] (fun i wr=>∃(k:Nat) (R:List Int),k<=n/\i=.int .i64 k/\Hid (jC wr K (n+1) R)/\Hid (jS R k=jS (xs++[v]) n)/\Hid (aD (fun b=>b=K) l wr)) (fun i _=>(intOf i).toNat)
 case atStart=>exact⟨n,_,I,rfl,M,aH rfl,aH (aD.refl _ _)⟩
 case round=>
  obtain⟨k,R,hk,rfl,O,hI,Z⟩:=hrel;have zy:=Z.size;have D:=O.lt;have q5:w.heap.size+1<wr:=I;have t0:=(Z.cell (p:=⟨w+1,0,none⟩) g (by show¬w+1=K;omega)).trans s0;have t1:=(Z.cell (p:=⟨w+1,1,none⟩) g (by show¬w+1=K;omega)).trans s1;have z0:=(Z.frozen (p:=⟨w+1,0,none⟩) g (by show¬w+1=K;omega)).trans y0;have z1:=(Z.frozen (p:=⟨w+1,1,none⟩) g (by show¬w+1=K;omega)).trans y1;have f:¬w.heap.size+1=wr:=I;by_cases zs:0<k
  .have q1:(k:Int)<=n:=I;have C:k<n+1:=I;have x1:=O.cell C;have x2:=O.cell (i:=(k-1)/2) I;have b2:((k:Int)-1)/2<n+1:=I;have b3:0<=((k:Int)-1)/2:=I;have b4:0<(k:Int):=I;have b5:(k:Int)<n+1:=I;have zn:k≠(k-1)/2:=I;have z:=O.bd.gI k;have u:=O.bd.gI ((k-1)/2);have hS:Hid (gI R k<gI R ((k-1)/2)->jS R k=jS ((R.set k (gI R ((k-1)/2))).set ((k-1)/2) (gI R k)) ((k-1)/2)):=fun h=>oH ⟨zs,h⟩
   have hE:Hid (¬gI R k<gI R ((k-1)/2)->jS R k=R):=fun h=>lW (fun h'=>h h'.2)
   generalize hx:gI R k=x at*;generalize hy:gI R ((k-1)/2)=y at*;have hx:=aH hx;have hy:=aH hy;go_wp2
   go_quiet (fail)
   have Y:=aH (O.drewN nq);have t:=aH (Z.drewN nq);have zr:K<(wr.drewN nq).heap.size:=D;have s:w+1<(wr.drewN nq).heap.size:=q5;have r:¬w+1=(wr.drewN nq).heap.size:=f;have q:(wr.drewN nq).cell? (w,1)=_:=t0;have o:(wr.drewN nq).cell? ((w,1),1)=_:=t1;have zx:(wr.drewN nq).frozen? ⟨w+1,0,none⟩=_:=z0;have zw:(wr.drewN nq).frozen? ⟨w+1,1,none⟩=_:=z1;clear x1 x2 D O Z t0 t1 z0 z1 f q5 zy;generalize wr.drewN nq=W at*
   go_wp2_with (go_at_call 206;refine(eY _ _ _).mono ?_;rintro e w5 ⟨rfl,rfl⟩)
   .have hge:y<=x:=by assumption
    have T:=aH (hE.out I);clear hge;refine bodyPost_ret (by simp [results,results200,go_sem,q,o,r,s];try rfl;done) rfl ?_;refine fQ.alloc (dB (Y.slo j V.cap V.cap63) (iE E t I) ?_ ?_ ?_ ?_ (by rw[<-hI.out,T.out]) rfl rfl) _
    all_goals first|(show w.heap.size+1<w+2;omega)|(show w.heap.size<=w+1;omega)
   have m:x<y:=by assumption
   clear q o zx zw r s;have x1:=Y.cell C;have x2:=Y.cell (i:=(k-1)/2) I;rw[hx.out]at x1;rw[hy.out]at x2;have f1:=Y.frozen k;have f2:=Y.frozen ((k-1)/2);have zv:=aH (hS.out m);have e1:IntKind.i64.wrap ((k:Int)-1)=(k:Int)-1:=IntWalk.i64_in _ I;have e2:IntKind.i64.wrap (((k:Int)-1).tdiv 2)=((k:Int)-1)/2:=by rw[Int.tdiv_eq_ediv_of_nonneg I];exact IntWalk.i64_in _ I
   have e3:(((k:Int)-1)/2).toNat=(k-1)/2:=I
   go_region
   all_goals go_wp2
   all_goals(refine⟨⟨(k-1)/2,_,I,jW I,aH ?_,aH (zv.symm.trans hI),aH ?_⟩,by simp [intOf];omega⟩)
   all_goals first
    |exact((Y.set u I).set z I).drew
    |(rw[List.set_comm _ _ I];exact((Y.set z I).set u I).drew)
    |exact((t.set_ _ _).set_ _ _).drew
  obtain rfl:k=0:=I;have T:jS R 0=R:=lW (fun h=>absurd h.1 I);have zu:=aH T;clear T
  go_wp2_with (go_at_call 206;refine(eY _ _ _).mono ?_;rintro e w5 ⟨rfl,rfl⟩)
  refine bodyPost_ret (by simp [results,results200,go_sem,t0,t1,f,q5];try rfl;done) rfl ?_;refine fQ.alloc (dB ((O.out).slo j V.cap V.cap63) (iE E Z I) ?_ ?_ ?_ ?_ (by rw[<-hI.out,zu.out]) rfl rfl) _
  all_goals first|(show w.heap.size+1<w+2;omega)|(show w.heap.size<=w+1;omega)
theorem yP(A:Option Addr)(m c:Nat)(xs:List Int)(k v:Int)(w:World)(h:fI w A (m+1) c xs)(z:m=0):
 Calls prog 200 #[.slice A (m+1) c,.agg #[(2:Int),k,v]] w (fQ [] 1 (gI xs 0) w):=by
 have b:=aH h.len;have H:=aH h;clear h;have a:decide ((0:Int)<(m:Int)+1)=true:=by rw[decide_eq_true_eq];omega
 have e1:((m:Int)+1-1).toNat=m:=I;have e2:IntKind.i64.wrap ((m:Int)+1-1)=m:=by rw[show(m:Int)+1-1=m by omega];exact IntWalk.i64_in _ I
 have b0:(m:Int)<m+1:=I;have b1:(m:Int)<=m+1:=I;have b2:(0:Int)<m+1:=I;have y:bV 2 1 6=true:=by decide
 have b3:(0:Int)<=m:=I;have dm:((m:Int)==0)=true:=by simp;omega
 have x:=aH z;have u:m<=1:=I;clear z
 go_enter func200,ntmps200
 go_wp2_with (first
  |(at_builtin;refine cY rfl (.const (.slice none 0 0)) (.tmp 14) rfl rfl rfl (H.below (by go_grown)) I ?_;intro A1 c1 X Z U;obtain⟨L,K⟩:=cJ U;have G:=U.size;simp only[World.size_alloc]at G;have F:Below w w X:=Below.trans (by go_grown) (U.mono (by simp;omega));replace Z:=Z.mono (B':=w+2) (by simp);have E:w.heap.size+1<X:=I;have t:w.heap.size<X:=I;have R:=L (w,1) 0 (by simp);have Q:=L (w,1) 1 (by simp);have P:=K (w,1) 0 (by simp);have O:=K (w,1) 1 (by simp);simp [go_sem]at R Q P O;have D:¬w.heap.size+1=X:=I;obtain⟨g,rfl,d,Y⟩:=Z.row H.bd I;have V:=aH Y;have s:=Y.cell (i:=0) I;have r:=Y.cell (i:=m) I;have C:=(Z.sli H.bd).cap;have T:=(Z.sli H.bd).cap63;have b4:(m:Int)<=c1:=I;have S:=Y.lt;have mg:¬w=g:=I;have q:¬w+1=g:=I;clear Y Z)
  |(go_at_call 55;refine(bQ _ _ _ _).mono ?_;rintro e w' ⟨rfl,rfl⟩))
 go_quiet (fail)
 have N:=aH (V.drewN nq);have M:=cZ F nq;have p:w+1<(X.drewN nq).heap.size:=E;have B:g<(X.drewN nq).heap.size:=S;have o:¬w+1=(X.drewN nq).heap.size:=D;have n:(X.drewN nq).cell? (w,1)=_:=R;have l:(X.drewN nq).cell? ((w,1),1)=_:=Q;have j:(X.drewN nq).frozen? ⟨w+1,0,none⟩=_:=P;have f:(X.drewN nq).frozen? ⟨w+1,1,none⟩=_:=O;clear L K U F G E t R Q P O D V s r S;generalize X.drewN nq=W at*
 go_wp2_with (go_at_call 206;refine(eY _ _ _).mono ?_;rintro e w5 ⟨rfl,rfl⟩)
 refine bodyPost_ret (by simp [results,results200,go_sem,n,l,o,p];try rfl;done) rfl ?_;refine fQ.alloc (dB ((show kC W (w,2) (some ⟨g,0,none⟩) m c1 [] by rw[x.out];exact kC.nil _ _ _ T _)) M ?_ ?_ ?_ ?_ rfl rfl rfl) _
 all_goals first|(show w.heap.size+1<w+2;omega)|(show w.heap.size<=w+1;omega)
theorem AP(A:Option Addr)(m c:Nat)(xs:List Int)(k v:Int)(w:World)(h:fI w A (m+1) c xs)(hn:m+1<=60)(hm:0<m):
 Calls prog 200 #[.slice A (m+1) c,.agg #[.int .i64 2,.int .i64 k,.int .i64 v]] w (fQ (jU (xs.take m) 0 (gI xs m)) 1 (gI xs 0) w):=by
 have hl:=aH h.len;have H:=aH h;clear h;have d0:decide ((0:Int)<(m:Int)+1)=true:=by rw[decide_eq_true_eq];omega
 have e1:((m:Int)+1-1).toNat=m:=I;have e2:IntKind.i64.wrap ((m:Int)+1-1)=m:=by rw[show(m:Int)+1-1=m by omega];exact IntWalk.i64_in _ I
 have b0:(m:Int)<m+1:=I;have b1:(m:Int)<=m+1:=I;have b2:(0:Int)<m+1:=I;have zm:bV 2 1 6=true:=by decide
 have dm:((m:Int)==0)=false:=by simp;omega
 go_enter func200,ntmps200
 go_wp2_with (first
  |(at_builtin;refine cY rfl (.const (.slice none 0 0)) (.tmp 14) rfl rfl rfl (H.below (by go_grown)) I ?_;intro A1 c1 Q X S;obtain⟨hc,hf⟩:=cJ S;have hz:=S.size;simp only[World.size_alloc]at hz;have hB:Below w.heap.size w Q:=Below.trans (by go_grown) (S.mono (by simp;omega));replace X:=X.mono (B':=w.heap.size+2) (by simp);have q1:w.heap.size+1<Q.heap.size:=I;have q0:w.heap.size<Q.heap.size:=I;have r0:=hc (w.heap.size+1) 0 (by simp);have r1:=hc (w.heap.size+1) 1 (by simp);have p0:=hf (w.heap.size+1) 0 (by simp);have r:=hf (w.heap.size+1) 1 (by simp);simp [go_sem]at r0 r1 p0 r;have m1:¬w.heap.size+1=Q.heap.size:=I;obtain⟨g,rfl,zz,T⟩:=X.row H.bd I;have P:=aH T;have x0:=T.cell (i:=0) I;have x1:=T.cell (i:=m) I;have zq:=(X.sli H.bd).cap;have O:=(X.sli H.bd).cap63;have b4:(m:Int)<=c1:=I;have o:=T.lt;have mg:¬w.heap.size=g:=I;have zl:¬w.heap.size+1=g:=I;clear T X)
  |(go_at_call 55;refine(bQ _ _ _ _).mono ?_;rintro e w' ⟨rfl,rfl⟩))
 go_quiet (fail)
 have N:=aH (P.drewN nq);have n:=cZ hB nq;have D:w.heap.size+1<(Q.drewN nq).heap.size:=q1;have zp:g<(Q.drewN nq).heap.size:=o;have m5:¬w.heap.size+1=(Q.drewN nq).heap.size:=m1;have s0:(Q.drewN nq).cell? ⟨w.heap.size+1,0,none⟩=_:=r0;have s1:(Q.drewN nq).cell? ⟨w.heap.size+1,1,none⟩=_:=r1;have j:(Q.drewN nq).frozen? ⟨w.heap.size+1,0,none⟩=_:=p0;have f:(Q.drewN nq).frozen? ⟨w.heap.size+1,1,none⟩=_:=r;clear hc hf S hB hz q1 q0 r0 r1 p0 r m1 P x0 x1 o;generalize Q.drewN nq=W at*;have d:=N.bd.gI m;generalize u:gI xs m=l at*;clear u;go_wp2
 go_loopw [10] (fun i wr=>∃(k:Nat) (R:List Int),k<m/\i=.int .i64 k/\Hid (R.length=m)/\Hid (jC wr g m R)/\Hid (jU R k l=jU (xs.take m) 0 l)/\Hid (aD (fun b=>b=g) W wr)) (fun i _=>m-(intOf i).toNat)
 case atStart=>exact⟨0,xs.take m,hm,rfl,aH (by rw[List.length_take,hl.out];omega),aH (N.take I),aH rfl,aH (aD.refl _ _)⟩
 case round=>
  obtain⟨k,R,hk,rfl,x,G,hI,L⟩:=hrel;have zo:k<60:=I;have F:=G.lt;have E:=L.size;have f1:IntKind.i64.wrap (2*(k:Int))=2*k:=IntWalk.i64_in _ I;have f2:IntKind.i64.wrap (2*(k:Int)+1)=2*k+1:=IntWalk.i64_in _ I;have f3:IntKind.i64.wrap (2*(k:Int)+2)=2*k+2:=IntWalk.i64_in _ I;have V:=kV R k;have C:eO R k<R.length/\gI R (eO R k)<l->jU R k l=jU (R.set k (gI R (eO R k))) (eO R k) l:=oG;have B:¬(eO R k<R.length/\gI R (eO R k)<l)->jU R k l=R.set k l:=kW;rw[x.out]at V C B;have zx:=aH C;have a:=aH B;clear C B;have b5:(k:Int)<m:=I;have zk:=G.frozen k;have q:w.heap.size+1<wr.heap.size:=I;refine Or.elim (Classical.em (2*k+1<m)) (fun r=>?aa) (fun r=>?ab)
  case' aa=>
   have q1:2*(k:Int)+1<m:=I;have g1:=G.cell r;have S:=G.bd.gI (2*k+1);have d3:decide (2*(k:Int)+1<0)=false:=by simp;omega
   refine Or.elim (Classical.em (2*k+2<m)) (fun p2=>?ba) (fun p2=>?bb)
   case' ba=>
    have q2:2*(k:Int)+2<m:=I;have g2:=G.cell p2;have zw:=G.bd.gI (2*k+2);have d4:decide (2*(k:Int)+2<0)=false:=by simp;omega
    generalize K:gI R (2*k+1)=s at*;generalize zy:gI R (2*k+2)=y2 at*;have zv:=aH K;have zu:=aH zy;clear K zy;refine Or.elim (Classical.em (y2<s)) (fun zr=>?ca) (fun zr=>?cb)
    case' ca=>
     have U:eO R k=2*k+2:=by rcases V with h|h<;>omega
     have z:=zu;have M:=aH U;clear V U;by_cases t:y2<l
    case' cb=>
     have U:eO R k=2*k+1:=by rcases V with h|h<;>omega
     have z:=zv;have zj:s<=y2:=I;have M:=aH U;clear V U;by_cases t:s<l
   case' bb=>
    have d2:decide (2*(k:Int)+2<m)=false:=by simp;omega
    generalize K:gI R (2*k+1)=s at*;have z:=aH K;clear K;have U:eO R k=2*k+1:=by rcases V with h|h<;>omega
    have M:=aH U;clear V U;by_cases t:s<l
   all_goals
    first
    |have zt:=aH (zx.out (by rw[M.out,z.out];exact⟨I,t⟩))
    |(have y:=aH (a.out (by rw[M.out,z.out];omega))
      try have zn:l<=y2:=I
      try have zi:l<=s:=by omega)
    go_wp2;refine wp_loop_rounds 3 ?_;rw[rounds_succ];go_wp2
    go_quiet (fail)
    go_wp2
    rename Nat=>n1
    rw[rounds_succ];go_wp2
    go_quiet (fail)
    have Y:=aH (((G.alloc (.cells #[.int .i64 (2*(k:Int)+1),.int .i64 (2*(k:Int)+2)] 3)).drewN n1).drewN nq);have Z:=aH (((L.alloc (.cells #[.int .i64 (2*(k:Int)+1),.int .i64 (2*(k:Int)+2)] 3)).drewN n1).drewN nq);clear G L zk F q E g1
    try clear g2
    have zs:aY (((wr.alloc (.cells #[.int .i64 (2*(k:Int)+1),.int .i64 (2*(k:Int)+2)] 3)).drewN n1).drewN nq) wr.heap.size 3 #[.int .i64 (2*(k:Int)+1),.int .i64 (2*(k:Int)+2)]:=((aY.new wr 3 _).drewN n1).drewN nq;generalize((wr.alloc (.cells #[.int .i64 (2*(k:Int)+1),.int .i64 (2*(k:Int)+2)] 3)).drewN n1).drewN nq=W2 at*;have F:=Y.lt;have E:=Z.size;have zk:=Y.frozen k;have q:w.heap.size+1<W2.heap.size:=I;have m2:¬w.heap.size+1=W2.heap.size:=I;have t0:=(Z.cell (p:=⟨w.heap.size+1,0,none⟩) D (by show¬w.heap.size+1=g;omega)).trans s0;have t1:=(Z.cell (p:=⟨w.heap.size+1,1,none⟩) D (by show¬w.heap.size+1=g;omega)).trans s1;have z0:=(Z.frozen (p:=⟨w.heap.size+1,0,none⟩) D (by show¬w.heap.size+1=g;omega)).trans j;have z1:=(Z.frozen (p:=⟨w.heap.size+1,1,none⟩) D (by show¬w.heap.size+1=g;omega)).trans f
    first
    |(have xk:=Y.cell (i:=2*k+2) I;rw[z.out]at xk)
    |(have xk:=Y.cell (i:=2*k+1) I;rw[z.out]at xk)
    have xc:=Y.cell (i:=k) I;go_wp2;rw[rounds_succ]
    first
    |(go_wp2
      first
      |refine⟨⟨2*k+2,R.set k y2,I,jW I,aH (by rw[List.length_set];exact x),aH (Y.set zw I),aH ?_,aH (Z.set_ _ _)⟩,by simp [intOf];omega⟩
      |refine⟨⟨2*k+1,R.set k s,I,jW I,aH (by rw[List.length_set];exact x),aH (Y.set S I),aH ?_,aH (Z.set_ _ _)⟩,by simp [intOf];omega⟩
      have h4:=zt.out;rw[M.out,z.out]at h4;exact h4.symm.trans hI)
    |(go_wp2_with (go_at_call 206;refine(eY _ _ _).mono ?_;rintro e w5 ⟨rfl,rfl⟩)
      refine bodyPost_ret (by simp [results,results200,go_sem,t0,t1,m2,q];try rfl;done) rfl ?_;refine fQ.alloc (dB ((Y.set d (i:=k) I).slo zz I O) (iE n (Z.set_ k (.int .i64 l)) I) ?_ ?_ ?_ ?_ (by rw[<-hI.out,y.out]) rfl rfl) _
      all_goals first|(show w.heap.size+1<w.heap.size+2;omega)|(show w.heap.size<=w.heap.size+1;omega))
  have d1:decide (2*(k:Int)+1<m)=false:=by simp;omega
  have d2:decide (2*(k:Int)+2<m)=false:=by simp;omega
  have y:=aH (a.out (by rcases V with h|h<;>omega))
  clear V;go_wp2;refine wp_loop_rounds 3 ?_;rw[rounds_succ];go_wp2
  go_quiet (fail)
  go_wp2
  rename Nat=>n1
  rw[rounds_succ];go_wp2
  go_quiet (fail)
  have Y:=aH (((G.alloc (.cells #[.int .i64 (2*(k:Int)+1),.int .i64 (2*(k:Int)+2)] 3)).drewN n1).drewN nq);have Z:=aH (((L.alloc (.cells #[.int .i64 (2*(k:Int)+1),.int .i64 (2*(k:Int)+2)] 3)).drewN n1).drewN nq);clear G L zk F q E;have zs:aY (((wr.alloc (.cells #[.int .i64 (2*(k:Int)+1),.int .i64 (2*(k:Int)+2)] 3)).drewN n1).drewN nq) wr.heap.size 3 #[.int .i64 (2*(k:Int)+1),.int .i64 (2*(k:Int)+2)]:=((aY.new wr 3 _).drewN n1).drewN nq;generalize((wr.alloc (.cells #[.int .i64 (2*(k:Int)+1),.int .i64 (2*(k:Int)+2)] 3)).drewN n1).drewN nq=W2 at*;have F:=Y.lt;have E:=Z.size;have zk:=Y.frozen k;have q:w.heap.size+1<W2:=I;have m2:¬w.heap.size+1=W2:=I;have t0:=(Z.cell (p:=⟨w+1,0,none⟩) D (by show¬w+1=g;omega)).trans s0;have t1:=(Z.cell (p:=⟨w+1,1,none⟩) D (by show¬w+1=g;omega)).trans s1;have z0:=(Z.frozen (p:=⟨w+1,0,none⟩) D (by show¬w+1=g;omega)).trans j;have z1:=(Z.frozen (p:=⟨w+1,1,none⟩) D (by show¬w+1=g;omega)).trans f;have xc:=Y.cell (i:=k) I;go_wp2;rw[rounds_succ]
  go_wp2_with (go_at_call 206;refine(eY _ _ _).mono ?_;rintro e w5 ⟨rfl,rfl⟩)
  refine bodyPost_ret (by simp [results,results200,go_sem,t0,t1,m2,q];try rfl;done) rfl ?_;refine fQ.alloc (dB ((Y.set d (i:=k) I).slo zz I O) (iE n (Z.set_ k l) I) ?_ ?_ ?_ ?_ (by rw[<-hI.out,y.out]) rfl rfl) _
  all_goals first|(show w.heap.size+1<w+2;omega)|(show w.heap.size<=w+1;omega)
theorem OX(A:Option Addr)(n c:Nat)(xs:List Int)(k v:Int)(w:World)(h:fI w A n c xs)(r:n<=60)(E: -9223372036854775808<=v/\v<=9223372036854775807)(b:6<=n):
 Calls prog 200 #[.slice A n c,.agg #[(1:Int),k,v]] w (fQ (iA xs 1 v false 0) (gZ xs 1) (gY xs 1 0) w):=by
 have H:=aH h;clear h;have R:=aH E;clear E;have D:bV 1 1 6=true:=by decide
 have q:decide ((n:Int)<6)=false:=by rw[decide_eq_false_iff_not];omega
 go_enter func200,ntmps200
 go_wp2_with (first
  |(at_builtin;refine cY rfl (.const (.slice none 0 0)) (.tmp 14) rfl rfl rfl (H.below (by go_grown)) I ?_;intro s c1 U Z X;obtain⟨L,K⟩:=cJ X;have C:=X.size;simp only[World.size_alloc]at C;have B:Below w w U:=Below.trans (by go_grown) (X.mono (by simp;omega));replace Z:=Z.mono (B':=w+2) (by simp);have V:w.heap.size+1<U:=I;have p:w.heap.size<U:=I;have Y:=aH Z;clear Z;have P:=L (w,1) 0 (by simp);have O:=L (w,1) 1 (by simp);have N:=K (w,1) 0 (by simp);have M:=K (w,1) 1 (by simp);simp [go_sem]at P O N M;have o:¬w.heap.size+1=U:=I)
  |(go_at_call 55;refine(bQ _ _ _ _).mono ?_;rintro e j ⟨rfl,rfl⟩)
  |(go_at_call 206;refine(eY _ _ _).mono ?_;rintro e i ⟨rfl,rfl⟩)
  |(go_at_call 207;refine(mF s n c1 xs 1 k v false 0 0 U (Y.sli H.bd) r R (fun h=>⟨rfl,h⟩)).mono ?_;rintro e G ⟨g,f,d,rfl,F,W⟩;have z:=W.size;obtain⟨T,S⟩:=cJ W;have y:=(T (w,1) 0 V).trans P;have x:=(T (w,1) 1 V).trans O;have m:=(S (w,1) 0 V).trans N;have l:=(S (w,1) 1 V).trans M;have u:w.heap.size+1<G:=I;have t:¬w.heap.size+1=G:=I;have Q:=aH F;clear F))
 all_goals(refine bodyPost_ret (by simp [results,results200,go_sem,y,x,u,t];try rfl;done) rfl ?_)
 exact oY Q B W V V (by show w.heap.size<=w+1;omega) (by show w.heap.size<=w+1;omega)
theorem MH(A:Option Addr)(n c:Nat)(xs:List Int)(k v:Int)(w:World)(h:fI w A n c xs)(r:n<=60)(E: -9223372036854775808<=v/\v<=9223372036854775807)(b:n<=0):
 Calls prog 200 #[.slice A n c,.agg #[(2:Int),k,v]] w (fQ (iA xs 2 v false 0) (gZ xs 2) (gY xs 2 0) w):=by
 have H:=aH h;clear h;have R:=aH E;clear E;have D:bV 2 1 6=true:=by decide
 have q:decide (0<(n:Int))=false:=by rw[decide_eq_false_iff_not];omega
 go_enter func200,ntmps200
 go_wp2_with (first
  |(at_builtin;refine cY rfl (.const (.slice none 0 0)) (.tmp 14) rfl rfl rfl (H.below (by go_grown)) I ?_;intro s c1 U Z X;obtain⟨L,K⟩:=cJ X;have C:=X.size;simp only[World.size_alloc]at C;have B:Below w w U:=Below.trans (by go_grown) (X.mono (by simp;omega));replace Z:=Z.mono (B':=w+2) (by simp);have V:w.heap.size+1<U:=I;have p:w.heap.size<U:=I;have Y:=aH Z;clear Z;have P:=L (w,1) 0 (by simp);have O:=L (w,1) 1 (by simp);have N:=K (w,1) 0 (by simp);have M:=K (w,1) 1 (by simp);simp [go_sem]at P O N M;have o:¬w.heap.size+1=U:=I)
  |(go_at_call 55;refine(bQ _ _ _ _).mono ?_;rintro e j ⟨rfl,rfl⟩)
  |(go_at_call 206;refine(eY _ _ _).mono ?_;rintro e i ⟨rfl,rfl⟩)
  |(go_at_call 207;refine(mF s n c1 xs 2 k v false 0 0 U (Y.sli H.bd) r R (fun h=>⟨rfl,h⟩)).mono ?_;rintro e G ⟨g,f,d,rfl,F,W⟩;have z:=W.size;obtain⟨T,S⟩:=cJ W;have y:=(T (w,1) 0 V).trans P;have x:=(T (w,1) 1 V).trans O;have m:=(S (w,1) 0 V).trans N;have l:=(S (w,1) 1 V).trans M;have u:w.heap.size+1<G:=I;have t:¬w.heap.size+1=G:=I;have Q:=aH F;clear F))
 all_goals(refine bodyPost_ret (by simp [results,results200,go_sem,y,x,u,t];try rfl;done) rfl ?_)
 exact oY Q B W V V (by show w.heap.size<=w+1;omega) (by show w.heap.size<=w+1;omega)
theorem xN(j:Int)(r:j=5\/j=6)(A:Option Addr)(n c:Nat)(xs:List Int)(k v:Int)(w:World)(h:fI w A n c xs)(p:n<=60)(E: -9223372036854775808<=v/\v<=9223372036854775807):
 Calls prog 200 #[.slice A n c,.agg #[j,k,v]] w (fQ (iA xs j v false 0) (gZ xs j) (gY xs j 0) w):=by
 have q:Tg j:=rfl;rcases r with rfl|rfl
 all_goals
  have H:=aH h;clear h;have R:=aH E;clear E;have D:bV q 1 6=true:=by decide
  go_enter func200,ntmps200
  go_wp2_with (first
   |(at_builtin;refine cY rfl (.const (.slice none 0 0)) (.tmp 14) rfl rfl rfl (H.below (by go_grown)) I ?_;intro s c1 U Z X;obtain⟨L,K⟩:=cJ X;have C:=X.size;simp only[World.size_alloc]at C;have B:Below w w U:=Below.trans (by go_grown) (X.mono (by simp;omega));replace Z:=Z.mono (B':=w+2) (by simp);have V:w.heap.size+1<U:=I;have o:w.heap.size<U:=I;have Y:=aH Z;clear Z;have P:=L (w,1) 0 (by simp);have O:=L (w,1) 1 (by simp);have N:=K (w,1) 0 (by simp);have M:=K (w,1) 1 (by simp);simp [go_sem]at P O N M;have m:¬w.heap.size+1=U:=I)
   |(go_at_call 55;refine(bQ _ _ _ _).mono ?_;rintro e g ⟨rfl,rfl⟩)
   |(go_at_call 206;refine(eY _ _ _).mono ?_;rintro e f ⟨rfl,rfl⟩)
   |(go_at_call 207;refine(mF s n c1 xs q k v false 0 0 U (Y.sli H.bd) p R (fun h=>⟨rfl,h⟩)).mono ?_;rintro e G ⟨d,b,a,rfl,F,W⟩;have z:=W.size;obtain⟨T,S⟩:=cJ W;have y:=(T (w,1) 0 V).trans P;have x:=(T (w,1) 1 V).trans O;have l:=(S (w,1) 0 V).trans N;have i:=(S (w,1) 1 V).trans M;have u:w.heap.size+1<G:=I;have t:¬w.heap.size+1=G:=I;have Q:=aH F;clear F))
  all_goals(refine bodyPost_ret (by simp [results,results200,go_sem,y,x,u,t];try rfl;done) rfl ?_)
  exact oY Q B W V V (by show w.heap.size<=w+1;omega) (by show w.heap.size<=w+1;omega)
theorem yN(A:Option Addr)(n c:Nat)(xs:List Int)(a k v:Int)(w:World)(h:fI w A n c xs)(y:n<=60)(G:¬(a=1\/a=2\/a=5\/a=6)):
 Calls prog 200 #[.slice A n c,.agg #[a,k,v]] w (fQ xs 5 0 w):=by
 have H:=aH h;clear h;have z:=aH G;by_cases V:a=3\/a=4
 all_goals have F:=aH V
 .have K:bV a 1 6=true:=by simp [bV];omega
  rcases V with rfl|rfl
  all_goals clear G
  all_goals
   go_enter func200,ntmps200
   go_wp2_with (first
    |(at_builtin;refine cY rfl (.const (.slice none 0 0)) (.tmp 14) rfl rfl rfl (H.below (by go_grown)) I ?_;intro D c1 W Z X;obtain⟨S,R⟩:=cJ X;have Q:=X.size;simp only[World.size_alloc]at Q;have P:Below w w W:=Below.trans (by go_grown) (X.mono (by simp;omega));replace Z:=Z.mono (B':=w+2) (by simp);have O:w.heap.size+1<W:=I;have E:w.heap.size<W:=I;have Y:=aH Z;clear Z;have U:=S (w,1) 0 (by simp);have T:=S (w,1) 1 (by simp);have N:=R (w,1) 0 (by simp);have M:=R (w,1) 1 (by simp);simp [go_sem]at U T N M;have L:¬w.heap.size+1=W:=I)
    |(go_at_call 55;refine(bQ _ _ _ _).mono ?_;rintro e C ⟨rfl,rfl⟩)
    |(go_at_call 206;refine(eY _ _ _).mono ?_;rintro e B ⟨rfl,rfl⟩))
   all_goals(refine bodyPost_ret (by simp [results,results200,go_sem,U,T,O,L];try rfl;done) rfl ?_)
   refine fQ.alloc (dB (Y.slo H.bd) P ?_ ?_ ?_ ?_ rfl rfl rfl) _
   all_goals first|(show w.heap.size+1<w+2;omega)|(show w.heap.size<=w+1;omega)
 have K:bV a 1 6=false:=by simp [bV];omega
 clear G V
 go_enter func200,ntmps200
 go_wp2_with (first
  |(at_builtin;refine cY rfl (.const (.slice none 0 0)) (.tmp 14) rfl rfl rfl (H.below (by go_grown)) I ?_;intro D c1 W Z X;obtain⟨S,R⟩:=cJ X;have Q:=X.size;simp only[World.size_alloc]at Q;have P:Below w w W:=Below.trans (by go_grown) (X.mono (by simp;omega));replace Z:=Z.mono (B':=w+2) (by simp);have O:w.heap.size+1<W:=I;have E:w.heap.size<W:=I;have Y:=aH Z;clear Z;have U:=S (w,1) 0 (by simp);have T:=S (w,1) 1 (by simp);have N:=R (w,1) 0 (by simp);have M:=R (w,1) 1 (by simp);simp [go_sem]at U T N M;have L:¬w.heap.size+1=W:=I)
  |(go_at_call 55;refine(bQ _ _ _ _).mono ?_;rintro e C ⟨rfl,rfl⟩)
  |(go_at_call 206;refine(eY _ _ _).mono ?_;rintro e B ⟨rfl,rfl⟩))
 all_goals(refine bodyPost_ret (by simp [results,results200,go_sem,U,T,O,L];try rfl;done) rfl ?_)
 refine fQ.alloc (dB (Y.slo H.bd) P ?_ ?_ ?_ ?_ rfl rfl rfl) _
 all_goals first|(show w.heap.size+1<w+2;omega)|(show w.heap.size<=w+1;omega)
theorem FA(A:Option Addr)(n c:Nat)(xs:List Int)(a k v:Int)(w:World)(h:fI w A n c xs)(V:n<=60)(T: -9223372036854775808<=v/\v<=9223372036854775807):
 Calls prog 200 #[.slice A n c,.agg #[a,k,v]] w (fQ (gD xs a v) (gM xs a) (gK xs a) w):=by
 have W:=h.len;by_cases R:a=1
 .subst R;by_cases U:n<6
  .have X:gD xs 1 v=jS (xs++[v]) n:=by simp [gD,W,U]
   have Z:gM xs 1=1:=by simp [gM,W,U]
   have Y:gK xs 1=0:=by simp [gK]
   rw[X,Z,Y];exact EX A n c xs k v w h U T
  have X:gD xs 1 v=iA xs 1 v false 0:=by simp [gD,iA,W,U]
  have Z:gM xs 1=gZ xs 1:=by simp [gM,gZ,W,U]
  have Y:gK xs 1=gY xs 1 0:=by simp [gK,gY]
  rw[X,Z,Y];exact OX A n c xs k v w h V T I
 by_cases S:a=2
 .subst S;rcases n with _|m
  .obtain rfl:xs=[]:=List.eq_nil_of_length_eq_zero W;have X:gD [] 2 v=iA [] 2 v false 0:=by simp [gD,iA,vY]
   have Z:gM [] 2=gZ [] 2:=by simp [gM,gZ]
   have Y:gK [] 2=gY [] 2 0:=by simp [gK,gY,gI]
   rw[X,Z,Y];exact MH A 0 c [] k v w h V T (Nat.le_refl _)
  have X:gD xs 2 v=jU (xs.take m) 0 (gI xs m):=by simp [gD,W]
  have Z:gM xs 2=1:=by simp [gM,W]
  have Y:gK xs 2=gI xs 0:=by simp [gK]
  rw[X,Z,Y];rcases Nat.eq_zero_or_pos m with hm|hm
  .have:=yP A m c xs k v w h hm;subst hm;rw[List.take_zero,vY];exact this
  exact AP A m c xs k v w h V hm
 by_cases Q:a=5
 .subst Q;have X:gD xs 5 v=iA xs 5 v false 0:=by simp [gD,iA]
  have Z:gM xs 5=gZ xs 5:=by simp [gM,gZ]
  have Y:gK xs 5=gY xs 5 0:=by
   rcases xs with _|⟨x,xs⟩<;>simp [gK,gY,gI]
  rw[X,Z,Y];exact xN 5 (.inl rfl) A n c xs k v w h V T
 by_cases P:a=6
 .subst P;have X:gD xs 6 v=iA xs 6 v false 0:=by simp [gD,iA]
  have Z:gM xs 6=gZ xs 6:=by simp [gM,gZ]
  have Y:gK xs 6=gY xs 6 0:=by simp [gK,gY]
  rw[X,Z,Y];exact xN 6 (.inr rfl) A n c xs k v w h V T
 have X:gD xs a v=xs:=by simp [gD,R,S]
 have Z:gM xs a=5:=by simp [gM,R,S,Q,P]
 have Y:gK xs a=0:=by simp [gK,S,Q,P]
 rw[X,Z,Y];exact yN A n c xs a k v w h V I
