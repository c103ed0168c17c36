/-
  Part of a proof: RDeque RHeap RHeapA MRT. For all values.
-/
import Derived.Test.YtplpimkgihnmhaaGreatDoorA06
import Derived.Test.YtplpimkgihnmhaaGreatDoorA07
set_option maxRecDepth 100000
set_option maxHeartbeats 16000000
set_option linter.all false
namespace Go.Proofs.YtplpimkgihnmhaaGreatDoor
open Go.Proofs.Tryz Go.RowKit
section
attribute [local go_sem↓] Go.wp_at_zero Go.wp_at_succ
def DH(n:Nat)(a:Int):Nat:=if a=4 then n-1 else 0
def CR(xs:List Int)(a v:Int):List Int:=if 1<=a/\a<=6 then iA xs a v (decide (a=3)) (DH xs.length a)else xs
def PI(xs:List Int)(a:Int):Int:=if 1<=a/\a<=6 then gZ xs a else 5
def DB(xs:List Int)(a:Int):Int:=if 1<=a/\a<=6 then gY xs a (DH xs.length a)else 0
theorem AO(A:Option Addr)(n c:Nat)(xs:List Int)(a k v:Int)(w:World)(h:fI w A n c xs)(F:n<=60)(E: -9223372036854775808<=v/\v<=9223372036854775807):
 Calls prog 199 #[.slice A n c,.agg #[a,k,v]] w (AQ A n (CR xs a v) (PI xs a) (DB xs a) w):=by
 have Z:=aH h.len;have H:=aH h;clear h;have V:=aH E;clear E;have G:IntKind.i64.wrap ((n:Int)-1)=n-1:=IntWalk.i64_in _ I;by_cases M:a=4
 .subst M;have P:CR xs 4 v=iA xs 4 v false (n-1):=by have L:=Z.out;unfold CR DH;rw[iP I,iP rfl,L];rfl
  have O:PI xs 4=gZ xs 4:=iP I;have N:DB xs 4=gY xs 4 (n-1):=by have L:=Z.out;unfold DB DH;rw[iP I,iP rfl,L]
  rw[P,O,N];clear P O N
  go_enter func199,ntmps199
  go_wp2_with (first
   |(go_at_call 55;refine(bQ _ _ _ _).mono ?_;rintro e u ⟨rfl,rfl⟩)
   |(go_at_call 206;refine(eY _ _ _).mono ?_;rintro e t ⟨rfl,rfl⟩)
   |(go_at_call 207;refine(mF A n c xs 4 k v false ((n:Int)-1) (n-1) _ (H.below (by go_grown)) F V (by intro h;constructor<;>omega)).mono ?_;rintro e S ⟨s,r,c1,rfl,R,W⟩;obtain⟨Q,q⟩:=cJ W;have K:=W.size;simp only[World.size_alloc]at K;have U:=Q (w,1) 0 (by simp);have T:=Q (w,1) 1 (by simp);simp [go_sem]at U T;have D:w.heap.size+1<S:=I;have C:¬w.heap.size+1=S:=I;have Y:=aH R;clear R))
  all_goals(refine bodyPost_ret (by first|(simp [results,results199,go_sem,U,T];try rfl;done)|(simp [results,results199,go_sem];try rfl;done)) rfl ?_)
  all_goals simp only[beq_iff_eq,beq_eq_false_iff_ne,ne_eq,bV,decide_eq_true_eq,decide_eq_false_iff_not]at*
  all_goals exact(oY Y (by go_grown) W (by simp) (by simp) (by simp) (by simp)).weakJ A n
 have B:(a==4)=false:=by simpa using M
 go_enter func199,ntmps199
 go_wp2_with (first
  |(go_at_call 55;refine(bQ _ _ _ _).mono ?_;rintro e u ⟨rfl,rfl⟩)
  |(go_at_call 206;refine(eY _ _ _).mono ?_;rintro e t ⟨rfl,rfl⟩)
  |(go_at_call 207;refine(mF A n c xs a k v _ 0 0 _ (H.below (by go_grown)) F V (by intro h;constructor<;>omega)).mono ?_;rintro e S ⟨s,r,c1,rfl,R,W⟩;obtain⟨Q,q⟩:=cJ W;have K:=W.size;simp only[World.size_alloc]at K;have U:=Q (w,1) 0 (by simp);have T:=Q (w,1) 1 (by simp);simp [go_sem]at U T;have D:w.heap.size+1<S:=I;have C:¬w.heap.size+1=S:=I;have Y:=aH R;clear R))
 all_goals(refine bodyPost_ret (by first|(simp [results,results199,go_sem,U,T];try rfl;done)|(simp [results,results199,go_sem];try rfl;done)) rfl ?_)
 all_goals simp only[beq_iff_eq,beq_eq_false_iff_ne,ne_eq,bV,decide_eq_true_eq,decide_eq_false_iff_not]at*
 all_goals first
  |(have X:1<=a/\a<=6:=(by first|assumption|omega|(simp_all;done)|(simp_all;omega))
    have P:CR xs a v=iA xs a v (decide (a=3)) 0:=by unfold CR DH;rw[iP X,iN M]
    have O:PI xs a=gZ xs a:=iP X;have N:DB xs a=gY xs a 0:=by unfold DB DH;rw[iP X,iN M]
    have z:decide (a=3)=(a==3):=by rw[Bool.eq_iff_iff];simp
    rw[P,O,N,z];exact(oY Y (by go_grown) W (by simp) (by simp) (by simp) (by simp)).weakJ A n)
  |(have X:¬(1<=a/\a<=6):=(by first|assumption|omega|(simp_all;done)|(simp_all;omega))
    have G:CR xs a v=xs:=iN X;have y:PI xs a=5:=iN X;have x:DB xs a=0:=iN X;rw[G,y,x];exact xU H (by go_grown) rfl rfl)
theorem EX(A:Option Addr)(n c:Nat)(xs:List Int)(k v:Int)(w:World)(h:fI w A n c xs)(hn:n<6)(hv: -9223372036854775808<=v/\v<=9223372036854775807):
 Calls prog 200 #[.slice A n c,.agg #[(1:Int),k,v]] w (fQ (jS (xs++[v]) n) 1 0 w):=by
 have hl:=aH h.len;have H:=aH h;clear h;have F:=aH hv;clear hv;have d0:decide ((n:Int)<6)=true:=by simp;omega
 go_enter func200,ntmps200
 go_wp2_with (first
  |(at_builtin;refine cY rfl (.const (.slice none 0 0)) (.tmp 14) rfl rfl rfl (H.below (by go_grown)) I ?_;intro A1 c1 d U L;obtain⟨a,hf⟩:=cJ L;have hz:=L.size;simp only[World.size_alloc]at hz;have hB:Below w w d:=Below.trans (by go_grown) (L.mono (by simp;omega));replace U:=U.mono (B':=w+2) (by simp);have q1:w.heap.size+1<d:=I;have q0:w.heap.size<d:=I;have N:=aH U;clear U;have r0:=a (w,1) 0 (by simp);have r1:=a (w,1) 1 (by simp);have p0:=hf (w,1) 0 (by simp);have p1:=hf (w,1) 1 (by simp);simp [go_sem]at r0 r1 p0 p1;have m1:¬w.heap.size+1=d:=I)
  |(go_at_call 55;refine(bQ _ _ _ _).mono ?_;rintro e w' ⟨rfl,rfl⟩)
  |(at_builtin;refine dM rfl (.tmp 43) (.tmp 46) rfl (B:=w+2) rfl (N.alloc _) rfl ((aY.new _ _ _).cell 0) I (by simp;omega) ?_;intro K c2 l X G;obtain⟨S,Q⟩:=cJ G;have zz:=G.size;simp only[World.size_alloc]at zz;have E:Below w w l:=Below.trans (by go_grown) (G.mono (by simp));have s0:=(S (w,1) 0 (by simp)).trans ((bX I).trans r0);have s1:=(S (w,1) 1 (by simp)).trans ((bX I).trans r1);have y0:=(Q (w,1) 0 (by simp)).trans ((eP I).trans p0);have y1:=(Q (w,1) 1 (by simp)).trans ((eP I).trans p1);have V:=aH (X.sli (nJ.app H.bd F));obtain⟨g3,zt,j,P⟩:=X.row (nJ.app H.bd F) I;cases zt;have M:=aH P;clear P X;have g:w.heap.size+1<l:=I;have q4:w.heap.size<l:=I;have f:¬w.heap.size+1=l:=I))
 have hu:=aH S;have zq:=aH Q;have zp:=aH a;have zo:=aH hf;clear a hf S Q
 go_loopw [6] (fun i wr=>∃(k:Nat) (R:List Int),k<=n/\i=.int .i64 k/\Hid (jC wr K (n+1) R)/\Hid (jS R k=jS (xs++[v]) n)/\Hid (aD (fun b=>b=K) l wr)) (fun i _=>(intOf i).toNat)
 case atStart=>exact⟨n,_,I,rfl,M,aH rfl,aH (aD.refl _ _)⟩
 case round=>
  obtain⟨k,R,hk,rfl,O,hI,Z⟩:=hrel;have zy:=Z.size;have D:=O.lt;have q5:w.heap.size+1<wr:=I;have t0:=(Z.cell (p:=⟨w+1,0,none⟩) g (by show¬w+1=K;omega)).trans s0;have t1:=(Z.cell (p:=⟨w+1,1,none⟩) g (by show¬w+1=K;omega)).trans s1;have z0:=(Z.frozen (p:=⟨w+1,0,none⟩) g (by show¬w+1=K;omega)).trans y0;have z1:=(Z.frozen (p:=⟨w+1,1,none⟩) g (by show¬w+1=K;omega)).trans y1;have f:¬w.heap.size+1=wr:=I;by_cases zs:0<k
  .have q1:(k:Int)<=n:=I;have C:k<n+1:=I;have x1:=O.cell C;have x2:=O.cell (i:=(k-1)/2) I;have b2:((k:Int)-1)/2<n+1:=I;have b3:0<=((k:Int)-1)/2:=I;have b4:0<(k:Int):=I;have b5:(k:Int)<n+1:=I;have zn:k≠(k-1)/2:=I;have z:=O.bd.gI k;have u:=O.bd.gI ((k-1)/2);have hS:Hid (gI R k<gI R ((k-1)/2)->jS R k=jS ((R.set k (gI R ((k-1)/2))).set ((k-1)/2) (gI R k)) ((k-1)/2)):=fun h=>oH ⟨zs,h⟩
   have hE:Hid (¬gI R k<gI R ((k-1)/2)->jS R k=R):=fun h=>lW (fun h'=>h h'.2)
   generalize hx:gI R k=x at*;generalize hy:gI R ((k-1)/2)=y at*;have hx:=aH hx;have hy:=aH hy;go_wp2
   go_quiet (fail)
   have Y:=aH (O.drewN nq);have t:=aH (Z.drewN nq);have zr:K<(wr.drewN nq).heap.size:=D;have s:w+1<(wr.drewN nq).heap.size:=q5;have r:¬w+1=(wr.drewN nq).heap.size:=f;have q:(wr.drewN nq).cell? (w,1)=_:=t0;have o:(wr.drewN nq).cell? ((w,1),1)=_:=t1;have zx:(wr.drewN nq).frozen? ⟨w+1,0,none⟩=_:=z0;have zw:(wr.drewN nq).frozen? ⟨w+1,1,none⟩=_:=z1;clear x1 x2 D O Z t0 t1 z0 z1 f q5 zy;generalize wr.drewN nq=W at*
   go_wp2_with (go_at_call 206;refine(eY _ _ _).mono ?_;rintro e w5 ⟨rfl,rfl⟩)
   .have hge:y<=x:=by assumption
    have T:=aH (hE.out I);clear hge;refine bodyPost_ret (by simp [results,results200,go_sem,q,o,r,s];try rfl;done) rfl ?_;refine fQ.alloc (dB (Y.slo j V.cap V.cap63) (iE E t I) ?_ ?_ ?_ ?_ (by rw[<-hI.out,T.out]) rfl rfl) _
    all_goals first|(show w.heap.size+1<w+2;omega)|(show w.heap.size<=w+1;omega)
   have m:x<y:=by assumption
   clear q o zx zw r s;have x1:=Y.cell C;have x2:=Y.cell (i:=(k-1)/2) I;rw[hx.out]at x1;rw[hy.out]at x2;have f1:=Y.frozen k;have f2:=Y.frozen ((k-1)/2);have zv:=aH (hS.out m);have e1:IntKind.i64.wrap ((k:Int)-1)=(k:Int)-1:=IntWalk.i64_in _ I;have e2:IntKind.i64.wrap (((k:Int)-1).tdiv 2)=((k:Int)-1)/2:=by rw[Int.tdiv_eq_ediv_of_nonneg I];exact IntWalk.i64_in _ I
   have e3:(((k:Int)-1)/2).toNat=(k-1)/2:=I
   go_region
   all_goals go_wp2
   all_goals(refine⟨⟨(k-1)/2,_,I,jW I,aH ?_,aH (zv.symm.trans hI),aH ?_⟩,by simp [intOf];omega⟩)
   all_goals first
    |exact((Y.set u I).set z I).drew
    |(rw[List.set_comm _ _ I];exact((Y.set z I).set u I).drew)
    |exact((t.set_ _ _).set_ _ _).drew
  obtain rfl:k=0:=I;have T:jS R 0=R:=lW (fun h=>absurd h.1 I);have zu:=aH T;clear T
  go_wp2_with (go_at_call 206;refine(eY _ _ _).mono ?_;rintro e w5 ⟨rfl,rfl⟩)
  refine bodyPost_ret (by simp [results,results200,go_sem,t0,t1,f,q5];try rfl;done) rfl ?_;refine fQ.alloc (dB ((O.out).slo j V.cap V.cap63) (iE E Z I) ?_ ?_ ?_ ?_ (by rw[<-hI.out,zu.out]) rfl rfl) _
  all_goals first|(show w.heap.size+1<w+2;omega)|(show w.heap.size<=w+1;omega)
theorem yP(A:Option Addr)(m c:Nat)(xs:List Int)(k v:Int)(w:World)(h:fI w A (m+1) c xs)(z:m=0):
 Calls prog 200 #[.slice A (m+1) c,.agg #[(2:Int),k,v]] w (fQ [] 1 (gI xs 0) w):=by
 have b:=aH h.len;have H:=aH h;clear h;have a:decide ((0:Int)<(m:Int)+1)=true:=by rw[decide_eq_true_eq];omega
 have e1:((m:Int)+1-1).toNat=m:=I;have e2:IntKind.i64.wrap ((m:Int)+1-1)=m:=by rw[show(m:Int)+1-1=m by omega];exact IntWalk.i64_in _ I
 have b0:(m:Int)<m+1:=I;have b1:(m:Int)<=m+1:=I;have b2:(0:Int)<m+1:=I;have y:bV 2 1 6=true:=by decide
 have b3:(0:Int)<=m:=I;have dm:((m:Int)==0)=true:=by simp;omega
 have x:=aH z;have u:m<=1:=I;clear z
 go_enter func200,ntmps200
 go_wp2_with (first
  |(at_builtin;refine cY rfl (.const (.slice none 0 0)) (.tmp 14) rfl rfl rfl (H.below (by go_grown)) I ?_;intro A1 c1 X Z U;obtain⟨L,K⟩:=cJ U;have G:=U.size;simp only[World.size_alloc]at G;have F:Below w w X:=Below.trans (by go_grown) (U.mono (by simp;omega));replace Z:=Z.mono (B':=w+2) (by simp);have E:w.heap.size+1<X:=I;have t:w.heap.size<X:=I;have R:=L (w,1) 0 (by simp);have Q:=L (w,1) 1 (by simp);have P:=K (w,1) 0 (by simp);have O:=K (w,1) 1 (by simp);simp [go_sem]at R Q P O;have D:¬w.heap.size+1=X:=I;obtain⟨g,rfl,d,Y⟩:=Z.row H.bd I;have V:=aH Y;have s:=Y.cell (i:=0) I;have r:=Y.cell (i:=m) I;have C:=(Z.sli H.bd).cap;have T:=(Z.sli H.bd).cap63;have b4:(m:Int)<=c1:=I;have S:=Y.lt;have mg:¬w=g:=I;have q:¬w+1=g:=I;clear Y Z)
  |(go_at_call 55;refine(bQ _ _ _ _).mono ?_;rintro e w' ⟨rfl,rfl⟩))
 go_quiet (fail)
 have N:=aH (V.drewN nq);have M:=cZ F nq;have p:w+1<(X.drewN nq).heap.size:=E;have B:g<(X.drewN nq).heap.size:=S;have o:¬w+1=(X.drewN nq).heap.size:=D;have n:(X.drewN nq).cell? (w,1)=_:=R;have l:(X.drewN nq).cell? ((w,1),1)=_:=Q;have j:(X.drewN nq).frozen? ⟨w+1,0,none⟩=_:=P;have f:(X.drewN nq).frozen? ⟨w+1,1,none⟩=_:=O;clear L K U F G E t R Q P O D V s r S;generalize X.drewN nq=W at*
 go_wp2_with (go_at_call 206;refine(eY _ _ _).mono ?_;rintro e w5 ⟨rfl,rfl⟩)
 refine bodyPost_ret (by simp [results,results200,go_sem,n,l,o,p];try rfl;done) rfl ?_;refine fQ.alloc (dB ((show kC W (w,2) (some ⟨g,0,none⟩) m c1 [] by rw[x.out];exact kC.nil _ _ _ T _)) M ?_ ?_ ?_ ?_ rfl rfl rfl) _
 all_goals first|(show w.heap.size+1<w+2;omega)|(show w.heap.size<=w+1;omega)
theorem AP(A:Option Addr)(m c:Nat)(xs:List Int)(k v:Int)(w:World)(h:fI w A (m+1) c xs)(hn:m+1<=60)(hm:0<m):
 Calls prog 200 #[.slice A (m+1) c,.agg #[.int .i64 2,.int .i64 k,.int .i64 v]] w (fQ (jU (xs.take m) 0 (gI xs m)) 1 (gI xs 0) w):=by
 have hl:=Lib.hid h.len;have H:=Lib.hid h;clear h;have d0:decide ((0:Int)<(m:Int)+1)=true:=by rw[decide_eq_true_eq];omega
 have e1:((m:Int)+1-1).toNat=m:=by omega
 have e2:IntKind.i64.wrap ((m:Int)+1-1)=m:=by rw[show(m:Int)+1-1=m by omega];exact IntWalk.i64_in _ (by omega)
 have b0:(m:Int)<m+1:=by omega
 have b1:(m:Int)<=m+1:=by omega
 have b2:(0:Int)<m+1:=by omega
 have zm:bV 2 1 6=true:=by decide
 have dm:((m:Int)==0)=false:=by simp;omega
 go_enter func200,ntmps200
 go_wp2_with (first
  |(at_builtin;refine cY rfl (.const (.slice none 0 0)) (.tmp 14) rfl rfl rfl (H.below (by go_grown)) (by omega) ?_;intro A1 c1 Q X S;obtain⟨hc,hf⟩:=cJ S;have hz:=S.size;simp only[World.size_alloc]at hz;have hB:Below w.heap.size w Q:=Below.trans (by go_grown) (S.mono (by simp;omega));replace X:=X.mono (B':=w.heap.size+2) (by simp);have q1:w.heap.size+1<Q.heap.size:=(by omega);have q0:w.heap.size<Q.heap.size:=(by omega);have r0:=hc (w.heap.size+1) 0 (by simp);have r1:=hc (w.heap.size+1) 1 (by simp);have p0:=hf (w.heap.size+1) 0 (by simp);have r:=hf (w.heap.size+1) 1 (by simp);simp [go_sem]at r0 r1 p0 r;have m1:¬w.heap.size+1=Q.heap.size:=(by omega);obtain⟨g,rfl,zz,T⟩:=X.row H.bd (by omega);have P:=Lib.hid T;have x0:=T.cell (i:=0) (by omega);have x1:=T.cell (i:=m) (by omega);have zq:=(X.sli H.bd).cap;have O:=(X.sli H.bd).cap63;have b4:(m:Int)<=c1:=(by omega);have o:=T.lt;have mg:¬w.heap.size=g:=(by omega);have zl:¬w.heap.size+1=g:=(by omega);clear T X)
  |(go_at_call 55;refine(bQ _ _ _ _).mono ?_;rintro e w' ⟨rfl,rfl⟩))
 go_quiet (fail)
 have N:=Lib.hid (P.drewN nq);have n:=cZ hB nq;have D:w.heap.size+1<(Q.drewN nq).heap.size:=q1;have zp:g<(Q.drewN nq).heap.size:=o;have m5:¬w.heap.size+1=(Q.drewN nq).heap.size:=m1;have s0:(Q.drewN nq).cell? ⟨w.heap.size+1,0,none⟩=_:=r0;have s1:(Q.drewN nq).cell? ⟨w.heap.size+1,1,none⟩=_:=r1;have j:(Q.drewN nq).frozen? ⟨w.heap.size+1,0,none⟩=_:=p0;have f:(Q.drewN nq).frozen? ⟨w.heap.size+1,1,none⟩=_:=r;clear hc hf S hB hz q1 q0 r0 r1 p0 r m1 P x0 x1 o;generalize Q.drewN nq=W at*;have d:=N.bd.gI m;generalize u:gI xs m=l at*;clear u;go_wp2
 go_loopw [10] (fun i wr=>∃(k:Nat) (R:List Int),k<m/\i=.int .i64 k/\Hid (R.length=m)/\Hid (jC wr g m R)/\Hid (jU R k l=jU (xs.take m) 0 l)/\Hid (aD (fun b=>b=g) W wr)) (fun i _=>m-(intOf i).toNat)
 case atStart=>exact⟨0,xs.take m,hm,rfl,Lib.hid (by rw[List.length_take,hl.out];omega),Lib.hid (N.take (by omega)),Lib.hid rfl,Lib.hid (aD.refl _ _)⟩
 case round=>
  obtain⟨k,R,hk,rfl,x,G,hI,L⟩:=hrel;have zo:k<60:=by omega
  have F:=G.lt;have E:=L.size;have f1:IntKind.i64.wrap (2*(k:Int))=2*k:=IntWalk.i64_in _ (by omega);have f2:IntKind.i64.wrap (2*(k:Int)+1)=2*k+1:=IntWalk.i64_in _ (by omega);have f3:IntKind.i64.wrap (2*(k:Int)+2)=2*k+2:=IntWalk.i64_in _ (by omega);have V:=kV R k;have C:eO R k<R.length/\gI R (eO R k)<l->jU R k l=jU (R.set k (gI R (eO R k))) (eO R k) l:=oG;have B:¬(eO R k<R.length/\gI R (eO R k)<l)->jU R k l=R.set k l:=kW;rw[x.out]at V C B;have zx:=Lib.hid C;have a:=Lib.hid B;clear C B;have b5:(k:Int)<m:=by omega
  have zk:=G.frozen k;have q:w.heap.size+1<wr.heap.size:=by omega
  refine Or.elim (Classical.em (2*k+1<m)) (fun r=>?aa) (fun r=>?ab)
  case' aa=>
   have q1:2*(k:Int)+1<m:=by omega
   have g1:=G.cell r;have S:=G.bd.gI (2*k+1);have d3:decide (2*(k:Int)+1<0)=false:=by simp;omega
   refine Or.elim (Classical.em (2*k+2<m)) (fun p2=>?ba) (fun p2=>?bb)
   case' ba=>
    have q2:2*(k:Int)+2<m:=by omega
    have g2:=G.cell p2;have zw:=G.bd.gI (2*k+2);have d4:decide (2*(k:Int)+2<0)=false:=by simp;omega
    generalize K:gI R (2*k+1)=s at*;generalize zy:gI R (2*k+2)=y2 at*;have zv:=Lib.hid K;have zu:=Lib.hid zy;clear K zy;refine Or.elim (Classical.em (y2<s)) (fun zr=>?ca) (fun zr=>?cb)
    case' ca=>
     have U:eO R k=2*k+2:=by rcases V with h|h<;>omega
     have z:=zu;have M:=Lib.hid U;clear V U;by_cases t:y2<l
    case' cb=>
     have U:eO R k=2*k+1:=by rcases V with h|h<;>omega
     have z:=zv;have zj:s<=y2:=by omega
     have M:=Lib.hid U;clear V U;by_cases t:s<l
   case' bb=>
    have d2:decide (2*(k:Int)+2<m)=false:=by simp;omega
    generalize K:gI R (2*k+1)=s at*;have z:=Lib.hid K;clear K;have U:eO R k=2*k+1:=by rcases V with h|h<;>omega
    have M:=Lib.hid U;clear V U;by_cases t:s<l
   all_goals
    first
    |have zt:=Lib.hid (zx.out (by rw[M.out,z.out];exact⟨by omega,t⟩))
    |(have y:=Lib.hid (a.out (by rw[M.out,z.out];omega))
      try have zn:l<=y2:=by omega
      try have zi:l<=s:=by omega)
    go_wp2;refine wp_loop_rounds 3 ?_;rw[rounds_succ];go_wp2
    go_quiet (fail)
    go_wp2
    rename Nat=>n1
    rw[rounds_succ];go_wp2
    go_quiet (fail)
    have Y:=Lib.hid (((G.alloc (.cells #[.int .i64 (2*(k:Int)+1),.int .i64 (2*(k:Int)+2)] 3)).drewN n1).drewN nq);have Z:=Lib.hid (((L.alloc (.cells #[.int .i64 (2*(k:Int)+1),.int .i64 (2*(k:Int)+2)] 3)).drewN n1).drewN nq);clear G L zk F q E g1
    try clear g2
    have zs:aY (((wr.alloc (.cells #[.int .i64 (2*(k:Int)+1),.int .i64 (2*(k:Int)+2)] 3)).drewN n1).drewN nq) wr.heap.size 3 #[.int .i64 (2*(k:Int)+1),.int .i64 (2*(k:Int)+2)]:=((aY.new wr 3 _).drewN n1).drewN nq;generalize((wr.alloc (.cells #[.int .i64 (2*(k:Int)+1),.int .i64 (2*(k:Int)+2)] 3)).drewN n1).drewN nq=W2 at*;have F:=Y.lt;have E:=Z.size;have zk:=Y.frozen k;have q:w.heap.size+1<W2.heap.size:=by omega
    have m2:¬w.heap.size+1=W2.heap.size:=by omega
    have t0:=(Z.cell (p:=⟨w.heap.size+1,0,none⟩) D (by show¬w.heap.size+1=g;omega)).trans s0;have t1:=(Z.cell (p:=⟨w.heap.size+1,1,none⟩) D (by show¬w.heap.size+1=g;omega)).trans s1;have z0:=(Z.frozen (p:=⟨w.heap.size+1,0,none⟩) D (by show¬w.heap.size+1=g;omega)).trans j;have z1:=(Z.frozen (p:=⟨w.heap.size+1,1,none⟩) D (by show¬w.heap.size+1=g;omega)).trans f
    first
    |(have xk:=Y.cell (i:=2*k+2) (by omega);rw[z.out]at xk)
    |(have xk:=Y.cell (i:=2*k+1) (by omega);rw[z.out]at xk)
    have xc:=Y.cell (i:=k) (by omega);go_wp2;rw[rounds_succ]
    first
    |(go_wp2
      first
      |refine⟨⟨2*k+2,R.set k y2,by omega,jW (by omega),Lib.hid (by rw[List.length_set];exact x),Lib.hid (Y.set zw (by omega)),Lib.hid ?_,Lib.hid (Z.set_ _ _)⟩,by simp [intOf];omega⟩
      |refine⟨⟨2*k+1,R.set k s,by omega,jW (by omega),Lib.hid (by rw[List.length_set];exact x),Lib.hid (Y.set S (by omega)),Lib.hid ?_,Lib.hid (Z.set_ _ _)⟩,by simp [intOf];omega⟩
      have h4:=zt.out;rw[M.out,z.out]at h4;exact h4.symm.trans hI)
    |(go_wp2_with (go_at_call 206;refine(eY _ _ _).mono ?_;rintro e w5 ⟨rfl,rfl⟩)
      refine bodyPost_ret (by simp [results,results200,go_sem,t0,t1,m2,q];try rfl;done) rfl ?_;refine fQ.alloc (dB ((Y.set d (i:=k) (by omega)).slo zz (by omega) O) (iE n (Z.set_ k (.int .i64 l)) (by omega)) ?_ ?_ ?_ ?_ (by rw[<-hI.out,y.out]) rfl rfl) _
      all_goals first|(show w.heap.size+1<w.heap.size+2;omega)|(show w.heap.size<=w.heap.size+1;omega))
  have d1:decide (2*(k:Int)+1<m)=false:=by simp;omega
  have d2:decide (2*(k:Int)+2<m)=false:=by simp;omega
  have y:=Lib.hid (a.out (by rcases V with h|h<;>omega))
  clear V;go_wp2;refine wp_loop_rounds 3 ?_;rw[rounds_succ];go_wp2
  go_quiet (fail)
  go_wp2
  rename Nat=>n1
  rw[rounds_succ];go_wp2
  go_quiet (fail)
  have Y:=Lib.hid (((G.alloc (.cells #[.int .i64 (2*(k:Int)+1),.int .i64 (2*(k:Int)+2)] 3)).drewN n1).drewN nq);have Z:=Lib.hid (((L.alloc (.cells #[.int .i64 (2*(k:Int)+1),.int .i64 (2*(k:Int)+2)] 3)).drewN n1).drewN nq);clear G L zk F q E;have zs:aY (((wr.alloc (.cells #[.int .i64 (2*(k:Int)+1),.int .i64 (2*(k:Int)+2)] 3)).drewN n1).drewN nq) wr.heap.size 3 #[.int .i64 (2*(k:Int)+1),.int .i64 (2*(k:Int)+2)]:=((aY.new wr 3 _).drewN n1).drewN nq;generalize((wr.alloc (.cells #[.int .i64 (2*(k:Int)+1),.int .i64 (2*(k:Int)+2)] 3)).drewN n1).drewN nq=W2 at*;have F:=Y.lt;have E:=Z.size;have zk:=Y.frozen k;have q:w.heap.size+1<W2:=I;have m2:¬w.heap.size+1=W2:=I;have t0:=(Z.cell (p:=⟨w+1,0,none⟩) D (by show¬w+1=g;omega)).trans s0;have t1:=(Z.cell (p:=⟨w+1,1,none⟩) D (by show¬w+1=g;omega)).trans s1;have z0:=(Z.frozen (p:=⟨w+1,0,none⟩) D (by show¬w+1=g;omega)).trans j;have z1:=(Z.frozen (p:=⟨w+1,1,none⟩) D (by show¬w+1=g;omega)).trans f;have xc:=Y.cell (i:=k) I;go_wp2;rw[rounds_succ]
  go_wp2_with (go_at_call 206;refine(eY _ _ _).mono ?_;rintro e w5 ⟨rfl,rfl⟩)
  refine bodyPost_ret (by simp [results,results200,go_sem,t0,t1,m2,q];try rfl;done) rfl ?_;refine fQ.alloc (dB ((Y.set d (i:=k) I).slo zz I O) (iE n (Z.set_ k l) I) ?_ ?_ ?_ ?_ (by rw[<-hI.out,y.out]) rfl rfl) _
  all_goals first|(show w.heap.size+1<w+2;omega)|(show w.heap.size<=w+1;omega)
theorem OX(A:Option Addr)(n c:Nat)(xs:List Int)(k v:Int)(w:World)(h:fI w A n c xs)(r:n<=60)(E: -9223372036854775808<=v/\v<=9223372036854775807)(b:6<=n):
 Calls prog 200 #[.slice A n c,.agg #[(1:Int),k,v]] w (fQ (iA xs 1 v false 0) (gZ xs 1) (gY xs 1 0) w):=by
 have H:=aH h;clear h;have R:=aH E;clear E;have D:bV 1 1 6=true:=by decide
 have q:decide ((n:Int)<6)=false:=by rw[decide_eq_false_iff_not];omega
 go_enter func200,ntmps200
 go_wp2_with (first
  |(at_builtin;refine cY rfl (.const (.slice none 0 0)) (.tmp 14) rfl rfl rfl (H.below (by go_grown)) I ?_;intro s c1 U Z X;obtain⟨L,K⟩:=cJ X;have C:=X.size;simp only[World.size_alloc]at C;have B:Below w w U:=Below.trans (by go_grown) (X.mono (by simp;omega));replace Z:=Z.mono (B':=w+2) (by simp);have V:w.heap.size+1<U:=I;have p:w.heap.size<U:=I;have Y:=aH Z;clear Z;have P:=L (w,1) 0 (by simp);have O:=L (w,1) 1 (by simp);have N:=K (w,1) 0 (by simp);have M:=K (w,1) 1 (by simp);simp [go_sem]at P O N M;have o:¬w.heap.size+1=U:=I)
  |(go_at_call 55;refine(bQ _ _ _ _).mono ?_;rintro e j ⟨rfl,rfl⟩)
  |(go_at_call 206;refine(eY _ _ _).mono ?_;rintro e i ⟨rfl,rfl⟩)
  |(go_at_call 207;refine(mF s n c1 xs 1 k v false 0 0 U (Y.sli H.bd) r R (fun h=>⟨rfl,h⟩)).mono ?_;rintro e G ⟨g,f,d,rfl,F,W⟩;have z:=W.size;obtain⟨T,S⟩:=cJ W;have y:=(T (w,1) 0 V).trans P;have x:=(T (w,1) 1 V).trans O;have m:=(S (w,1) 0 V).trans N;have l:=(S (w,1) 1 V).trans M;have u:w.heap.size+1<G:=I;have t:¬w.heap.size+1=G:=I;have Q:=aH F;clear F))
 all_goals(refine bodyPost_ret (by simp [results,results200,go_sem,y,x,u,t];try rfl;done) rfl ?_)
 exact oY Q B W V V (by show w.heap.size<=w+1;omega) (by show w.heap.size<=w+1;omega)
theorem MH(A:Option Addr)(n c:Nat)(xs:List Int)(k v:Int)(w:World)(h:fI w A n c xs)(r:n<=60)(E: -9223372036854775808<=v/\v<=9223372036854775807)(b:n<=0):
 Calls prog 200 #[.slice A n c,.agg #[(2:Int),k,v]] w (fQ (iA xs 2 v false 0) (gZ xs 2) (gY xs 2 0) w):=by
 have H:=aH h;clear h;have R:=aH E;clear E;have D:bV 2 1 6=true:=by decide
 have q:decide (0<(n:Int))=false:=by rw[decide_eq_false_iff_not];omega
 go_enter func200,ntmps200
 go_wp2_with (first
  |(at_builtin;refine cY rfl (.const (.slice none 0 0)) (.tmp 14) rfl rfl rfl (H.below (by go_grown)) I ?_;intro s c1 U Z X;obtain⟨L,K⟩:=cJ X;have C:=X.size;simp only[World.size_alloc]at C;have B:Below w w U:=Below.trans (by go_grown) (X.mono (by simp;omega));replace Z:=Z.mono (B':=w+2) (by simp);have V:w.heap.size+1<U:=I;have p:w.heap.size<U:=I;have Y:=aH Z;clear Z;have P:=L (w,1) 0 (by simp);have O:=L (w,1) 1 (by simp);have N:=K (w,1) 0 (by simp);have M:=K (w,1) 1 (by simp);simp [go_sem]at P O N M;have o:¬w.heap.size+1=U:=I)
  |(go_at_call 55;refine(bQ _ _ _ _).mono ?_;rintro e j ⟨rfl,rfl⟩)
  |(go_at_call 206;refine(eY _ _ _).mono ?_;rintro e i ⟨rfl,rfl⟩)
  |(go_at_call 207;refine(mF s n c1 xs 2 k v false 0 0 U (Y.sli H.bd) r R (fun h=>⟨rfl,h⟩)).mono ?_;rintro e G ⟨g,f,d,rfl,F,W⟩;have z:=W.size;obtain⟨T,S⟩:=cJ W;have y:=(T (w,1) 0 V).trans P;have x:=(T (w,1) 1 V).trans O;have m:=(S (w,1) 0 V).trans N;have l:=(S (w,1) 1 V).trans M;have u:w.heap.size+1<G:=I;have t:¬w.heap.size+1=G:=I;have Q:=aH F;clear F))
 all_goals(refine bodyPost_ret (by simp [results,results200,go_sem,y,x,u,t];try rfl;done) rfl ?_)
 exact oY Q B W V V (by show w.heap.size<=w+1;omega) (by show w.heap.size<=w+1;omega)
theorem xN(j:Int)(r:j=5\/j=6)(A:Option Addr)(n c:Nat)(xs:List Int)(k v:Int)(w:World)(h:fI w A n c xs)(p:n<=60)(E: -9223372036854775808<=v/\v<=9223372036854775807):
 Calls prog 200 #[.slice A n c,.agg #[j,k,v]] w (fQ (iA xs j v false 0) (gZ xs j) (gY xs j 0) w):=by
 have q:Tg j:=rfl;rcases r with rfl|rfl
 all_goals
  have H:=aH h;clear h;have R:=aH E;clear E;have D:bV q 1 6=true:=by decide
  go_enter func200,ntmps200
  go_wp2_with (first
   |(at_builtin;refine cY rfl (.const (.slice none 0 0)) (.tmp 14) rfl rfl rfl (H.below (by go_grown)) I ?_;intro s c1 U Z X;obtain⟨L,K⟩:=cJ X;have C:=X.size;simp only[World.size_alloc]at C;have B:Below w w U:=Below.trans (by go_grown) (X.mono (by simp;omega));replace Z:=Z.mono (B':=w+2) (by simp);have V:w.heap.size+1<U:=I;have o:w.heap.size<U:=I;have Y:=aH Z;clear Z;have P:=L (w,1) 0 (by simp);have O:=L (w,1) 1 (by simp);have N:=K (w,1) 0 (by simp);have M:=K (w,1) 1 (by simp);simp [go_sem]at P O N M;have m:¬w.heap.size+1=U:=I)
   |(go_at_call 55;refine(bQ _ _ _ _).mono ?_;rintro e g ⟨rfl,rfl⟩)
   |(go_at_call 206;refine(eY _ _ _).mono ?_;rintro e f ⟨rfl,rfl⟩)
   |(go_at_call 207;refine(mF s n c1 xs q k v false 0 0 U (Y.sli H.bd) p R (fun h=>⟨rfl,h⟩)).mono ?_;rintro e G ⟨d,b,a,rfl,F,W⟩;have z:=W.size;obtain⟨T,S⟩:=cJ W;have y:=(T (w,1) 0 V).trans P;have x:=(T (w,1) 1 V).trans O;have l:=(S (w,1) 0 V).trans N;have i:=(S (w,1) 1 V).trans M;have u:w.heap.size+1<G:=I;have t:¬w.heap.size+1=G:=I;have Q:=aH F;clear F))
  all_goals(refine bodyPost_ret (by simp [results,results200,go_sem,y,x,u,t];try rfl;done) rfl ?_)
  exact oY Q B W V V (by show w.heap.size<=w+1;omega) (by show w.heap.size<=w+1;omega)
theorem yN(A:Option Addr)(n c:Nat)(xs:List Int)(a k v:Int)(w:World)(h:fI w A n c xs)(y:n<=60)(G:¬(a=1\/a=2\/a=5\/a=6)):
 Calls prog 200 #[.slice A n c,.agg #[a,k,v]] w (fQ xs 5 0 w):=by
 have H:=aH h;clear h;have z:=aH G;by_cases V:a=3\/a=4
 all_goals have F:=aH V
 .have K:bV a 1 6=true:=by simp [bV];omega
  rcases V with rfl|rfl
  all_goals clear G
  all_goals
   go_enter func200,ntmps200
   go_wp2_with (first
    |(at_builtin;refine cY rfl (.const (.slice none 0 0)) (.tmp 14) rfl rfl rfl (H.below (by go_grown)) I ?_;intro D c1 W Z X;obtain⟨S,R⟩:=cJ X;have Q:=X.size;simp only[World.size_alloc]at Q;have P:Below w w W:=Below.trans (by go_grown) (X.mono (by simp;omega));replace Z:=Z.mono (B':=w+2) (by simp);have O:w.heap.size+1<W:=I;have E:w.heap.size<W:=I;have Y:=aH Z;clear Z;have U:=S (w,1) 0 (by simp);have T:=S (w,1) 1 (by simp);have N:=R (w,1) 0 (by simp);have M:=R (w,1) 1 (by simp);simp [go_sem]at U T N M;have L:¬w.heap.size+1=W:=I)
    |(go_at_call 55;refine(bQ _ _ _ _).mono ?_;rintro e C ⟨rfl,rfl⟩)
    |(go_at_call 206;refine(eY _ _ _).mono ?_;rintro e B ⟨rfl,rfl⟩))
   all_goals(refine bodyPost_ret (by simp [results,results200,go_sem,U,T,O,L];try rfl;done) rfl ?_)
   refine fQ.alloc (dB (Y.slo H.bd) P ?_ ?_ ?_ ?_ rfl rfl rfl) _
   all_goals first|(show w.heap.size+1<w+2;omega)|(show w.heap.size<=w+1;omega)
 have K:bV a 1 6=false:=by simp [bV];omega
 clear G V
 go_enter func200,ntmps200
 go_wp2_with (first
  |(at_builtin;refine cY rfl (.const (.slice none 0 0)) (.tmp 14) rfl rfl rfl (H.below (by go_grown)) I ?_;intro D c1 W Z X;obtain⟨S,R⟩:=cJ X;have Q:=X.size;simp only[World.size_alloc]at Q;have P:Below w w W:=Below.trans (by go_grown) (X.mono (by simp;omega));replace Z:=Z.mono (B':=w+2) (by simp);have O:w.heap.size+1<W:=I;have E:w.heap.size<W:=I;have Y:=aH Z;clear Z;have U:=S (w,1) 0 (by simp);have T:=S (w,1) 1 (by simp);have N:=R (w,1) 0 (by simp);have M:=R (w,1) 1 (by simp);simp [go_sem]at U T N M;have L:¬w.heap.size+1=W:=I)
  |(go_at_call 55;refine(bQ _ _ _ _).mono ?_;rintro e C ⟨rfl,rfl⟩)
  |(go_at_call 206;refine(eY _ _ _).mono ?_;rintro e B ⟨rfl,rfl⟩))
 all_goals(refine bodyPost_ret (by simp [results,results200,go_sem,U,T,O,L];try rfl;done) rfl ?_)
 refine fQ.alloc (dB (Y.slo H.bd) P ?_ ?_ ?_ ?_ rfl rfl rfl) _
 all_goals first|(show w.heap.size+1<w+2;omega)|(show w.heap.size<=w+1;omega)
theorem FA(A:Option Addr)(n c:Nat)(xs:List Int)(a k v:Int)(w:World)(h:fI w A n c xs)(V:n<=60)(T: -9223372036854775808<=v/\v<=9223372036854775807):
 Calls prog 200 #[.slice A n c,.agg #[a,k,v]] w (fQ (gD xs a v) (gM xs a) (gK xs a) w):=by
 have W:=h.len;by_cases R:a=1
 .subst R;by_cases U:n<6
  .have X:gD xs 1 v=jS (xs++[v]) n:=by simp [gD,W,U]
   have Z:gM xs 1=1:=by simp [gM,W,U]
   have Y:gK xs 1=0:=by simp [gK]
   rw[X,Z,Y];exact EX A n c xs k v w h U T
  have X:gD xs 1 v=iA xs 1 v false 0:=by simp [gD,iA,W,U]
  have Z:gM xs 1=gZ xs 1:=by simp [gM,gZ,W,U]
  have Y:gK xs 1=gY xs 1 0:=by simp [gK,gY]
  rw[X,Z,Y];exact OX A n c xs k v w h V T I
 by_cases S:a=2
 .subst S;rcases n with _|m
  .obtain rfl:xs=[]:=List.eq_nil_of_length_eq_zero W;have X:gD [] 2 v=iA [] 2 v false 0:=by simp [gD,iA,vY]
   have Z:gM [] 2=gZ [] 2:=by simp [gM,gZ]
   have Y:gK [] 2=gY [] 2 0:=by simp [gK,gY,gI]
   rw[X,Z,Y];exact MH A 0 c [] k v w h V T (Nat.le_refl _)
  have X:gD xs 2 v=jU (xs.take m) 0 (gI xs m):=by simp [gD,W]
  have Z:gM xs 2=1:=by simp [gM,W]
  have Y:gK xs 2=gI xs 0:=by simp [gK]
  rw[X,Z,Y];rcases Nat.eq_zero_or_pos m with hm|hm
  .have:=yP A m c xs k v w h hm;subst hm;rw[List.take_zero,vY];exact this
  exact AP A m c xs k v w h V hm
 by_cases Q:a=5
 .subst Q;have X:gD xs 5 v=iA xs 5 v false 0:=by simp [gD,iA]
  have Z:gM xs 5=gZ xs 5:=by simp [gM,gZ]
  have Y:gK xs 5=gY xs 5 0:=by
   rcases xs with _|⟨x,xs⟩<;>simp [gK,gY,gI]
  rw[X,Z,Y];exact xN 5 (.inl rfl) A n c xs k v w h V T
 by_cases P:a=6
 .subst P;have X:gD xs 6 v=iA xs 6 v false 0:=by simp [gD,iA]
  have Z:gM xs 6=gZ xs 6:=by simp [gM,gZ]
  have Y:gK xs 6=gY xs 6 0:=by simp [gK,gY]
  rw[X,Z,Y];exact xN 6 (.inr rfl) A n c xs k v w h V T
 have X:gD xs a v=xs:=by simp [gD,R,S]
 have Z:gM xs a=5:=by simp [gM,R,S,Q,P]
 have Y:gK xs a=0:=by simp [gK,S,Q,P]
 rw[X,Z,Y];exact yN A n c xs a k v w h V I
theorem yV(C:Array Value)(z:Nat->Int)(key:Nat)(w:World)(h:eB C 16 z)(hk:key<=1000):
 Calls prog 208 #[.agg C,key] w fun e w'=>e=.returned (kF z key)/\Below w w w':=by
 have H:=aH h;clear h;have R:Hid (aY (w.alloc (.cells C 129)) w 129 C):=aY.new _ _ _
 go_enter func208,ntmps208
 go_wp2_with (go_at_call 203;refine(LQ key _ hk).mono ?_;rintro e G ⟨A,c,rfl,v,W⟩;have Q:=W.size;simp only[World.size_alloc]at Q;have P:=aH v;have O:=aH (R.below W (by simp));have N:Below w w G:=Below.trans (by go_grown) (W.mono (by simp));clear v)
 obtain⟨b,F,rfl,u,X⟩:=P.sli.at_ I;have p:=P.sli.cap63;have E:=P.sli.cap;have o:=aH X;clear X W
 go_loop [10] (fun i=>∃k:Nat,k<=8/\i=.int .i64 k/\Hid (∀j,j<k->gL z key j=false)) (fun i=>8-(intOf i).toNat)
 case atStart=>exact⟨0,I,rfl,fun j t=>absurd t I⟩
 case round=>
  obtain⟨k,zz,rfl,U⟩:=hrel;by_cases T:k<8
  .have b1:(k:Int)<8:=I;have n:=mY key k;have c0:G.cell? (b,F+k)=((dR key k:Nat):Int):=by rw[o.out k T,wP key 8 k T]
   have c1:G.cell? (w.heap.size,dR key k*2)=(z (2*dR key k)):=by rw[Nat.mul_comm,O.cell,H.get _ I]
   generalize s:dR key k=r at*;have D:=aH s;clear s;have m:(r:Int)<8:=I;generalize q:z (2*r)=y at*;have l:=aH q;clear q;have M:Hid (gL z key k=decide (y=key\/y=0)):=by unfold gL;rw[D.out,l.out];exact rfl
   have B:Hid (gL z key k=true->kF z key=(r:Int)):=fun hh=>by
    have g:=mC T hh U;unfold kF;rw[g,<-D.out]
   by_cases Z:y=key
   .have f:(y==(key:Int))=true:=by simpa using Z
    have S:=B.out (by rw[M.out];simpa using .inl Z);have L:=aH S;clear Z S;go_wp2;go_ret;exact⟨gU L.symm,N⟩
   have f:(y==(key:Int))=false:=by simpa using Z
   by_cases Y:y=0
   .have d:(y==0)=true:=by simpa using Y
    have S:=B.out (by rw[M.out];simpa using .inr Y);have L:=aH S;clear Z S Y;go_wp2;go_ret;exact⟨gU L.symm,N⟩
   have d:(y==0)=false:=by simpa using Y
   have V:gL z key k=false:=by rw[M.out];simp [Z,Y]
   have K:=aH V;clear Z Y V;go_wp2;refine⟨⟨k+1,I,aG,aH fun j t=>?_⟩,by simp [intOf];omega⟩;rcases Nat.lt_or_ge j k with h|h
   .exact U j h
   obtain rfl:j=k:=I;exact K
  obtain rfl:k=8:=I;have x:=pJ U;have a:Hid (kF z key= -1):=by unfold kF;rw[x];exact rfl
  clear x;go_wp2;go_ret;exact⟨gU a.symm,N⟩
theorem LX(C:Array Value)(z:Nat->Int)(key:Int)(w:World)(h:eB C 16 z)(Z:0<=key)(Y:key<=1000):
 Calls prog 208 #[.agg C,key] w fun e w'=>e=.returned (kF z key.toNat)/\Below w w w':=by
 obtain⟨q,rfl⟩:=Int.eq_ofNat_of_zero_le Z;simpa using yV C z q w h I
theorem rL:(prog.info? 129).map (·.size)=some 16:=J
theorem IW(C:Array Value)(z:Nat->Int)(k v:Int)(w:World)(h:eB C 16 z):
 Calls prog 201 #[.agg C,.agg #[(6:Int),k,v]] w (oL z 1 (eV z 8) w):=by
 have H:=aH h;have U:=h.size;have Y:Hid ((prog.info? 129).map (·.size)=some C.size):=by show _=_;rw[U,rL]
 have T:Hid (C.size=16):=U;have N:=h.one;clear h U
 go_enter func201,ntmps201
 go_upto_region 1 with(fail)
 have S:=qP w 129 C 6 k v;generalize(((w.alloc (.cells C 129)).alloc (.cells #[(6:Int),k,v] 39)).alloc (.cells (16:Int) 129)).alloc (.cells (2:Int) 44)=W at*;have X:=aH S;obtain⟨⟨E,D,B⟩,_,F⟩:=S.ops;clear S;go_wp2;refine bK 4 bN [] J J ?_
 iterate 4
  refine aC (fun K V=>?_)
  first
  |(refine .inl ?_
    apply Exists.intro;refine⟨cX,?_,V _ _ _ _ ?_⟩
    .simp only[bJ,bM];refine⟨?_,fun w9 hw9 _=>?_⟩
     .first|rfl|(go_simp;done)
     obtain⟨hc9,hf9⟩:=hw9.all
     first
     |(exact bT 129 _ rfl w rfl 129 C _ (X.out.on hw9.same).tab underlying129 rfl Y.out ⟨⟨rfl,trivial⟩,aD.refl _ _⟩)
     |(go_simp
       first
       |exact⟨⟨rfl,trivial⟩,aD.refl _ _⟩
       |(go_at_call 206;exact bS (gX _ _ _))|(go_at_call 204;exact bS (rP C z _ H.out)))
    clear V K
    try simp only[Act.put,List.setIfInBounds_toArray,List.set_cons_zero,List.set_cons_succ])
  |(refine .inr (.inl ⟨?_,V _ _ _ _ ?_⟩)
    .simp only[bM]
     first|rfl|(go_simp;done)
    clear V K
    try simp only[Act.put,List.setIfInBounds_toArray,List.set_cons_zero,List.set_cons_succ])
 refine cP ?_;simp only[bM];intro w9 hw9 _;obtain⟨hc9,hf9⟩:=hw9.all;simp only[List.drop_succ_cons,List.drop_zero];have Z:=X.out.on hw9.same;have R:=aH Z;obtain⟨⟨A,c1⟩,y,x⟩:=Z.row C;obtain⟨Q,P,O⟩:=Z.fin C 1 (eV z 8);have M:=aH Q;have L:=aH P;have G:=aH O;clear Q P O Z
 go_wp2_with (refine wpList_store_row rfl 129 _ _ rfl (w,2) C rfl rfl 129 (16:Int) ?_ ?_ ?_ N ?_;(exact R.out.res);(exact Y.out);(rw[T.out];rfl))
 exact bodyPost_ret (bY results201 _ _ (w,2) (w,3) 129 44 C #[(1:Int),(eV z 8)] _ _ rfl rfl M.out L.out underlying129 rfl Y.out underlying44 rfl lK) rfl ⟨C,H.out,rfl,G.out⟩
theorem KG(C:Array Value)(z:Nat->Int)(a k v:Int)(w:World)(h:eB C 16 z)(N:a≠6)(M:¬(a=1\/a=2\/a=5)\/k<1\/1000<k):
 Calls prog 201 #[.agg C,.agg #[a,k,v]] w (oL z 5 0 w):=by
 have H:=aH h;have U:=h.size;have Z:Hid ((prog.info? 129).map (·.size)=some C.size):=by show _=_;rw[U,rL]
 have T:Hid (C.size=16):=U;have L:=h.one;clear h U;have A:(a==6)=false:=by simpa using N
 have G:=aH M;clear M N
 go_enter func201,ntmps201
 go_upto_region 1 with(fail)
 have S:=qP w 129 C a k v;generalize(((w.alloc (.cells C 129)).alloc (.cells #[a,k,v] 39)).alloc (.cells (16:Int) 129)).alloc (.cells (2:Int) 44)=W at*;have X:=aH S;obtain⟨⟨x,u,t⟩,_,B⟩:=S.ops;clear S
 go_wp2_with (first
  |(go_at_call 55;refine(bQ _ _ _ _).mono ?_;rintro e s ⟨rfl,rfl⟩)
  |(refine wpList_load_row rfl 129 _ rfl w rfl 129 C (0,0) _ ?_ underlying129 rfl ?_ ?_;(exact X.out.tab);(exact Z.out))
  |(go_at_call 208;exfalso;have y:=G.out;simp only[bV,decide_eq_true_eq,decide_eq_false_iff_not,Bool.not_eq_true',Bool.not_eq_false',bne_iff_ne,bne_eq_false_iff_eq,beq_iff_eq,beq_eq_false_iff_ne,ne_eq]at*;omega))
 all_goals
  refine bK 2 bN [] J J ?_
  iterate 2
   refine aC (fun K V=>?_)
   first
   |(refine .inl ?_
     apply Exists.intro;refine⟨cX,?_,V _ _ _ _ ?_⟩
     .simp only[bJ,bM];refine⟨?_,fun w9 hw9 _=>?_⟩
      .first|rfl|(go_simp;done)
      obtain⟨hc9,hf9⟩:=hw9.all
      first
      |(exact bT 129 _ rfl w rfl 129 C _ (X.out.on hw9.same).tab underlying129 rfl Z.out ⟨⟨rfl,trivial⟩,aD.refl _ _⟩)
      |(go_simp
        first
        |exact⟨⟨rfl,trivial⟩,aD.refl _ _⟩
        |(go_at_call 206;exact bS (gX _ _ _)))
     clear V K
     try simp only[Act.put,List.setIfInBounds_toArray,List.set_cons_zero,List.set_cons_succ])
   |(refine .inr (.inl ⟨?_,V _ _ _ _ ?_⟩)
     .simp only[bM]
      first|rfl|(go_simp;done)
     clear V K
     try simp only[Act.put,List.setIfInBounds_toArray,List.set_cons_zero,List.set_cons_succ])
  refine cP ?_;simp only[bM];intro w9 hw9 _;obtain⟨hc9,hf9⟩:=hw9.all;simp only[List.drop_succ_cons,List.drop_zero];have Y:=X.out.on hw9.same;have R:=aH Y;obtain⟨⟨r,c1⟩,q,p⟩:=Y.row C;obtain⟨Q,P,O⟩:=Y.fin C 5 0;have F:=aH Q;have E:=aH P;have D:=aH O;clear Q P O Y
  go_wp2_with (refine wpList_store_row rfl 129 _ _ rfl (w,2) C rfl rfl 129 (16:Int) ?_ ?_ ?_ L ?_;(exact R.out.res);(exact Z.out);(rw[T.out];rfl))
  exact bodyPost_ret (bY results201 _ _ (w,2) (w,3) 129 44 C #[(5:Int),(0:Int)] _ _ rfl rfl F.out E.out underlying129 rfl Z.out underlying44 rfl lK) rfl ⟨C,H.out,rfl,D.out⟩
def BY(i n:Nat):List Int:=(List.range n).map fun x=>((kk i x:Nat):Int)
theorem OZ(i n:Nat):BY i (n+1)=BY i n++[((kk i n:Nat):Int)]:=by
 unfold BY;rw[List.range_succ,List.map_append];rfl
theorem EM(i n j:Nat)(Z:j<n):(BY i n)[j]?.getD 0=kk i j:=by
 unfold BY;rw[List.getElem?_map,List.getElem?_range Z];rfl
theorem XX(i n:Nat):nJ (BY i n):=fun j=>by
 rcases Nat.lt_or_ge j n with h|h
 .rw[EM i n j h];have:=vD i j;omega
 rw[List.getElem?_eq_none (by simp [BY];omega)];decide
theorem mL{l j:Int}{b:Bool}{R:Ending->World->Prop}(C:Array Value)(z:Nat->Int)(key i:Nat)(v y:Int)(w:World)(h:eB C 16 z)(xg:1<=key)(xz:key<=1000)(xf:i<8)(o:kF z key=(i:Int))(hy:z (2*i)=y)(xe:(y==0)=b)(hl:eV z 8=l)
 (hc:(b=true/\(j=2\/j=5)/\R=oL z 4 0 w)\/
   (b=false/\j=5/\R=oL z 1 (z (2*i+1)) w)\/
   (b=true/\j=1/\R=oL z 3 0 w/\(l==6)=true)\/
   (b=true/\j=1/\R=oL (setS z i key v) 1 0 w/\(l==6)=false/\Hid (-9223372036854775808<=v/\v<=9223372036854775807))\/
   (b=false/\j=1/\R=oL (setS z i key v) 1 0 w/\Hid (-9223372036854775808<=v/\v<=9223372036854775807))\/
   (b=false/\j=2/\∃m,R=oL (iX z i m) 1 (z (2*i+1)) w/\Hid (vI z i m/\∃D,eB D 16 (iX z i m)))):
 Calls prog 201 #[.agg C,.agg #[j,key,v]] w R:=by
 have q:Tg j:=rfl;have H:=aH h;have hI:=h.size;have S:Hid ((prog.info? 129).map (·.size)=some C.size):=by show _=_;rw[hI,rL]
 have zs:Hid (C.size=16):=hI;have h1:=h.one;clear h hI;have yt:=aH o;have HY:=aH hy;have xy:(i:Int)<8:=I;have xp:(1:Int)<=key:=I;have xo:(key:Int)<=1000:=I;have xn:bV (key:Int) 1 1000=true:=by simp [bV];omega
 clear o hy;have zk:=aH hl;clear hl;rcases hc with⟨rfl,hj,rfl⟩|⟨rfl,rfl,rfl⟩|⟨rfl,rfl,rfl,yg⟩|⟨rfl,rfl,rfl,yg,hs⟩|⟨rfl,rfl,rfl,hs⟩|⟨rfl,rfl,m,rfl,hs⟩
 case' inl=>rcases hj with rfl|rfl
 all_goals
  have xm:bV q 1 6=true:=by decide
  go_enter func201,ntmps201
  go_upto_region 1 with(fail)
  have hL:=qP w 129 C q (key:Int) v;generalize(((w.alloc (.cells C 129)).alloc (.cells #[q,key,v] 39)).alloc (.cells (16:Int) 129)).alloc (.cells (2:Int) 44)=W at*;have zj:=aH hL;obtain⟨⟨o0,o1,o2⟩,_,yf⟩:=hL.ops;clear hL
  go_wp2_with (first
   |(go_at_call 55;refine(bQ _ _ _ _).mono ?_;rintro e w' ⟨rfl,rfl⟩)
   |(refine wpList_load_row rfl 129 _ rfl w rfl 129 C (0,0) _ ?_ underlying129 rfl ?_ ?_;(exact zj.out.tab);(exact S.out))
   |(go_at_call 208;refine(yV C z key _ H.out xz).mono ?_;rintro e w1 ⟨rfl,ye⟩;rw[yt.out];have F:=zj.out.on ye;have O:=aH F;obtain⟨⟨p0,p1,p2⟩,_,yz⟩:=F.ops;have y0:w1.cell? (w.heap.size,i*2)=y:=(by rw[F.tab.cell,Nat.mul_comm,H.out.get _ I,HY.out]);have y1:w1.cell? (w.heap.size,i*2+1)=(z (2*i+1)):=(by rw[F.tab.cell,Nat.mul_comm,H.out.get _ I]);have f0:w1.frozen? ⟨w.heap.size,i*2,none⟩=false:=F.tab.frozen _;have f1:w1.frozen? ⟨w.heap.size,i*2+1,none⟩=false:=F.tab.frozen _;have ys:w.heap.size<w1:=I;clear F o0 o1 o2 yf)
   |(refine eM ?_ 129 _ rfl w rfl 129 C (0,0) _ ?_ underlying129 rfl ?_ ?_;(first|rfl|(go_simp;done));(exact O.out.tab);(exact S.out))
   |(go_at_call 204;refine(rP C z _ H.out).mono ?_;rintro e w3 ⟨rfl,yd⟩;rw[zk.out];have Q:=O.out.on yd;have u:=aH Q;obtain⟨⟨q0,q1,q2⟩,_,zh⟩:=Q.ops;have x0:w3.cell? (w.heap.size,i*2)=y:=(by rw[Q.tab.cell,Nat.mul_comm,H.out.get _ I,HY.out]);have x1:w3.cell? (w.heap.size,i*2+1)=(z (2*i+1)):=(by rw[Q.tab.cell,Nat.mul_comm,H.out.get _ I]);have g0:w3.frozen? ⟨w.heap.size,i*2,none⟩=false:=Q.tab.frozen _;have g1:w3.frozen? ⟨w.heap.size,i*2+1,none⟩=false:=Q.tab.frozen _;have xx:w.heap.size<w3:=I;clear Q))
 iterate 2
  .skip
   refine bK 2 bN [] J J ?_
   iterate 2
    refine aC (fun K Y=>?_)
    first
    |(refine .inl ?_
      apply Exists.intro;refine⟨cX,?_,Y _ _ _ _ ?_⟩
      .simp only[bJ,bM];refine⟨?_,fun w9 hw9 _=>?_⟩
       .first|rfl|(go_simp;done)
       obtain⟨hc9,hf9⟩:=hw9.all
       first
       |(exact bT 129 _ rfl w rfl 129 C _ (O.out.on hw9.same).tab underlying129 rfl S.out ⟨⟨rfl,trivial⟩,aD.refl _ _⟩)
       |(go_simp
         first
         |exact⟨⟨rfl,trivial⟩,aD.refl _ _⟩
         |(go_at_call 206;exact bS (gX _ _ _)))
      clear Y K
      try simp only[Act.put,List.setIfInBounds_toArray,List.set_cons_zero,List.set_cons_succ])
    |(refine .inr (.inl ⟨?_,Y _ _ _ _ ?_⟩)
      .simp only[bM]
       first|rfl|(go_simp;done)
      clear Y K
      try simp only[Act.put,List.setIfInBounds_toArray,List.set_cons_zero,List.set_cons_succ])
   refine cP ?_;simp only[bM];intro w9 hw9 _;obtain⟨hc9,hf9⟩:=hw9.all;simp only[List.drop_succ_cons,List.drop_zero];have Z:=O.out.on hw9.same;have P:=aH Z;obtain⟨⟨c0,c1⟩,f0,f1⟩:=Z.row C;obtain⟨M,L,G⟩:=Z.fin C 4 0;have g:=aH M;have f:=aH L;have d:=aH G;clear M L G Z
   go_wp2_with (refine wpList_store_row rfl 129 _ _ rfl (w,2) C rfl rfl 129 (16:Int) ?_ ?_ ?_ h1 ?_;(exact P.out.res);(exact S.out);(rw[zs.out];rfl))
   exact bodyPost_ret (bY results201 _ _ (w,2) (w,3) 129 44 C #[(4:Int),(0:Int)] _ _ rfl rfl g.out f.out underlying129 rfl S.out underlying44 rfl lK) rfl ⟨C,H.out,rfl,d.out⟩
 .skip
  refine bK 3 bN [] J J ?_
  iterate 3
   refine aC (fun K Y=>?_)
   first
   |(refine .inl ?_
     apply Exists.intro;refine⟨cX,?_,Y _ _ _ _ ?_⟩
     .simp only[bJ,bM];refine⟨?_,fun w9 hw9 _=>?_⟩
      .first|rfl|(go_simp;done)
      obtain⟨hc9,hf9⟩:=hw9.all
      first
      |(exact bT 129 _ rfl w rfl 129 C _ (O.out.on hw9.same).tab underlying129 rfl S.out ⟨⟨rfl,trivial⟩,aD.refl _ _⟩)
      |(go_simp
        first
        |exact⟨⟨rfl,trivial⟩,aD.refl _ _⟩
        |(go_at_call 206;exact bS (gX _ _ _)))
     clear Y K
     try simp only[Act.put,List.setIfInBounds_toArray,List.set_cons_zero,List.set_cons_succ])
   |(refine .inr (.inl ⟨?_,Y _ _ _ _ ?_⟩)
     .simp only[bM]
      first|rfl|(go_simp;done)
     clear Y K
     try simp only[Act.put,List.setIfInBounds_toArray,List.set_cons_zero,List.set_cons_succ])
  refine cP ?_;simp only[bM];intro w9 hw9 _;obtain⟨hc9,hf9⟩:=hw9.all;simp only[List.drop_succ_cons,List.drop_zero];have Z:=O.out.on hw9.same;have P:=aH Z;obtain⟨⟨c0,c1⟩,f0,f1⟩:=Z.row C;obtain⟨M,L,G⟩:=Z.fin C 1 (z (2*i+1));have g:=aH M;have f:=aH L;have d:=aH G;clear M L G Z
  go_wp2_with (refine wpList_store_row rfl 129 _ _ rfl (w,2) C rfl rfl 129 (16:Int) ?_ ?_ ?_ h1 ?_;(exact P.out.res);(exact S.out);(rw[zs.out];rfl))
  exact bodyPost_ret (bY results201 _ _ (w,2) (w,3) 129 44 C #[(1:Int),(z (2*i+1))] _ _ rfl rfl g.out f.out underlying129 rfl S.out underlying44 rfl lK) rfl ⟨C,H.out,rfl,d.out⟩
 .skip
  refine bK 2 bN [] J J ?_
  iterate 2
   refine aC (fun K Y=>?_)
   first
   |(refine .inl ?_
     apply Exists.intro;refine⟨cX,?_,Y _ _ _ _ ?_⟩
     .simp only[bJ,bM];refine⟨?_,fun w9 hw9 _=>?_⟩
      .first|rfl|(go_simp;done)
      obtain⟨hc9,hf9⟩:=hw9.all
      first
      |(exact bT 129 _ rfl w rfl 129 C _ (u.out.on hw9.same).tab underlying129 rfl S.out ⟨⟨rfl,trivial⟩,aD.refl _ _⟩)
      |(go_simp
        first
        |exact⟨⟨rfl,trivial⟩,aD.refl _ _⟩
        |(go_at_call 206;exact bS (gX _ _ _)))
     clear Y K
     try simp only[Act.put,List.setIfInBounds_toArray,List.set_cons_zero,List.set_cons_succ])
   |(refine .inr (.inl ⟨?_,Y _ _ _ _ ?_⟩)
     .simp only[bM]
      first|rfl|(go_simp;done)
     clear Y K
     try simp only[Act.put,List.setIfInBounds_toArray,List.set_cons_zero,List.set_cons_succ])
  refine cP ?_;simp only[bM];intro w9 hw9 _;obtain⟨hc9,hf9⟩:=hw9.all;simp only[List.drop_succ_cons,List.drop_zero];have Z:=u.out.on hw9.same;have P:=aH Z;obtain⟨⟨c0,c1⟩,f0,f1⟩:=Z.row C;obtain⟨M,L,G⟩:=Z.fin C 3 0;have g:=aH M;have f:=aH L;have d:=aH G;clear M L G Z
  go_wp2_with (refine wpList_store_row rfl 129 _ _ rfl (w,2) C rfl rfl 129 (16:Int) ?_ ?_ ?_ h1 ?_;(exact P.out.res);(exact S.out);(rw[zs.out];rfl))
  exact bodyPost_ret (bY results201 _ _ (w,2) (w,3) 129 44 C #[(3:Int),(0:Int)] _ _ rfl rfl g.out f.out underlying129 rfl S.out underlying44 rfl lK) rfl ⟨C,H.out,rfl,d.out⟩
 .have hv:=hs.out;obtain⟨E,hE⟩:∃E,E=(C.setIfInBounds (i*2) key).setIfInBounds (i*2+1) v:=⟨_,rfl⟩;have X:eB E 16 (setS z i key v):=by rw[hE];exact vW H.out i I hv
  have HE:=aH X;have zr:=aH hE;have V:Hid ((prog.info? 129).map (·.size)=some E.size):=by show _=_;rw[X.size,rL]
  have N:Hid (E.size=16):=X.size;have h2:=X.one;clear X hE;have U:=aH (u.out.set_ i (key:Int) v);rw[<-zr.out]at U;refine bK 2 bN [] J J ?_
  iterate 2
   refine aC (fun K Y=>?_)
   first
   |(refine .inl ?_
     apply Exists.intro;refine⟨cX,?_,Y _ _ _ _ ?_⟩
     .simp only[bJ,bM];refine⟨?_,fun w9 hw9 _=>?_⟩
      .first|rfl|(go_simp;done)
      obtain⟨hc9,hf9⟩:=hw9.all
      first
      |(exact bT 129 _ rfl w rfl 129 E _ (U.out.on hw9.same).tab underlying129 rfl V.out ⟨⟨rfl,trivial⟩,aD.refl _ _⟩)
      |(go_simp
        first
        |exact⟨⟨rfl,trivial⟩,aD.refl _ _⟩
        |(go_at_call 206;exact bS (gX _ _ _)))
     clear Y K
     try simp only[Act.put,List.setIfInBounds_toArray,List.set_cons_zero,List.set_cons_succ])
   |(refine .inr (.inl ⟨?_,Y _ _ _ _ ?_⟩)
     .simp only[bM]
      first|rfl|(go_simp;done)
     clear Y K
     try simp only[Act.put,List.setIfInBounds_toArray,List.set_cons_zero,List.set_cons_succ])
  refine cP ?_;simp only[bM];intro w9 hw9 _;obtain⟨hc9,hf9⟩:=hw9.all;simp only[List.drop_succ_cons,List.drop_zero];have Z:=U.out.on hw9.same;have P:=aH Z;obtain⟨⟨c0,c1⟩,f0,f1⟩:=Z.row E;obtain⟨M,L,G⟩:=Z.fin E 1 0;have g:=aH M;have f:=aH L;have d:=aH G;clear M L G Z
  go_wp2_with (refine wpList_store_row rfl 129 _ _ rfl (w,2) E rfl rfl 129 (16:Int) ?_ ?_ ?_ h2 ?_;(exact P.out.res);(exact V.out);(rw[N.out];rfl))
  exact bodyPost_ret (bY results201 _ _ (w,2) (w,3) 129 44 E #[(1:Int),(0:Int)] _ _ rfl rfl g.out f.out underlying129 rfl V.out underlying44 rfl lK) rfl ⟨E,HE.out,rfl,d.out⟩
 .have hv:=hs.out;obtain⟨E,hE⟩:∃E,E=(C.setIfInBounds (i*2) key).setIfInBounds (i*2+1) v:=⟨_,rfl⟩;have X:eB E 16 (setS z i key v):=by rw[hE];exact vW H.out i I hv
  have HE:=aH X;have zr:=aH hE;have V:Hid ((prog.info? 129).map (·.size)=some E.size):=by show _=_;rw[X.size,rL]
  have N:Hid (E.size=16):=X.size;have h2:=X.one;clear X hE;have U:=aH (O.out.set_ i (key:Int) v);rw[<-zr.out]at U;refine bK 2 bN [] J J ?_
  iterate 2
   refine aC (fun K Y=>?_)
   first
   |(refine .inl ?_
     apply Exists.intro;refine⟨cX,?_,Y _ _ _ _ ?_⟩
     .simp only[bJ,bM];refine⟨?_,fun w9 hw9 _=>?_⟩
      .first|rfl|(go_simp;done)
      obtain⟨hc9,hf9⟩:=hw9.all
      first
      |(exact bT 129 _ rfl w rfl 129 E _ (U.out.on hw9.same).tab underlying129 rfl V.out ⟨⟨rfl,trivial⟩,aD.refl _ _⟩)
      |(go_simp
        first
        |exact⟨⟨rfl,trivial⟩,aD.refl _ _⟩
        |(go_at_call 206;exact bS (gX _ _ _)))
     clear Y K
     try simp only[Act.put,List.setIfInBounds_toArray,List.set_cons_zero,List.set_cons_succ])
   |(refine .inr (.inl ⟨?_,Y _ _ _ _ ?_⟩)
     .simp only[bM]
      first|rfl|(go_simp;done)
     clear Y K
     try simp only[Act.put,List.setIfInBounds_toArray,List.set_cons_zero,List.set_cons_succ])
  refine cP ?_;simp only[bM];intro w9 hw9 _;obtain⟨hc9,hf9⟩:=hw9.all;simp only[List.drop_succ_cons,List.drop_zero];have Z:=U.out.on hw9.same;have P:=aH Z;obtain⟨⟨c0,c1⟩,f0,f1⟩:=Z.row E;obtain⟨M,L,G⟩:=Z.fin E 1 0;have g:=aH M;have f:=aH L;have d:=aH G;clear M L G Z
  go_wp2_with (refine wpList_store_row rfl 129 _ _ rfl (w,2) E rfl rfl 129 (16:Int) ?_ ?_ ?_ h2 ?_;(exact P.out.res);(exact V.out);(rw[N.out];rfl))
  exact bodyPost_ret (bY results201 _ _ (w,2) (w,3) 129 44 E #[(1:Int),(0:Int)] _ _ rfl rfl g.out f.out underlying129 rfl V.out underlying44 rfl lK) rfl ⟨E,HE.out,rfl,d.out⟩
 .have hbe:=hs.out.1;refine Exists.elim hs.out.2 fun D hD=>?_
  have a:=aH hbe;have HD:=aH hD;have V:Hid ((prog.info? 129).map (·.size)=some D.size):=by show _=_;rw[hD.size,rL]
  have N:Hid (D.size=16):=hD.size;have h2:=hD.one;have xl:=hbe.m6;clear hbe hD;have Q:=O.out.set_ i 0 0;have zq:=vW H.out i (k:=0) (v:=0) aJ aJ;obtain⟨C3,yy⟩:∃E,(C.setIfInBounds (i*2) (0:Int)).setIfInBounds (i*2+1) (0:Int)=E:=⟨_,rfl⟩;rw[yy]at Q zq;clear yy p0 p1 p2 y0 y1 f0 f1 ys yz O;generalize(w1.setCell (w.heap.size,i*2) (0:Int)).setCell (w.heap.size,i*2+1) (0:Int)=W3 at*;have u:=aH Q;have zi:=aH zq;clear Q zq;have zh:=u.out.ans.lt
  go_loopw [9,10] (fun s t wr=>∃x j:Nat,x<=m/\t=.int .i64 (j:Int)/\Hid (j=i+1+x)/\j<=20/\Hid (∃A c,s=.slice A x c/\jX wr W3 A x c (BY i x))/\Below W3 W3 wr) (fun _ t _=>30-(intOf t).toNat)
  case atStart=>exact⟨0,i+1,I,aG,aH rfl,I,aH ⟨none,0,rfl,jX.nil _ _⟩,Below.refl _ _⟩
  case round=>
   obtain⟨x,j,xi,rfl,hj,xq,yx,hb⟩:=hrel;obtain⟨A,c,rfl,zt⟩:=yx.out;have HO:=aH zt;clear zt yx;have zx:=u.out.on hb;have U:=aH zx;have xw:=zx.ans.lt;have zp:j%8<8:=Nat.mod_lt _ aJ;have zw:kk i x=j%8:=by rw[hj.out];unfold kk;omega
   have c0:wr.cell? (w.heap.size,j%8*2)=(setS z i 0 0 (2*kk i x)):=by rw[zx.tab.cell,zw,Nat.mul_comm,zi.out.get _ I]
   clear zx;rcases Nat.lt_or_ge x m with r|hge
   .have hne:=a.out.occ x r;generalize setS z i 0 0 (2*kk i x)=y5 at*;have d5:(y5 !=0)=true:=by simpa using hne
    have yr:=aH zw;clear zw hne;have zg:=hb.size
    go_wp2_with (at_builtin;refine dM rfl (.tmp 95) (.tmp 98) rfl (B:=W3) (v:=(j:Int)%8) rfl (HO.out.alloc _) rfl ((aY.new _ _ _).cell 0) I (by simp;omega) ?_;intro g2 c2 w2 zm yc)
    refine⟨⟨x+1,j+1,I,aG,aH (by rw[hj.out];omega),by have:=hj.out;omega,aH ⟨_,_,rfl,?_⟩,(hb.alloc zg _).trans yc⟩,by simp [intOf];omega⟩;rw[OZ,yr.out];exact zm
   .obtain rfl:x=m:=I;have zf:=a.out.free;generalize setS z i 0 0 (2*kk i x)=y5 at*;have d5:(y5 !=0)=false:=by simpa using zf
    clear zf zw;go_wp2;clear c0;have zo:=(HO.out.mono (B':=w+4) I).slo (XX i x);have zv:=aH zo;have ze:=U.out.below;have zd:fZ wr w 129 (iX z i 0):=fZ.mk' U.out.tab zi.out;have yq:=aH zd;clear zo HO hb zd
    rename World=>W4
    go_loopw [102] (fun t wr=>∃n:Nat,n<=x/\t=.int .i64 (n:Int)/\Hid (fZ wr w 129 (iX z i n))/\Hid (aD (fun b=>b=w) W4 wr)) (fun t _=>x-(intOf t).toNat)
    case atStart=>exact⟨0,I,rfl,yq,aH (aD.refl _ _)⟩
    case round=>
     obtain⟨n,xh,rfl,hT,Y⟩:=hrel;have xk:=hT.out.lt;have xv:=Y.out.size;rcases Nat.lt_or_ge n x with r|hge
     .obtain⟨b,off,rfl,hblt,hcell⟩:=zv.out.sli.at_ I;have zc:=zv.out.up I _ rfl;have xu:=zv.out.sli.cap;have xj:=zv.out.sli.cap63;have yp:¬b=w:=by show¬b=w;have:w+4<=b:=zc;omega
      have cb:=(Y.out.cell (p:=⟨b,off+n,none⟩) hblt yp).trans (by rw[hcell n r,EM i x n r]);clear hcell;have xt:(n:Int)<x:=I;have zp:=vD i n;obtain⟨y1,y2,v1,v2⟩:=a.out.bd r;obtain⟨p,yw,o,_⟩:=a.out.step r (a.out.run n I);have zz:iX z i (n+1)=setS (setS (iX z i n) (kk i n) 0 0) p (iX z i n (2*kk i n)) (iX z i n (2*kk i n+1)):=by
       show rC (iX z i n) (kk i n)=_;unfold rC;rw[o,Int.toNat_natCast]
      have c0:=hT.out.key zp;have c1:=hT.out.val zp;generalize hq:kk i n=q at*;generalize yb:iX z i n=T at*;generalize hy:T (2*q)=ky at*;generalize ya:T (2*q+1)=vv at*;have f0:=hT.out.frozen (q*2);have f1:=hT.out.frozen (q*2+1);have xs:(q:Int)<8:=I;have zb:=aH o;have yo:=aH zz;clear o zz yb hy ya hq;have yn: -9223372036854775808<=ky/\ky<=9223372036854775807:=I;have ym: -9223372036854775808<=vv/\vv<=9223372036854775807:=I;have hU:=aH ((hT.out.setS q (k:=0) (v:=0) aJ aJ).alloc (.cells #[ky,vv] 127));have hS:aY (((wr.setCell (w.heap.size,q*2) (0:Int)).setCell (w.heap.size,q*2+1) (0:Int)).alloc (.cells #[ky,vv] 127)) wr 127 #[ky,vv]:=aY.newAt _ _ _ (by simp);have yl:=aH (((Y.out.setCell (p:=⟨w.heap.size,q*2,none⟩) (.inl rfl) (0:Int)).setCell (p:=⟨w.heap.size,q*2+1,none⟩) (.inl rfl) (0:Int)).alloc (.cells #[ky,vv] 127));go_wp2;clear c0 c1 f0 f1 hT Y cb;generalize((wr.setCell (w.heap.size,q*2) (0:Int)).setCell (w.heap.size,q*2+1) (0:Int)).alloc (.cells #[ky,vv] 127)=W at*;have zu:=hU.out.lt;have zo:=hS.lt;have s0:=hS.cell 0;have s1:=hS.cell 1;simp only[List.getElem?_toArray,List.getElem?_cons_zero,List.getElem?_cons_succ]at s0 s1;obtain⟨CU,yv,zl⟩:=hU.out.ex;have yk:=aH yv;have yj:=aH zl;have yi:Hid ((prog.info? 129).map (·.size)=some CU.size):=by show _=_;rw[zl.size,rL]
      clear yv zl hS;have xr:(p:Int)<8:=I;have zy:∀w9,Calls prog 208 #[.agg CU,ky] w9 fun e w'=>e=.returned p/\Below w9 w9 w':=fun w9=>by
       rw[<-zb.out];exact LX CU _ ky w9 yj.out I y2
      have zn:=aH zy;clear zy;have c0:=hU.out.key yw;have c1:=hU.out.val yw;have f0:=hU.out.frozen (p*2);have f1:=hU.out.frozen (p*2+1);refine bK 6 bN [] J J ?_
      iterate 6
       refine aC (fun K Y=>?_)
       first
       |(refine .inl ?_
         apply Exists.intro;refine⟨cX,?_,Y _ _ _ _ ?_⟩
         .simp only[bJ,bM];refine⟨?_,fun w9 hw9 _=>?_⟩
          .first|rfl|(go_simp;done)
          obtain⟨hc9,hf9⟩:=hw9.all
          first
          |(exact bT 129 _ rfl w rfl 129 CU _ (yk.out.below hw9.same zu) underlying129 rfl yi.out ⟨⟨rfl,trivial⟩,aD.refl _ _⟩)
          |(go_simp
            first
            |exact⟨⟨rfl,trivial⟩,aD.refl _ _⟩
            |(go_at_call 208;exact bS (zn.out w9)))
         clear Y K
         try simp only[Act.put,List.setIfInBounds_toArray,List.set_cons_zero,List.set_cons_succ])
       |(refine .inr (.inl ⟨?_,Y _ _ _ _ ?_⟩)
         .simp only[bM]
          first|rfl|(go_simp;done)
         clear Y K
         try simp only[Act.put,List.setIfInBounds_toArray,List.set_cons_zero,List.set_cons_succ])
      refine cP ?_;simp only[bM];intro w9 hw9 _;obtain⟨hc9,hf9⟩:=hw9.all;go_wp2;have yh:=hw9.same;refine⟨⟨n+1,I,aG,aH ?_,aH (((yl.out.trans (hw9.mono fun _ h=>h.elim)).setCell (.inl rfl) _).setCell (.inl rfl) _)⟩,by simp [intOf];omega⟩;rw[yo.out];exact(hU.out.below yh zu).setS p yn ym
     .obtain rfl:n=x:=I;go_wp2;obtain⟨E,hE,yu⟩:=hT.out.ex;obtain rfl:E=D:=yu.ext HD.out;have za:Hid (oD w wr 129 E 2 (key:Int) v):=aH ⟨hE,(Y.out.block _ U.out.op.lt I).trans U.out.op,(Y.out.block _ U.out.res.lt I).trans U.out.res,(Y.out.block _ U.out.ans.lt I).trans U.out.ans,ze.trans (Y.out.below ze.size (fun b hb e=>by omega))⟩;clear hE yu;refine bK 3 bN [] J J ?_
      iterate 3
       refine aC (fun K Y=>?_)
       first
       |(refine .inl ?_
         apply Exists.intro;refine⟨cX,?_,Y _ _ _ _ ?_⟩
         .simp only[bJ,bM];refine⟨?_,fun w9 hw9 _=>?_⟩
          .first|rfl|(go_simp;done)
          obtain⟨hc9,hf9⟩:=hw9.all
          first
          |(exact bT 129 _ rfl w rfl 129 E _ (za.out.on hw9.same).tab underlying129 rfl V.out ⟨⟨rfl,trivial⟩,aD.refl _ _⟩)
          |(go_simp
            first
            |exact⟨⟨rfl,trivial⟩,aD.refl _ _⟩
            |(go_at_call 206;exact bS (gX _ _ _)))
         clear Y K
         try simp only[Act.put,List.setIfInBounds_toArray,List.set_cons_zero,List.set_cons_succ])
       |(refine .inr (.inl ⟨?_,Y _ _ _ _ ?_⟩)
         .simp only[bM]
          first|rfl|(go_simp;done)
         clear Y K
         try simp only[Act.put,List.setIfInBounds_toArray,List.set_cons_zero,List.set_cons_succ])
      refine cP ?_;simp only[bM];intro w9 hw9 _;obtain⟨hc9,hf9⟩:=hw9.all;simp only[List.drop_succ_cons,List.drop_zero];have Z:=za.out.on hw9.same;have P:=aH Z;obtain⟨⟨c0,c1⟩,f0,f1⟩:=Z.row E;obtain⟨M,L,G⟩:=Z.fin E 1 (z (2*i+1));have g:=aH M;have f:=aH L;have d:=aH G;clear M L G Z
      go_wp2_with (refine wpList_store_row rfl 129 _ _ rfl (w,2) E rfl rfl 129 (16:Int) ?_ ?_ ?_ h2 ?_;(exact P.out.res);(exact V.out);(rw[N.out];rfl))
      exact bodyPost_ret (bY results201 _ _ (w,2) (w,3) 129 44 E #[(1:Int),(z (2*i+1))] _ _ rfl rfl g.out f.out underlying129 rfl V.out underlying44 rfl lK) rfl ⟨E,HD.out,rfl,d.out⟩
theorem SX(C D:Array Value)(z:Nat->Int)(a k v:Int)(m:Nat)(w:World)(h:eB C 16 z)(M:cS z=true)(L: -9223372036854775808<=v/\v<=9223372036854775807)(F:tG z a k m)(N:eB D 16 (fJ z a k v m)):
 Calls prog 201 #[.agg C,.agg #[a,k,v]] w fun e w'=>e=.returned (.tuple #[.agg D,.agg #[(fV z a k),(fX z a k)]])/\Below w w w':=by
 suffices hs:Calls prog 201 #[.agg C,.agg #[a,k,v]] w (oL (fJ z a k v m) (fV z a k) (fX z a k) w)from hs.mono fun e w' G=>G.det N
 by_cases Q:a=6
 .subst Q;exact IW C z k v w h
 by_cases O:(a=1\/a=2\/a=5)/\1<=k/\k<=1000
 .obtain⟨ha,hk1,hk2⟩:=O;obtain⟨key,rfl⟩:=Int.eq_ofNat_of_zero_le (show(0:Int)<=k by omega);have T:1<=key:=I;have S:key<=1000:=I;obtain⟨i,R,Z,P⟩:=nX M key;have e:(kF z ((key:Nat):Int).toNat).toNat=i:=by rw[Int.toNat_natCast,Z];rfl
  have K:a=2->z (2*i)=key->vI z i m:=fun W X=>by have:=F W hk1 hk2 (by rw[e];exact X);rwa [e]at this
  by_cases Y:z (2*i)=key
  .have U:(z (2*i)==0)=false:=by simp;omega
   rcases ha with rfl|rfl|rfl
   .have W:fJ z 1 key v m=setS z i key v:=by simp [fJ,hk1,hk2,Z,Y]
    have X:fV z 1 key=1:=by simp [fV,hk1,hk2,Z,Y]
    have V:fX z 1 key=0:=by simp [fX]
    rw[W,X,V];exact mL C z key i v _ w h T S R Z rfl U rfl (.inr (.inr (.inr (.inr (.inl ⟨rfl,rfl,rfl,L⟩)))))
   .have hB:=K rfl Y;have W:fJ z 2 key v m=iX z i m:=by simp [fJ,hk1,hk2,Z,Y]
    have X:fV z 2 key=1:=by simp [fV,hk1,hk2,Z,Y]
    have V:fX z 2 key=z (2*i+1):=by simp [fX,hk1,hk2,Z,Y]
    rw[W]at N⊢;rw[X,V];exact mL C z key i v _ w h T S R Z rfl U rfl (.inr (.inr (.inr (.inr (.inr ⟨rfl,rfl,m,rfl,hB,D,N⟩)))))
   have W:fJ z 5 key v m=z:=by simp [fJ,Z,Y]
   have X:fV z 5 key=1:=by simp [fV,hk1,hk2,Z,Y]
   have V:fX z 5 key=z (2*i+1):=by simp [fX,hk1,hk2,Z,Y]
   rw[W,X,V];exact mL C z key i v _ w h T S R Z rfl U rfl (.inr (.inl ⟨rfl,rfl,rfl⟩))
  have U:(z (2*i)==0)=true:=by simpa using P.resolve_left Y
  have H:=oO M;rcases ha with rfl|rfl|rfl
  .by_cases hl:6<=eV z 8
   .have W:fJ z 1 key v m=z:=by simp [fJ,Z,Y,hl]
    have X:fV z 1 key=3:=by simp [fV,hk1,hk2,Z,Y,hl]
    have V:fX z 1 key=0:=by simp [fX]
    rw[W,X,V];exact mL C z key i v _ w h T S R Z rfl U rfl (.inr (.inr (.inl ⟨rfl,rfl,rfl,by simp;omega⟩)))
   have W:fJ z 1 key v m=setS z i key v:=by simp [fJ,hk1,hk2,Z,hl]
   have X:fV z 1 key=1:=by simp [fV,hk1,hk2,Z,hl]
   have V:fX z 1 key=0:=by simp [fX]
   rw[W,X,V];exact mL C z key i v _ w h T S R Z rfl U rfl (.inr (.inr (.inr (.inl ⟨rfl,rfl,rfl,by simp;omega,L⟩))))
  .have W:fJ z 2 key v m=z:=by simp [fJ,Z,Y]
   have X:fV z 2 key=4:=by simp [fV,hk1,hk2,Z,Y]
   have V:fX z 2 key=0:=by simp [fX,Z,Y]
   rw[W,X,V];exact mL C z key i v _ w h T S R Z rfl U rfl (.inl ⟨rfl,.inl rfl,rfl⟩)
  have W:fJ z 5 key v m=z:=by simp [fJ,Z,Y]
  have X:fV z 5 key=4:=by simp [fV,hk1,hk2,Z,Y]
  have V:fX z 5 key=0:=by simp [fX,Z,Y]
  rw[W,X,V];exact mL C z key i v _ w h T S R Z rfl U rfl (.inl ⟨rfl,.inr rfl,rfl⟩)
 have W:fJ z a k v m=z:=by simp only[fJ,iN O]
 have X:fV z a k=5:=by simp only[fV,iN O,iN Q]
 have V:fX z a k=0:=by simp only[fX,iN Q];rw[iN I]
 rw[W,X,V];exact KG C z a k v w h Q I
