/-
  Part of a proof: RDeque RHeap RHeapA. For all values.
-/
import Derived.Test.YtplpimkgihnmhaaGreatDoorA10
set_option maxRecDepth 100000
set_option maxHeartbeats 8000000
set_option linter.all false
namespace Go.Proofs.YtplpimkgihnmhaaGreatDoor
open Go.Proofs.Tryz Go.RowKit
section
attribute [local go_sem↓] Go.wp_at_zero Go.wp_at_succ
def DH(n:Nat)(a:Int):Nat:=if a=4 then n-1 else 0
def CR(xs:List Int)(a v:Int):List Int:=if 1<=a/\a<=6 then iA xs a v (decide (a=3)) (DH xs.length a)else xs
def PI(xs:List Int)(a:Int):Int:=if 1<=a/\a<=6 then gZ xs a else 5
def DB(xs:List Int)(a:Int):Int:=if 1<=a/\a<=6 then gY xs a (DH xs.length a)else 0
theorem AO(A:Option Addr)(n c:Nat)(xs:List Int)(a k v:Int)(w:World)(h:fI w A n c xs)(hn:n<=60)(hv: -9223372036854775808<=v/\v<=9223372036854775807):
 Calls prog 199 #[.slice A n c,.agg #[a,k,v]] w (AQ A n (CR xs a v) (PI xs a) (DB xs a) w):=by
 have hlen:=aH h.len
 have H:=aH h
 clear h
 have hv':=aH hv
 clear hv
 have e2:IntKind.i64.wrap ((n:Int)-1)=n-1:=IntWalk.i64_in _ I
 by_cases h4:a=4
 .subst h4
  have e5:CR xs 4 v=iA xs 4 v false (n-1):=by have hl:=hlen.out;unfold CR DH;rw[iP I,iP rfl,hl];rfl
  have e6:PI xs 4=gZ xs 4:=iP I
  have e7:DB xs 4=gY xs 4 (n-1):=by have hl:=hlen.out;unfold DB DH;rw[iP I,iP rfl,hl]
  rw[e5,e6,e7]
  clear e5 e6 e7
  go_enter func199,ntmps199
  go_wp2_with (first
   |(go_at_call 55;refine(bQ _ _ _ _).mono ?_;rintro e w' ⟨rfl,rfl⟩)
   |(go_at_call 206;refine(eY _ _ _).mono ?_;rintro e w2 ⟨rfl,rfl⟩)
   |(go_at_call 207;refine(mF A n c xs 4 k v false ((n:Int)-1) (n-1) _ (H.below (by go_grown)) hn hv' (by intro h;constructor<;>omega)).mono ?_;rintro e w1 ⟨A1,n1,c1,rfl,hs,hb⟩;obtain⟨hc,hf⟩:=cJ hb;have hz:=hb.size;simp only[World.size_alloc]at hz;have r0:=hc (w,1) 0 (by simp);have r1:=hc (w,1) 1 (by simp);simp [go_sem]at r0 r1;have q1:w.heap.size+1<w1:=I;have m1:¬w.heap.size+1=w1:=I;have hs':=aH hs;clear hs))
  all_goals(refine bodyPost_ret (by first|(simp [results,results199,go_sem,r0,r1];try rfl;done)|(simp [results,results199,go_sem];try rfl;done)) rfl ?_)
  all_goals simp only[beq_iff_eq,beq_eq_false_iff_ne,ne_eq,bV,decide_eq_true_eq,decide_eq_false_iff_not]at*
  all_goals exact(oY hs' (by go_grown) hb (by simp) (by simp) (by simp) (by simp)).weakJ A n
 have h4':(a==4)=false:=by simpa using h4
 go_enter func199,ntmps199
 go_wp2_with (first
  |(go_at_call 55;refine(bQ _ _ _ _).mono ?_;rintro e w' ⟨rfl,rfl⟩)
  |(go_at_call 206;refine(eY _ _ _).mono ?_;rintro e w2 ⟨rfl,rfl⟩)
  |(go_at_call 207;refine(mF A n c xs a k v _ 0 0 _ (H.below (by go_grown)) hn hv' (by intro h;constructor<;>omega)).mono ?_;rintro e w1 ⟨A1,n1,c1,rfl,hs,hb⟩;obtain⟨hc,hf⟩:=cJ hb;have hz:=hb.size;simp only[World.size_alloc]at hz;have r0:=hc (w,1) 0 (by simp);have r1:=hc (w,1) 1 (by simp);simp [go_sem]at r0 r1;have q1:w.heap.size+1<w1:=I;have m1:¬w.heap.size+1=w1:=I;have hs':=aH hs;clear hs))
 all_goals(refine bodyPost_ret (by first|(simp [results,results199,go_sem,r0,r1];try rfl;done)|(simp [results,results199,go_sem];try rfl;done)) rfl ?_)
 all_goals simp only[beq_iff_eq,beq_eq_false_iff_ne,ne_eq,bV,decide_eq_true_eq,decide_eq_false_iff_not]at*
 all_goals first
  |(have e1:1<=a/\a<=6:=(by first|assumption|omega|(simp_all;done)|(simp_all;omega))
    have e5:CR xs a v=iA xs a v (decide (a=3)) 0:=by unfold CR DH;rw[iP e1,iN h4]
    have e6:PI xs a=gZ xs a:=iP e1
    have e7:DB xs a=gY xs a 0:=by unfold DB DH;rw[iP e1,iN h4]
    have e8:decide (a=3)=(a==3):=by rw[Bool.eq_iff_iff];simp
    rw[e5,e6,e7,e8]
    exact(oY hs' (by go_grown) hb (by simp) (by simp) (by simp) (by simp)).weakJ A n)
  |(have e1:¬(1<=a/\a<=6):=(by first|assumption|omega|(simp_all;done)|(simp_all;omega))
    have e2:CR xs a v=xs:=iN e1
    have e3:PI xs a=5:=iN e1
    have e4:DB xs a=0:=iN e1
    rw[e2,e3,e4]
    exact xU H (by go_grown) rfl rfl)
end
section
attribute [local go_sem ↓] Go.wp_at_zero Go.wp_at_succ
set_option linter.unusedSimpArgs false in
theorem EX(A:Option Addr)(n c:Nat)(xs:List Int)(k v:Int)(w:World)(h:fI w A n c xs)(hn:n<6)(hv: -9223372036854775808<=v/\v<=9223372036854775807):
 Calls prog 200 #[.slice A n c,.agg #[.int .i64 1,.int .i64 k,.int .i64 v]] w (fQ (jS (xs++[v]) n) 1 0 w):=by
 have hl:=Lib.hid h.len
 have H:=Lib.hid h
 clear h
 have hv':=Lib.hid hv
 clear hv
 have d0:decide ((n:Int)<6)=true:=by simp;omega
 go_enter func200,ntmps200
 go_wp2_with (first
  |(at_builtin;refine cY rfl (.const (.slice none 0 0)) (.tmp 14) rfl rfl rfl (H.out.below (by go_grown)) (by omega) ?_;intro A1 c1 w1 hown Gs;obtain⟨hc,hf⟩:=cJ Gs;have hz:=Gs.size;simp only[World.size_alloc]at hz;have hB:Below w.heap.size w w1:=Below.trans (by go_grown) (Gs.mono (by simp;omega));replace hown:=hown.mono (B':=w.heap.size+2) (by simp);have q1:w.heap.size+1<w1.heap.size:=(by omega);have q0:w.heap.size<w1.heap.size:=(by omega);have hown':=Lib.hid hown;clear hown;have r0:=hc (w.heap.size+1) 0 (by simp);have r1:=hc (w.heap.size+1) 1 (by simp);have p0:=hf (w.heap.size+1) 0 (by simp);have p1:=hf (w.heap.size+1) 1 (by simp);simp [go_sem]at r0 r1 p0 p1;have m1:¬w.heap.size+1=w1.heap.size:=(by omega))
  |(go_at_call 55;refine(bQ _ _ _ _).mono ?_;rintro e w' ⟨rfl,rfl⟩)
  |(at_builtin;refine dM rfl (.tmp 43) (.tmp 46) rfl (B:=w.heap.size+2) rfl (hown'.out.alloc _) rfl ((aY.new _ _ _).cell 0) (by omega) (by simp;omega) ?_;intro g2 c2 w2 Hb Gt;obtain⟨Hk,Ja⟩:=cJ Gt;have Hh:=Gt.size;simp only[World.size_alloc]at Hh;have In:Below w.heap.size w w2:=Below.trans (by go_grown) (Gt.mono (by simp));have s0:=(Hk (w.heap.size+1) 0 (by simp)).trans ((bX (by omega)).trans r0);have s1:=(Hk (w.heap.size+1) 1 (by simp)).trans ((bX (by omega)).trans r1);have y0:=(Ja (w.heap.size+1) 0 (by simp)).trans ((eP (by omega)).trans p0);have y1:=(Ja (w.heap.size+1) 1 (by simp)).trans ((eP (by omega)).trans p1);have Qb:=Lib.hid (Hb.sli (nJ.app H.out.bd hv'.out));obtain⟨g3,hg3,hBg,hrow⟩:=Hb.row (nJ.app H.out.bd hv'.out) (by omega);cases hg3;have hrow':=Lib.hid hrow;clear hrow Hb;have q3:w.heap.size+1<w2.heap.size:=(by omega);have q4:w.heap.size<w2.heap.size:=(by omega);have m2:¬w.heap.size+1=w2.heap.size:=(by omega)))
 have hu:=Lib.hid Hk
 have Zk:=Lib.hid Ja
 have hu3:=Lib.hid hc
 have hu4:=Lib.hid hf
 clear hc hf Hk Ja
 go_loopw [6] (fun i wr=>∃(k:Nat) (R:List Int),k<=n/\i=.int .i64 k/\Hid (jC wr g2 (n+1) R)/\Hid (jS R k=jS (xs++[v]) n)/\Hid (aD (fun b=>b=g2) w2 wr)) (fun i _=>(intOf i).toNat)
 case atStart=>exact⟨n,_,by omega,rfl,hrow',Lib.hid rfl,Lib.hid (aD.refl _ _)⟩
 case round=>
  obtain⟨k,R,hk,rfl,hR,hI,Kl⟩:=hrel
  have Zl:=Kl.out.size
  have hlt:=hR.out.lt
  have q5:w.heap.size+1<wr.heap.size:=by omega
  have t0:=(Kl.out.cell (p:=⟨w.heap.size+1,0,none⟩) q3 (by show¬w.heap.size+1=g2;omega)).trans s0
  have t1:=(Kl.out.cell (p:=⟨w.heap.size+1,1,none⟩) q3 (by show¬w.heap.size+1=g2;omega)).trans s1
  have z0:=(Kl.out.frozen (p:=⟨w.heap.size+1,0,none⟩) q3 (by show¬w.heap.size+1=g2;omega)).trans y0
  have z1:=(Kl.out.frozen (p:=⟨w.heap.size+1,1,none⟩) q3 (by show¬w.heap.size+1=g2;omega)).trans y1
  have m2:¬w.heap.size+1=wr.heap.size:=by omega
  by_cases Ny:0<k
  .have q1:(k:Int)<=n:=by omega
   have hkn:k<n+1:=by omega
   have x1:=hR.out.cell hkn
   have x2:=hR.out.cell (i:=(k-1)/2) (by omega)
   have b2:((k:Int)-1)/2<n+1:=by omega
   have b3:0<=((k:Int)-1)/2:=by omega
   have b4:0<(k:Int):=by omega
   have b5:(k:Int)<n+1:=by omega
   have hne:k≠(k-1)/2:=by omega
   have hbx:=hR.out.bd.gI k
   have hby:=hR.out.bd.gI ((k-1)/2)
   have hS:Hid (gI R k<gI R ((k-1)/2)->jS R k=jS ((R.set k (gI R ((k-1)/2))).set ((k-1)/2) (gI R k)) ((k-1)/2)):=fun h=>oH ⟨Ny,h⟩
   have hE:Hid (¬gI R k<gI R ((k-1)/2)->jS R k=R):=fun h=>lW (fun h'=>h h'.2)
   generalize hx:gI R k=x at*
   generalize hy:gI R ((k-1)/2)=y at*
   have hx:=Lib.hid hx
   have hy:=Lib.hid hy
   go_wp2
   go_quiet (fail)
   have Il:=Lib.hid (hR.out.drewN nq)
   have Jc:=Lib.hid (Kl.out.drewN nq)
   have Sq:g2<(wr.drewN nq).heap.size:=hlt
   have q5':w.heap.size+1<(wr.drewN nq).heap.size:=q5
   have m2':¬w.heap.size+1=(wr.drewN nq).heap.size:=m2
   have t0':(wr.drewN nq).cell? ⟨w.heap.size+1,0,none⟩=_:=t0
   have t1':(wr.drewN nq).cell? ⟨w.heap.size+1,1,none⟩=_:=t1
   have z0':(wr.drewN nq).frozen? ⟨w.heap.size+1,0,none⟩=_:=z0
   have z1':(wr.drewN nq).frozen? ⟨w.heap.size+1,1,none⟩=_:=z1
   clear x1 x2 hlt hR Kl t0 t1 z0 z1 m2 q5 Zl
   generalize wr.drewN nq=W at*
   go_wp2_with (go_at_call 206;refine(eY _ _ _).mono ?_;rintro e w5 ⟨rfl,rfl⟩)
   .have hge:y<=x:=by assumption
    have Om:=Lib.hid (hE.out (by omega))
    clear hge
    refine bodyPost_ret (by simp [results,results200,go_sem,t0',t1',m2',q5'];try rfl;done) rfl ?_
    refine fQ.alloc (dB (Il.out.slo hBg Qb.out.cap Qb.out.cap63) (iE In Jc.out (by omega)) ?_ ?_ ?_ ?_ (by rw[<-hI.out,Om.out]) rfl rfl) _
    all_goals first|(show w.heap.size+1<w.heap.size+2;omega)|(show w.heap.size<=w.heap.size+1;omega)
   .have Ig:x<y:=by assumption
    clear t0' t1' z0' z1' m2' q5'
    have x1:=Il.out.cell hkn
    have x2:=Il.out.cell (i:=(k-1)/2) (by omega)
    rw[hx.out]at x1
    rw[hy.out]at x2
    have f1:=Il.out.frozen k
    have f2:=Il.out.frozen ((k-1)/2)
    have hSS:=Lib.hid (hS.out Ig)
    have e1:IntKind.i64.wrap ((k:Int)-1)=(k:Int)-1:=IntWalk.i64_in _ (by omega)
    have e2:IntKind.i64.wrap (((k:Int)-1).tdiv 2)=((k:Int)-1)/2:=by rw[Int.tdiv_eq_ediv_of_nonneg (by omega)];exact IntWalk.i64_in _ (by omega)
    have e3:(((k:Int)-1)/2).toNat=(k-1)/2:=by omega
    go_region
    all_goals go_wp2
    all_goals(refine⟨⟨(k-1)/2,_,by omega,jW (by omega),Lib.hid ?_,Lib.hid (hSS.out.symm.trans hI.out),Lib.hid ?_⟩,by simp [intOf];omega⟩)
    all_goals first
     |exact((Il.out.set hby (by omega)).set hbx (by omega)).drew
     |(rw[List.set_comm _ _ (by omega)];exact((Il.out.set hbx (by omega)).set hby (by omega)).drew)
     |exact((Jc.out.set_ _ _).set_ _ _).drew
  .obtain rfl:k=0:=by omega
   have Om:jS R 0=R:=lW (fun h=>absurd h.1 (by omega))
   have Zj:=Lib.hid Om
   clear Om
   go_wp2_with (go_at_call 206;refine(eY _ _ _).mono ?_;rintro e w5 ⟨rfl,rfl⟩)
   refine bodyPost_ret (by simp [results,results200,go_sem,t0,t1,m2,q5];try rfl;done) rfl ?_
   refine fQ.alloc (dB ((hR.out).slo hBg Qb.out.cap Qb.out.cap63) (iE In Kl.out (by omega)) ?_ ?_ ?_ ?_ (by rw[<-hI.out,Zj.out]) rfl rfl) _
   all_goals first|(show w.heap.size+1<w.heap.size+2;omega)|(show w.heap.size<=w.heap.size+1;omega)
set_option linter.unusedSimpArgs false in
theorem yP(A:Option Addr)(m c:Nat)(xs:List Int)(k v:Int)(w:World)(h:fI w A (m+1) c xs)(hm:m=0):
 Calls prog 200 #[.slice A (m+1) c,.agg #[.int .i64 2,.int .i64 k,.int .i64 v]] w (fQ [] 1 (gI xs 0) w):=by
 have hl:=Lib.hid h.len
 have H:=Lib.hid h
 clear h
 have d0:decide ((0:Int)<(m:Int)+1)=true:=by rw[decide_eq_true_eq];omega
 have e1:((m:Int)+1-1).toNat=m:=by omega
 have e2:IntKind.i64.wrap ((m:Int)+1-1)=m:=by rw[show(m:Int)+1-1=m by omega];exact IntWalk.i64_in _ (by omega)
 have b0:(m:Int)<m+1:=by omega
 have b1:(m:Int)<=m+1:=by omega
 have b2:(0:Int)<m+1:=by omega
 have hwi:bV 2 1 6=true:=by decide
 have b3:(0:Int)<=m:=by omega
 have dm:((m:Int)==0)=true:=by simp;omega
 have HM:=Lib.hid hm
 have Vz:m<=1:=by omega
 clear hm
 go_enter func200,ntmps200
 go_wp2_with (first
  |(at_builtin;refine cY rfl (.const (.slice none 0 0)) (.tmp 14) rfl rfl rfl (H.out.below (by go_grown)) (by omega) ?_;intro A1 c1 w1 hown Gs;obtain⟨hc,hf⟩:=cJ Gs;have hz:=Gs.size;simp only[World.size_alloc]at hz;have hB:Below w.heap.size w w1:=Below.trans (by go_grown) (Gs.mono (by simp;omega));replace hown:=hown.mono (B':=w.heap.size+2) (by simp);have q1:w.heap.size+1<w1.heap.size:=(by omega);have q0:w.heap.size<w1.heap.size:=(by omega);have r0:=hc (w.heap.size+1) 0 (by simp);have r1:=hc (w.heap.size+1) 1 (by simp);have p0:=hf (w.heap.size+1) 0 (by simp);have p1:=hf (w.heap.size+1) 1 (by simp);simp [go_sem]at r0 r1 p0 p1;have m1:¬w.heap.size+1=w1.heap.size:=(by omega);obtain⟨g,rfl,Sf,hrow⟩:=hown.row H.out.bd (by omega);have hrow':=Lib.hid hrow;have x0:=hrow.cell (i:=0) (by omega);have x1:=hrow.cell (i:=m) (by omega);have Sr:=(hown.sli H.out.bd).cap;have Jr:=(hown.sli H.out.bd).cap63;have b4:(m:Int)<=c1:=(by omega);have hgl:=hrow.lt;have mg:¬w.heap.size=g:=(by omega);have mg2:¬w.heap.size+1=g:=(by omega);clear hrow hown)
  |(go_at_call 55;refine(bQ _ _ _ _).mono ?_;rintro e w' ⟨rfl,rfl⟩))
 go_quiet (fail)
 have Su:=Lib.hid (hrow'.out.drewN nq)
 have In:=cZ hB nq
 have q5:w.heap.size+1<(w1.drewN nq).heap.size:=q1
 have Nm:g<(w1.drewN nq).heap.size:=hgl
 have m5:¬w.heap.size+1=(w1.drewN nq).heap.size:=m1
 have s0:(w1.drewN nq).cell? ⟨w.heap.size+1,0,none⟩=_:=r0
 have s1:(w1.drewN nq).cell? ⟨w.heap.size+1,1,none⟩=_:=r1
 have yz0:(w1.drewN nq).frozen? ⟨w.heap.size+1,0,none⟩=_:=p0
 have yz1:(w1.drewN nq).frozen? ⟨w.heap.size+1,1,none⟩=_:=p1
 clear hc hf Gs hB hz q1 q0 r0 r1 p0 p1 m1 hrow' x0 x1 hgl
 generalize w1.drewN nq=W at*
 go_wp2_with (go_at_call 206;refine(eY _ _ _).mono ?_;rintro e w5 ⟨rfl,rfl⟩)
 refine bodyPost_ret (by simp [results,results200,go_sem,s0,s1,m5,q5];try rfl;done) rfl ?_
 refine fQ.alloc (dB ((show kC W (w.heap.size+2) (some ⟨g,0,none⟩) m c1 [] by rw[HM.out];exact kC.nil _ _ _ Jr _)) In ?_ ?_ ?_ ?_ rfl rfl rfl) _
 all_goals first|(show w.heap.size+1<w.heap.size+2;omega)|(show w.heap.size<=w.heap.size+1;omega)
set_option linter.unusedSimpArgs false in
theorem AP(A:Option Addr)(m c:Nat)(xs:List Int)(k v:Int)(w:World)(h:fI w A (m+1) c xs)(hn:m+1<=60)(hm:0<m):
 Calls prog 200 #[.slice A (m+1) c,.agg #[.int .i64 2,.int .i64 k,.int .i64 v]] w (fQ (jU (xs.take m) 0 (gI xs m)) 1 (gI xs 0) w):=by
 have hl:=Lib.hid h.len
 have H:=Lib.hid h
 clear h
 have d0:decide ((0:Int)<(m:Int)+1)=true:=by rw[decide_eq_true_eq];omega
 have e1:((m:Int)+1-1).toNat=m:=by omega
 have e2:IntKind.i64.wrap ((m:Int)+1-1)=m:=by rw[show(m:Int)+1-1=m by omega];exact IntWalk.i64_in _ (by omega)
 have b0:(m:Int)<m+1:=by omega
 have b1:(m:Int)<=m+1:=by omega
 have b2:(0:Int)<m+1:=by omega
 have hwi:bV 2 1 6=true:=by decide
 have dm:((m:Int)==0)=false:=by simp;omega
 go_enter func200,ntmps200
 go_wp2_with (first
  |(at_builtin;refine cY rfl (.const (.slice none 0 0)) (.tmp 14) rfl rfl rfl (H.out.below (by go_grown)) (by omega) ?_;intro A1 c1 w1 hown Gs;obtain⟨hc,hf⟩:=cJ Gs;have hz:=Gs.size;simp only[World.size_alloc]at hz;have hB:Below w.heap.size w w1:=Below.trans (by go_grown) (Gs.mono (by simp;omega));replace hown:=hown.mono (B':=w.heap.size+2) (by simp);have q1:w.heap.size+1<w1.heap.size:=(by omega);have q0:w.heap.size<w1.heap.size:=(by omega);have r0:=hc (w.heap.size+1) 0 (by simp);have r1:=hc (w.heap.size+1) 1 (by simp);have p0:=hf (w.heap.size+1) 0 (by simp);have p1:=hf (w.heap.size+1) 1 (by simp);simp [go_sem]at r0 r1 p0 p1;have m1:¬w.heap.size+1=w1.heap.size:=(by omega);obtain⟨g,rfl,Sf,hrow⟩:=hown.row H.out.bd (by omega);have hrow':=Lib.hid hrow;have x0:=hrow.cell (i:=0) (by omega);have x1:=hrow.cell (i:=m) (by omega);have Sr:=(hown.sli H.out.bd).cap;have Jr:=(hown.sli H.out.bd).cap63;have b4:(m:Int)<=c1:=(by omega);have hgl:=hrow.lt;have mg:¬w.heap.size=g:=(by omega);have mg2:¬w.heap.size+1=g:=(by omega);clear hrow hown)
  |(go_at_call 55;refine(bQ _ _ _ _).mono ?_;rintro e w' ⟨rfl,rfl⟩))
 go_quiet (fail)
 have Su:=Lib.hid (hrow'.out.drewN nq)
 have In:=cZ hB nq
 have q5:w.heap.size+1<(w1.drewN nq).heap.size:=q1
 have Nm:g<(w1.drewN nq).heap.size:=hgl
 have m5:¬w.heap.size+1=(w1.drewN nq).heap.size:=m1
 have s0:(w1.drewN nq).cell? ⟨w.heap.size+1,0,none⟩=_:=r0
 have s1:(w1.drewN nq).cell? ⟨w.heap.size+1,1,none⟩=_:=r1
 have yz0:(w1.drewN nq).frozen? ⟨w.heap.size+1,0,none⟩=_:=p0
 have yz1:(w1.drewN nq).frozen? ⟨w.heap.size+1,1,none⟩=_:=p1
 clear hc hf Gs hB hz q1 q0 r0 r1 p0 p1 m1 hrow' x0 x1 hgl
 generalize w1.drewN nq=W at*
 have hlb:=Su.out.bd.gI m
 generalize hlast:gI xs m=l at*
 clear hlast
 go_wp2
 go_loopw [10] (fun i wr=>∃(k:Nat) (R:List Int),k<m/\i=.int .i64 k/\Hid (R.length=m)/\Hid (jC wr g m R)/\Hid (jU R k l=jU (xs.take m) 0 l)/\Hid (aD (fun b=>b=g) W wr)) (fun i _=>m-(intOf i).toNat)
 case atStart=>exact⟨0,xs.take m,hm,rfl,Lib.hid (by rw[List.length_take,hl.out];omega),Lib.hid (Su.out.take (by omega)),Lib.hid rfl,Lib.hid (aD.refl _ _)⟩
 case round=>
  obtain⟨k,R,hk,rfl,Ra,hR,hI,Kl⟩:=hrel
  have hk60:k<60:=by omega
  have hlt:=hR.out.lt
  have Zl:=Kl.out.size
  have f1:IntKind.i64.wrap (2*(k:Int))=2*k:=IntWalk.i64_in _ (by omega)
  have f2:IntKind.i64.wrap (2*(k:Int)+1)=2*k+1:=IntWalk.i64_in _ (by omega)
  have f3:IntKind.i64.wrap (2*(k:Int)+2)=2*k+2:=IntWalk.i64_in _ (by omega)
  have hch:=kV R k
  have hst:eO R k<R.length/\gI R (eO R k)<l->jU R k l=jU (R.set k (gI R (eO R k))) (eO R k) l:=oG
  have hen:¬(eO R k<R.length/\gI R (eO R k)<l)->jU R k l=R.set k l:=kW
  rw[Ra.out]at hch hst hen
  have Id:=Lib.hid hst
  have Us:=Lib.hid hen
  clear hst hen
  have b5:(k:Int)<m:=by omega
  have zk:=hR.out.frozen k
  have q6:w.heap.size+1<wr.heap.size:=by omega
  refine Or.elim (Classical.em (2*k+1<m)) (fun p1=>?aa) (fun p1=>?ab)
  case' aa=>
   have q1:2*(k:Int)+1<m:=by omega
   have g1:=hR.out.cell p1
   have Gs:=hR.out.bd.gI (2*k+1)
   have d3:decide (2*(k:Int)+1<0)=false:=by simp;omega
   refine Or.elim (Classical.em (2*k+2<m)) (fun p2=>?ba) (fun p2=>?bb)
   case' ba=>
    have q2:2*(k:Int)+2<m:=by omega
    have g2:=hR.out.cell p2
    have Gt:=hR.out.bd.gI (2*k+2)
    have d4:decide (2*(k:Int)+2<0)=false:=by simp;omega
    generalize Hx:gI R (2*k+1)=y1 at*
    generalize Uc:gI R (2*k+2)=y2 at*
    have HY1:=Lib.hid Hx
    have HY2:=Lib.hid Uc
    clear Hx Uc
    refine Or.elim (Classical.em (y2<y1)) (fun Ta=>?ca) (fun Ta=>?cb)
    case' ca=>
     have hcc:eO R k=2*k+2:=by rcases hch with h|h<;>omega
     have HY:=HY2
     have Lp:=Lib.hid hcc
     clear hch hcc
     by_cases hyv:y2<l
    case' cb=>
     have hcc:eO R k=2*k+1:=by rcases hch with h|h<;>omega
     have HY:=HY1
     have Ze:y1<=y2:=by omega
     have Lp:=Lib.hid hcc
     clear hch hcc
     by_cases hyv:y1<l
   case' bb=>
    have d2:decide (2*(k:Int)+2<m)=false:=by simp;omega
    generalize Hx:gI R (2*k+1)=y1 at*
    have HY:=Lib.hid Hx
    clear Hx
    have hcc:eO R k=2*k+1:=by rcases hch with h|h<;>omega
    have Lp:=Lib.hid hcc
    clear hch hcc
    by_cases hyv:y1<l
   all_goals
    first
    |have Xo:=Lib.hid (Id.out (by rw[Lp.out,HY.out];exact⟨by omega,hyv⟩))
    |(have Ut:=Lib.hid (Us.out (by rw[Lp.out,HY.out];omega))
      try have hyv':l<=y2:=by omega
      try have hyw:l<=y1:=by omega)
    go_wp2
    refine wp_loop_rounds 3 ?_
    rw[rounds_succ]
    go_wp2
    go_quiet (fail)
    go_wp2
    rename Nat=>n1
    rw[rounds_succ]
    go_wp2
    go_quiet (fail)
    have Il:=Lib.hid (((hR.out.alloc (.cells #[.int .i64 (2*(k:Int)+1),.int .i64 (2*(k:Int)+2)] 3)).drewN n1).drewN nq)
    have Jc:=Lib.hid (((Kl.out.alloc (.cells #[.int .i64 (2*(k:Int)+1),.int .i64 (2*(k:Int)+2)] 3)).drewN n1).drewN nq)
    clear hR Kl zk hlt q6 Zl g1
    try clear g2
    have hB5:aY (((wr.alloc (.cells #[.int .i64 (2*(k:Int)+1),.int .i64 (2*(k:Int)+2)] 3)).drewN n1).drewN nq) wr.heap.size 3 #[.int .i64 (2*(k:Int)+1),.int .i64 (2*(k:Int)+2)]:=((aY.new wr 3 _).drewN n1).drewN nq
    generalize((wr.alloc (.cells #[.int .i64 (2*(k:Int)+1),.int .i64 (2*(k:Int)+2)] 3)).drewN n1).drewN nq=W2 at*
    have hlt:=Il.out.lt
    have Zl:=Jc.out.size
    have zk:=Il.out.frozen k
    have q6:w.heap.size+1<W2.heap.size:=by omega
    have m2:¬w.heap.size+1=W2.heap.size:=by omega
    have t0:=(Jc.out.cell (p:=⟨w.heap.size+1,0,none⟩) q5 (by show¬w.heap.size+1=g;omega)).trans s0
    have t1:=(Jc.out.cell (p:=⟨w.heap.size+1,1,none⟩) q5 (by show¬w.heap.size+1=g;omega)).trans s1
    have z0:=(Jc.out.frozen (p:=⟨w.heap.size+1,0,none⟩) q5 (by show¬w.heap.size+1=g;omega)).trans yz0
    have z1:=(Jc.out.frozen (p:=⟨w.heap.size+1,1,none⟩) q5 (by show¬w.heap.size+1=g;omega)).trans yz1
    first
    |(have xk:=Il.out.cell (i:=2*k+2) (by omega);rw[HY.out]at xk)
    |(have xk:=Il.out.cell (i:=2*k+1) (by omega);rw[HY.out]at xk)
    have xc:=Il.out.cell (i:=k) (by omega)
    go_wp2
    rw[rounds_succ]
    first
    |(go_wp2
      first
      |refine⟨⟨2*k+2,R.set k y2,by omega,jW (by omega),Lib.hid (by rw[List.length_set];exact Ra.out),Lib.hid (Il.out.set Gt (by omega)),Lib.hid ?_,Lib.hid (Jc.out.set_ _ _)⟩,by simp [intOf];omega⟩
      |refine⟨⟨2*k+1,R.set k y1,by omega,jW (by omega),Lib.hid (by rw[List.length_set];exact Ra.out),Lib.hid (Il.out.set Gs (by omega)),Lib.hid ?_,Lib.hid (Jc.out.set_ _ _)⟩,by simp [intOf];omega⟩
      have h4:=Xo.out
      rw[Lp.out,HY.out]at h4
      exact h4.symm.trans hI.out)
    |(go_wp2_with (go_at_call 206;refine(eY _ _ _).mono ?_;rintro e w5 ⟨rfl,rfl⟩)
      refine bodyPost_ret (by simp [results,results200,go_sem,t0,t1,m2,q6];try rfl;done) rfl ?_
      refine fQ.alloc (dB ((Il.out.set hlb (i:=k) (by omega)).slo Sf (by omega) Jr) (iE In (Jc.out.set_ k (.int .i64 l)) (by omega)) ?_ ?_ ?_ ?_ (by rw[<-hI.out,Ut.out]) rfl rfl) _
      all_goals first|(show w.heap.size+1<w.heap.size+2;omega)|(show w.heap.size<=w.heap.size+1;omega))
  .have d1:decide (2*(k:Int)+1<m)=false:=by simp;omega
   have d2:decide (2*(k:Int)+2<m)=false:=by simp;omega
   have Ut:=Lib.hid (Us.out (by rcases hch with h|h<;>omega))
   clear hch
   go_wp2
   refine wp_loop_rounds 3 ?_
   rw[rounds_succ]
   go_wp2
   go_quiet (fail)
   go_wp2
   rename Nat=>n1
   rw[rounds_succ]
   go_wp2
   go_quiet (fail)
   have Il:=Lib.hid (((hR.out.alloc (.cells #[.int .i64 (2*(k:Int)+1),.int .i64 (2*(k:Int)+2)] 3)).drewN n1).drewN nq)
   have Jc:=Lib.hid (((Kl.out.alloc (.cells #[.int .i64 (2*(k:Int)+1),.int .i64 (2*(k:Int)+2)] 3)).drewN n1).drewN nq)
   clear hR Kl zk hlt q6 Zl
   have hB5:aY (((wr.alloc (.cells #[.int .i64 (2*(k:Int)+1),.int .i64 (2*(k:Int)+2)] 3)).drewN n1).drewN nq) wr.heap.size 3 #[.int .i64 (2*(k:Int)+1),.int .i64 (2*(k:Int)+2)]:=((aY.new wr 3 _).drewN n1).drewN nq
   generalize((wr.alloc (.cells #[.int .i64 (2*(k:Int)+1),.int .i64 (2*(k:Int)+2)] 3)).drewN n1).drewN nq=W2 at*
   have hlt:=Il.out.lt
   have Zl:=Jc.out.size
   have zk:=Il.out.frozen k
   have q6:w.heap.size+1<W2.heap.size:=by omega
   have m2:¬w.heap.size+1=W2.heap.size:=by omega
   have t0:=(Jc.out.cell (p:=⟨w.heap.size+1,0,none⟩) q5 (by show¬w.heap.size+1=g;omega)).trans s0
   have t1:=(Jc.out.cell (p:=⟨w.heap.size+1,1,none⟩) q5 (by show¬w.heap.size+1=g;omega)).trans s1
   have z0:=(Jc.out.frozen (p:=⟨w.heap.size+1,0,none⟩) q5 (by show¬w.heap.size+1=g;omega)).trans yz0
   have z1:=(Jc.out.frozen (p:=⟨w.heap.size+1,1,none⟩) q5 (by show¬w.heap.size+1=g;omega)).trans yz1
   have xc:=Il.out.cell (i:=k) (by omega)
   go_wp2
   rw[rounds_succ]
   go_wp2_with (go_at_call 206;refine(eY _ _ _).mono ?_;rintro e w5 ⟨rfl,rfl⟩)
   refine bodyPost_ret (by simp [results,results200,go_sem,t0,t1,m2,q6];try rfl;done) rfl ?_
   refine fQ.alloc (dB ((Il.out.set hlb (i:=k) (by omega)).slo Sf (by omega) Jr) (iE In (Jc.out.set_ k (.int .i64 l)) (by omega)) ?_ ?_ ?_ ?_ (by rw[<-hI.out,Ut.out]) rfl rfl) _
   all_goals first|(show w.heap.size+1<w.heap.size+2;omega)|(show w.heap.size<=w.heap.size+1;omega)
end
section
attribute [local go_sem↓] Go.wp_at_zero Go.wp_at_succ
theorem OX(A:Option Addr)(n c:Nat)(xs:List Int)(k v:Int)(w:World)(h:fI w A n c xs)(hn:n<=60)(hv: -9223372036854775808<=v/\v<=9223372036854775807)(h6:6<=n):
 Calls prog 200 #[.slice A n c,.agg #[(1:Int),k,v]] w (fQ (iA xs 1 v false 0) (gZ xs 1) (gY xs 1 0) w):=by
 have H:=aH h
 clear h
 have hv':=aH hv
 clear hv
 have hwi:bV 1 1 6=true:=by decide
 have d0:decide ((n:Int)<6)=false:=by rw[decide_eq_false_iff_not];omega
 go_enter func200,ntmps200
 go_wp2_with (first
  |(at_builtin;refine cY rfl (.const (.slice none 0 0)) (.tmp 14) rfl rfl rfl (H.below (by go_grown)) I ?_;intro A1 c1 w1 hown Gs;obtain⟨hc,hf⟩:=cJ Gs;have hz:=Gs.size;simp only[World.size_alloc]at hz;have hB:Below w w w1:=Below.trans (by go_grown) (Gs.mono (by simp;omega));replace hown:=hown.mono (B':=w+2) (by simp);have q1:w.heap.size+1<w1:=I;have q0:w.heap.size<w1:=I;have hown':=aH hown;clear hown;have r0:=hc (w,1) 0 (by simp);have r1:=hc (w,1) 1 (by simp);have p0:=hf (w,1) 0 (by simp);have p1:=hf (w,1) 1 (by simp);simp [go_sem]at r0 r1 p0 p1;have m1:¬w.heap.size+1=w1:=I)
  |(go_at_call 55;refine(bQ _ _ _ _).mono ?_;rintro e w' ⟨rfl,rfl⟩)
  |(go_at_call 206;refine(eY _ _ _).mono ?_;rintro e w2 ⟨rfl,rfl⟩)
  |(go_at_call 207;refine(mF A1 n c1 xs 1 k v false 0 0 w1 (hown'.sli H.bd) hn hv' (fun h=>⟨rfl,h⟩)).mono ?_;rintro e w3 ⟨A3,n3,c3,rfl,hs,He⟩;have hz3:=He.size;obtain⟨Lt,Lx⟩:=cJ He;have s0:=(Lt (w,1) 0 q1).trans r0;have s1:=(Lt (w,1) 1 q1).trans r1;have y0:=(Lx (w,1) 0 q1).trans p0;have y1:=(Lx (w,1) 1 q1).trans p1;have q3:w.heap.size+1<w3:=I;have m3:¬w.heap.size+1=w3:=I;have hs':=aH hs;clear hs))
 all_goals(refine bodyPost_ret (by simp [results,results200,go_sem,s0,s1,q3,m3];try rfl;done) rfl ?_)
 exact oY hs' hB He q1 q1 (by show w.heap.size<=w+1;omega) (by show w.heap.size<=w+1;omega)
theorem MH(A:Option Addr)(n c:Nat)(xs:List Int)(k v:Int)(w:World)(h:fI w A n c xs)(hn:n<=60)(hv: -9223372036854775808<=v/\v<=9223372036854775807)(h0:n<=0):
 Calls prog 200 #[.slice A n c,.agg #[(2:Int),k,v]] w (fQ (iA xs 2 v false 0) (gZ xs 2) (gY xs 2 0) w):=by
 have H:=aH h
 clear h
 have hv':=aH hv
 clear hv
 have hwi:bV 2 1 6=true:=by decide
 have d0:decide (0<(n:Int))=false:=by rw[decide_eq_false_iff_not];omega
 go_enter func200,ntmps200
 go_wp2_with (first
  |(at_builtin;refine cY rfl (.const (.slice none 0 0)) (.tmp 14) rfl rfl rfl (H.below (by go_grown)) I ?_;intro A1 c1 w1 hown Gs;obtain⟨hc,hf⟩:=cJ Gs;have hz:=Gs.size;simp only[World.size_alloc]at hz;have hB:Below w w w1:=Below.trans (by go_grown) (Gs.mono (by simp;omega));replace hown:=hown.mono (B':=w+2) (by simp);have q1:w.heap.size+1<w1:=I;have q0:w.heap.size<w1:=I;have hown':=aH hown;clear hown;have r0:=hc (w,1) 0 (by simp);have r1:=hc (w,1) 1 (by simp);have p0:=hf (w,1) 0 (by simp);have p1:=hf (w,1) 1 (by simp);simp [go_sem]at r0 r1 p0 p1;have m1:¬w.heap.size+1=w1:=I)
  |(go_at_call 55;refine(bQ _ _ _ _).mono ?_;rintro e w' ⟨rfl,rfl⟩)
  |(go_at_call 206;refine(eY _ _ _).mono ?_;rintro e w2 ⟨rfl,rfl⟩)
  |(go_at_call 207;refine(mF A1 n c1 xs 2 k v false 0 0 w1 (hown'.sli H.bd) hn hv' (fun h=>⟨rfl,h⟩)).mono ?_;rintro e w3 ⟨A3,n3,c3,rfl,hs,He⟩;have hz3:=He.size;obtain⟨Lt,Lx⟩:=cJ He;have s0:=(Lt (w,1) 0 q1).trans r0;have s1:=(Lt (w,1) 1 q1).trans r1;have y0:=(Lx (w,1) 0 q1).trans p0;have y1:=(Lx (w,1) 1 q1).trans p1;have q3:w.heap.size+1<w3:=I;have m3:¬w.heap.size+1=w3:=I;have hs':=aH hs;clear hs))
 all_goals(refine bodyPost_ret (by simp [results,results200,go_sem,s0,s1,q3,m3];try rfl;done) rfl ?_)
 exact oY hs' hB He q1 q1 (by show w.heap.size<=w+1;omega) (by show w.heap.size<=w+1;omega)
theorem xN(j:Int)(hj:j=5\/j=6)(A:Option Addr)(n c:Nat)(xs:List Int)(k v:Int)(w:World)(h:fI w A n c xs)(hn:n<=60)(hv: -9223372036854775808<=v/\v<=9223372036854775807):
 Calls prog 200 #[.slice A n c,.agg #[j,k,v]] w (fQ (iA xs j v false 0) (gZ xs j) (gY xs j 0) w):=by
 have q:Tg j:=rfl
 rcases hj with rfl|rfl
 all_goals
  have H:=aH h
  clear h
  have hv':=aH hv
  clear hv
  have hwi:bV q 1 6=true:=by decide
  go_enter func200,ntmps200
  go_wp2_with (first
   |(at_builtin;refine cY rfl (.const (.slice none 0 0)) (.tmp 14) rfl rfl rfl (H.below (by go_grown)) I ?_;intro A1 c1 w1 hown Gs;obtain⟨hc,hf⟩:=cJ Gs;have hz:=Gs.size;simp only[World.size_alloc]at hz;have hB:Below w w w1:=Below.trans (by go_grown) (Gs.mono (by simp;omega));replace hown:=hown.mono (B':=w+2) (by simp);have q1:w.heap.size+1<w1:=I;have q0:w.heap.size<w1:=I;have hown':=aH hown;clear hown;have r0:=hc (w,1) 0 (by simp);have r1:=hc (w,1) 1 (by simp);have p0:=hf (w,1) 0 (by simp);have p1:=hf (w,1) 1 (by simp);simp [go_sem]at r0 r1 p0 p1;have m1:¬w.heap.size+1=w1:=I)
   |(go_at_call 55;refine(bQ _ _ _ _).mono ?_;rintro e w' ⟨rfl,rfl⟩)
   |(go_at_call 206;refine(eY _ _ _).mono ?_;rintro e w2 ⟨rfl,rfl⟩)
   |(go_at_call 207;refine(mF A1 n c1 xs q k v false 0 0 w1 (hown'.sli H.bd) hn hv' (fun h=>⟨rfl,h⟩)).mono ?_;rintro e w3 ⟨A3,n3,c3,rfl,hs,He⟩;have hz3:=He.size;obtain⟨Lt,Lx⟩:=cJ He;have s0:=(Lt (w,1) 0 q1).trans r0;have s1:=(Lt (w,1) 1 q1).trans r1;have y0:=(Lx (w,1) 0 q1).trans p0;have y1:=(Lx (w,1) 1 q1).trans p1;have q3:w.heap.size+1<w3:=I;have m3:¬w.heap.size+1=w3:=I;have hs':=aH hs;clear hs))
  all_goals(refine bodyPost_ret (by simp [results,results200,go_sem,s0,s1,q3,m3];try rfl;done) rfl ?_)
  exact oY hs' hB He q1 q1 (by show w.heap.size<=w+1;omega) (by show w.heap.size<=w+1;omega)
theorem yN(A:Option Addr)(n c:Nat)(xs:List Int)(a k v:Int)(w:World)(h:fI w A n c xs)(hn:n<=60)(ha:¬(a=1\/a=2\/a=5\/a=6)):
 Calls prog 200 #[.slice A n c,.agg #[a,k,v]] w (fQ xs 5 0 w):=by
 have H:=aH h
 clear h
 have HA:=aH ha
 by_cases h34:a=3\/a=4
 all_goals have H34:=aH h34
 .have hwi:bV a 1 6=true:=by simp [bV];omega
  rcases h34 with rfl|rfl
  all_goals clear ha
  all_goals
   go_enter func200,ntmps200
   go_wp2_with (first
    |(at_builtin;refine cY rfl (.const (.slice none 0 0)) (.tmp 14) rfl rfl rfl (H.below (by go_grown)) I ?_;intro A1 c1 w1 hown Gs;obtain⟨hc,hf⟩:=cJ Gs;have hz:=Gs.size;simp only[World.size_alloc]at hz;have hB:Below w w w1:=Below.trans (by go_grown) (Gs.mono (by simp;omega));replace hown:=hown.mono (B':=w+2) (by simp);have q1:w.heap.size+1<w1:=I;have q0:w.heap.size<w1:=I;have hown':=aH hown;clear hown;have r0:=hc (w,1) 0 (by simp);have r1:=hc (w,1) 1 (by simp);have p0:=hf (w,1) 0 (by simp);have p1:=hf (w,1) 1 (by simp);simp [go_sem]at r0 r1 p0 p1;have m1:¬w.heap.size+1=w1:=I)
    |(go_at_call 55;refine(bQ _ _ _ _).mono ?_;rintro e w' ⟨rfl,rfl⟩)
    |(go_at_call 206;refine(eY _ _ _).mono ?_;rintro e w2 ⟨rfl,rfl⟩))
   all_goals(refine bodyPost_ret (by simp [results,results200,go_sem,r0,r1,q1,m1];try rfl;done) rfl ?_)
   refine fQ.alloc (dB (hown'.slo H.bd) hB ?_ ?_ ?_ ?_ rfl rfl rfl) _
   all_goals first|(show w.heap.size+1<w+2;omega)|(show w.heap.size<=w+1;omega)
 have hwi:bV a 1 6=false:=by simp [bV];omega
 clear ha h34
 go_enter func200,ntmps200
 go_wp2_with (first
  |(at_builtin;refine cY rfl (.const (.slice none 0 0)) (.tmp 14) rfl rfl rfl (H.below (by go_grown)) I ?_;intro A1 c1 w1 hown Gs;obtain⟨hc,hf⟩:=cJ Gs;have hz:=Gs.size;simp only[World.size_alloc]at hz;have hB:Below w w w1:=Below.trans (by go_grown) (Gs.mono (by simp;omega));replace hown:=hown.mono (B':=w+2) (by simp);have q1:w.heap.size+1<w1:=I;have q0:w.heap.size<w1:=I;have hown':=aH hown;clear hown;have r0:=hc (w,1) 0 (by simp);have r1:=hc (w,1) 1 (by simp);have p0:=hf (w,1) 0 (by simp);have p1:=hf (w,1) 1 (by simp);simp [go_sem]at r0 r1 p0 p1;have m1:¬w.heap.size+1=w1:=I)
  |(go_at_call 55;refine(bQ _ _ _ _).mono ?_;rintro e w' ⟨rfl,rfl⟩)
  |(go_at_call 206;refine(eY _ _ _).mono ?_;rintro e w2 ⟨rfl,rfl⟩))
 all_goals(refine bodyPost_ret (by simp [results,results200,go_sem,r0,r1,q1,m1];try rfl;done) rfl ?_)
 refine fQ.alloc (dB (hown'.slo H.bd) hB ?_ ?_ ?_ ?_ rfl rfl rfl) _
 all_goals first|(show w.heap.size+1<w+2;omega)|(show w.heap.size<=w+1;omega)
theorem FA(A:Option Addr)(n c:Nat)(xs:List Int)(a k v:Int)(w:World)(h:fI w A n c xs)(hn:n<=60)(hv: -9223372036854775808<=v/\v<=9223372036854775807):
 Calls prog 200 #[.slice A n c,.agg #[a,k,v]] w (fQ (gD xs a v) (gM xs a) (gK xs a) w):=by
 have hl:=h.len
 by_cases a1:a=1
 .subst a1
  by_cases h6:n<6
  .have e1:gD xs 1 v=jS (xs++[v]) n:=by simp [gD,hl,h6]
   have e2:gM xs 1=1:=by simp [gM,hl,h6]
   have e3:gK xs 1=0:=by simp [gK]
   rw[e1,e2,e3]
   exact EX A n c xs k v w h h6 hv
  have e1:gD xs 1 v=iA xs 1 v false 0:=by simp [gD,iA,hl,h6]
  have e2:gM xs 1=gZ xs 1:=by simp [gM,gZ,hl,h6]
  have e3:gK xs 1=gY xs 1 0:=by simp [gK,gY]
  rw[e1,e2,e3]
  exact OX A n c xs k v w h hn hv I
 by_cases a2:a=2
 .subst a2
  rcases n with _|m
  .obtain rfl:xs=[]:=List.eq_nil_of_length_eq_zero hl
   have e1:gD [] 2 v=iA [] 2 v false 0:=by simp [gD,iA,vY]
   have e2:gM [] 2=gZ [] 2:=by simp [gM,gZ]
   have e3:gK [] 2=gY [] 2 0:=by simp [gK,gY,gI]
   rw[e1,e2,e3]
   exact MH A 0 c [] k v w h hn hv (Nat.le_refl _)
  have e1:gD xs 2 v=jU (xs.take m) 0 (gI xs m):=by simp [gD,hl]
  have e2:gM xs 2=1:=by simp [gM,hl]
  have e3:gK xs 2=gI xs 0:=by simp [gK]
  rw[e1,e2,e3]
  rcases Nat.eq_zero_or_pos m with hm|hm
  .have:=yP A m c xs k v w h hm
   subst hm
   rw[List.take_zero,vY]
   exact this
  exact AP A m c xs k v w h hn hm
 by_cases a5:a=5
 .subst a5
  have e1:gD xs 5 v=iA xs 5 v false 0:=by simp [gD,iA]
  have e2:gM xs 5=gZ xs 5:=by simp [gM,gZ]
  have e3:gK xs 5=gY xs 5 0:=by
   rcases xs with _|⟨x,xs⟩<;>simp [gK,gY,gI]
  rw[e1,e2,e3]
  exact xN 5 (.inl rfl) A n c xs k v w h hn hv
 by_cases a6:a=6
 .subst a6
  have e1:gD xs 6 v=iA xs 6 v false 0:=by simp [gD,iA]
  have e2:gM xs 6=gZ xs 6:=by simp [gM,gZ]
  have e3:gK xs 6=gY xs 6 0:=by simp [gK,gY]
  rw[e1,e2,e3]
  exact xN 6 (.inr rfl) A n c xs k v w h hn hv
 have e1:gD xs a v=xs:=by simp [gD,a1,a2]
 have e2:gM xs a=5:=by simp [gM,a1,a2,a5,a6]
 have e3:gK xs a=0:=by simp [gK,a2,a5,a6]
 rw[e1,e2,e3]
 exact yN A n c xs a k v w h hn I
end
end Go.Proofs.YtplpimkgihnmhaaGreatDoor
