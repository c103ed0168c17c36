/-
  Part of a proof: ShCg ShCh ShOf ShCi. For all values.
-/
import Derived.Test.YtplpimkgihnmhaaGreatDoorA33
set_option maxRecDepth 100000
set_option maxHeartbeats 4000000
set_option linter.all false
namespace Go.Proofs.YtplpimkgihnmhaaGreatDoor
open Go.Proofs.Tryz Go.RowKit
section
attribute [local go_sem↓] Go.wp_at_zero Go.wp_at_succ
theorem YO:(prog.info? 278).map (fun i=>(i.zero,i.size,i.bytes))=some (some (.agg #[(0:Int),(0:Int),(0:Int),(0:Int),(0:Int)]),5,40):=J
theorem QB:∃i0,prog.info? 278=some i0/\i0.zero=some (.agg #[(0:Int),(0:Int),(0:Int),(0:Int),(0:Int)])/\i0.size=5/\i0.bytes=40:=by
 have h:=YO
 cases hq:prog.info? 278 with
 |none=>simp [hq]at h
 |some i=>simp [hq]at h;exact⟨i,rfl,h.1,h.2.1,h.2.2⟩
theorem NP(x:Int)(h0:0<=x)(h1:x<18446744073709551616):∃er,∀w:World,Calls prog 154 #[[x]] w fun e w'=>e=.returned (.tuple #[.agg #[(IV x),(KE x),(ID x)],er])/\Below w w w':=by
 obtain⟨y,rfl⟩:=Int.eq_ofNat_of_zero_le h0
 refine⟨.int .i64 (jN (cB ((y/65536/4294967296:Nat):Int) ((y/4294967296%65536:Nat):Int) ((y%4294967296:Nat):Int)) 3),fun w=>(CS y (y/65536/4294967296) (y/4294967296%65536) (y%4294967296) w I rfl rfl rfl).mono ?_⟩
 rintro e w' ⟨rfl,hb⟩
 refine⟨?_,hb⟩
 have e1:((y/65536/4294967296:Nat):Int)=(y:Int)/4294967296/65536:=I
 have e2:((y/4294967296%65536:Nat):Int)=(y:Int)/4294967296%65536:=I
 have e3:((y%4294967296:Nat):Int)=(y:Int)%4294967296:=I
 unfold IV KE ID
 rw[e1,e2,e3]
 rfl
section
variable{w:World}{tag:Nat->Nat}{t:Nat}{θ:cQ}{last:Int}{e:mG}{gs mp:Nat}{m:Nat->Int}{pt:Nat->Nat}{s:cN}{st:Int}{E O:Value}{R:Option Addr}{cr:Nat}{D:Option Addr}{cd:Nat}{rows:List (List Value)}{cs:List Cl}{r:List Value}
theorem TI(H:RC w tag w tag t θ last e gs mp m pt s st E O R cr D cd rows [] false)(hn:iF w tag t θ e)(d:θ.does=7)(hr:(Cl.fetch θ.i (θ.asks (θ.na-1) 1+1)).At w tag e r)(Nk:θ.i<4)(Hr:0<θ.na)(hna:θ.na<=4)(Xa:θ.asks (θ.na-1) 0=θ.i)(Tu:θ.asks (θ.na-1) 1=0\/θ.asks (θ.na-1) 1=1)(hxb:0<=m (2+2*θ.i)/\m (2+2*θ.i)<18446744073709551616)(hc:vV (θ.fill (m (2+2*θ.i)))):
 ∃N caps,r=td 7 (fv N caps)/\Calls prog N caps w fun e' w'=>e'=.returned (.tuple #[])/\gE w tag t last e gs mp pt st E O (stp t m s θ) w':=by
 obtain⟨bp,bi,bl,bg,bq,bw,bv,rfl,hp,hi,hl,hg,hq,hw,hv⟩:=hr
 refine⟨_,_,rfl,?_⟩
 simp only[cR]
 rw[show stp t m s θ=⟨m,s,((θ.fill (m (2+2*θ.i))).next 4 8).all t,false⟩ by simp only[stp,d]]
 have h4:=H.t4
 have HH:=aH H
 simp only[iF,d]at hn
 obtain⟨n1,n2,n3⟩:=hn
 have hrw:rows=[]:=by have:=H.rs.len;simpa using this
 subst hrw
 obtain⟨n,hn⟩:∃n,θ.na=n+1:=⟨θ.na-1,I⟩
 have Lj:θ.na-1=n:=I
 rw[Lj]at Xa Tu n2 hg
 obtain⟨y,hy⟩:=aO (θ.asks n 1:Int)
 rw[<-hy]at Tu hg
 obtain⟨X,hX⟩:=aO (m (2+2*θ.i):Int)
 rw[<-hX]at hxb hc⊢
 have cbp:w.cell? (bp,0)=(e.p,0):=hp.cell
 have lbp:=hp.2.lt
 have cbq:w.cell? (bq,0)=(e.q,0):=hq.cell
 have lbq:=hq.2.lt
 have cbw:w.cell? (bw,0)=some (.slice (some ⟨e.w,0,none⟩) 32 32):=hw.cell
 have lbw:=hw.2.lt
 have cbi:=hi.cell
 have lbi:=hi.2.lt
 have cbl:w.cell? (bl,0)=(e.l,0):=hl.cell
 have lbl:=hl.2.lt
 have cbv:w.cell? (bv,0)=(e.v,0):=hv.cell
 have lbv:=hv.2.lt
 have cbg:=hg.cell
 have lbg:=hg.2.lt
 have p0:=H.cp0
 have lp:=H.sh.lt
 have ls:=H.st_.lt
 obtain⟨er,hop⟩:=NP X hxb.1 hxb.2
 have Uz:=aH hop
 obtain⟨ltg,A0,c0,lb,lo,ltA⟩:=n2
 rw[oE]at lb lo
 have cl0:w.cell? (e.l,0)=some (.slice A0 n c0):=by rw[lb.cell];rfl
 have ll:=lb.lt
 have fl0:=lb.frozen 0
 have crg:w.cell? (e.p,1+(2+2*θ.i))=[X]:=by rw[hX];exact H.cram (k:=2+2*θ.i) I
 have HLO:=aH lo
 have HLB:=aH lb
 have Vj:=aH (And.intro ltg ltA)
 have HN:=aH (And.intro n1 n3)
 have HCR:=aH hc
 have HNN:=aH (And.intro hn (And.intro Hr (And.intro Xa hy)))
 have Tc:=aH Nk
 have hn4:n<=3:=I
 have k1:IntKind.i64.wrap (2*(θ.i:Int))=2*θ.i:=dE I I
 have k2:IntKind.i64.wrap (2+2*(θ.i:Int))=2+2*θ.i:=dE I I
 have k3:(2+2*(θ.i:Int)).toNat=2+2*θ.i:=I
 have k4:2+2*(θ.i:Int)<16:=I
 have k5:0<=2+2*(θ.i:Int):=I
 have k6:IntKind.i64.wrap ((θ.i:Int)+1)=(θ.i:Int)+1:=dE I I
 have k7:IntKind.i64.wrap (y+1)=y+1:=dE I I
 have k8:IntKind.i64.wrap (y+1-1)=y:=by rw[show y+1-1=y by omega];exact dE I I
 have k8b:IntKind.i64.wrap y=y:=dE I I
 obtain⟨i0,Is,Ib,Io,Hh⟩:=QB
 have HII:=aH Is
 have HIZ:=aH Ib
 have HIS:=aH Io
 have HIY:=aH Hh
 have HAL:Hid (∀q,A0=some q->q.block<w):=aH (fun q hq=>(lo.lt q hq).2)
 obtain⟨B,hB⟩:=aO (w:Nat)
 have Ji:=aH hB
 have dbp:¬B<=bp:=I
 have dbi:¬B<=bi:=I
 have dp:¬B<=e.p:=I
 have HD:=aH d
 have Pq:=aH (And.intro hp (And.intro hi (And.intro hl (And.intro hg (And.intro hq (And.intro hw hv))))))
 generalize hAa:IV X=ya at*
 generalize hAk:KE X=yk at*
 generalize hAv:ID X=yv at*
 have HAA:=aH (And.intro hAa (And.intro hAk hAv))
 clear H d n1 n3 lb lo ltg ltA hc Nk Hr hna Xa Tu hxb hy hX hn hop Lj hp hi hl hg hq hw hv Is Ib Io Hh hB hAa hAk hAv
 go_enter func153,ntmps153
 go_wp2
 refine hJ 14 (fun b=>B<=b) [13] J J ?_
 intro anc HA
 refine aV ?_;constructor
 .intro w9 Gq Gr
  refine aS ?_
  have zcbp:=(Gq.cell (p:=⟨bp,0,none⟩) lbp dbp).trans cbp
  refine aW ?_
  go_simp
  first
  |exact aE
 first|(with_reducible refine aI (fun K hK=>?_))|(refine aI (fun K hK=>?_))
 refine .inl ?_
 apply Exists.intro
 refine⟨cX,?_,hK _ _ _ _ ?_⟩
 .simp only[bW,cM]
  refine⟨?_,fun w9 Gq Gr=>?_⟩
  .first|rfl|(go_simp;done)
  refine aS ?_
  have zcbi:=(Gq.cell (p:=⟨bi,0,none⟩) lbi dbi).trans cbi
  refine aW ?_
  go_simp
  first
  |exact aE
 iterate 5
  clear hK K
  refine aN ?_
  first|(with_reducible refine aI (fun K hK=>?_))|(refine aI (fun K hK=>?_))
  refine .inl ?_
  apply Exists.intro
  refine⟨cX,?_,hK _ _ _ _ ?_⟩
  .simp only[bW,cM]
   refine⟨?_,fun w9 Gq Gr=>?_⟩
   .first|rfl|(go_simp;done)
   go_simp
   first
   |exact aE
 clear hK K
 refine aN ?_
 refine aV ?_;constructor
 .intro w9 Gq Gr
  refine aS ?_
  have zcrg:=(Gq.cell (p:=⟨e.p,1+(2+2*θ.i),none⟩) lp dp).trans crg
  refine aW ?_
  go_simp
  first
  |exact aE
 first|(with_reducible refine aI (fun K hK=>?_))|(refine aI (fun K hK=>?_))
 refine .inl ?_
 apply Exists.intro
 refine⟨cX,?_,hK _ _ _ _ ?_⟩
 .simp only[bW,cM]
  refine⟨?_,fun w9 Gq Gr=>?_⟩
  .first|rfl|(go_simp;done)
  go_simp
  first
  |exact aE
  |(go_at_call 154;exact bS (Uz.out _))
 iterate 3
  clear hK K
  refine aN ?_
  first|(with_reducible refine aI (fun K hK=>?_))|(refine aI (fun K hK=>?_))
  refine .inl ?_
  apply Exists.intro
  refine⟨cX,?_,hK _ _ _ _ ?_⟩
  .simp only[bW,cM]
   refine⟨?_,fun w9 Gq Gr=>?_⟩
   .first|rfl|(go_simp;done)
   go_simp
   first
   |exact aE
 clear hK K
 refine aN ?_
 refine bG ZB (fun _=>TN B 39 (3:Int)) ⟨_,0,rfl⟩ ?_ ?_
 .intro w9 Gq Gr
  refine aS ?_
  have Ie:B<=w9:=by rw[Ji.out];exact Gq.size
  refine aW ?_
  go_simp
  refine⟨⟨⟨_,rfl⟩,⟨_,rfl,aY.new _ _ _,Ie⟩⟩,aD.of_same ((Below.refl _ _).alloc (Nat.le_refl _) _)⟩
 refine bF undef (fun us w'=>TN B 39 #[ya,yk,yv] (us 12) w') ?_ ?_
 .rintro _ ⟨b9,rfl⟩
  refine⟨aF,fun w9 Gq Gr=>?_⟩
  refine aS ?_
  obtain⟨Ru,hmet⟩:=Gr
  simp only[BX]at hmet
  obtain⟨wc,kc,kd,b',Kx,hP,Oj⟩:=hmet.1 (by rw[HA.out];kernel_rfl)
  have e9:b9=b':=by
   have h:=Kx
   simpa using h
  subst e9
  have HX:=aH (hP.below (cA kd (by rw[HA.out];kernel_rfl)) hP.lt)
  clear hmet Ru kc kd hP Kx
  have HY:Hid (w9.there b9 0 3):=aH (HX.there (by show 0+3<=3;omega))
  refine aW ?_
  refine dA 39 _ _ rfl b9 0 #[ya,yk,yv] rfl rfl HY J J ?_
  refine⟨⟨rfl,?_⟩,(cE (S:=fun b=>B<=b) (.inl Oj) 0 _).mono fun b hb=>⟨aJ,hb⟩⟩
  unfold cV
  rw[iP (by rw[HA.out];kernel_rfl)]
  exact⟨b9,rfl,aY.setCells (vs:=[.int .i64 ya,.int .i64 yk,.int .i64 yv]) (o:=0) HX,Oj⟩
 refine kS ?_
 simp only[cM]
 rintro _ ⟨b9,rfl⟩ w9 Gq hmet
 refine aQ ?_
 refine aS ?_
 simp only[BX]at hmet
 obtain⟨wc,kc,kd,b',Kx,hP,Oj⟩:=hmet.2.1 trivial
 unfold cV at Kx
 rw[iP (by rw[HA.out];kernel_rfl)]at Kx
 have e9:b9=b':=by
  have h:Value.pointer (some ⟨b9,0,none⟩)=.pointer (some ⟨b',0,none⟩):=Kx
  simpa using h
 subst e9
 have Pp:=hP.below (cA kd (by rw[HA.out];kernel_rfl)) hP.lt
 have Gs:Below w w w9:=Gq.below (Nat.le_refl _) (fun b hb h=>by have:=Ji.out;have h':B<=b:=h;omega)
 have Yi:=aH Pp
 have Hq:=aH Gs
 have HBB:Hid (w<=b9):=aH (by rw[<-Ji.out];exact Oj)
 clear hmet Kx kc kd hP Pp Oj Gq
 obtain⟨w1,Vp⟩:=aO w9
 subst Vp
 have H1:=aH (HH.below Hq (bI.refl _ _))
 have Ph:=aH (HLO.below Hq)
 have HLB1:=aH (HLB.below Hq HLB.lt)
 have Py:=aH (And.intro (HN.out.1.kept (S:=bN) (aD.of_same Hq) (bI.refl _ _) (fun _ x=>x.elim)) (HN.out.2.kept (S:=bN) (aD.of_same Hq) (bI.refl _ _) (fun _ x=>x.elim)))
 have cbp1:=(Hq.cell (p:=⟨bp,0,none⟩) lbp).trans cbp
 have cbq1:=(Hq.cell (p:=⟨bq,0,none⟩) lbq).trans cbq
 have Lc:=(Hq.cell (p:=⟨bi,0,none⟩) lbi).trans cbi
 have Ld:=(Hq.cell (p:=⟨bl,0,none⟩) lbl).trans cbl
 have cbw1:=(Hq.cell (p:=⟨bw,0,none⟩) lbw).trans cbw
 have cbv1:=(Hq.cell (p:=⟨bv,0,none⟩) lbv).trans cbv
 have Lr:=(Hq.cell (p:=⟨bg,0,none⟩) lbg).trans cbg
 have Ro:=(Hq.cell (p:=⟨e.l,0,none⟩) ll).trans cl0
 have fl1:=HLB1.frozen 0
 have o0:w1.cell? (b9,0)=ya:=Yi.cell 0
 have o1:w1.cell? (b9,1)=yk:=Yi.cell 1
 have o2:w1.cell? (b9,2)=yv:=Yi.cell 2
 have Jo:=Yi.lt
 have z1:=Hq.size
 have mbp:=Nat.lt_of_lt_of_le lbp z1
 have mbq:=Nat.lt_of_lt_of_le lbq z1
 have mbi:=Nat.lt_of_lt_of_le lbi z1
 have mbl:=Nat.lt_of_lt_of_le lbl z1
 have mbw:=Nat.lt_of_lt_of_le lbw z1
 have mbv:=Nat.lt_of_lt_of_le lbv z1
 have mbg:=Nat.lt_of_lt_of_le lbg z1
 have ml:=Nat.lt_of_lt_of_le ll z1
 have nS:∀b,tag b=106->¬iI A0 b:=fun b hb h=>by have:=Vj.out.2 b h;omega
 have nbp:=nS bp Pq.out.1.1
 have nbi:=nS bi Pq.out.2.1.1
 have nbl:=nS bl Pq.out.2.2.1.1
 have nbg:=nS bg Pq.out.2.2.2.1.1
 have nbq:=nS bq Pq.out.2.2.2.2.1.1
 have nbw:=nS bw Pq.out.2.2.2.2.2.1.1
 have nbv:=nS bv Pq.out.2.2.2.2.2.2.1
 have nl:¬iI A0 e.l:=fun h=>by have:=Vj.out.2 _ h;have:=Vj.out.1;omega
 have n9:¬iI A0 b9:=fun h=>by obtain⟨q,hq,he⟩:=h;have:=HAL.out q hq;have:=HBB.out;omega
 clear nS cbp cbq cbi cbl cbw cbv cbg cl0 fl0 crg p0 lbp lbq lbi lbl lbw lbv lbg ll z1 Gs
 refine aW ?_
 go_wp2
 refine bK 12 (iI A0) [11] J J ?_
 iterate 10
  refine aR ?_;constructor
  .intro w9 Gq Gw
   refine aS ?_
   have qcbl1:=(Gq.cell (p:=⟨bl,0,none⟩) mbl nbl).trans Ld
   have qcl1:=(Gq.cell (p:=⟨e.l,0,none⟩) ml nl).trans Ro
   have qcbi1:=(Gq.cell (p:=⟨bi,0,none⟩) mbi nbi).trans Lc
   have qcbg1:=(Gq.cell (p:=⟨bg,0,none⟩) mbg nbg).trans Lr
   have Mi:=(Gq.cell (p:=⟨b9,0,none⟩) Jo n9).trans o0
   have Mj:=(Gq.cell (p:=⟨b9,1,none⟩) Jo n9).trans o1
   have Mk:=(Gq.cell (p:=⟨b9,2,none⟩) Jo n9).trans o2
   refine aW ?_
   go_simp
   first
   |exact aE
 refine bC CK (DM 278 [.int .i64 (θ.i:Int),.int .i64 y,.int .i64 ya,.int .i64 yk,.int .i64 yv]) ⟨_,0,rfl⟩ ?_ ?_
 .intro w9 Gq Gr
  refine aS ?_
  have qcbl1:=(Gq.cell (p:=⟨bl,0,none⟩) mbl nbl).trans Ld
  have qcl1:=(Gq.cell (p:=⟨e.l,0,none⟩) ml nl).trans Ro
  have qcbi1:=(Gq.cell (p:=⟨bi,0,none⟩) mbi nbi).trans Lc
  have qcbg1:=(Gq.cell (p:=⟨bg,0,none⟩) mbg nbg).trans Lr
  have Mi:=(Gq.cell (p:=⟨b9,0,none⟩) Jo n9).trans o0
  have Mj:=(Gq.cell (p:=⟨b9,1,none⟩) Jo n9).trans o1
  have Mk:=(Gq.cell (p:=⟨b9,2,none⟩) Jo n9).trans o2
  refine aW ?_
  go_simp
  exact⟨⟨⟨_,rfl⟩,⟨_,rfl,aY.new _ _ _⟩⟩,aD.of_same ((Below.refl _ _).alloc (Nat.le_refl _) _)⟩
 refine bD (DN (n+1)) (fun vv w'=>∃A' c',vv=.slice A' (n+1) c'/\cU w' 0 278 5 A' (n+1) c' ((eH θ.asks n)++[[.int .i64 (θ.i:Int),.int .i64 y,.int .i64 ya,.int .i64 yk,.int .i64 yv]])/\∀b,iI A' b->iI A0 b\/w1<=b) ⟨_,none,0,rfl⟩ ?_ ?_
 .rintro _ ⟨g9,rfl⟩
  refine⟨aF,fun w9 Gq Gr=>?_⟩
  refine aS ?_
  have Hz:=Gr
  have hmet:=Gr.2
  clear Gr
  obtain⟨w0,k0,k1,g',hv,hblk⟩:=hmet.1 J
  cases hv
  have Sc:=Gq.size
  have Kr:=hblk.below (cA k1 J) hblk.lt
  have Yn:=aH (Ph.below (cA Hz.1 J))
  clear hmet Hz hblk k0 k1
  refine aW ?_
  refine iM (.tmp 24) (.tmp 31) rfl underlying246 HII HIZ HIS HIY rfl aJ aJ (A:=A0) (n:=n) (c:=c0) (rows:=(eH θ.asks n)) rfl Yn (g:=g9) (c':=1) rfl (ys:=[.int .i64 (θ.i:Int),.int .i64 y,.int .i64 ya,.int .i64 yk,.int .i64 yv]) rfl ?_ ?_ I (Nat.zero_le _) ?_
  .intro j hj
   rw[Kr.cell j]
   simp
  .intro u hu
   simp only[List.mem_cons,List.not_mem_nil,or_false]at hu
   rcases hu with rfl|rfl|rfl|rfl|rfl<;>rfl
  intro g' cap w' ho hk' hwh
  refine⟨⟨⟨_,_,rfl⟩,⟨_,_,rfl,ho,fun b hb=>?_⟩⟩,hk'.mono fun b hb=>⟨aJ,hb⟩⟩
  obtain⟨a,ha,rfl⟩:=hb
  cases ha
  rcases hwh with⟨a,ha,e⟩|e
  .exact .inl ⟨a,ha,e⟩
  exact .inr (by show w1<=g';omega)
 refine aZ ?_
 rintro _ ⟨A9,c9,rfl⟩ _ ⟨g9,rfl⟩ w9 Gq hmet
 refine aQ ?_
 refine aS ?_
 obtain⟨w0,k0,k1,A8,c8,Rr,hown,hin⟩:=hmet.2.1 rfl
 cases Rr
 have Qt:=aH (hown.below (cA k1 J))
 have Pu:=aH hin
 clear hmet hown k0 k1 hin w0
 have Ls:=Gq
 have Vt:=Gq.size
 have C9:∀{b o:Nat} {v:Value},w1.cell? (b,o)=v->b<w1->¬iI A0 b->w9.cell? (b,o)=v:=fun h l nn=>(Ls.cell (p:=⟨_,_,none⟩) l nn).trans h
 have cl9:=C9 Ro ml nl
 have fl9:=(Ls.frozen (p:=⟨e.l,0,none⟩) ml nl).trans fl1
 have ml9:=Nat.lt_of_lt_of_le ml Vt
 have cbp9:=C9 cbp1 mbp nbp
 have cbq9:=C9 cbq1 mbq nbq
 have cbi9:=C9 Lc mbi nbi
 have cbl9:=C9 Ld mbl nbl
 have cbw9:=C9 cbw1 mbw nbw
 have cbv9:=C9 cbv1 mbv nbv
 have nE:∀b,tag b=106->¬b=e.l:=fun b hb z=>by have:=Vj.out.1;rw[z]at hb;omega
 have xbp:=nE bp Pq.out.1.1
 have xbi:=nE bi Pq.out.2.1.1
 have xbl:=nE bl Pq.out.2.2.1.1
 have xbq:=nE bq Pq.out.2.2.2.2.1.1
 have xbw:=nE bw Pq.out.2.2.2.2.2.1.1
 have xbv:=nE bv Pq.out.2.2.2.2.2.2.1
 have ybp:¬e.l=bp:=fun z=>xbp z.symm
 have ybi:¬e.l=bi:=fun z=>xbi z.symm
 have ybl:¬e.l=bl:=fun z=>xbl z.symm
 have ybq:¬e.l=bq:=fun z=>xbq z.symm
 have ybw:¬e.l=bw:=fun z=>xbw z.symm
 have ybv:¬e.l=bv:=fun z=>xbv z.symm
 have Qu:=cO w1 tag (160+t)
 have hkc:=bP w9 e.l 0 (.slice A9 (n+1) c9)
 have htl:=(Qu e.l ml).trans Vj.out.1
 have hto:∀b,cI e.l b->cG w1 tag (160+t) b=140+t:=fun b hb=>by rw[show b=e.l from hb];exact htl
 have htA:∀b,iI A9 b->cG w1 tag (160+t) b=160+t:=fun b hb=>by
  rcases Pu.out b hb with h|h
  .obtain⟨q,hq,he⟩:=h
   rw[Qu b (by have:=HAL.out q hq;have:=Hq.size;omega)]
   exact Vj.out.2 b ⟨q,hq,he⟩
  exact dT _ _ _ h
 have h2a:=H1.kept Ls Qu (fun b hb=>by have:=Vj.out.2 b hb;unfold rR;omega)
 have H2:=aH ((h2a.kept hkc (bI.refl _ _) (fun b hb=>by have:=hto b hb;unfold rR;omega)).as (θ':=θ.fill X) (fun _ _=>rfl) rfl)
 have HV2:=aH ((Py.out.1.kept Ls Qu (fun b hb=>by have:=Vj.out.2 b hb;omega)).kept hkc (bI.refl _ _) (fun b hb=>by have:=hto b hb;omega))
 have Ht:=aH ((Py.out.2.kept Ls Qu (fun b hb=>by have:=Vj.out.2 b hb;omega)).kept hkc (bI.refl _ _) (fun b hb=>by have:=hto b hb;omega))
 have It:Hid (rN (w9.setCell (e.l,0) (.slice A9 (n+1) c9)) (cG w1 tag (160+t)) t e.l (eH (θ.fill X).asks (θ.fill X).na)):=aH (by
  obtain⟨e1,e2,e3,e4⟩:=HNN.out
  have hrw:eH (θ.fill X).asks (θ.fill X).na=eH θ.asks n++[[.int .i64 (θ.i:Int),.int .i64 y,.int .i64 ya,.int .i64 yk,.int .i64 yv]]:=by
   show eH (θ.fill X).asks θ.na=_
   rw[e1,xL,pX]
   congr 1
   .refine pQ fun j hj c _=>?_
    show(if j+1=θ.na/\2<=c then _ else θ.asks j c)=_
    rw[iN I]
   have f:∀c,(θ.fill X).asks n c=if 2<=c then(if c=2 then IV X else if c=3 then KE X else ID X)else θ.asks n c:=fun c=>by
    show(if n+1=θ.na/\2<=c then _ else _)=_
    by_cases h2:2<=c
    .rw[iP ⟨e1.symm,h2⟩,iP h2]
    rw[iN (fun h=>h2 h.2),iN h2]
   rw[f,f,f,f,f,<-HAA.out.1,<-HAA.out.2.1,<-HAA.out.2.2,<-e3,e4]
   rfl
  refine⟨htl,A9,c9,?_,?_,htA⟩
  .rw[hrw]
   have Mz:aY w9 e.l 246 #[.slice A0 n c0]:=(Ls.block e.l ml nl).trans HLB1
   have hb:=Mz.set_ 0 (.slice A9 (n+1) c9)
   rw[show(eH θ.asks n++[[Value.int .i64 (θ.i:Int),.int .i64 y,.int .i64 ya,.int .i64 yk,.int .i64 yv]]).length=n+1 by rw[List.length_append,oE];rfl]
   exact hb
  rw[hrw,show(eH θ.asks n++[[Value.int .i64 (θ.i:Int),.int .i64 y,.int .i64 ya,.int .i64 yk,.int .i64 yv]]).length=n+1 by rw[List.length_append,oE];rfl]
  exact Qt.keptT (tag:=cG w1 tag (160+t)) (k:=160+t) hkc htA (fun b hb=>by have:=hto b hb;omega))
 have HC:=aH (ZX H2 rfl HV2 It Ht Tc ((θ.i:Int)+1) rfl HCR)
 have LT9:∀b,b<w1.heap.size->b<w9.heap.size:=fun b h=>Nat.lt_of_lt_of_le h Vt
 clear C9 nE Qu hkc htl hto htA h2a Ls Gq cbp1 cbq1 Lc Ld cbw1 cbv1 Lr Ro fl1 o0 o1 o2 nbp nbi nbl nbg nbq nbw nbv nl n9 H2 HV2 Ht It LT9
 refine aW ?_
 go_wp2_with fail
 with_reducible refine HC.out.mono ?_
 rintro e2 w3 ⟨rfl,hR⟩
 have HF:=aH hR
 clear hR HC
 go_wp2
 refine bodyPost_end (v:=.tuple #[]) (by simp [results,results153,go_sem]) rfl ?_
 exact⟨rfl,HF.out⟩
end
section
variable{w:World}{tag:Nat->Nat}{t:Nat}{θ:cQ}{last:Int}{e:mG}{gs mp:Nat}{m:Nat->Int}{pt:Nat->Nat}{s:cN}{st:Int}{E O:Value}{R:Option Addr}{cr:Nat}{D:Option Addr}{cd:Nat}{rows:List (List Value)}{cs:List Cl}{r:List Value}
theorem yS{bb:Bool}{x:Int}(H:RC w tag w tag t θ last e gs mp m pt s st E O R cr D cd rows [] false)(hn:iF w tag t θ e)(d:θ.does=21)(hr:(Cl.look5).At w tag e r)(hsb:(0<=θ.seen 0/\θ.seen 0<18446744073709551616)/\(0<=θ.seen 1/\θ.seen 1<18446744073709551616)/\(0<=θ.seen 2/\θ.seen 2<18446744073709551616))(Jj:m 1=θ.ver)(hbb:gO (θ.seen 0).toNat t=bb)(htg:θ.tg=x)(hx:(bb=true/\x=1)\/(bb=false/\x=0)):
 ∃N caps,r=td 21 (fv N caps)/\Calls prog N caps w fun e' w'=>e'=.returned (.tuple #[])/\gE w tag t last e gs mp pt st E O (stp t m s θ) w':=by
 obtain⟨bp,bq,rfl,hp,hq⟩:=hr
 refine⟨_,_,rfl,?_⟩
 simp only[cR]
 rw[show stp t m s θ=⟨m,s,{θ with o1:=rZ (θ.seen 1),o2:=tU (θ.seen 1),wn:=PS (θ.seen 2),does:=0},true⟩ by simp only[stp,d];rw[iP ⟨Jj,by rw[hbb,htg];rcases hx with⟨rfl,rfl⟩|⟨rfl,rfl⟩<;>rfl⟩]]
 have h4:=H.t4
 have HH:=aH H
 simp only[iF,d]at hn
 obtain⟨n1,n2,n3,n4⟩:=hn
 have hrw:rows=[]:=by have:=H.rs.len;simpa using this
 subst hrw
 have cbp:w.cell? (bp,0)=(e.p,0):=hp.cell
 have lbp:=hp.2.lt
 have cbq:w.cell? (bq,0)=(e.q,0):=hq.cell
 have lbq:=hq.2.lt
 have p0:=H.cp0
 have lp:=H.sh.lt
 have ls:=H.st_.lt
 have q0:=H.cth 0 (fun _ _=>rfl)
 have lq:=H.th.blk.lt
 have crm:w.cell? (e.p,2)=[m 1]:=H.cram (k:=1) I
 have q5:=H.cth 5 (fun _ _=>rfl)
 have q7:=H.cth 7 (fun _ _=>rfl)
 have cv:w.cell? (e.v,0)=[θ.ver]:=by rw[n1.2.cell];rfl
 have lv:=n1.2.lt
 obtain⟨s0,Rw⟩:=aO (θ.seen 0:Int)
 obtain⟨s1,Ns⟩:=aO (θ.seen 1:Int)
 obtain⟨s2,Mp⟩:=aO (θ.seen 2:Int)
 have cg:w.cell? (e.g,0)=[s0]:=by rw[n2.2.cell,Rw];rfl
 have lg:=n2.2.lt
 have ca:w.cell? (e.a,0)=[s1]:=by rw[n3.2.cell,Ns];rfl
 have la:=n3.2.lt
 have cn:w.cell? (e.n,0)=[s2]:=by rw[n4.2.cell,Mp];rfl
 have ln:=n4.2.lt
 rw[<-Rw,<-Ns,<-Mp]at hsb
 rw[<-Rw]at hbb
 have Qf:Hid (∀W,Calls prog 102 #[[s0],t] W fun e w'=>e=.returned bb/\Below W W w'):=aH (fun W=>by
  have:=kJ s0.toNat (t:Int) W I
  rw[show((s0.toNat:Nat):Int)=s0 by omega,hbb]at this
  exact this)
 rw[htg]at q5
 rw[Jj]at crm
 rw[<-Ns,<-Mp]
 have HNE:=aH (And.intro hq.1 (And.intro n3.1 n4.1))
 have Vk:=aH hsb
 have HS12:=aH (And.intro Ns Mp)
 clear H d n1 n2 n3 n4 hsb Rw Ns Mp Jj hbb htg
 rcases hx with⟨rfl,rfl⟩|⟨rfl,rfl⟩
 all_goals
  go_enter func112,ntmps112
  go_wp2
  refine aA 22 ?_
  iterate 22
   first
   |(refine aR1 ?_;constructor
     .intro w9 Gq Gy Gz
      go_simp
      first
      |exact aE
      |(go_at_call 102;exact bS (Qf.out _)))
   |refine aU ?_
  refine bZ ?_
  intro w9 Gq Gy Gz
  refine aS ?_
  have H1:=aH (HH.keep1 Gq)
  have cp9:=(Gq.cell (p:=⟨bp,0,none⟩) lbp (fun x=>x)).trans cbp
  have Ui:=(Gq.cell (p:=⟨bq,0,none⟩) lbq (fun x=>x)).trans cbq
  have Yo:=(Gq.cell (p:=⟨e.a,0,none⟩) la (fun x=>x)).trans ca
  have cn9:=(Gq.cell (p:=⟨e.n,0,none⟩) ln (fun x=>x)).trans cn
  have q79:=(Gq.cell (p:=⟨e.q,7,none⟩) lq (fun x=>x)).trans q7
  clear Gy Gz Gq cbp cbq p0 q0 crm q5 q7 cv cg ca cn
  refine aW ?_
  try simp only[List.drop_succ_cons,List.drop_zero,List.drop]
  go_wp2_with fail
  have Lw:=aH (fun W=>QQ s1 Vk.out.2.1.1 Vk.out.2.1.2 W)
  have wI:IntKind.i64.wrap s2=PS s2:=by have:=Vk.out.2.2;rw[IntKind.wrap_i64];unfold PS;split<;>omega
  obtain⟨w1,Vp⟩:=aO w9
  subst Vp
  have lq1:=H1.th.blk.lt
  have mq:bq<w1:=World.block_lt_of_cell? w1 _ Ui
  have ma:e.a<w1:=World.block_lt_of_cell? w1 _ Yo
  have mn:e.n<w1:=World.block_lt_of_cell? w1 _ cn9
  have x1:¬bq=e.q:=fun z=>by have h1:=HNE.out.1;have h2:=H1.th.tg;rw[z]at h1;omega
  have x2:¬e.a=e.q:=fun z=>by have h1:=HNE.out.2.1;have h2:=H1.th.tg;rw[z]at h1;omega
  have x3:¬e.n=e.q:=fun z=>by have h1:=HNE.out.2.2;have h2:=H1.th.tg;rw[z]at h1;omega
  have y1:¬e.q=bq:=fun z=>x1 z.symm
  have y2:¬e.q=e.a:=fun z=>x2 z.symm
  have y3:¬e.q=e.n:=fun z=>x3 z.symm
  have z1:¬cI e.q bq:=x1
  have z2:¬cI e.q e.a:=x2
  have z3:¬cI e.q e.n:=x3
  clear cp9 q79
  refine bK 9 (cI e.q) [8] J J ?_
  iterate 2
   refine aR ?_;constructor
   .intro w9 Gq Gw
    refine aS ?_
    have v1:=(Gq.cell (p:=⟨bq,0,none⟩) mq z1).trans Ui
    have v2:=(Gq.cell (p:=⟨e.a,0,none⟩) ma z2).trans Yo
    refine aW ?_
    go_simp
    first
    |exact aE
  first|(with_reducible refine aC (fun K hK=>?_))|(refine aC (fun K hK=>?_))
  refine .inl ?_
  apply Exists.intro
  refine⟨cX,?_,hK _ _ _ _ ?_⟩
  .simp only[bJ,bM]
   refine⟨?_,fun w9 Gq Gw=>?_⟩
   .first|rfl|(go_simp;done)
   refine aS ?_
   have v1:=(Gq.cell (p:=⟨bq,0,none⟩) mq z1).trans Ui
   have v2:=(Gq.cell (p:=⟨e.a,0,none⟩) ma z2).trans Yo
   refine aW ?_
   go_simp
   first
   |exact aE
   |(go_at_call 113;exact bS (Lw.out _))
  iterate 5
   clear hK K
   refine aN ?_
   first|(with_reducible refine aC (fun K hK=>?_))|(refine aC (fun K hK=>?_))
   refine .inl ?_
   apply Exists.intro
   refine⟨cX,?_,hK _ _ _ _ ?_⟩
   .simp only[bJ,bM]
    refine⟨?_,fun w9 Gq Gw=>?_⟩
    .first|rfl|(go_simp;done)
    refine aS ?_
    have v1:=(Gq.cell (p:=⟨bq,0,none⟩) mq z1).trans Ui
    have v2:=(Gq.cell (p:=⟨e.a,0,none⟩) ma z2).trans Yo
    refine aW ?_
    go_simp
    first
    |exact aE
  clear hK K
  refine aN ?_
  refine bA undef (fun _ w'=>RC w tag w' tag t {θ with o1:=rZ s1,o2:=tU s1} last e gs mp m pt s st E O R cr D cd [] [] false) ?_ ?_
  .intro w9 Gq Gw
   refine aS ?_
   have HX:=aH (H1.below (cA Gw.1 J) (bI.refl _ _))
   have HY:Hid (w9.there e.q 8 2):=aH (HX.th.blk.there (by show 8+2<=13;omega))
   refine aW ?_
   refine dA 44 _ _ rfl e.q 8 #[(rZ s1),(tU s1)] rfl rfl HY J J ?_
   refine⟨⟨rfl,?_⟩,(cE (S:=cI e.q) (.inl rfl) 8 _).mono fun b hb=>⟨aJ,hb⟩⟩
   exact HX.own (cE (S:=cI e.q) (.inl rfl) 8 _) (aY.setCells (vs:=[.int .i64 (rZ s1),.int .i64 (tU s1)]) (o:=8) HX.th.blk) rfl
  refine aZ ?_
  rintro w9 Gq hmet
  refine aQ ?_
  refine aS ?_
  obtain⟨wx,k6,k7,hf⟩:=hmet.1 rfl
  have H2:=aH (hf.below (cA k7 J) (bI.refl _ _))
  have v1:=(Gq.cell (p:=⟨bq,0,none⟩) mq z1).trans Ui
  have v3:=(Gq.cell (p:=⟨e.n,0,none⟩) mn z3).trans cn9
  have q10:w9.cell? (e.q,10)=θ.wn:=H2.cth 10 (fun _ _=>rfl)
  have f10:=H2.th.blk.frozen 10
  have q12:=H2.cth 12 (fun _ _=>rfl)
  have f12:=H2.th.blk.frozen 12
  have h3:=H2.setTh (θ':={θ with o1:=rZ s1,o2:=tU s1,wn:=PS s2}) (fin':=false) 10 (PS s2) (fun _ _=>rfl) rfl
  have h4':=h3.setTh (θ':={θ with o1:=rZ s1,o2:=tU s1,wn:=PS s2,does:=0}) (fin':=true) 12 true (fun _ _=>rfl) rfl
  have HF:=aH (h4'.out rfl (by simp only[iF]) ⟨rfl,rfl⟩)
  clear hmet k6 k7 hf Gq h3 h4' Ui Yo cn9
  refine aW ?_
  go_wp2
  refine bodyPost_end (v:=.tuple #[]) (by simp [results,results112,go_sem]) rfl ?_
  exact⟨rfl,HF.out⟩
theorem yW{bb:Bool}{x:Int}(H:RC w tag w tag t θ last e gs mp m pt s st E O R cr D cd rows [] false)(hn:iF w tag t θ e)(d:θ.does=21)(hr:(Cl.look5).At w tag e r)(hsb:(0<=θ.seen 0/\θ.seen 0<18446744073709551616)/\(0<=θ.seen 1/\θ.seen 1<18446744073709551616)/\(0<=θ.seen 2/\θ.seen 2<18446744073709551616))(Jj:m 1=θ.ver)(hbb:gO (θ.seen 0).toNat t=bb)(htg:θ.tg=x)(hx:(bb=true/\x=0)\/(bb=false/\x=1)):
 ∃N caps,r=td 21 (fv N caps)/\Calls prog N caps w fun e' w'=>e'=.returned (.tuple #[])/\gE w tag t last e gs mp pt st E O (stp t m s θ) w':=by
 obtain⟨bp,bq,rfl,hp,hq⟩:=hr
 refine⟨_,_,rfl,?_⟩
 simp only[cR]
 obtain⟨sd,hs⟩:=aP θ.said
 obtain⟨n,hsn⟩:∃n,(sd=true/\n=3)\/(sd=false/\n=1):=by
  cases sd
  .exact⟨1,.inr ⟨rfl,rfl⟩⟩
  exact⟨3,.inl ⟨rfl,rfl⟩⟩
 rw[show stp t m s θ=⟨m,s,θ.go n,false⟩ by simp only[stp,d];rw[iN (fun h=>by have:=h.2;rw[hbb,htg]at this;rcases hx with⟨rfl,rfl⟩|⟨rfl,rfl⟩<;>exact absurd this aJ),hs];rcases hsn with⟨rfl,rfl⟩|⟨rfl,rfl⟩<;>rfl]
 have h4:=H.t4
 have HH:=aH H
 simp only[iF,d]at hn
 obtain⟨n1,n2,n3,n4⟩:=hn
 have hrw:rows=[]:=by have:=H.rs.len;simpa using this
 subst hrw
 have cbp:w.cell? (bp,0)=(e.p,0):=hp.cell
 have lbp:=hp.2.lt
 have cbq:w.cell? (bq,0)=(e.q,0):=hq.cell
 have lbq:=hq.2.lt
 have p0:=H.cp0
 have lp:=H.sh.lt
 have ls:=H.st_.lt
 have q0:=H.cth 0 (fun _ _=>rfl)
 have lq:=H.th.blk.lt
 have crm:w.cell? (e.p,2)=[m 1]:=H.cram (k:=1) I
 have q5:=H.cth 5 (fun _ _=>rfl)
 have q7:=H.cth 7 (fun _ _=>rfl)
 have cv:w.cell? (e.v,0)=[θ.ver]:=by rw[n1.2.cell];rfl
 have lv:=n1.2.lt
 obtain⟨s0,Rw⟩:=aO (θ.seen 0:Int)
 obtain⟨s1,Ns⟩:=aO (θ.seen 1:Int)
 obtain⟨s2,Mp⟩:=aO (θ.seen 2:Int)
 have cg:w.cell? (e.g,0)=[s0]:=by rw[n2.2.cell,Rw];rfl
 have lg:=n2.2.lt
 have ca:w.cell? (e.a,0)=[s1]:=by rw[n3.2.cell,Ns];rfl
 have la:=n3.2.lt
 have cn:w.cell? (e.n,0)=[s2]:=by rw[n4.2.cell,Mp];rfl
 have ln:=n4.2.lt
 rw[<-Rw,<-Ns,<-Mp]at hsb
 rw[<-Rw]at hbb
 have Qf:Hid (∀W,Calls prog 102 #[[s0],t] W fun e w'=>e=.returned bb/\Below W W w'):=aH (fun W=>by
  have:=kJ s0.toNat (t:Int) W I
  rw[show((s0.toNat:Nat):Int)=s0 by omega,hbb]at this
  exact this)
 rw[htg]at q5
 rw[Jj]at crm
 rw[hs]at q7
 have Vk:=aH hsb
 have HS12:=aH (And.intro Ns Mp)
 clear H d n1 n2 n3 n4 hsb Rw Ns Mp Jj hbb htg hs
 rcases hx with⟨rfl,rfl⟩|⟨rfl,rfl⟩<;>rcases hsn with⟨rfl,rfl⟩|⟨rfl,rfl⟩
 all_goals
  go_enter func112,ntmps112
  go_wp2
  refine aA 22 ?_
  iterate 22
   first
   |(refine aR1 ?_;constructor
     .intro w9 Gq Gy Gz
      go_simp
      first
      |exact aE
      |(go_at_call 102;exact bS (Qf.out _)))
   |refine aU ?_
  refine bZ ?_
  intro w9 Gq Gy Gz
  refine aS ?_
  have H1:=aH (HH.keep1 Gq)
  have cp9:=(Gq.cell (p:=⟨bp,0,none⟩) lbp (fun x=>x)).trans cbp
  have Ui:=(Gq.cell (p:=⟨bq,0,none⟩) lbq (fun x=>x)).trans cbq
  have Yo:=(Gq.cell (p:=⟨e.a,0,none⟩) la (fun x=>x)).trans ca
  have cn9:=(Gq.cell (p:=⟨e.n,0,none⟩) ln (fun x=>x)).trans cn
  have q79:=(Gq.cell (p:=⟨e.q,7,none⟩) lq (fun x=>x)).trans q7
  have HC:=aH (GK H1.th e.p h4 (e0:=e) ⟨rfl,rfl⟩ (cls:=[]) trivial (by simp))
  have HD:=aH (RQ H1.th e.p h4)
  clear Gy Gz Gq cbp cbq p0 q0 crm q5 q7 cv cg ca cn
  refine aW ?_
  try simp only[List.drop_succ_cons,List.drop_zero,List.drop]
  go_wp2_with fail
  first
  |(with_reducible refine HC.out.mono ?_
    rintro e2 w3 ⟨rfl,Kc,R3,Uj,Lk,hk,hth,hrs⟩
    have HF:=aH (((H1.rowed hk ⟨rfl,rfl⟩ hth hrs).as (θ':=θ.go 3) (fun _ _=>rfl) rfl).out rfl (by simp only[iF,cQ.go]) ⟨rfl,rfl⟩)
    go_wp2
    refine bodyPost_end (v:=.tuple #[]) (by simp [results,results112,go_sem]) rfl ?_
    exact⟨rfl,HF.out⟩)
  |(with_reducible refine HD.out.mono ?_
    rintro e2 w3 ⟨rfl,Kc,env,R3,Uj,Lk,hk,hen,hth,hrs⟩
    have HF:=aH (((H1.rowed hk hen hth hrs).as (θ':=θ.go 1) (fun _ _=>rfl) rfl).out rfl (by simp only[iF,cQ.go]) hen)
    go_wp2
    refine bodyPost_end (v:=.tuple #[]) (by simp [results,results112,go_sem]) rfl ?_
    exact⟨rfl,HF.out⟩)
theorem OB(H:RC w tag w tag t θ last e gs mp m pt s st E O R cr D cd rows [] false)(hn:iF w tag t θ e)(d:θ.does=21)(hr:(Cl.look5).At w tag e r)(hsb:(0<=θ.seen 0/\θ.seen 0<18446744073709551616)/\(0<=θ.seen 1/\θ.seen 1<18446744073709551616)/\(0<=θ.seen 2/\θ.seen 2<18446744073709551616))(Jj:¬m 1=θ.ver):
 ∃N caps,r=td 21 (fv N caps)/\Calls prog N caps w fun e' w'=>e'=.returned (.tuple #[])/\gE w tag t last e gs mp pt st E O (stp t m s θ) w':=by
 obtain⟨bp,bq,rfl,hp,hq⟩:=hr
 refine⟨_,_,rfl,?_⟩
 simp only[cR]
 obtain⟨sd,hs⟩:=aP θ.said
 obtain⟨n,hsn⟩:∃n,(sd=true/\n=3)\/(sd=false/\n=1):=by
  cases sd
  .exact⟨1,.inr ⟨rfl,rfl⟩⟩
  exact⟨3,.inl ⟨rfl,rfl⟩⟩
 rw[show stp t m s θ=⟨m,s,θ.go n,false⟩ by simp only[stp,d];rw[iN (fun h=>Jj h.1),hs];rcases hsn with⟨rfl,rfl⟩|⟨rfl,rfl⟩<;>rfl]
 have h4:=H.t4
 have HH:=aH H
 simp only[iF,d]at hn
 obtain⟨n1,n2,n3,n4⟩:=hn
 have hrw:rows=[]:=by have:=H.rs.len;simpa using this
 subst hrw
 have cbp:w.cell? (bp,0)=(e.p,0):=hp.cell
 have lbp:=hp.2.lt
 have cbq:w.cell? (bq,0)=(e.q,0):=hq.cell
 have lbq:=hq.2.lt
 have p0:=H.cp0
 have lp:=H.sh.lt
 have ls:=H.st_.lt
 have q0:=H.cth 0 (fun _ _=>rfl)
 have lq:=H.th.blk.lt
 have crm:w.cell? (e.p,2)=[m 1]:=H.cram (k:=1) I
 have q5:=H.cth 5 (fun _ _=>rfl)
 have q7:=H.cth 7 (fun _ _=>rfl)
 have cv:w.cell? (e.v,0)=[θ.ver]:=by rw[n1.2.cell];rfl
 have lv:=n1.2.lt
 obtain⟨s0,Rw⟩:=aO (θ.seen 0:Int)
 obtain⟨s1,Ns⟩:=aO (θ.seen 1:Int)
 obtain⟨s2,Mp⟩:=aO (θ.seen 2:Int)
 have cg:w.cell? (e.g,0)=[s0]:=by rw[n2.2.cell,Rw];rfl
 have lg:=n2.2.lt
 have ca:w.cell? (e.a,0)=[s1]:=by rw[n3.2.cell,Ns];rfl
 have la:=n3.2.lt
 have cn:w.cell? (e.n,0)=[s2]:=by rw[n4.2.cell,Mp];rfl
 have ln:=n4.2.lt
 rw[<-Rw,<-Ns,<-Mp]at hsb
 have hv2:=Jj
 have hv3:¬(θ.ver:Int)=m 1:=fun h=>Jj h.symm
 rw[hs]at q7
 have Vk:=aH hsb
 have HS12:=aH (And.intro Ns Mp)
 clear H d n1 n2 n3 n4 hsb Rw Ns Mp Jj hs
 rcases hsn with⟨rfl,rfl⟩|⟨rfl,rfl⟩
 all_goals
  go_enter func112,ntmps112
  go_wp2
  refine aA 22 ?_
  iterate 8
   refine aR ?_;constructor
   .intro w9 Gq _
    refine aS ?_
    obtain⟨Gy,Gz⟩:=Gq.all
    refine aW ?_
    go_simp
    first
    |exact aE
  iterate 12
   refine aU ?_
  iterate 2
   refine aR ?_;constructor
   .intro w9 Gq _
    refine aS ?_
    obtain⟨Gy,Gz⟩:=Gq.all
    refine aW ?_
    go_simp
    first
    |exact aE
  refine aZ ?_
  rintro w9 Gq hmet
  refine aQ ?_
  obtain⟨Gy,Gz⟩:=Gq.all
  refine aS ?_
  have H1:=aH (HH.keep1 Gq)
  have cp9:=(Gq.cell (p:=⟨bp,0,none⟩) lbp (fun x=>x)).trans cbp
  have Ui:=(Gq.cell (p:=⟨bq,0,none⟩) lbq (fun x=>x)).trans cbq
  have Yo:=(Gq.cell (p:=⟨e.a,0,none⟩) la (fun x=>x)).trans ca
  have cn9:=(Gq.cell (p:=⟨e.n,0,none⟩) ln (fun x=>x)).trans cn
  have q79:=(Gq.cell (p:=⟨e.q,7,none⟩) lq (fun x=>x)).trans q7
  have HC:=aH (GK H1.th e.p h4 (e0:=e) ⟨rfl,rfl⟩ (cls:=[]) trivial (by simp))
  have HD:=aH (RQ H1.th e.p h4)
  clear Gy Gz Gq cbp cbq p0 q0 crm q5 q7 cv cg ca cn
  refine aW ?_
  try simp only[List.drop_succ_cons,List.drop_zero,List.drop]
  go_wp2_with fail
  first
  |(with_reducible refine HC.out.mono ?_
    rintro e2 w3 ⟨rfl,Kc,R3,Uj,Lk,hk,hth,hrs⟩
    have HF:=aH (((H1.rowed hk ⟨rfl,rfl⟩ hth hrs).as (θ':=θ.go 3) (fun _ _=>rfl) rfl).out rfl (by simp only[iF,cQ.go]) ⟨rfl,rfl⟩)
    go_wp2
    refine bodyPost_end (v:=.tuple #[]) (by simp [results,results112,go_sem]) rfl ?_
    exact⟨rfl,HF.out⟩)
  |(with_reducible refine HD.out.mono ?_
    rintro e2 w3 ⟨rfl,Kc,env,R3,Uj,Lk,hk,hen,hth,hrs⟩
    have HF:=aH (((H1.rowed hk hen hth hrs).as (θ':=θ.go 1) (fun _ _=>rfl) rfl).out rfl (by simp only[iF,cQ.go]) hen)
    go_wp2
    refine bodyPost_end (v:=.tuple #[]) (by simp [results,results112,go_sem]) rfl ?_
    exact⟨rfl,HF.out⟩)
end
end
section
open Go.Maps
def yG(v:Value):Option (DataW Value×List MemPlace):=some (.held v,[])
def VZ(v:Nat):Lit:=.int .u64 v
theorem ZA{v u:Nat}(h:VZ v=VZ u):v=u:=by
 unfold VZ at h
 injection h with _ h
 omega
theorem Bo(v:Nat):WideAt.IsKeyLit (VZ v):=by unfold VZ;trivial
theorem Ab(v:Nat)(h:v<18446744073709551616):keyOf prog 23 [v]=some (VZ v):=by
 refine keyOf_int_mk underlying23 ?_
 unfold Lit.wf
 simp [IntKind.min,IntKind.max,IntKind.bits,IntKind.signed]
 try omega
def KO(w:World)(tag:Nat->Nat)(go n:Nat)(of:Nat->List (List Value)):Prop:=
 tag go=104/\∃D:DataW Value,w.ownsMap prog 23 yG go n D/\∀v,∃A c,D.atKey (VZ v) (.held (.slice none 0 0))=.held (.slice A (of v).length c)/\cU w 0 159 6 A (of v).length c (of v)/\∀b,iI A b->tag b=105
theorem KO.lt{w:World}{tag:Nat->Nat}{go n:Nat}{of:Nat->List (List Value)}(h:KO w tag go n of):go<w:=by
 obtain⟨_,D,ho,_⟩:=h
 exact ho.lt
theorem KO.kept{w w':World}{tag tag':Nat->Nat}{S:Nat->Prop}{go n:Nat}{of:Nat->List (List Value)}(h:KO w tag go n of)(hk:aD S w w')(ht:bI w tag tag')(hS:∀b,S b->tag b≠104/\tag b≠105):KO w' tag' go n of:=by
 have hlt:=h.lt
 obtain⟨h1,D,ho,hD⟩:=h
 have hb:=hk.block go hlt (fun z=>(hS _ z).1 h1)
 obtain⟨es,clock,g1,g2,g3,g4⟩:=ho
 refine⟨(ht go hlt).trans h1,D,⟨es,clock,hb.trans g1,g2,g3,g4⟩,fun v=>?_⟩
 obtain⟨A,c,e1,e2,e3⟩:=hD v
 exact⟨A,c,e1,e2.keptT hk e3 (fun b z=>(hS b z).2),e2.tagT ht e3⟩
theorem KO.put{w':World}{tag:Nat->Nat}{go n:Nat}{of:Nat->List (List Value)}{V:Nat}{A:Option Addr}{c:Nat}{l:List (List Value)}{D:DataW Value}(h1:tag go=104)(hw:w'.ownsMap prog 23 yG go (n+1) (D.put (VZ V) (.held (.slice A l.length c))))(hm:IsMap D)
 (hD:∀v,∃A c,D.atKey (VZ v) (.held (.slice none 0 0))=.held (.slice A (of v).length c)/\cU w' 0 159 6 A (of v).length c (of v)/\∀b,iI A b->tag b=105)
 (hl:cU w' 0 159 6 A l.length c l) (hT:∀b,iI A b->tag b=105):KO w' tag go (n+1) (fun v=>if v=V then l else of v):=by
 refine⟨h1,_,hw,fun v=>?_⟩
 by_cases e:v=V
 .subst e
  refine⟨A,c,?_,?_,hT⟩
  .dsimp only;rw[atKey_put_same hm (Bo _),iP rfl]
  dsimp only;rw[iP rfl];exact hl
 obtain⟨A',c',e1,e2,e3⟩:=hD v
 refine⟨A',c',?_,?_,e3⟩
 .dsimp only;rw[atKey_put_other (fun e2=>e (ZA e2)),e1,iN e]
 dsimp only;rw[iN e];exact e2
end
section
open Go.Maps
attribute [local go_sem↓] Go.wp_at_zero Go.wp_at_succ
def CM(t k:Nat):Prop:=yL t k\/k=104
section
variable{w0 w w':World}{Gu tag:Nat->Nat}{t:Nat}{θ:cQ}{last:Int}{e:mG}{gs mp:Nat}{m:Nat->Int}{pt:Nat->Nat}{s:cN}{st:Int}{E O:Value}{R:Option Addr}{cr:Nat}{D:Option Addr}{cd:Nat}{rows:List (List Value)}{cs:List Cl}{fin:Bool}
theorem RC.rebase(h:RC w0 Gu w tag t θ last e gs mp m pt s st E O R cr D cd rows cs fin){S:Nat->Prop}(hk:aD S w w')(hS:∀b,S b->tag b=104):RC w' tag w' tag t θ last e gs mp m pt s st E O R cr D cd rows cs fin:=by
 have h4:=h.t4
 have ht:=bI.refl w tag
 have hn:∀b,S b->tag b≠100/\tag b≠101/\tag b≠102/\tag b≠105/\tag b≠106/\tag b≠110+t/\tag b≠120+t:=fun b hb=>by
  have:=hS b hb
  omega
 exact⟨Kg.refl _ _ _,(hk.block e.p h.sh.lt fun z=>(hn _ z).2.2.1 h.tp).trans h.sh,(hk.block gs h.st_.lt fun z=>(hn _ z).1 h.ts).trans h.st_,h.wm.kept hk (fun z=>(hn _ z).2.1 h.tm),(ht _ h.sh.lt).trans h.tp,(ht _ h.st_.lt).trans h.ts,(ht _ h.wm.lt).trans h.tm,h.th.kept hk ht (fun b z=>(hn b z).2.2.2.2.2.1) (fun b z=>(hn b z).2.2.2.2.2.2) (fun b z=>(hn b z).2.2.2.1),h.rs.kept hk ht (fun b z=>(hn b z).2.2.2.2.1),h4⟩
end
section
variable{w:World}{tag:Nat->Nat}{t:Nat}{θ:cQ}{last:Int}{e:mG}{gs mp:Nat}{m:Nat->Int}{pt:Nat->Nat}{s:cN}{st:Int}{E O:Value}{R:Option Addr}{cr:Nat}{D:Option Addr}{cd:Nat}{rows:List (List Value)}{cs:List Cl}{r:List Value}
theorem UT(H:RC w tag w tag t θ last e gs mp m pt s st E O R cr D cd rows [.wish2,.firm2,.tell (θ.ver+1),.unlock,.reply] false)(hn:iF w tag t θ e)(d:θ.does=11)(hr:(Cl.index (θ.ver+1)).At w tag e r){go n:Nat}{of:Nat->List (List Value)}(hO:O=.map (some go))(hof:KO w tag go n of)(hn4:n<=1000000000)(hvb:θ.ver<=1099511627776):
 ∃N caps,r=td 11 (fv N caps)/\Calls prog N caps w fun e' w'=>e'=.returned (.tuple #[])/\Kg (CM t) w tag w' tag/\KO w' tag go (n+1) (fun v=>if v=θ.ver+1 then θ.deeds else of v)/\gE w' tag t last e gs mp pt st E O (stp t m s θ) w':=by
 obtain⟨bv,bp,bq,rfl,hv,hp,hq⟩:=hr
 refine⟨_,_,rfl,?_⟩
 simp only[cR]
 rw[show stp t m s θ=⟨m,s.save 0 (θ.ver+1:Nat),θ.go 12,false⟩ by simp only[stp,d]]
 have h4:=H.t4
 have HH:=aH H
 subst hO
 have cbv:=hv.cell
 have lbv:=hv.2.lt
 have cbp:w.cell? (bp,0)=(e.p,0):=hp.cell
 have lbp:=hp.2.lt
 have cbq:w.cell? (bq,0)=(e.q,0):=hq.cell
 have lbq:=hq.2.lt
 have p0:=H.cp0
 have lp:=H.sh.lt
 have ls:=H.st_.lt
 have HOF:=aH hof
 have HKO:=aH (Ab (θ.ver+1) I)
 obtain⟨V,hV⟩:=aO (((θ.ver+1:Nat):Int):Int)
 rw[<-hV]at cbv HKO⊢
 clear hV
 clear H hn d hof
 go_enter func176,ntmps176
 go_wp2
 refine aA 7 ?_
 iterate 7
  first
  |(refine aR1 ?_;constructor
    .intro w9 Gq Gy Gz
     go_simp
     first
     |exact aE)
  |refine aU ?_
 refine bZ ?_
 intro w9 Gq Gy Gz
 refine aS ?_
 have H1:=aH (HH.keep1 Gq)
 have Hj:=aH Gq
 have Ph:=aH (HOF.kept Gq (bI.refl _ _) (fun _ x=>x.elim))
 have Tl:w9.cell? (gs,0)=[s.now 0]:=H1.cnow I
 have Wm:=H1.st_.frozen 0
 have hkc:=bP w9 gs 0 [V]
 have ht:∀b,cI gs b->tag b=100:=fun b hb=>by rw[show b=gs from hb];exact H1.ts
 have H2:=aH (H1.setNow (a:=0) I V)
 have Nn:=aH (Ph.kept hkc (bI.refl _ _) (fun b hb=>by have:=ht b hb;omega))
 have cbv2:(w9.setCell (gs,0) [V]).cell? (bv,0)=[V]:=(hkc.cell (p:=⟨bv,0,none⟩) (Nat.lt_of_lt_of_le lbv Gq.size) (fun z=>by have h1:=ht bv z;have h2:=hv.1;omega)).trans ((Gq.cell (p:=⟨bv,0,none⟩) lbv (fun x=>x)).trans cbv)
 have cbp2:(w9.setCell (gs,0) [V]).cell? (bp,0)=(e.p,0):=(hkc.cell (p:=⟨bp,0,none⟩) (Nat.lt_of_lt_of_le lbp Gq.size) (fun z=>by have h1:=ht bp z;have h2:=hp.1;omega)).trans ((Gq.cell (p:=⟨bp,0,none⟩) lbp (fun x=>x)).trans cbp)
 have cbq2:(w9.setCell (gs,0) [V]).cell? (bq,0)=(e.q,0):=(hkc.cell (p:=⟨bq,0,none⟩) (Nat.lt_of_lt_of_le lbq Gq.size) (fun z=>by have h1:=ht bq z;have h2:=hq.1;omega)).trans ((Gq.cell (p:=⟨bq,0,none⟩) lbq (fun x=>x)).trans cbq)
 have mz:=Nat.le_trans Gq.size hkc.size
 clear Gy Gz Gq hkc ht cbv cbp cbq p0
 refine aW ?_
 simp only[List.drop_succ_cons,List.drop_zero,List.drop]
 go_wp2
 generalize w9.setCell (gs,0) [V]=w2 at*
 have mbv:=Nat.lt_of_lt_of_le lbv mz
 have mbp:=Nat.lt_of_lt_of_le lbp mz
 have mbq:=Nat.lt_of_lt_of_le lbq mz
 have p23:w2.cell? (e.p,23)=some (.map (some go)):=by rw[H2.sh.cell,Bl]
 have mp:=H2.sh.lt
 have q11:w2.cell? (e.q,11)=some (.slice D θ.deeds.length cd):=by rw[H2.th.blk.cell];rfl
 have mq:=H2.th.blk.lt
 refine aA 9 ?_
 iterate 9
  first
  |(refine aR1 ?_;constructor
    .intro w9 Gq Gy Gz
     go_simp
     first
     |exact aE)
  |refine aU ?_
 refine bZ ?_
 intro w9 Gq Gy Gz
 refine aS ?_
 have H3:=aH (H2.keep1 Gq)
 obtain⟨h104,Dm,hown,hDm⟩:=Nn.kept Gq (bI.refl _ _) (fun _ x=>x.elim)
 have HKW:=aH (Hj.out)
 have hism:IsMap Dm:=by
  obtain⟨es,clock,_,_,_,hq⟩:=hown
  exact⟨_,hq⟩
 have Qt:=aH hown
 have HDM:=aH (And.intro h104 (And.intro hism hDm))
 clear hown hism hDm Gy Gz cbv2 cbp2 cbq2 p23 q11
 refine aW ?_
 simp only[List.drop_succ_cons,List.drop_zero,List.drop]
 go_wp2_with (refine wpList_mapUpdate_own _ rfl _ _ _ 66 rfl 23 41 YV underlying66 yG go n Dm rfl Qt.out (by unfold maxLen;omega) _ _ (VZ (θ.ver+1)) rfl rfl HKO.out (.held (.slice D θ.deeds.length cd)) [] rfl ?_;rintro w3 how3 hgr3;have hkg:aD (nQ go) w9 w3:=uQ hgr3;have Qs:=aH how3;have Mt:=aH hkg;clear how3 hgr3 hkg)
 refine bodyPost_end (v:=.tuple #[]) (by simp [results,results176,go_sem]) rfl ?_
 have hgo:∀b,nQ go b->tag b=104:=fun b hb=>by rw[show b=go from hb];exact HDM.out.1
 refine⟨rfl,(H3.k.mono (fun k hk=>.inl hk)).go (bI.refl _ _) Mt.out (fun b hb=>.inr (hgo b hb)),?_,?_⟩
 .refine KO.put HDM.out.1 Qs.out HDM.out.2.1 (fun v=>?_) (H3.th.deeds.keptT Mt.out H3.th.tD (fun b hb=>by rw[hgo b hb];omega)) H3.th.tD
  obtain⟨A,c,e1,e2,e3⟩:=HDM.out.2.2 v
  exact⟨A,c,e1,e2.keptT Mt.out e3 (fun b hb=>by rw[hgo b hb];omega),e3⟩
 have h5:=(H3.rebase Mt.out hgo).as (θ':=θ.go 12) (fun _ _=>rfl) rfl
 exact h5.out rfl (by simp only[iF,cQ.go]) ⟨rfl,rfl⟩
end
end
end Go.Proofs.YtplpimkgihnmhaaGreatDoor
