/-
  Part of a proof: RecO. For all values.
-/
import Derived.Test.YtplpimkgihnmhaaGreatDoorA17
set_option maxRecDepth 100000
set_option maxHeartbeats 40000000
set_option linter.all false
namespace Go.Proofs.YtplpimkgihnmhaaGreatDoor
open Go.Proofs.Tryz Go.RowKit
section
open Go.Maps
attribute [local go_sem ↓] Go.wp_at_zero Go.wp_at_succ
theorem zB(A:Option Addr)(c:Nat)(z:Nat->Int)(b:Bool)(w:World)(h:qY w A 32 c z)(hb:b=true↔eE z):
 Calls prog 150 #[.slice A 32 c] w (TJ b (Dc z) w):=by
 have HI:Hid ((prog.info? 136).map (·.size)=some rz.size):=mU
 have H:=Lib.hid h
 have HB:=Lib.hid hb
 obtain⟨bA,oA,rfl,hglt,hcell⟩:=h.at_ (by omega)
 have c0:=hcell 0 (by omega)
 have Ua:=h.bd 0 (by omega)
 simp only[Nat.add_zero]at c0
 clear hcell h hb
 generalize Ib:z 0=z0 at c0 Ua
 have Uo:=Lib.hid Ib
 clear Ib
 go_enter func150,ntmps150
 generalize hQ:bodyPost prog Tryz.f150 (TJ b (Dc z) w)=Q
 have Uh:=Lib.hid hQ
 clear hQ
 by_cases h6:z0<=6
 .have d6:decide (6<z0)=false:=by simp;omega
  obtain⟨b1,Gs⟩:∃b1:Bool,b1=true↔cK z0 (oz z):=by
   by_cases hh:cK z0 (oz z)
   .exact⟨true,fun _=>hh,fun _=>rfl⟩
   .exact⟨false,fun h=>Bool.noConfusion h,fun h=>absurd h hh⟩
  have Hc:=Lib.hid Gs
  clear Gs
  go_wp2_with fail
  have Ka:Below w.heap.size w ((w.alloc (.cells rz 136)).alloc (.cells rz 136)):=by go_grown
  have hR0:aY ((w.alloc (.cells rz 136)).alloc (.cells rz 136)) w.heap.size 136 rz:=(aY.new _ _ _).alloc _
  have Sb:aY ((w.alloc (.cells rz 136)).alloc (.cells rz 136)) (w.heap.size+1) 136 rz:=aY.newAt _ _ _ (by simp)
  show Code.wp _ _ _ _ ((w.alloc (.cells rz 136)).alloc (.cells rz 136))
  generalize(w.alloc (.cells rz 136)).alloc (.cells rz 136)=W1 at*
  have Hv:=Lib.hid (H.out.below Ka)
  have Hq:=Lib.hid Ka
  have Me:=Lib.hid hR0
  have Kn:=Lib.hid Sb
  have c01:=(Ka.cell (p:=⟨bA,oA,none⟩) hglt).trans c0
  have Ig:bA<W1.heap.size:=by have:=Ka.size;omega
  have c63:=H.out.cap63
  have hcp:=H.out.cap
  have e1:¬c=1:=by omega
  have e18:(18:Int)<=c:=by omega
  have ez:IntKind.i64.wrap z0=z0:=IntWalk.i64_in _ (by omega)
  have HSA:Hid (qY W1 (some ⟨bA,oA+1,none⟩) 17 (c-1) (oz z)):=Lib.hid ⟨by omega,by omega,fun i hi=>Hv.out.bd (1+i) (by omega),fun _=>⟨bA,oA+1,rfl,Ig,fun i hi=>by
   obtain⟨g2,o2,he,_,hc⟩:=Hv.out.at_ (by omega)
   cases he
   rw[Nat.add_assoc]
   exact hc (1+i) (by omega)⟩⟩
  clear Ka hR0 Sb c0
  refine dQ 12 (fun b=>b=w.heap.size+1) [11] (by kernel_rfl) (by kernel_rfl) ?_
  intro anc HA
  iterate 6
   refine aC (fun K hK=>?_)
   refine .inl ?_
   apply Exists.intro
   refine⟨cX,?_,hK _ _ _ _ ?_⟩
   .simp only[bJ,bM]
    refine⟨rfl,fun w9 Gq _=>?_⟩
    have c9:=(Gq.cell (p:=⟨bA,oA,none⟩) Ig (by show¬bA=w.heap.size+1;omega)).trans c01
    go_simp
    exact⟨⟨rfl,trivial⟩,aD.refl _ _⟩
   clear hK K
   try simp only[Act.put,List.setIfInBounds_toArray,List.set_cons_zero,List.set_cons_succ]
  refine aC (fun K hK=>?_)
  refine .inr (.inr ⟨Ds b1,ZW b1 (iS (w.heap.size+2) z0 (oz z)),⟨_,tz 0,rfl,rfl,by kernel_rfl⟩,?_,hK _ _ _ _ ?_⟩)
  .simp only[bJ,bM]
   refine⟨rfl,fun w9 Gq _=>?_⟩
   have Vt:=Gq.size
   have Ns:=Kn.out.lt
   go_simp
   go_at_call 169
   (with_reducible refine(NS _ _ (oz z) z0 b1 _ (qN HSA.out Gq (fun a ha=>by cases ha;show¬bA=w.heap.size+1;omega)) Hc.out).mono ?_)
   rintro e Qw ⟨hbl,C,hs,ho,rfl,hT⟩
   exact⟨_,rfl,⟨⟨C,rfl,hs,ho⟩,C,rfl,fun ht=>(hT ht).mono (by omega)⟩,aD.of_same hbl⟩
  clear hK K
  try simp only[Act.put,List.setIfInBounds_toArray,List.set_cons_zero,List.set_cons_succ]
  refine aC (fun K hK=>?_)
  refine .inr (.inr ⟨Ds b1,ZW b1 (iS (w.heap.size+2) z0 (oz z)),⟨_,tz 0,rfl,rfl,by kernel_rfl⟩,?_,hK _ _ _ _ ?_⟩)
  .simp only[bJ,bM]
   rintro _ ⟨C,rfl,hs,ho⟩
   refine⟨rfl,fun w9 Gq hmet=>?_⟩
   obtain⟨w0,k0,k1,C',hv,hT⟩:=hmet.2.1 (by rw[HA.out];kernel_rfl)
   cases hv
   go_simp
   exact⟨⟨⟨C,rfl,hs,ho⟩,C,rfl,fun ht=>(hT ht).keeps (aD.of_same (S:=bN) (dG k1 (by rw[HA.out];kernel_rfl))) (fun _ _ h=>h)⟩,aD.refl _ _⟩
  clear hK K
  try simp only[Act.put,List.setIfInBounds_toArray,List.set_cons_zero,List.set_cons_succ]
  refine aC (fun K hK=>?_)
  refine .inr (.inr ⟨Fo,Ec b1 (iS (w.heap.size+2) z0 (oz z)),⟨_,tz 0,rfl,rfl,by kernel_rfl⟩,?_,hK _ _ _ _ ?_⟩)
  .simp only[bJ,bM]
   rintro _ ⟨C,rfl,hs,ho⟩ _ ⟨C2,rfl,Mp,ho2⟩
   refine⟨rfl,fun w9 Gq hmet=>?_⟩
   obtain⟨w0,k0,k1,C',hv,hT⟩:=hmet.2.2.1 (by rw[HA.out];kernel_rfl)
   obtain rfl:C'=C:=by cases hv;rfl
   clear hv
   go_simp
   exact⟨⟨⟨C',rfl,hs,ho⟩,C',rfl,fun ht=>(hT ht).keeps (aD.of_same (S:=bN) (dG k1 (by rw[HA.out];kernel_rfl))) (fun _ _ h=>h)⟩,aD.refl _ _⟩
  clear hK K
  try simp only[Act.put,List.setIfInBounds_toArray,List.set_cons_zero,List.set_cons_succ]
  iterate 2
   refine aC (fun K hK=>?_)
   refine .inl ?_
   apply Exists.intro
   refine⟨cX,?_,hK _ _ _ _ ?_⟩
   .simp only[bJ,bM]
    rintro _ ⟨C8,rfl,Wq,ho8⟩ _ ⟨C7,rfl,hs7,ho7⟩ _ ⟨C6,rfl,hs6,ho6⟩
    refine⟨rfl,fun w9 Gq _=>?_⟩
    go_simp
    exact⟨⟨rfl,trivial⟩,aD.refl _ _⟩
   clear hK K
   try simp only[Act.put,List.setIfInBounds_toArray,List.set_cons_zero,List.set_cons_succ]
  refine aC (fun K hK=>?_)
  refine .inl ⟨undef,fun _ w'=>ZN (w.heap.size+1) 136 b1 (iS (w.heap.size+2) z0 (oz z)) w',?_,hK _ _ _ _ ?_⟩
  .simp only[bJ,bM]
   rintro _ ⟨C8,rfl,Wq,ho8⟩ _ ⟨C7,rfl,hs7,ho7⟩ _ ⟨C6,rfl,hs6,ho6⟩
   constructor
   .rfl
   intro w9 Gq hmet
   have Ie:aY w9 (w.heap.size+1) 136 rz:=(hmet.1.block _ Kn.out.lt (fun h=>dN h (by rw[HA.out];kernel_rfl))).trans Kn.out
   have h9:ZN (w.heap.size+1) 136 b1 (iS (w.heap.size+2) z0 (oz z)) (w9.setCells (w.heap.size+1) 0 C8.toList):=by
    have h1:=hmet.2.2.2.1
    have h5:=h1 (by rw[HA.out];kernel_rfl)
    clear hmet h1 Gq
    obtain⟨w0,k0,k1,C',hv,hT⟩:=h5
    obtain rfl:C'=C8:=by cases hv;rfl
    exact⟨_,C',Ie.setCells,XK rfl Wq JE ho8,fun ht=>((hT ht).keeps (aD.of_same (S:=bN) (dG k1 (by rw[HA.out];kernel_rfl))) (fun _ _ h=>h)).keeps (cE (S:=fun b=>b=w.heap.size+1) (.inl rfl) 0 C'.toList) (fun b hb e=>by omega)⟩
   refine dA 131 _ _ rfl (w.heap.size+1) 0 C8 rfl rfl (Ie.there (by show 0+C8.size<=37;omega)) (by rw[jT,Wq]) ho8 ?_
   exact⟨⟨rfl,h9⟩,(cE (S:=fun b=>b=w.heap.size+1) (.inl rfl) 0 C8.toList).mono (fun b h=>⟨by decide,h⟩)⟩
  clear hK K
  try simp only[Act.put,List.setIfInBounds_toArray,List.set_cons_zero,List.set_cons_succ]
  refine cP ?_
  simp only[bM]
  rintro _ ⟨C8,rfl,Wq,ho8⟩ _ ⟨C7,rfl,hs7,ho7⟩ _ ⟨C6,rfl,hs6,ho6⟩ w9 Gq hmet
  have hex:∃R,aY w9 (w.heap.size+1) 136 R/\XZ R rz (R.extract 0 19)/\(b1=true->iS (w.heap.size+2) z0 (oz z) (R.extract 0 19) w9):=by
   have h1:=hmet.2.2.2.1
   have h5:=h1 rfl
   clear hmet h1
   obtain⟨w0,k0,k1,R,C,hRB,hbeh,Yv⟩:=h5
   have hb19:=dG k1 (by rw[HA.out];kernel_rfl)
   have e:=hbeh.thing
   subst e
   exact⟨R,hRB.below hb19 hRB.lt,hbeh,fun ht=>(Yv ht).keeps (aD.of_same (S:=bN) hb19) (fun _ _ h=>h)⟩
  clear hmet
  have Va:Hid (aY w9 w.heap.size 136 rz):=Lib.hid ((Gq.block _ Me.out.lt (by show¬w.heap.size=w.heap.size+1;omega)).trans Me.out)
  have Ir:=Lib.hid (Hq.out.trans (Gq.below Hq.out.size (fun b hb e=>by omega)))
  have Sd:=Lib.hid (H.out.below Ir.out)
  have Qa:bA<w9.heap.size:=by have:=Ir.out.size;omega
  clear Gq Kn Me Hq Hv HSA c01 e18 ez e1 Ig
  simp only[List.drop_succ_cons,List.drop_zero]
  refine Exists.elim hex (fun R hR=>?_)
  clear hex
  have Ye:=Lib.hid hR.1
  have Nt:=Lib.hid hR.2.1
  have Nf:=Lib.hid hR.2.2
  clear hR
  have HIR:Hid ((prog.info? 136).map (·.size)=some R.size):=by show _=_;rw[mU,Nt.out.size]
  cases b1
  .obtain rfl:b=false:=by
    rw[Bool.eq_false_iff]
    intro ht
    have h9:=(HB.out.1 ht).1.1
    rw[show dH z=z0 by unfold dH;rw[Uo.out,if_pos (by omega)]]at h9
    exact Bool.noConfusion (Hc.out.2 h9)
   go_wp2_with (first
    |(refine wpList_load_row rfl 136 _ rfl (w.heap.size+1) rfl 136 R (0,0) _ Ye.out underlying136 rfl HIR.out ?_)
    |(refine wpList_store_row rfl 136 _ _ rfl w.heap.size R rfl rfl 136 rz Va.out HIR.out (by rw[Nt.out.size];rfl) Nt.out.one ?_))
   (try simp only[Exit.inBlock,Exit.then])
   rw[<-Uh.out]
   with_reducible refine bodyPost_ret (bR results150 _ _ w.heap.size 136 R _ (.bool false) (by kernel_rfl) (by kernel_rfl) (aY.setRow Va.out R) underlying136 (by kernel_rfl) HIR.out) (by kernel_rfl) ?_
   refine⟨aL Ir.out (Nat.le_refl _) _,R,Nt.out.size,Nt.out.one,rfl,fun h=>Bool.noConfusion h⟩
  .have x27:=(pP Sd.out 27 (by omega))
   have x28:=(pP Sd.out 28 (by omega))
   have r35:w9.cell? ⟨w.heap.size+1,35,none⟩=some (.int .u64 0):=(Ye.out.cell 35).trans (Nt.out.rest 35 (by omega))
   have r36:w9.cell? ⟨w.heap.size+1,36,none⟩=some (.int .u64 0):=(Ye.out.cell 36).trans (Nt.out.rest 36 (by omega))
   have f35:=Ye.out.frozen 35
   have f36:=Ye.out.frozen 36
   have Vu:=H.out.bd 27 (by omega)
   have Sa:=H.out.bd 28 (by omega)
   generalize hz27:z 27=vv at x27 Vu
   generalize Rj:z 28=nn at x28 Sa
   have HV:=Lib.hid hz27
   have HN:=Lib.hid Rj
   have Pf:=Lib.hid (ON Nt.out vv nn)
   have Px:=Lib.hid (qW (i:=36) (qW (i:=35) Nt.out.one (v:=.int .u64 vv) rfl) (v:=.int .u64 nn) rfl)
   have Kn:=Lib.hid ((Ye.out.set_ 35 (.int .u64 vv)).set_ 36 (.int .u64 nn))
   have Rk:Hid ((prog.info? 136).map (·.size)=some ((R.setIfInBounds 35 (.int .u64 vv)).setIfInBounds 36 (.int .u64 nn)).size):=by show _=_;rw[mU,Pf.out.size]
   have Ih:=Lib.hid (((Nf.out rfl).keeps (aD.setCell (aD.refl (fun b=>b=w.heap.size+1) w9) (p:=⟨w.heap.size+1,35,none⟩) (.inl rfl) (.int .u64 vv)) (fun b hb e=>by omega)).keeps (aD.setCell (aD.refl (fun b=>b=w.heap.size+1) _) (p:=⟨w.heap.size+1,36,none⟩) (.inl rfl) (.int .u64 nn)) (fun b hb e=>by omega))
   have Me:=Lib.hid ((aY.far (show aY w9 w.heap.size 136 rz from Va.out) (p:=⟨w.heap.size+1,35,none⟩) (by simp) (.int .u64 vv)).far (p:=⟨w.heap.size+1,36,none⟩) (by simp) (.int .u64 nn))
   have Hq:=Lib.hid ((Ir.out.setCell (p:=⟨w.heap.size+1,35,none⟩) (by show w.heap.size<=w.heap.size+1;omega) (.int .u64 vv)).setCell (p:=⟨w.heap.size+1,36,none⟩) (by show w.heap.size<=w.heap.size+1;omega) (.int .u64 nn))
   clear hz27 Rj Nf Va Ye
   go_wp2
   go_region
   have Qr:Hid (iS (w.heap.size+2) z0 (oz z) (R.extract 0 19) ((w9.setCell ⟨w.heap.size+1,35,none⟩ (.int .u64 vv)).setCell ⟨w.heap.size+1,36,none⟩ (.int .u64 nn)).drew):=Lib.hid (Ih.out.keeps ((aD.refl bN _).drew) (fun _ _ h=>h))
   have Rl:=Lib.hid Kn.out.drew
   have Pk:=Lib.hid Me.out.drew
   have Ht:=Lib.hid Hq.out.drew
   have Xj:w9.heap.size=((w9.setCell ⟨w.heap.size+1,35,none⟩ (.int .u64 vv)).setCell ⟨w.heap.size+1,36,none⟩ (.int .u64 nn)).drew.heap.size:=by simp
   have Sq:bA<((w9.setCell ⟨w.heap.size+1,35,none⟩ (.int .u64 vv)).setCell ⟨w.heap.size+1,36,none⟩ (.int .u64 nn)).drew.heap.size:=by omega
   have r35':=(Rl.out.cell 35).trans Pf.out.ver_
   have r36':=(Rl.out.cell 36).trans Pf.out.cnt_
   clear Xj r35 r36 x27 x28 f35 f36 Ih Kn Me Hq
   generalize((w9.setCell ⟨w.heap.size+1,35,none⟩ (.int .u64 vv)).setCell ⟨w.heap.size+1,36,none⟩ (.int .u64 nn)).drew=W2 at*
   generalize(R.setIfInBounds 35 (.int .u64 vv)).setIfInBounds 36 (.int .u64 nn)=R2 at*
   by_cases hvv:vv<=1099511627776
   .have dv:decide (1099511627776<vv)=false:=by simp;omega
    by_cases hnn:nn<=1099511627776
    .have dn:decide (1099511627776<nn)=false:=by simp;omega
     have hmm:= @run_makeMap prog
     apply_assumption
     go_wp2
     go_loopw [53] (fun i wr=>∃k:Nat,k<=4/\i=.int .i64 k/\Hid (zE w W2 (R.extract 0 19) (lQ (nV z) k) (lQ (nW z) k) (lQ (nL z) k) (lQ (jA z) k) vv nn z k wr)/\Hid (∀t,t<k->pV z t)) (fun i _=>4-(intOf i).toNat)
     case atStart=>exact⟨0,by omega,rfl,Lib.hid ((⟨(aD.refl _ _).alloc _,⟨R2,Rl.out.alloc _,Pf.out,Px.out⟩,jV.start z W2⟩:zE w W2 (R.extract 0 19) (fun _=>0) (fun _=>0) (fun _=>0) (fun _=>0) vv nn z 0 _).congr (fun t _=>by unfold lQ;rw[if_neg (by omega)]) (fun t _=>by unfold lQ;rw[if_neg (by omega)]) (fun t _=>by unfold lQ;rw[if_neg (by omega)]) (fun t _=>by unfold lQ;rw[if_neg (by omega)])),Lib.hid fun t ht=>absurd ht (by omega)⟩
     case round=>
      obtain⟨k,hk,rfl,HS,hall⟩:=hrel
      have Ni:w.heap.size+1<W2.heap.size:=Rl.out.lt
      have Te:=Lib.hid (qN (H.out.below Ht.out) HS.out.keep (fun a ha=>by cases ha;show¬bA=w.heap.size+1;omega))
      clear r35' r36' dv dn hmm
      by_cases Jf:k<4
      .have q1:(k:Int)<4:=by omega
       have Hw:=Jf
       have cx:=pP Te.out (18+k) (by omega)
       have Im:=Te.out.bd (18+k) (by omega)
       have Jq:=Te.out.bd (22+k) (by omega)
       have HANS:Hid (∀W:World,Calls prog 113 #[.int .u64 (z (18+k))] W fun e w'=>e=.returned (.tuple #[.agg #[.int .i64 (rZ (z (18+k))),.int .i64 (tU (z (18+k)))],.int .i64 (jN (yI (z (18+k))) 3)])/\Below W.heap.size W w'):=Lib.hid (fun W=>QQ _ Im.1 Im.2 W)
       obtain⟨R1,Ma,Ol,Pr⟩:=HS.out.ex
       obtain⟨D,ho,hD⟩:=HS.out.seen
       have HMAP:=Lib.hid ho.isMap
       have HQ1:=Lib.hid Ma
       have Lb:=Lib.hid Ol
       have Oi:=Lib.hid Pr
       have HO:=Lib.hid ho
       have HD:=Lib.hid hD
       have Ix:Hid ((prog.info? 136).map (·.size)=some R1.size):=by show _=_;rw[mU,Lb.out.size]
       have hszr:=HS.out.keep.size
       clear Ma Ol Pr ho hD
       have i18:(18:Int)+k=((18+k:Nat):Int):=by omega
       have j18:((18+k:Nat):Int)<32:=by omega
       generalize hs:18+k=s at*
       have HS18:=Lib.hid hs
       clear hs
       go_wp2_with fail
       refine(HANS.out _).mono ?_
       rintro e w1 ⟨rfl,Gs⟩
       have Hv:=Lib.hid (HS.out.below Gs)
       have HQa:=HQ1.out.below Gs HQ1.out.lt
       have HZa:aY w1 w.heap.size 136 rz:=(Hv.out.keep.block _ Pk.out.lt (by show¬w.heap.size=w.heap.size+1;omega)).trans Pk.out
       have HWa:=Ht.out.trans (Hv.out.keep.below Ht.out.size (fun b hb e=>by omega))
       have HOa:=HO.out.kept (row:=none) (w':=w1) ⟨Gs.os,Gs.tape,Gs.output,Gs.size,fun i hi _=>Gs.block i hi⟩ (by simp)
       have Vb:=Gs.size
       have Uw:bA<w1.heap.size:=by omega
       have Zf:W2.heap.size<w1.heap.size:=HOa.lt
       have Vc:=Te.out.below Gs
       have Yf:=pP Vc (18+k) (by omega)
       have cy1:=pP Vc (22+k) (by omega)
       have Xl:=pP Vc 26 (by omega)
       have r36:=(HQa.cell 36).trans Lb.out.cnt_
       have hl36:=HQa.lt
       have hta:BL z k↔((yI (z (18+k))=true\/z (18+k)=0)/\z (22+k)<=nn/\(z (18+k)=0↔z (22+k)=0)):=by
        unfold BL
        rw[HN.out]
       have hpos:= @WV (z (18+k))
       have hno:= @Ar (z (18+k))
       have hcc:nV z k=rZ (z (18+k)):=rfl
       have hav:nW z k=tU (z (18+k)):=rfl
       rw[HS18.out]at Yf hta hpos hno hcc hav
       have i22:(22:Int)+k=((22+k:Nat):Int):=by omega
       have j22:((22+k:Nat):Int)<32:=by omega
       generalize hu:22+k=u at*
       have HU22:=Lib.hid hu
       clear hu
       generalize hx:z s=x at*
       generalize hy:z u=y at*
       generalize rZ x=cc at*
       generalize tU x=av at*
       generalize yI x=f at*
       have Lp:=Lib.hid hcc
       have Zq:=Lib.hid hav
       have Pa:=Lib.hid hta
       have HXU:=Lib.hid hx
       have Xm:=Lib.hid hy
       have HPOS:=Lib.hid hpos
       have Rx:=Lib.hid hno
       have Zr:=Lib.hid Jq
       have Po:Hid (z (22+k)=y):=Lib.hid (by rw[HU22.out];exact Xm.out)
       clear Gs hta hx hy hpos hno hcc hav
       have Zs:=Lib.hid (HQa.alloc (.cells #[.int .i64 cc,.int .i64 av] 44))
       have Wj:=Lib.hid (HZa.alloc (.cells #[.int .i64 cc,.int .i64 av] 44))
       have HWT:=Lib.hid (HWa.alloc HWa.size (.cells #[.int .i64 cc,.int .i64 av] 44))
       have HOT:=Lib.hid (HOa.alloc (.cells #[.int .i64 cc,.int .i64 av] 44))
       have Id:=Lib.hid (Hv.out.alloc (.cells #[.int .i64 cc,.int .i64 av] 44))
       have HQG:=Lib.hid (HQa.alloc (.cells #[.int .i64 0,.int .i64 0] 44))
       have HZG:=Lib.hid (HZa.alloc (.cells #[.int .i64 0,.int .i64 0] 44))
       have HWG:=Lib.hid (HWa.alloc HWa.size (.cells #[.int .i64 0,.int .i64 0] 44))
       have HOG:=Lib.hid (HOa.alloc (.cells #[.int .i64 0,.int .i64 0] 44))
       have HSG:=Lib.hid (Hv.out.alloc (.cells #[.int .i64 0,.int .i64 0] 44))
       clear HQa HZa HWa HOa Vc
       cases f
       .rw[show jN false 3=3 from rfl]
        obtain⟨rfl,rfl⟩:=Rx.out rfl
        by_cases Iy:x=0
        .have dx:(x==0)=true:=by simpa using Iy
         have Ip:=Lib.hid Iy
         clear Iy
         by_cases Hx:y=0
         .have dy:(y==0)=true:=by simpa using Hx
          have Xn:decide (0<y)=false:=by simp;omega
          have dc:decide (nn<y)=false:=by simp;omega
          have Jm:=Lib.hid Hx
          clear Hx
          go_wp2_with (at_mapUpdate;with_reducible refine JJ 300 23 4 YV underlying300 (plainElem prog 4) W2.heap.size k D (.int .u64 y) (.bool true) (.int .u64 y) (by kernel_rfl) (by kernel_rfl) (by kernel_rfl) HOG.out (by unfold maxLen;omega) (keyOf_int_mk underlying23 (KA Zr.out.1 Zr.out.2)) (.lit (.bool true)) [] (plainElem_bool underlying4 true) ?_)
          intro w4 Jw Ij
          have Yg:=Lib.hid (HSG.out.see Ni Ij (jV.put (w:=w4) Po.out Jw HMAP.out HD.out))
          have Nu:aY w4 (w.heap.size+1) 136 R1:=(Ij.block _ HQG.out.lt (by simp;omega)).trans HQG.out
          have Vd:aY w4 w1.heap.size 44 #[.int .i64 0,.int .i64 0]:=(Ij.block _ (by simp) (by simp;omega)).trans (aY.new _ _ _)
          have hz4:w1.heap.size<w4.heap.size:=Vd.lt
          have Tf:=qN (H.out.below Ht.out) Yg.out.keep (fun a ha=>by cases ha;show¬bA=w.heap.size+1;omega)
          have d26:=pP Tf 26 (by omega)
          have a0:=Vd.cell 0
          have a1:=Vd.cell 1
          simp only[List.getElem?_toArray,List.getElem?_cons_zero,List.getElem?_cons_succ]at a0 a1
          have s0:w4.cell? ⟨w.heap.size+1,19+k*2,none⟩=some (.int .i64 (lQ (nV z) k k)):=by rw[Nat.mul_comm k 2];exact(Nu.cell _).trans (Lb.out.ac_ k Hw)
          have s1:w4.cell? ⟨w.heap.size+1,19+k*2+1,none⟩=some (.int .i64 (lQ (nW z) k k)):=by rw[Nat.mul_comm k 2,show 19+2*k+1=20+2*k by omega];exact(Nu.cell _).trans (Lb.out.av_ k Hw)
          have s2:=(Nu.cell (27+k)).trans (Lb.out.wh_ k Hw)
          have s3:=(Nu.cell (31+k)).trans (Lb.out.tg_ k Hw)
          have f0:=Nu.frozen (19+k*2)
          have f1:=Nu.frozen (19+k*2+1)
          have f2:=Nu.frozen (27+k)
          have f3:=Nu.frozen (31+k)
          have Th:Hid (∀t,t<k+1->pV z t):=Lib.hid fun t ht=>by
           rcases Nat.lt_or_ge t k with h|h
           .exact hall.out t h
           .obtain rfl:t=k:=by omega
            refine⟨Pa.out.2 (by have:=Ip.out;have:=Jm.out;simp;first|omega|(have:=Mc.out;omega)),fun u' hu'=>?_⟩
            rw[Po.out]
            exact fun h=>absurd Jm.out h
          obtain⟨gn,hgn⟩:∃gn:Nat,z 26=(gn:Int):=⟨(z 26).toNat,(Int.toNat_of_nonneg (H.out.bd 26 (by omega)).1).symm⟩
          have Yh:gn<18446744073709551616:=by have:=(H.out.bd 26 (by omega)).2;omega
          rw[hgn]at d26
          have HGN:=Lib.hid hgn
          clear hgn Jw Ij Nu Vd Tf Yf cy1 Xl r36 cx
          go_wp2_with fail
          refine(kJ gn k _ Yh).mono ?_
          rintro e w6 ⟨rfl,Ww⟩
          have Rm:=Lib.hid ((Yg.out.put Ni k Hw 0 0 y).below Ww)
          clear Ww s0 s1 s2 s3 f0 f1 f2 f3 a0 a1 d26 Yg
          obtain⟨bt,hbt⟩:∃bt:Bool,gO gn (k:Int)=bt:=⟨_,rfl⟩
          rw[hbt]
          have Ti:Hid (jA z k=if bt=true then 1 else 0):=Lib.hid (by unfold jA;rw[HGN.out,Int.toNat_natCast,hbt])
          clear hbt
          cases bt
          .go_wp2
           go_roundw
           case rel=>exact⟨k+1,by omega,by go_num,Lib.hid (Rm.out.congr (fun t _=>by rw[fC,Lp.out]) (fun t _=>by rw[fC,Zq.out]) (fun t _=>by rw[fC,show nL z k=y from Po.out]) (fun t _=>zU _ _ _ (by rw[Ti.out];rfl))),Th⟩
           case measure=>simp [intOf];omega
          .have s36:w6.cell? ⟨w.heap.size+1,31+k,none⟩=some (.int .i64 (lQ (jA z) k k)):=by
            obtain⟨R9,z1,z2,_⟩:=Rm.out.ex
            exact(z1.cell _).trans (z2.tg_ k Hw)
           have f36:w6.frozen? ⟨w.heap.size+1,31+k,none⟩=false:=by
            obtain⟨R9,z1,z2,_⟩:=Rm.out.ex
            exact z1.frozen _
           go_wp2
           go_roundw
           case rel=>exact⟨k+1,by omega,by go_num,Lib.hid ((Rm.out.turn Ni k Hw 1).congr (fun t _=>by rw[fC,Lp.out]) (fun t _=>by rw[fC,Zq.out]) (fun t _=>by rw[fC,show nL z k=y from Po.out]) (fun t _=>by rw[fC,Ti.out];rfl)),Th⟩
           case measure=>simp [intOf];omega
         .have dy:(y==0)=false:=by simpa using Hx
          have Jm:=Lib.hid Hx
          clear Hx
          obtain rfl:b=false:=by
           rw[Bool.eq_false_iff]
           intro ht
           obtain⟨Mx,Rs⟩:=(HB.out.1 ht).2.1 k Hw
           obtain⟨h1,h2,h3⟩:=Pa.out.1 Mx
           try simp at h1
           have a1:=Ip.out
           first|omega|(have a2:=Jm.out;first|omega|(have a3:=Mc.out;omega))
          go_wp2_with (first
           |(refine wpList_load_row rfl 136 _ rfl (w.heap.size+1) rfl 136 R1 (0,0) _ HQG.out underlying136 rfl Ix.out ?_)
           |(refine wpList_store_row rfl 136 _ _ rfl w.heap.size R1 rfl rfl 136 rz HZG.out Ix.out (by rw[Lb.out.size];rfl) Oi.out ?_))
          (try simp only[Exit.inBlock,Exit.then])
          rw[<-Uh.out]
          with_reducible refine bodyPost_ret (bR results150 _ _ w.heap.size 136 R1 _ (.bool false) (by kernel_rfl) (by kernel_rfl) (aY.setRow HZG.out R1) underlying136 (by kernel_rfl) Ix.out) (by kernel_rfl) ?_
          refine⟨aL HWG.out (Nat.le_refl _) _,R1,Lb.out.size,Oi.out,rfl,fun h=>Bool.noConfusion h⟩
        .have dx:(x==0)=false:=by simpa using Iy
         have Ip:=Lib.hid Iy
         clear Iy
         obtain rfl:b=false:=by
          rw[Bool.eq_false_iff]
          intro ht
          obtain⟨Mx,Rs⟩:=(HB.out.1 ht).2.1 k Hw
          obtain⟨h1,h2,h3⟩:=Pa.out.1 Mx
          try simp at h1
          have a1:=Ip.out
          first|omega|(have a2:=Jm.out;first|omega|(have a3:=Mc.out;omega))
         go_wp2_with (first
          |(refine wpList_load_row rfl 136 _ rfl (w.heap.size+1) rfl 136 R1 (0,0) _ Zs.out underlying136 rfl Ix.out ?_)
          |(refine wpList_store_row rfl 136 _ _ rfl w.heap.size R1 rfl rfl 136 rz Wj.out Ix.out (by rw[Lb.out.size];rfl) Oi.out ?_))
         (try simp only[Exit.inBlock,Exit.then])
         rw[<-Uh.out]
         with_reducible refine bodyPost_ret (bR results150 _ _ w.heap.size 136 R1 _ (.bool false) (by kernel_rfl) (by kernel_rfl) (aY.setRow Wj.out R1) underlying136 (by kernel_rfl) Ix.out) (by kernel_rfl) ?_
         refine⟨aL HWT.out (Nat.le_refl _) _,R1,Lb.out.size,Oi.out,rfl,fun h=>Bool.noConfusion h⟩
       .rw[show jN true 3=0 from rfl]
        obtain⟨hcc1,hxn⟩:=HPOS.out rfl
        have dx:(x==0)=false:=by simpa using hxn
        have Ip:=Lib.hid hxn
        have dcc:(cc==0)=false:=by simp;omega
        clear hxn
        by_cases Hx:y=0
        .have dy:(y==0)=true:=by simpa using Hx
         have Jm:=Lib.hid Hx
         clear Hx
         obtain rfl:b=false:=by
          rw[Bool.eq_false_iff]
          intro ht
          obtain⟨Mx,Rs⟩:=(HB.out.1 ht).2.1 k Hw
          obtain⟨h1,h2,h3⟩:=Pa.out.1 Mx
          try simp at h1
          have a1:=Ip.out
          first|omega|(have a2:=Jm.out;first|omega|(have a3:=Mc.out;omega))
         go_wp2_with (first
          |(refine wpList_load_row rfl 136 _ rfl (w.heap.size+1) rfl 136 R1 (0,0) _ Zs.out underlying136 rfl Ix.out ?_)
          |(refine wpList_store_row rfl 136 _ _ rfl w.heap.size R1 rfl rfl 136 rz Wj.out Ix.out (by rw[Lb.out.size];rfl) Oi.out ?_))
         (try simp only[Exit.inBlock,Exit.then])
         rw[<-Uh.out]
         with_reducible refine bodyPost_ret (bR results150 _ _ w.heap.size 136 R1 _ (.bool false) (by kernel_rfl) (by kernel_rfl) (aY.setRow Wj.out R1) underlying136 (by kernel_rfl) Ix.out) (by kernel_rfl) ?_
         refine⟨aL HWT.out (Nat.le_refl _) _,R1,Lb.out.size,Oi.out,rfl,fun h=>Bool.noConfusion h⟩
        .have dy:(y==0)=false:=by simpa using Hx
         have Xn:decide (0<y)=true:=by simp;omega
         have Jm:=Lib.hid Hx
         clear Hx
         by_cases hc:y<=nn
         .have dc:decide (nn<y)=false:=by simp;omega
          have Mc:=Lib.hid hc
          clear hc
          have hlook:=jV.look (⟨D,HOT.out,HD.out⟩:jV z k W2.heap.size _) y Zr.out.1 Zr.out.2
          obtain⟨sn,hsn⟩:∃sn,qZ z k y=sn:=⟨_,rfl⟩
          rw[hsn]at hlook
          have HSEE:=Lib.hid hsn
          clear hsn
          cases sn
          .skip
           go_wp2_with (at_mapUpdate;with_reducible refine JJ 300 23 4 YV underlying300 (plainElem prog 4) W2.heap.size k D (.int .u64 y) (.bool true) (.int .u64 y) (by kernel_rfl) (by kernel_rfl) (by kernel_rfl) HOT.out (by unfold maxLen;omega) (keyOf_int_mk underlying23 (KA Zr.out.1 Zr.out.2)) (.lit (.bool true)) [] (plainElem_bool underlying4 true) ?_)
           intro w4 Jw Ij
           have Yg:=Lib.hid (Id.out.see Ni Ij (jV.put (w:=w4) Po.out Jw HMAP.out HD.out))
           have Nu:aY w4 (w.heap.size+1) 136 R1:=(Ij.block _ Zs.out.lt (by simp;omega)).trans Zs.out
           have Vd:aY w4 w1.heap.size 44 #[.int .i64 cc,.int .i64 av]:=(Ij.block _ (by simp) (by simp;omega)).trans (aY.new _ _ _)
           have hz4:w1.heap.size<w4.heap.size:=Vd.lt
           have Tf:=qN (H.out.below Ht.out) Yg.out.keep (fun a ha=>by cases ha;show¬bA=w.heap.size+1;omega)
           have d26:=pP Tf 26 (by omega)
           have a0:=Vd.cell 0
           have a1:=Vd.cell 1
           simp only[List.getElem?_toArray,List.getElem?_cons_zero,List.getElem?_cons_succ]at a0 a1
           have s0:w4.cell? ⟨w.heap.size+1,19+k*2,none⟩=some (.int .i64 (lQ (nV z) k k)):=by rw[Nat.mul_comm k 2];exact(Nu.cell _).trans (Lb.out.ac_ k Hw)
           have s1:w4.cell? ⟨w.heap.size+1,19+k*2+1,none⟩=some (.int .i64 (lQ (nW z) k k)):=by rw[Nat.mul_comm k 2,show 19+2*k+1=20+2*k by omega];exact(Nu.cell _).trans (Lb.out.av_ k Hw)
           have s2:=(Nu.cell (27+k)).trans (Lb.out.wh_ k Hw)
           have s3:=(Nu.cell (31+k)).trans (Lb.out.tg_ k Hw)
           have f0:=Nu.frozen (19+k*2)
           have f1:=Nu.frozen (19+k*2+1)
           have f2:=Nu.frozen (27+k)
           have f3:=Nu.frozen (31+k)
           have Th:Hid (∀t,t<k+1->pV z t):=Lib.hid fun t ht=>by
            rcases Nat.lt_or_ge t k with h|h
            .exact hall.out t h
            .obtain rfl:t=k:=by omega
             refine⟨Pa.out.2 (by have:=Ip.out;have:=Jm.out;simp;first|omega|(have:=Mc.out;omega)),fun u' hu'=>?_⟩
             rw[Po.out]
             exact fun h he=>by
              have h9:=HSEE.out
              rw[Bool.eq_false_iff]at h9
              exact h9 (nY.2 ⟨u',hu',he⟩)
           obtain⟨gn,hgn⟩:∃gn:Nat,z 26=(gn:Int):=⟨(z 26).toNat,(Int.toNat_of_nonneg (H.out.bd 26 (by omega)).1).symm⟩
           have Yh:gn<18446744073709551616:=by have:=(H.out.bd 26 (by omega)).2;omega
           rw[hgn]at d26
           have HGN:=Lib.hid hgn
           clear hgn Jw Ij Nu Vd Tf Yf cy1 Xl r36 cx
           go_wp2_with fail
           refine(kJ gn k _ Yh).mono ?_
           rintro e w6 ⟨rfl,Ww⟩
           have Rm:=Lib.hid ((Yg.out.put Ni k Hw cc av y).below Ww)
           clear Ww s0 s1 s2 s3 f0 f1 f2 f3 a0 a1 d26 Yg
           obtain⟨bt,hbt⟩:∃bt:Bool,gO gn (k:Int)=bt:=⟨_,rfl⟩
           rw[hbt]
           have Ti:Hid (jA z k=if bt=true then 1 else 0):=Lib.hid (by unfold jA;rw[HGN.out,Int.toNat_natCast,hbt])
           clear hbt
           cases bt
           .go_wp2
            go_roundw
            case rel=>exact⟨k+1,by omega,by go_num,Lib.hid (Rm.out.congr (fun t _=>by rw[fC,Lp.out]) (fun t _=>by rw[fC,Zq.out]) (fun t _=>by rw[fC,show nL z k=y from Po.out]) (fun t _=>zU _ _ _ (by rw[Ti.out];rfl))),Th⟩
            case measure=>simp [intOf];omega
           .have s36:w6.cell? ⟨w.heap.size+1,31+k,none⟩=some (.int .i64 (lQ (jA z) k k)):=by
             obtain⟨R9,z1,z2,_⟩:=Rm.out.ex
             exact(z1.cell _).trans (z2.tg_ k Hw)
            have f36:w6.frozen? ⟨w.heap.size+1,31+k,none⟩=false:=by
             obtain⟨R9,z1,z2,_⟩:=Rm.out.ex
             exact z1.frozen _
            go_wp2
            go_roundw
            case rel=>exact⟨k+1,by omega,by go_num,Lib.hid ((Rm.out.turn Ni k Hw 1).congr (fun t _=>by rw[fC,Lp.out]) (fun t _=>by rw[fC,Zq.out]) (fun t _=>by rw[fC,show nL z k=y from Po.out]) (fun t _=>by rw[fC,Ti.out];rfl)),Th⟩
            case measure=>simp [intOf];omega
          .skip
           obtain rfl:b=false:=by
            rw[Bool.eq_false_iff]
            intro ht
            obtain⟨Mx,Rs⟩:=(HB.out.1 ht).2.1 k Hw
            obtain⟨u',hu1,Zk⟩:=nY.1 HSEE.out
            rw[HU22.out,Xm.out]at Rs
            exact Rs u' hu1 Jm.out Zk
           go_wp2_with (first
            |(refine wpList_load_row rfl 136 _ rfl (w.heap.size+1) rfl 136 R1 (0,0) _ Zs.out underlying136 rfl Ix.out ?_)
            |(refine wpList_store_row rfl 136 _ _ rfl w.heap.size R1 rfl rfl 136 rz Wj.out Ix.out (by rw[Lb.out.size];rfl) Oi.out ?_))
           (try simp only[Exit.inBlock,Exit.then])
           rw[<-Uh.out]
           with_reducible refine bodyPost_ret (bR results150 _ _ w.heap.size 136 R1 _ (.bool false) (by kernel_rfl) (by kernel_rfl) (aY.setRow Wj.out R1) underlying136 (by kernel_rfl) Ix.out) (by kernel_rfl) ?_
           refine⟨aL HWT.out (Nat.le_refl _) _,R1,Lb.out.size,Oi.out,rfl,fun h=>Bool.noConfusion h⟩
         .have dc:decide (nn<y)=true:=by simp;omega
          have Mc:=Lib.hid hc
          clear hc
          obtain rfl:b=false:=by
           rw[Bool.eq_false_iff]
           intro ht
           obtain⟨Mx,Rs⟩:=(HB.out.1 ht).2.1 k Hw
           obtain⟨h1,h2,h3⟩:=Pa.out.1 Mx
           try simp at h1
           have a1:=Ip.out
           first|omega|(have a2:=Jm.out;first|omega|(have a3:=Mc.out;omega))
          go_wp2_with (first
           |(refine wpList_load_row rfl 136 _ rfl (w.heap.size+1) rfl 136 R1 (0,0) _ Zs.out underlying136 rfl Ix.out ?_)
           |(refine wpList_store_row rfl 136 _ _ rfl w.heap.size R1 rfl rfl 136 rz Wj.out Ix.out (by rw[Lb.out.size];rfl) Oi.out ?_))
          (try simp only[Exit.inBlock,Exit.then])
          rw[<-Uh.out]
          with_reducible refine bodyPost_ret (bR results150 _ _ w.heap.size 136 R1 _ (.bool false) (by kernel_rfl) (by kernel_rfl) (aY.setRow Wj.out R1) underlying136 (by kernel_rfl) Ix.out) (by kernel_rfl) ?_
          refine⟨aL HWT.out (Nat.le_refl _) _,R1,Lb.out.size,Oi.out,rfl,fun h=>Bool.noConfusion h⟩
      .obtain rfl:k=4:=by omega
       have Iu:=Lib.hid hall.out
       have HRes:Hid (aY wr w.heap.size 136 rz):=Lib.hid ((HS.out.keep.block _ Pk.out.lt (by show¬w.heap.size=w.heap.size+1;omega)).trans Pk.out)
       have HWr:=Lib.hid (Ht.out.trans (HS.out.keep.below Ht.out.size (fun b hb e=>by omega)))
       have HTr:=Lib.hid (Qr.out.keeps HS.out.keep (fun b hb e=>by omega))
       obtain⟨R1,Ma,Ol,Pr⟩:=HS.out.ex
       have HQ1:=Lib.hid Ma
       have Lb:Hid (uD R1 (R.extract 0 19) (nV z) (nW z) (nL z) (jA z) vv nn):=Lib.hid (Ol.congr (fun t ht=>by unfold lQ;rw[if_pos ht]) (fun t ht=>by unfold lQ;rw[if_pos ht]) (fun t ht=>by unfold lQ;rw[if_pos ht]) (fun t ht=>by unfold lQ;rw[if_pos ht]))
       have Oi:=Lib.hid Pr
       have Ix:Hid ((prog.info? 136).map (·.size)=some R1.size):=by show _=_;rw[mU,Ol.size]
       have HVN:Hid (vv<=1099511627776/\nn<=1099511627776):=Lib.hid ⟨hvv,hnn⟩
       have Oe:Hid (0<=z0/\z0<=9):=Lib.hid ⟨Ua.1,by omega⟩
       clear Ma Ol Pr hall HS
       go_wp2_with fail
       refine dQ 5 bN [] (by kernel_rfl) (by kernel_rfl) ?_
       intro anc2 To
       iterate 2
        refine aC (fun K hK=>?_)
        refine .inl ?_
        apply Exists.intro
        refine⟨cX,?_,hK _ _ _ _ ?_⟩
        .simp only[bJ,bM]
         refine⟨rfl,fun w9 Gq _=>?_⟩
         exact bT 136 _ rfl (w.heap.size+1) rfl 136 R1 _ (HQ1.out.below Gq.same HQ1.out.lt) underlying136 rfl Ix.out ⟨⟨rfl,trivial⟩,aD.refl _ _⟩
        clear hK K
        try simp only[Act.put,List.setIfInBounds_toArray,List.set_cons_zero,List.set_cons_succ]
       refine aC (fun K hK=>?_)
       refine .inr (.inr ⟨TC,Ey (iW z0 (oz z) (nV z) (nW z) (nL z) (jA z) vv nn),⟨_,0,rfl⟩,?_,hK _ _ _ _ ?_⟩)
       .simp only[bJ,bM]
        refine⟨rfl,fun w9 Gq _=>?_⟩
        go_simp
        go_at_call 59
        refine(uC R1 (R.extract 0 19) (nV z) (nW z) (nL z) (jA z) vv nn z0 (oz z) w9 Lb.out Oe.out (fun i hi=>(H.out.bd (1+i) (by omega)).1) (Hc.out.1 (by trivial)) ((HTr.out.weak).below Gq.same) (fun t ht=>H.out.bd (22+t) (by omega)) Vu Sa).mono ?_
        rintro e Qw ⟨g,D9,rfl,Ia,hu9,Si,hbl⟩
        exact⟨_,rfl,⟨⟨g,rfl⟩,⟨g,D9,rfl,Ia,hu9⟩⟩,aD.of_same hbl⟩
       clear hK K
       try simp only[Act.put,List.setIfInBounds_toArray,List.set_cons_zero,List.set_cons_succ]
       refine aC (fun K hK=>?_)
       refine .inl ?_
       apply Exists.intro
       refine⟨cX,?_,hK _ _ _ _ ?_⟩
       .simp only[bJ,bM]
        rintro _ ⟨g,rfl⟩
        refine⟨rfl,fun w9 Gq _=>?_⟩
        go_simp
        exact⟨⟨rfl,trivial⟩,aD.refl _ _⟩
       clear hK K
       try simp only[Act.put,List.setIfInBounds_toArray,List.set_cons_zero,List.set_cons_succ]
       refine aC (fun K hK=>?_)
       refine .inl ⟨.bool b,cX,?_,hK _ _ _ _ ?_⟩
       .simp only[bJ,bM]
        rintro _ ⟨g,rfl⟩
        refine⟨rfl,fun w9 Gq hmet=>?_⟩
        have hfin:Calls prog 170 #[.slice (some ⟨g,0,none⟩) 32 32,.slice (some ⟨bA,oA,none⟩) 32 c] w9 fun e w'=>e=.returned (.bool b)/\Below w9.heap.size w9 w':=by
         have h1:=hmet.2.1 (by rw[To.out];kernel_rfl)
         obtain⟨w0,k0,k1,g',D9,Kx,hblk,hu9⟩:=h1
         cases Kx
         have Hu:=dG k1 (by rw[To.out];kernel_rfl)
         refine(tQ _ _ 32 32 32 _ (iW z0 (oz z) (nV z) (nW z) (nL z) (jA z) vv nn) z _ (by simpa using qY.of_blk (n:=32) (c:=32) (o:=0) (hblk.below Hu hblk.lt) hu9 (by omega) (by omega) (by omega)) (Te.out.below Gq.same)).mono ?_
         rintro e Qw ⟨b',rfl,hb',hbl⟩
         obtain rfl:b'=b:=by
          rw[Bool.eq_iff_iff,hb',HB.out]
          have hw:=GS Uo.out HV.out HN.out (fun i hi=>(H.out.bd i hi).1) h6 (Hc.out.1 (by trivial)) HVN.out.1 HVN.out.2 Iu.out
          exact⟨fun h=>hw.1 h.2,fun h=>⟨rfl,hw.2 h⟩⟩
         exact⟨rfl,hbl⟩
        go_simp
        go_at_call 170
        exact bS hfin
       clear hK K
       try simp only[Act.put,List.setIfInBounds_toArray,List.set_cons_zero,List.set_cons_succ]
       refine cP ?_
       simp only[bM]
       rintro _ ⟨g9,rfl⟩ Qw Yz hmet
       clear hmet
       have Jk:=Lib.hid (HRes.out.below Yz.same HRes.out.lt)
       have Pe:=Lib.hid (HWr.out.trans (Yz.same.mono HWr.out.size))
       simp only[List.drop_succ_cons,List.drop_zero]
       go_wp2_with (refine wpList_store_row rfl 136 _ _ rfl w.heap.size R1 rfl rfl 136 rz Jk.out Ix.out (by rw[Lb.out.size];rfl) Oi.out ?_)
       (try simp only[Exit.inBlock,Exit.then])
       rw[<-Uh.out]
       with_reducible refine bodyPost_ret (bR results150 _ _ w.heap.size 136 R1 _ (.bool b) (by kernel_rfl) (by kernel_rfl) (aY.setRow Jk.out R1) underlying136 (by kernel_rfl) Ix.out) (by kernel_rfl) ?_
       refine⟨aL Pe.out (Nat.le_refl _) _,R1,Lb.out.size,Oi.out,rfl,fun _=>⟨?_,?_⟩⟩
       .rw[HV.out,HN.out,<-Lb.out.thing];exact Lb.out
       .rw[<-Lb.out.thing,Uo.out]
        exact((HTr.out.keeps (aD.of_same (S:=bN) Yz.same) (fun _ _ h=>h)).keeps (fD (S:=fun b=>b=w.heap.size) (.inl rfl) R1) (fun b hb e=>by omega)).weak
    .have dn:decide (1099511627776<nn)=true:=by simp;omega
     apply_assumption
     obtain rfl:b=false:=by
      rw[Bool.eq_false_iff]
      intro ht
      have h9:=(HB.out.1 ht).1
      have a1:=h9.2.2.1
      rw[HN.out]at a1
      exact hnn a1
     go_wp2_with (first
      |(refine wpList_load_row rfl 136 _ rfl (w.heap.size+1) rfl 136 R2 (0,0) _ Rl.out underlying136 rfl Rk.out ?_)
      |(refine wpList_store_row rfl 136 _ _ rfl w.heap.size R2 rfl rfl 136 rz Pk.out Rk.out (by rw[Pf.out.size];rfl) Px.out ?_))
     (try simp only[Exit.inBlock,Exit.then])
     rw[<-Uh.out]
     with_reducible refine bodyPost_ret (bR results150 _ _ w.heap.size 136 R2 _ (.bool false) (by kernel_rfl) (by kernel_rfl) (aY.setRow Pk.out R2) underlying136 (by kernel_rfl) Rk.out) (by kernel_rfl) ?_
     refine⟨aL Ht.out (Nat.le_refl _) _,R2,Pf.out.size,Px.out,rfl,fun h=>Bool.noConfusion h⟩
   .have dv:decide (1099511627776<vv)=true:=by simp;omega
    apply_assumption
    obtain rfl:b=false:=by
     rw[Bool.eq_false_iff]
     intro ht
     have h9:=(HB.out.1 ht).1
     have a1:=h9.2.2.2
     rw[HV.out]at a1
     exact hvv a1
    go_wp2_with (first
     |(refine wpList_load_row rfl 136 _ rfl (w.heap.size+1) rfl 136 R2 (0,0) _ Rl.out underlying136 rfl Rk.out ?_)
     |(refine wpList_store_row rfl 136 _ _ rfl w.heap.size R2 rfl rfl 136 rz Pk.out Rk.out (by rw[Pf.out.size];rfl) Px.out ?_))
    (try simp only[Exit.inBlock,Exit.then])
    rw[<-Uh.out]
    with_reducible refine bodyPost_ret (bR results150 _ _ w.heap.size 136 R2 _ (.bool false) (by kernel_rfl) (by kernel_rfl) (aY.setRow Pk.out R2) underlying136 (by kernel_rfl) Rk.out) (by kernel_rfl) ?_
    refine⟨aL Ht.out (Nat.le_refl _) _,R2,Pf.out.size,Px.out,rfl,fun h=>Bool.noConfusion h⟩
 .have d6:decide (6<z0)=true:=by simp;omega
  obtain rfl:b=false:=by
   rw[Bool.eq_false_iff]
   intro ht
   have h9:=rS (HB.out.1 ht).1.1
   have h0:=Uo.out
   unfold dH at h9
   rw[h0]at h9
   split at h9<;>omega
  go_wp2_with (first
   |(refine wpList_load_row rfl 136 _ rfl (w.heap.size+1) rfl 136 rz (0,0) _ (aY.newAt _ _ _ (by simp)) underlying136 rfl HI.out ?_)
   |(refine wpList_store_row rfl 136 _ _ rfl w.heap.size rz rfl rfl 136 rz ((aY.new _ _ _).alloc _) HI.out rfl JE ?_))
  (try simp only[Exit.inBlock,Exit.then])
  rw[<-Uh.out]
  with_reducible refine bodyPost_ret (bR results150 _ _ w.heap.size 136 rz _ (.bool false) (by kernel_rfl) (by kernel_rfl) (aY.setRow ((aY.new _ _ _).alloc _) rz) underlying136 (by kernel_rfl) HI.out) (by kernel_rfl) ?_
  refine⟨aL (show Below w.heap.size w ((w.alloc (.cells rz 136)).alloc (.cells rz 136)) by go_grown) (Nat.le_refl _) _,rz,rfl,JE,rfl,fun h=>Bool.noConfusion h⟩
end
end Go.Proofs.YtplpimkgihnmhaaGreatDoor
