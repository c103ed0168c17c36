/-
  Part of a proof: RecW. For all values.
-/
import Derived.Test.YtplpimkgihnmhaaGreatDoorA09
set_option maxRecDepth 100000
set_option maxHeartbeats 4000000
set_option linter.all false
namespace Go.Proofs.YtplpimkgihnmhaaGreatDoor
open Go.Proofs.Tryz Go.RowKit
section
attribute [local go_sem↓] Go.wp_at_zero Go.wp_at_succ
theorem cH.splice{E D:Array Value}{n m o:Nat}{z y:Nat->Int}(hE:cH E n z)(hD:cH D m y)(h:o+m<=n):
 cH (E.toList.take o++(D.toList++E.toList.drop (o+m))).toArray n (fun i=>if o<=i/\i<o+m then y (i-o)else z i):=by
 have e1:=hE.size
 have e2:=hD.size
 have e3:(E.toList.take o).length=o:=by simp;omega
 refine⟨by simp;omega,fun i hi=>?_,fun i hi=>?_⟩
 .rw[List.getElem?_toArray,List.getElem?_append]
  by_cases h1:i<o
  .rw[iP I,List.getElem?_take,iP h1,iN I,Array.getElem?_toList]
   exact hE.get i hi
  rw[iN I,List.getElem?_append,e3]
  by_cases h2:i<o+m
  .rw[iP (by simp;omega),iP ⟨I,h2⟩,Array.getElem?_toList]
   exact hD.get (i-o) I
  rw[iN (by simp;omega),iN I,List.getElem?_drop,Array.length_toList,e2,Array.getElem?_toList,show o+m+(i-o-m)=i by omega]
  exact hE.get i hi
 show 0<=(if o<=i/\i<o+m then y (i-o)else z i)/\(if o<=i/\i<o+m then y (i-o)else z i)<_
 by_cases h1:o<=i/\i<o+m
 .rw[iP h1];exact hD.bd (i-o) I
 rw[iN h1];exact hE.bd i hi
structure uD (R C:Array Value) (ac av wh tg:Nat->Int) (ver cnt:Int):Prop where
 size:R.size=37
 thing:C=R.extract 0 19
 ac_:∀t,t<4->R[19+2*t]? =some (.int .i64 (ac t))
 av_:∀t,t<4->R[20+2*t]? =some (.int .i64 (av t))
 wh_:∀t,t<4->R[27+t]? =some (.int .u64 (wh t))
 tg_:∀t,t<4->R[31+t]? =some (.int .i64 (tg t))
 ver_:R[35]? =some (.int .u64 ver)
 cnt_:R[36]? =some (.int .u64 cnt)
def uM(tg:Nat->Int):Nat->Nat
 |0=>0
 |k+1=>if tg k=1 then iH (uM tg k) k else uM tg k
theorem IZ(tg:Nat->Int):∀k,k<=4->uM tg k<2^k
 |0,_=>by simp [uM]
 |k+1,h=>by
  have:=IZ tg k I
  unfold uM
  split
  .unfold iH
   split
   .exact Nat.xor_lt_two_pow (Nat.lt_of_lt_of_le this (Nat.pow_le_pow_right aJ I)) (by rw[Int.toNat_natCast];exact Nat.pow_lt_pow_right aJ I)
   exact Nat.lt_of_lt_of_le this (Nat.pow_le_pow_right aJ I)
  .exact Nat.lt_of_lt_of_le this (Nat.pow_le_pow_right aJ I)
theorem AI(tg:Nat->Int)(k:Nat)(h:k<=4):uM tg k<18446744073709551616:=by
 have:=IZ tg k h
 have h2:2^k<=2^4:=Nat.pow_le_pow_right aJ h
 omega
def DY(kind:Int)(zo ac av wh tg:Nat->Int)(k:Nat)(i:Nat):Int:=
 if i=0 then kind else if i<18 then zo (i-1)else if i<22 then(if i-18<k then iV (ac (i-18)) (av (i-18))else 0)
 else if i<26 then(if i-22<k then wh (i-22)else 0)else if i=26 then(uM tg k:Int)else 0
theorem VD(kind:Int)(zo ac av wh tg:Nat->Int)(i:Nat):DY kind zo ac av wh tg 0 i=if 1<=i/\i<1+17 then zo (i-1)else if i=0 then kind else 0:=by
 unfold DY
 repeat' split
 all_goals first|rfl|(exfalso;omega)
theorem EU(kind:Int)(zo ac av wh tg:Nat->Int)(k i:Nat)(hk:k<4):DY kind zo ac av wh tg (k+1) i=if i=26 then(uM tg (k+1):Int)else if i=22+k then wh k else if i=18+k then iV (ac k) (av k)else DY kind zo ac av wh tg k i:=by
 unfold DY
 by_cases Re:i=26
 .subst Re;rfl
 rw[iN Re,iN Re]
 by_cases h22:i=22+k
 .subst h22
  rw[iP rfl,iN I,iN I,iN I,iP I,iP I,show 22+k-22=k by omega]
 rw[iN h22]
 by_cases h18:i=18+k
 .subst h18
  rw[iP rfl,iN I,iN I,iP I,iP I,show 18+k-18=k by omega]
 rw[iN h18]
 by_cases h0:i=0
 .rw[iP h0,iP h0]
 rw[iN h0,iN h0]
 by_cases h1:i<18
 .rw[iP h1,iP h1]
 rw[iN h1,iN h1]
 by_cases h2:i<22
 .rw[iP h2,iP h2]
  by_cases h3:i-18<k
  .rw[iP h3,iP (show i-18<k+1 by omega)]
  rw[iN h3,iN (show¬i-18<k+1 by omega)]
 rw[iN h2,iN h2]
 by_cases h4:i<26
 .rw[iP h4,iP h4]
  by_cases h3:i-22<k
  .rw[iP h3,iP (show i-22<k+1 by omega)]
  rw[iN h3,iN (show¬i-22<k+1 by omega)]
 rw[iN h4,iN h4,iN Re]
def iW(kind:Int)(zo ac av wh tg:Nat->Int)(ver cnt:Int)(i:Nat):Int:=if i=27 then ver else if i=28 then cnt else DY kind zo ac av wh tg 4 i
def tI(z:Nat->Int)(w:World)(e:Ending)(w':World):Prop:=
 ∃g D,e=.returned (.slice (some ⟨g,0,none⟩) 32 32)/\aY w' g 23 D/\cH D 32 z/\w<=g/\Below w w w'
theorem Bz(w:World):(Instr.makeSlice 91 (32:Int) (32:Int)).run prog w=.ok (.slice (some ⟨w.heap.size,0,none⟩) 32 32) (w.alloc (.cells (Array.replicate 32 (.int .u64 0)) 23)):=J
theorem vM(a v:Int):0<=iV a v/\iV a v<18446744073709551616:=by
 unfold iV
 split
 .rename_i h
  unfold fU at h
  simp at h
  omega
 omega
theorem uC(R C:Array Value)(ac av wh tg:Nat->Int)(ver cnt kind:Int)(zo:Nat->Int)(w:World)(h:uD R C ac av wh tg ver cnt)(hk:0<=kind/\kind<=9)(hz:∀i,i<17->0<=zo i)(hok:cK kind zo)(hC:jE kind zo C w)
 (hw:∀t,t<4->0<=wh t/\wh t<18446744073709551616) (hver:0<=ver/\ver<18446744073709551616) (hcnt:0<=cnt/\cnt<18446744073709551616):
 Calls prog 59 #[.agg R] w (tI (iW kind zo ac av wh tg ver cnt) w):=by
 have hmk:=Bz
 have Jl:aY (w.alloc (.cells R 136)) w 136 R:=aY.new _ _ _
 have hkw:kind%18446744073709551616=kind:=I
 have r0:R[0]? =some (.int .i64 kind):=by
  have e:=hC.kind_
  rw[h.thing,Array.getElem?_extract,iP (by have:=h.size;omega)]at e
  simpa using e
 have hsz:=hC.size
 have Jp:Hid ((prog.info? 131).map (·.size)=some C.toList.length):=by show _=_;rw[jT,Array.length_toList,hsz]
 have HU:Hid (cH ((Array.replicate 32 (.int .u64 0)).setIfInBounds 0 [kind]) 32 (fun i=>if i=0 then kind else 0)):=aH ((cH.zero 32).set_ (k:=0) I)
 have H:=aH h
 have HK:=aH hk
 have HC:=aH hC
 have Hd:=aH Jl
 have HZ:=aH hz
 have Kw:=aH hok
 have HWH:=aH hw
 clear h hC Jl hz hok hw hsz
 go_enter func59,ntmps59
 go_wp2_with fail
 have Ka:Below w w ((w.alloc (.cells R 136)).alloc (.cells ((Array.replicate 32 (.int .u64 0)).setIfInBounds 0 [kind]) 23)):=by go_grown
 have Hc:Hid (aY ((w.alloc (.cells R 136)).alloc (.cells ((Array.replicate 32 (.int .u64 0)).setIfInBounds 0 [kind]) 23)) (w,1) 23 ((Array.replicate 32 (.int .u64 0)).setIfInBounds 0 [kind])):=aH (aY.newAt _ _ _ (by simp))
 have Sx:Hid (aY ((w.alloc (.cells R 136)).alloc (.cells ((Array.replicate 32 (.int .u64 0)).setIfInBounds 0 [kind]) 23)) w 136 R):=aH (Hd.alloc _)
 have HC1:=aH (HC.below Ka)
 generalize(w.alloc (.cells R 136)).alloc (.cells ((Array.replicate 32 (.int .u64 0)).setIfInBounds 0 [kind]) 23)=W1 at*
 generalize(Array.replicate 32 (Value.int .u64 0)).setIfInBounds 0 (Value.int .u64 kind)=E0 at*
 clear HC hmk
 have Io:=Hc.lt
 refine aA 5 ?_
 iterate 3
  refine aR ?_;constructor
  .intro w9 Gq _
   go_simp
   exact aE
 refine bA (.agg C) cX ?_ ?_
 .intro w9 Gq _
  exact pG 131 _ rfl w 0 rfl C.toList _ (by
   rw[H.thing]
   exact World.rangeAt_of_block (t:=136) (fr:=(0,0)) (Sx.below Gq.same Sx.lt) 0 19) underlying131 rfl Jp ⟨⟨by simp,trivial⟩,aD.refl _ _⟩
 refine bC LO (XB zo) ⟨_,0,rfl⟩ ?_ ?_
 .intro w9 Gq _
  go_simp
  go_at_call 85
  refine(MJ C zo kind _ HZ Kw (HC1.below Gq.same)).mono ?_
  rintro e Qw ⟨g,D,rfl,Gs,hu,hg,hbl⟩
  exact⟨_,rfl,⟨⟨g,rfl⟩,⟨g,D,rfl,Gs,hu⟩⟩,aD.of_same hbl⟩
 refine aZ ?_
 rintro _ ⟨g9,rfl⟩ w9 Gq hmet
 obtain⟨w0,k0,k1,g',D,hv,hblk,hu⟩:=(hmet.1 rfl).out
 cases hv
 have hBD:=hblk.below k1 hblk.lt
 have Jk:=aH (Hc.below Gq.same Hc.lt)
 have Up:=aH (Sx.below Gq.same Sx.lt)
 have Ir:=aH (Ka.trans (Gq.same.mono Ka.size))
 have Ss:=aH hBD
 have HD:=aH hu
 clear hmet hblk k0 k1 hBD hu Hc Sx Ka Io Gq
 simp only[List.drop_succ_cons,List.drop_zero]
 refine wpList_copy_own rfl (.tmp 13) (.tmp 16) 91 91 rfl 23 underlying91 (by kernel_rfl) (w.heap.size+1) 1 31 31 ⟨g9,0,none⟩ 17 17 rfl rfl E0 23 Jk D.toList (by rw[Array.length_toList,HD.size];rfl) ?hsrc ?hfit ?hone ?_
 case hsrc=>
  intro j v hj
  rw[Addr.add_lit,Nat.zero_add,Ss.cell j]
  simpa using hj
 case hfit=>rw[Array.length_toList,HD.size,HU.size];decide
 case hone=>
  intro v hv
  have:=HD.one
  rw[Array.all_eq_true]at this
  obtain⟨i,hi,rfl⟩:=List.getElem_of_mem hv
  have h9:=this i (by simpa using hi)
  simpa using h9
 rw[Array.length_toList,HD.size]
 have Pw:=aH ((HU.splice HD (o:=1) I).congr (z':=DY kind zo ac av wh tg 0) (fun i hi=>VD _ _ _ _ _ _ i))
 have Rd:=aH (Jk.setRow (E0.toList.take 1++(D.toList++E0.toList.drop (1+17))).toArray)
 have Wd:Hid (aY (w9.setRow (w,1) (E0.toList.take 1++(D.toList++E0.toList.drop (1+17))).toArray) w 136 R):=aH ((setRow_other _ _ _ _ I).trans Up)
 have Pe:=aH (aL Ir (show w.heap.size<=w+1 by omega) (E0.toList.take 1++(D.toList++E0.toList.drop (1+17))).toArray)
 generalize w9.setRow (w,1) (E0.toList.take 1++(D.toList++E0.toList.drop (1+17))).toArray=W2 at*
 generalize(E0.toList.take 1++(D.toList++E0.toList.drop (1+17))).toArray=E1 at*
 clear HU Jk Up Ir Ss HD
 clear r0 Kw HC1 Jp
 go_wp2
 go_loopw [18] (fun i wr=>∃k:Nat,k<=4/\i=.int .i64 k/\Hid (∃E,aY wr (w,1) 23 E/\cH E 32 (DY kind zo ac av wh tg k))/\Hid (aY wr w 136 R)/\Hid (Below w w wr)) (fun i _=>4-(intOf i).toNat)
 case atStart=>exact⟨0,I,rfl,aH ⟨E1,Rd.out,Pw.out⟩,Wd,Pe⟩
 case round=>
  obtain⟨k,hk,rfl,hE,HR,HW⟩:=hrel
  obtain⟨E,hBE,hUE⟩:=hE.out
  have Ji:=aH hBE
  have Sy:=aH hUE
  clear hE hBE hUE Rd Pw Wd Pe
  by_cases Jf:k<4
  .have q1:(k:Int)<4:=I
   have a0:wr.cell? (w.heap.size,19+k*2)=(ac k):=by rw[Nat.mul_comm k 2];exact(HR.cell _).trans (H.ac_ k Jf)
   have a1:wr.cell? (w.heap.size,19+k*2+1)=(av k):=by rw[Nat.mul_comm k 2,show 19+2*k+1=20+2*k by omega];exact(HR.cell _).trans (H.av_ k Jf)
   by_cases htg:tg k=1
   .have dtg:(tg k==1)=true:=by simpa using htg
    have Ih:=aH htg
    clear htg
    go_wp2_with fail
    refine(rF (ac k) (av k) _).mono ?_
    rintro e w1 ⟨rfl,Gs⟩
    have Je:=Ji.below Gs Ji.lt
    have Sb:=HR.below Gs HR.lt
    have Hq:=aH (HW.trans (Gs.mono HW.size))
    have x0:=(Je.cell (18+k)).trans (Sy.get (18+k) I)
    have x1:=(Je.cell (22+k)).trans (Sy.get (22+k) I)
    have x2:=(Je.cell 26).trans (Sy.get 26 I)
    rw[show DY kind zo ac av wh tg k 26=((uM tg k:Nat):Int)from rfl]at x2
    have H26:Hid (DY kind zo ac av wh tg k 26=((uM tg k:Nat):Int)):=aH rfl
    have f0:=Je.frozen (18+k)
    have f1:=Je.frozen (22+k)
    have f2:=Je.frozen 26
    have y0:=(Sb.cell (27+k)).trans (H.wh_ k Jf)
    have y1:=(Sb.cell (31+k)).trans (H.tg_ k Jf)
    have i18:(18:Int)+k=((18+k:Nat):Int):=I
    have i22:(22:Int)+k=((22+k:Nat):Int):=I
    have j18:((18+k:Nat):Int)<32:=I
    have j22:((22+k:Nat):Int)<32:=I
    have n1:¬18+k=26:=I
    have n2:¬22+k=26:=I
    have n3:¬18+k=22+k:=I
    have n4:¬22+k=18+k:=I
    have n5:¬26=18+k:=I
    have n6:¬26=22+k:=I
    have Xs:=aH Je
    have Kn:=aH Sb
    have HWK:=aH (HWH.out k Jf)
    have Lw:=aH (vM (ac k) (av k))
    have Wb:=aH (EU kind zo ac av wh tg k)
    have HKN:=aH (AI tg (k+1) I)
    have HKK:=aH (AI tg k I)
    have Np:Hid (uM tg (k+1)=if tg k=1 then iH (uM tg k) k else uM tg k):=aH rfl
    clear a0 a1 Gs Je Sb
    generalize iV (ac k) (av k)=an at*
    generalize wh k=wk at*
    generalize uM tg (k+1)=tn at*
    generalize uM tg k=tk at*
    generalize tg k=tgk at*
    generalize hs:18+k=s at*
    generalize hu:22+k=u at*
    have HS:=aH hs
    have HU:=aH hu
    clear hs hu
    go_wp2_with fail
    refine(ES tk k _ HKK).mono ?_
    rintro e w2 ⟨rfl,Gt⟩
    rw[show iH tk (k:Int)=tn from by rw[Np.out,iP Ih.out]]
    have Xt:=(Xs.set_ s [an]).set_ u [wk]
    have Uv:=Xt.below Gt Xt.lt
    have Na:=aH (((Kn.far (p:=⟨w+1,s,none⟩) (by simp) [an]).far (p:=⟨w+1,u,none⟩) (by simp) [wk]).below Gt (by have:=Kn.lt;simpa using this))
    have Ht:=aH (((Hq.setCell (p:=⟨w+1,s,none⟩) (by show w.heap.size<=w+1;omega) [an]).setCell (p:=⟨w+1,u,none⟩) (by show w.heap.size<=w+1;omega) [wk]).trans (Gt.mono (by have:=Hq.size;simpa using this)))
    have Xu:=(Sy.set_ (k:=s) (v:=an) Lw).set_ (k:=u) (v:=wk) HWK
    have x3:=(Uv.cell 26).trans (Xu.get 26 I)
    have f3:=Uv.frozen 26
    have HBE3:=aH Uv
    have HUE2:=aH Xu
    clear Gt Xt Uv Xu x0 x1 x2 f0 f1 f2 y0 y1 i18 i22 n1 n2 n3 n4 n5 n6
    go_wp2
    go_roundw
    case rel=>exact⟨k+1,I,aG,aH ⟨_,HBE3.set_ 26 _,(HUE2.set_ (k:=26) (v:=(tn:Int)) (by have:=HKN.out;omega)).congr (fun i hi=>Wb.out i Jf)⟩,aH (Na.far (p:=⟨w+1,26,none⟩) (by simp) _),aH (Ht.setCell (p:=⟨w+1,26,none⟩) (by show w.heap.size<=w+1;omega) _)⟩
    case measure=>simp [intOf];omega
   have dtg:(tg k==1)=false:=by simpa using htg
   have Ih:=aH htg
   clear htg
   go_wp2_with fail
   refine(rF (ac k) (av k) _).mono ?_
   rintro e w1 ⟨rfl,Gs⟩
   have Je:=Ji.below Gs Ji.lt
   have Sb:=HR.below Gs HR.lt
   have Hq:=aH (HW.trans (Gs.mono HW.size))
   have x0:=(Je.cell (18+k)).trans (Sy.get (18+k) I)
   have x1:=(Je.cell (22+k)).trans (Sy.get (22+k) I)
   have x2:=(Je.cell 26).trans (Sy.get 26 I)
   rw[show DY kind zo ac av wh tg k 26=((uM tg k:Nat):Int)from rfl]at x2
   have H26:Hid (DY kind zo ac av wh tg k 26=((uM tg k:Nat):Int)):=aH rfl
   have f0:=Je.frozen (18+k)
   have f1:=Je.frozen (22+k)
   have f2:=Je.frozen 26
   have y0:=(Sb.cell (27+k)).trans (H.wh_ k Jf)
   have y1:=(Sb.cell (31+k)).trans (H.tg_ k Jf)
   have i18:(18:Int)+k=((18+k:Nat):Int):=I
   have i22:(22:Int)+k=((22+k:Nat):Int):=I
   have j18:((18+k:Nat):Int)<32:=I
   have j22:((22+k:Nat):Int)<32:=I
   have n1:¬18+k=26:=I
   have n2:¬22+k=26:=I
   have n3:¬18+k=22+k:=I
   have n4:¬22+k=18+k:=I
   have n5:¬26=18+k:=I
   have n6:¬26=22+k:=I
   have Xs:=aH Je
   have Kn:=aH Sb
   have HWK:=aH (HWH.out k Jf)
   have Lw:=aH (vM (ac k) (av k))
   have Wb:=aH (EU kind zo ac av wh tg k)
   have HKN:=aH (AI tg (k+1) I)
   have HKK:=aH (AI tg k I)
   have Np:Hid (uM tg (k+1)=if tg k=1 then iH (uM tg k) k else uM tg k):=aH rfl
   clear a0 a1 Gs Je Sb
   generalize iV (ac k) (av k)=an at*
   generalize wh k=wk at*
   generalize uM tg (k+1)=tn at*
   generalize uM tg k=tk at*
   generalize tg k=tgk at*
   generalize hs:18+k=s at*
   generalize hu:22+k=u at*
   have HS:=aH hs
   have HU:=aH hu
   clear hs hu
   have Qr:Hid (tn=tk):=aH (by rw[Np.out,iN Ih.out])
   go_wp2
   go_roundw
   case rel=>exact⟨k+1,I,aG,aH ⟨_,(Xs.set_ s [an]).set_ u [wk],((Sy.set_ (k:=s) (v:=an) Lw).set_ (k:=u) (v:=wk) HWK).congr (fun i hi=>by
    have e1:=HS.out
    have e2:=HU.out
    rw[Wb.out i Jf]
    by_cases Re:i=26
    .subst Re
     rw[iP rfl,iN I,iN I,H26.out,Qr.out]
    .rw[iN Re])⟩,aH ((Kn.far (p:=⟨w+1,s,none⟩) (by simp) [an]).far (p:=⟨w+1,u,none⟩) (by simp) [wk]),
    aH ((Hq.setCell (p:=⟨w+1,s,none⟩) (by show w.heap.size<=w+1;omega) [an]).setCell (p:=⟨w+1,u,none⟩) (by show w.heap.size<=w+1;omega) [wk])⟩
   case measure=>simp [intOf];omega
  obtain rfl:k=4:=I
  have v0:=(HR.cell 35).trans H.ver_
  have v1:=(HR.cell 36).trans H.cnt_
  have x0:=(Ji.cell 27).trans (Sy.get 27 I)
  have x1:=(Ji.cell 28).trans (Sy.get 28 I)
  have f0:=Ji.frozen 27
  have f1:=Ji.frozen 28
  go_wp2
  go_region
  apply_assumption
  go_wp2
  go_ret
  exact⟨w+1,_,rfl,(Ji.set_ 27 _).set_ 28 _,((Sy.set_ (k:=27) (v:=ver) hver).set_ (k:=28) (v:=cnt) hcnt).congr (fun i hi=>by
   unfold iW
   by_cases h1:i=27
   .subst h1;rfl
   rw[iN h1]
   by_cases h2:i=28
   .rw[iP h2,iP h2]
   rw[iN h2,iN h2,iN h1]),I,((HW.setCell (p:=⟨w+1,27,none⟩) (by show w.heap.size<=w+1;omega) _).setCell (p:=⟨w+1,28,none⟩) (by show w.heap.size<=w+1;omega) _).drew⟩
end
end Go.Proofs.YtplpimkgihnmhaaGreatDoor
