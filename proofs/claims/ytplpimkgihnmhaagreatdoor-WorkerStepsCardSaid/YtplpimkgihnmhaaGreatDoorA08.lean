/-
  Part of a proof: MObjR OpW Get Told Of RecP. For all values.
-/
import Derived.Test.YtplpimkgihnmhaaGreatDoorA07
set_option maxRecDepth 100000
set_option maxHeartbeats 4000000
set_option linter.all false
namespace Go.Proofs.YtplpimkgihnmhaaGreatDoor
open Go.Proofs.Tryz Go.RowKit
section
attribute [local go_sem↓] Go.wp_at_zero Go.wp_at_succ
def tW(z:Nat->Int)(i:Nat):Prop:=z (2*i)<=1000/\z (2*i+1)<=4294967295
def kQ(z:Nat->Int):Prop:=(∀i,i<8->tW z i)/\z 16=0/\cS z=true
def CD(z:Nat->Int)(w:World)(e:Ending)(w':World):Prop:=
 Below w.heap.size w w'/\∃D y b,e=.returned (.tuple #[.agg D,.bool b])/\eB D 16 y/\(b=true↔kQ z)/\(b=true->∀i,i<16->y i=z i)
theorem BG:(prog.info? 284).map (·.size)=some 16:=by kernel_rfl
structure Dt (w W:World) (C R D:Array Value):Prop where
 words:aY W w.heap.size 252 C
 res:aY W (w.heap.size+1) 284 R
 tab:aY W (w.heap.size+2) 284 D
 below:Below w.heap.size w W
theorem Dt.put{w W:World}{C R D:Array Value}(h:Dt w W C R D)(i:Nat)(x y:Value):
 Dt w ((W.setCell ⟨w.heap.size+1+1,i,none⟩ x).setCell ⟨w.heap.size+1+1,i+1,none⟩ y).drew C R ((D.setIfInBounds i x).setIfInBounds (i+1) y):=
 ⟨(h.words.far (by simp;omega) _).far (by simp;omega) _,(h.res.far (by simp) _).far (by simp) _,(h.tab.set_ _ _).set_ _ _,((h.below.setCell (by show w.heap.size<=w+1+1;omega) _).setCell (by show w.heap.size<=w+1+1;omega) _).drew⟩
theorem uF(z:Nat->Int)(k i:Nat):eF (k+1) z i=if i=k*2+1 then z (2*k+1)else if i=k*2 then z (2*k)else eF k z i:=by
 unfold eF
 by_cases h1:i=k*2+1
 .subst h1
  rw[iP I,iP rfl,show k*2+1=2*k+1 by omega]
 rw[iN h1]
 by_cases h2:i=k*2
 .subst h2
  rw[iP I,iP rfl,show k*2=2*k by omega]
 rw[iN h2]
 by_cases h3:i<2*k
 .rw[iP h3,iP I]
 rw[iN h3,iN I]
theorem zN(C:Array Value)(z:Nat->Int)(w:World)(h:cH C 17 z):Calls prog 157 #[.agg C] w (CD z w):=by
 have HC:=aH h
 have Qo:Hid (Dt w (((w.alloc (.cells C 252)).alloc (.cells (16:Int) 284)).alloc (.cells (16:Int) 284)) C (16:Int) (16:Int)):=aH
  ⟨((aY.new _ _ _).alloc _).alloc _,(aY.newAt _ _ _ (by simp)).alloc _,aY.newAt _ _ _ (by simp),by go_grown⟩
 have HZ:Hid (eB (16:Int) 16 (eF 0 z)):=aH ((show eB (16:Int) 16 (fun _=>0)from eB.zero 16).congr (fun i hi=>by unfold eF;rw[iN I]))
 clear h
 go_enter func157,ntmps157
 go_wp2
 go_loopw [6] (fun i wr=>∃k:Nat,k<=8/\i=.int .i64 k/\Hid (∃D,Dt w wr C (16:Int) D/\eB D 16 (eF k z))/\Hid (∀j,j<k->tW z j)) (fun i _=>8-(intOf i).toNat)
 case atStart=>exact⟨0,I,rfl,aH ⟨_,Qo.out,HZ.out⟩,aH fun j hj=>absurd hj I⟩
 case round=>
  obtain⟨k,hk,rfl,hD,hall⟩:=hrel
  obtain⟨D,hL,hI⟩:=hD.out
  have HL:=aH hL
  have HI:=aH hI
  have Hl:Hid ((prog.info? 284).map (·.size)=some D.size):=by show _=_;rw[BG,hI.size]
  by_cases Md:k<8
  .have b1:(k:Int)<8:=I
   have s0:wr.cell? (w.heap.size,2*k)=[z (2*k)]:=(hL.words.cell (2*k)).trans (HC.get _ I)
   have s1:wr.cell? (w.heap.size,2*k+1)=[z (2*k+1)]:=(hL.words.cell (2*k+1)).trans (HC.get _ I)
   have Ua:=HC.bd (2*k) (by omega)
   have Xg:=HC.bd (2*k+1) (by omega)
   clear hL hI hD
   generalize hx:z (2*k)=x at s0 Ua
   generalize hy:z (2*k+1)=y at s1 Xg
   have HX:=Lib.hid hx
   have HY:=Lib.hid hy
   clear hx hy
   by_cases Iy:x<=1000
   .have d1:decide (1000<x)=false:=by simp;omega
    by_cases Hx:y<=4294967295
    .have d2:decide (4294967295<y)=false:=by simp;omega
     have t0:wr.cell? ⟨w.heap.size+1+1,k*2,none⟩=some (.int .i64 (eF k z (k*2))):=(HL.tab.cell (k*2)).trans (HI.get _ (by omega))
     have t1:wr.cell? ⟨w.heap.size+1+1,k*2+1,none⟩=some (.int .i64 (eF k z (k*2+1))):=(HL.tab.cell (k*2+1)).trans (HI.get _ (by omega))
     have f0:wr.frozen? ⟨w.heap.size+1+1,k*2,none⟩=false:=HL.tab.frozen (k*2)
     have f1:wr.frozen? ⟨w.heap.size+1+1,k*2+1,none⟩=false:=HL.tab.frozen (k*2+1)
     go_wp2
     clear Qo HZ
     go_region
     apply_assumption
     go_wp2
     go_roundw
     case rel=>exact⟨k+1,by omega,by go_num,Lib.hid ⟨_,HL.put (k*2) _ _,((HI.set_ (k:=k*2) (v:=x) (by omega)).set_ (k:=k*2+1) (v:=y) (by omega)).congr (fun i hi=>by rw[uF,HX.out,HY.out])⟩,Lib.hid fun j hj=>by
      rcases Nat.lt_or_ge j k with h|h
      .exact hall.out j h
      obtain rfl:j=k:=by omega
      exact⟨by rw[HX.out];exact Iy,by rw[HY.out];exact Hx⟩⟩
     case measure=>simp [intOf];omega
    have d2:decide (4294967295<y)=true:=by simp;omega
    go_wp2_with (first
     |(refine wpList_load_row rfl 284 _ rfl (w.heap.size+1+1) rfl 284 D (0,0) _ HL.tab underlying284 rfl Hl.out ?_)
     |(refine wpList_store_row rfl 284 _ _ rfl (w.heap.size+1) D rfl rfl 284 #[.int .i64 0,.int .i64 0,.int .i64 0,.int .i64 0,.int .i64 0,.int .i64 0,.int .i64 0,.int .i64 0,.int .i64 0,.int .i64 0,.int .i64 0,.int .i64 0,.int .i64 0,.int .i64 0,.int .i64 0,.int .i64 0] HL.res Hl.out (by rw[HI.size];rfl) HI.one ?_))
    refine bodyPost_ret (bR results157 _ _ (w.heap.size+1) 284 D _ _ rfl rfl (aY.setRow HL.res D) underlying284 rfl Hl.out) rfl ⟨aL HL.below (by simp) _,D,_,false,rfl,HI.out,Iff.intro (fun h=>Bool.noConfusion h) (fun h=>?_),fun h=>Bool.noConfusion h⟩
    have h1:=(h.1 k Md).2
    rw[HY.out]at h1
    omega
   have d1:decide (1000<x)=true:=by simp;omega
   go_wp2_with (first
    |(refine wpList_load_row rfl 284 _ rfl (w.heap.size+1+1) rfl 284 D (0,0) _ HL.tab underlying284 rfl Hl.out ?_)
    |(refine wpList_store_row rfl 284 _ _ rfl (w.heap.size+1) D rfl rfl 284 #[.int .i64 0,.int .i64 0,.int .i64 0,.int .i64 0,.int .i64 0,.int .i64 0,.int .i64 0,.int .i64 0,.int .i64 0,.int .i64 0,.int .i64 0,.int .i64 0,.int .i64 0,.int .i64 0,.int .i64 0,.int .i64 0] HL.res Hl.out (by rw[HI.size];rfl) HI.one ?_))
   refine bodyPost_ret (bR results157 _ _ (w.heap.size+1) 284 D _ _ rfl rfl (aY.setRow HL.res D) underlying284 rfl Hl.out) rfl ⟨aL HL.below (by simp) _,D,_,false,rfl,HI.out,Iff.intro (fun h=>Bool.noConfusion h) (fun h=>?_),fun h=>Bool.noConfusion h⟩
   have h1:=(h.1 k Md).1
   rw[HX.out]at h1
   omega
  obtain rfl:k=8:=I
  have Vr:Hid (eB D 16 z):=aH (hI.congr (fun i hi=>by unfold eF;rw[iP I]))
  have s16:wr.cell? (w.heap.size,16)=[z 16]:=(hL.words.cell 16).trans (HC.get _ I)
  have Ig:w.heap.size<wr:=hL.words.lt
  clear hL hI hD Qo HZ
  generalize hx:z 16=x at s16
  have HX:=aH hx
  clear hx
  by_cases Im:x=0
  .subst Im
   go_wp2
   refine bK 9 (fun b=>b=w+1) [8] J J ?_
   iterate 8
    refine aC (fun K hK=>?_)
    first
    |(refine .inl ?_
      apply Exists.intro
      refine⟨cX,?_,hK _ _ _ _ ?_⟩
      .simp only[bJ,bM]
       refine⟨?_,fun w9 Gq _=>?_⟩
       .first|rfl|(go_simp;done)
       have q16:=(Gq.cell (p:=⟨w.heap.size,16,none⟩) Ig (by show¬w.heap.size=w+1;omega)).trans s16
       first
       |exact bT 284 _ rfl (w+1+1) rfl 284 D _ ((Gq.block (w+1+1) HL.tab.lt I).trans HL.tab) underlying284 rfl Hl.out aE
       |(go_simp
         first
         |exact aE
         |(go_at_call 182;exact bS (AF D z _ Vr.out)))
      clear hK K
      refine aN ?_)
    |(refine .inr (.inl ⟨?_,hK _ _ _ _ ?_⟩)
      .simp only[bM]
       first|rfl|(go_simp;done)
      clear hK K
      refine aN ?_)
   refine aC (fun K hK=>?_)
   refine .inl ⟨undef,fun _ w'=>aY w' (w+1) 284 D,?_,hK _ _ _ _ ?_⟩
   .simp only[bJ,bM]
    refine⟨?_,fun w9 Gq Gw=>?_⟩
    .first|rfl|(go_simp;done)
    have Ie:aY w9 (w,1) 284 (16:Int):=(Gw.1.block _ HL.res.lt (fun h=>dN h J)).trans HL.res
    exact dS 284 _ _ rfl (w,1) D rfl rfl 284 (16:Int) Ie Hl.out (by rw[Vr.size];rfl) Vr.one ⟨⟨rfl,Ie.setRow D⟩,fD (.inl ⟨aJ,rfl⟩) _⟩
   clear hK K
   refine aZ ?_
   intro w9 Gq hmet
   obtain⟨w0,k0,k1,hF⟩:=hmet.1 rfl
   have Jk:Hid (aY w9 (w,1) 284 D):=aH ((k1.block _ hF.lt (fun h=>dN h J)).trans hF)
   have Ir:Hid (Below w w w9):=aH (HL.below.trans (Gq.below HL.below.size (fun b hb e=>by omega)))
   clear hmet hF k0 k1
   go_wp2
   refine bodyPost_ret (bR results157 _ _ (w,1) 284 D _ _ rfl rfl Jk.out underlying284 rfl Hl.out) rfl ⟨Ir.out,D,z,_,rfl,Vr.out,?_,fun _ i hi=>rfl⟩
   unfold kQ
   rw[HX.out]
   exact⟨fun h=>⟨hall.out,rfl,h⟩,fun h=>h.2.2⟩
  have d1:(x==0)=false:=by simpa using Im
  go_wp2
  refine bK 9 (fun b=>b=w+1) [8] J J ?_
  iterate 8
   refine aC (fun K hK=>?_)
   first
   |(refine .inl ?_
     apply Exists.intro
     refine⟨cX,?_,hK _ _ _ _ ?_⟩
     .simp only[bJ,bM]
      refine⟨?_,fun w9 Gq _=>?_⟩
      .first|rfl|(go_simp;done)
      have q16:=(Gq.cell (p:=⟨w.heap.size,16,none⟩) Ig (by show¬w.heap.size=w+1;omega)).trans s16
      first
      |exact bT 284 _ rfl (w+1+1) rfl 284 D _ ((Gq.block (w+1+1) HL.tab.lt I).trans HL.tab) underlying284 rfl Hl.out aE
      |(go_simp
        first
        |exact aE
        |(go_at_call 182;exact bS (AF D z _ Vr.out)))
     clear hK K
     refine aN ?_)
   |(refine .inr (.inl ⟨?_,hK _ _ _ _ ?_⟩)
     .simp only[bM]
      first|rfl|(go_simp;done)
     clear hK K
     refine aN ?_)
  refine aC (fun K hK=>?_)
  refine .inl ⟨undef,fun _ w'=>aY w' (w+1) 284 D,?_,hK _ _ _ _ ?_⟩
  .simp only[bJ,bM]
   refine⟨?_,fun w9 Gq Gw=>?_⟩
   .first|rfl|(go_simp;done)
   have Ie:aY w9 (w,1) 284 (16:Int):=(Gw.1.block _ HL.res.lt (fun h=>dN h J)).trans HL.res
   exact dS 284 _ _ rfl (w,1) D rfl rfl 284 (16:Int) Ie Hl.out (by rw[Vr.size];rfl) Vr.one ⟨⟨rfl,Ie.setRow D⟩,fD (.inl ⟨aJ,rfl⟩) _⟩
  clear hK K
  refine aZ ?_
  intro w9 Gq hmet
  obtain⟨w0,k0,k1,hF⟩:=hmet.1 rfl
  have Jk:Hid (aY w9 (w,1) 284 D):=aH ((k1.block _ hF.lt (fun h=>dN h J)).trans hF)
  have Ir:Hid (Below w w w9):=aH (HL.below.trans (Gq.below HL.below.size (fun b hb e=>by omega)))
  clear hmet hF k0 k1
  go_wp2
  refine bodyPost_ret (bR results157 _ _ (w,1) 284 D _ _ rfl rfl Jk.out underlying284 rfl Hl.out) rfl ⟨Ir.out,D,z,_,rfl,Vr.out,?_,fun _ i hi=>rfl⟩
  unfold kQ
  rw[HX.out]
  exact⟨fun h=>Bool.noConfusion h,fun h=>absurd h.2.1 Im⟩
def lZ(xs:List Int)(k:Nat):Bool:=decide (k=0\/xs[(k-1)/2]?.getD 0<=xs[k]?.getD 0)
def iJ(xs:List Int):Bool:=(List.range xs.length).all (lZ xs)&&decide (xs.length<=6)
theorem DR{xs:List Int}{k:Nat}(hk:k<xs.length)(h:lZ xs k=false):iJ xs=false:=by
 unfold iJ
 rw[Bool.and_eq_false_iff]
 left
 rw[List.all_eq_false]
 exact⟨k,by simpa using hk,by simp [h]⟩
theorem AC{xs:List Int}(h:∀i,i<xs.length->lZ xs i=true):iJ xs=decide (xs.length<=6):=by
 unfold iJ
 have:(List.range xs.length).all (lZ xs)=true:=by rw[List.all_eq_true];intro x hx;exact h x (by simpa using hx)
 rw[this,Bool.true_and]
theorem yO(A:Option Addr)(n c:Nat)(xs:List Int)(w:World)(h:fI w A n c xs):
 Calls prog 156 #[.slice A n c] w fun e w'=>e=.returned (.bool (iJ xs))/\Below w.heap.size w w':=by
 obtain⟨hlen,hcap,On,hbd,hat⟩:=h
 have HL:=aH hlen
 clear hlen
 have HA:=aH hat
 clear hat
 have HB:=aH hbd
 clear hbd
 go_enter func156,ntmps156
 go_wp2
 go_loopw [6] (fun i wr=>∃k:Nat,k<=n/\i=.int .i64 k/\Below w w wr/\Hid (∀j,j<k->lZ xs j=true)) (fun i _=>n-(intOf i).toNat)
 case atStart=>exact⟨0,I,rfl,Below.refl _ _,fun j hj=>absurd hj I⟩
 case round=>
  obtain⟨k,hk,rfl,hb,hall⟩:=hrel
  by_cases hkn:k<n
  .obtain⟨b,off,rfl,hblt,hcell⟩:=HA.out I
   have HC:=aH hcell
   clear hcell
   by_cases Ny:0<k
   .have Iz:wr.cell? (b,off+k)=(xs[k]?.getD 0):=(hb.cell (p:=⟨b,off+k,none⟩) hblt).trans (HC.out k hkn)
    have Hk:wr.cell? (b,off+(k-1)/2)=(xs[(k-1)/2]?.getD 0):=(hb.cell (p:=⟨b,off+(k-1)/2,none⟩) hblt).trans (HC.out _ I)
    have b1:(k:Int)<n:=I
    have b2:((k:Int)-1)/2<n:=I
    have b3:0<=((k:Int)-1)/2:=I
    have b4:0<(k:Int):=I
    go_wp2
    go_quiet (fail)
    go_wp2
    .have hlt:xs[k]?.getD 0<xs[(k-1)/2]?.getD 0:=by assumption
     go_ret
     exact⟨dF (by rw[DR (by rw[HL.out];exact hkn) (by simp [lZ];omega)]),cZ hb _⟩
    have hle:xs[(k-1)/2]?.getD 0<=xs[k]?.getD 0:=by assumption
    go_roundw
    case rel=>exact⟨k+1,I,aG,cZ hb _,fun j hj=>by
     rcases Nat.lt_or_ge j k with h|h
     .exact hall j h
     obtain rfl:j=k:=I
     simp [lZ,hle]⟩
    case measure=>simp [intOf];omega
   obtain rfl:k=0:=I
   go_wp2
   go_quiet (fail)
   go_wp2
   go_roundw
   case rel=>exact⟨1,I,rfl,cZ hb _,fun j hj=>by
    obtain rfl:j=0:=I
    simp [lZ]⟩
   case measure=>simp [intOf];omega
  obtain rfl:k=n:=I
  go_wp2
  go_ret
  exact⟨dF (by rw[AC (by rw[HL.out];exact hall),HL.out];simp;omega),hb⟩
theorem pZ{xs:List Int}{k j:Nat}(hj:j=2*k+1\/j=2*k+2):lZ xs j=decide (xs[k]?.getD 0<=xs[j]?.getD 0):=by
 have e:(j-1)/2=k:=I
 have e0:j≠0:=I
 simp [lZ,e,e0]
theorem tB{xs:List Int}(h:∀k,k<xs.length->∀j,(j=2*k+1\/j=2*k+2)->j<xs.length->lZ xs j=true):iJ xs=decide (xs.length<=6):=
 AC fun i hi=>by
  by_cases h0:i=0
  .simp [lZ,h0]
  exact h ((i-1)/2) I i I hi
theorem uK(A:Option Addr)(n c:Nat)(xs:List Int)(w:World)(h:fI w A n c xs)(hn:n<=60):
 Calls prog 193 #[.slice A n c] w fun e w'=>e=.returned (.bool (iJ xs))/\Below w.heap.size w w':=by
 obtain⟨hlen,hcap,On,hbd,hat⟩:=h
 have HL:=aH hlen
 clear hlen
 have HA:=aH hat
 clear hat
 have HB:=aH hbd
 clear hbd
 go_enter func193,ntmps193
 go_wp2
 go_loopw [8] (fun i wr=>∃k:Nat,k<=n/\i=.int .i64 k/\Below w w wr/\Hid (∀k',k'<k->∀j,(j=2*k'+1\/j=2*k'+2)->j<n->lZ xs j=true)) (fun i _=>n-(intOf i).toNat)
 case atStart=>exact⟨0,I,rfl,Below.refl _ _,fun j hj=>absurd hj I⟩
 case round=>
  obtain⟨k,hk,rfl,hb,hall⟩:=hrel
  by_cases hkn:k<n
  .obtain⟨b,off,rfl,hblt,hcell⟩:=HA.out I
   have HC:=aH hcell
   clear hcell
   have Qp:wr.cell? (b,off+k)=(xs[k]?.getD 0):=(hb.cell (p:=⟨b,off+k,none⟩) hblt).trans (HC.out k hkn)
   have hbz:b<wr:=by have:=hb.size;omega
   have hsz:=hb.size
   have hk60:k<60:=I
   have e1:IntKind.i64.wrap (2*(k:Int))=2*k:=IntWalk.i64_in _ I
   have e2:IntKind.i64.wrap (2*(k:Int)+1)=2*k+1:=IntWalk.i64_in _ I
   have e3:IntKind.i64.wrap (2*(k:Int)+2)=2*k+2:=IntWalk.i64_in _ I
   have hno:∀j,(j=2*k+1\/j=2*k+2)->j<n->xs[j]?.getD 0<xs[k]?.getD 0->iJ xs=false:=fun j hj hjn hlt=>
    DR (k:=j) (by rw[HL.out];exact hjn) (by rw[pZ hj];simp;omega)
   have HN:=aH hno
   clear hno
   by_cases p1:2*k+1<n
   .have Iz:wr.cell? (b,off+(2*k+1))=(xs[2*k+1]?.getD 0):=(hb.cell (p:=⟨b,off+(2*k+1),none⟩) hblt).trans (HC.out _ p1)
    have q1:2*(k:Int)+1<n:=I
    by_cases p2:2*k+2<n
    .have Hk:wr.cell? (b,off+(2*k+2))=(xs[2*k+2]?.getD 0):=(hb.cell (p:=⟨b,off+(2*k+2),none⟩) hblt).trans (HC.out _ p2)
     have q2:2*(k:Int)+2<n:=I
     go_wp2
     refine wp_loop_rounds 3 ?_
     rw[rounds_succ]
     go_wp2
     go_quiet (fail)
     go_wp2
     .have hlt:xs[2*k+1]?.getD 0<xs[k]?.getD 0:=by assumption
      go_ret
      exact⟨dF (by rw[HN.out _ (.inl rfl) p1 hlt]),(by repeat' (first|exact hb|exact hsz|refine cZ ?_ _|refine Below.alloc ?_ ?_ _))⟩
     have hle1:xs[k]?.getD 0<=xs[2*k+1]?.getD 0:=by assumption
     rw[rounds_succ]
     go_wp2
     go_quiet (fail)
     go_wp2
     .have hlt:xs[2*k+2]?.getD 0<xs[k]?.getD 0:=by assumption
      go_ret
      exact⟨dF (by rw[HN.out _ (.inr rfl) p2 hlt]),(by repeat' (first|exact hb|exact hsz|refine cZ ?_ _|refine Below.alloc ?_ ?_ _))⟩
     have hle2:xs[k]?.getD 0<=xs[2*k+2]?.getD 0:=by assumption
     rw[rounds_succ]
     go_wp2
     go_roundw
     case rel=>exact⟨k+1,I,aG,(by repeat' (first|exact hb|exact hsz|refine cZ ?_ _|refine Below.alloc ?_ ?_ _)),fun k' hk' j hj hjn=>by
      rcases Nat.lt_or_ge k' k with h|h
      .exact hall k' h j hj hjn
      obtain rfl:k'=k:=I
      rw[pZ hj]
      rcases hj with rfl|rfl<;>simpa⟩
     case measure=>simp [intOf];omega
    have d2:decide (2*(k:Int)+2<n)=false:=by simp;omega
    go_wp2
    refine wp_loop_rounds 3 ?_
    rw[rounds_succ]
    go_wp2
    go_quiet (fail)
    go_wp2
    .have hlt:xs[2*k+1]?.getD 0<xs[k]?.getD 0:=by assumption
     go_ret
     exact⟨dF (by rw[HN.out _ (.inl rfl) p1 hlt]),(by repeat' (first|exact hb|exact hsz|refine cZ ?_ _|refine Below.alloc ?_ ?_ _))⟩
    have hle1:xs[k]?.getD 0<=xs[2*k+1]?.getD 0:=by assumption
    rw[rounds_succ]
    go_wp2
    go_quiet (fail)
    go_wp2
    rw[rounds_succ]
    go_wp2
    go_roundw
    case rel=>exact⟨k+1,I,aG,(by repeat' (first|exact hb|exact hsz|refine cZ ?_ _|refine Below.alloc ?_ ?_ _)),fun k' hk' j hj hjn=>by
     rcases Nat.lt_or_ge k' k with h|h
     .exact hall k' h j hj hjn
     obtain rfl:k'=k:=I
     rw[pZ hj]
     rcases hj with rfl|rfl
     .simpa
     exact absurd hjn p2⟩
    case measure=>simp [intOf];omega
   have d1:decide (2*(k:Int)+1<n)=false:=by simp;omega
   have d2:decide (2*(k:Int)+2<n)=false:=by simp;omega
   go_wp2
   refine wp_loop_rounds 3 ?_
   iterate 2
    rw[rounds_succ]
    go_wp2
    go_quiet (fail)
    go_wp2
   rw[rounds_succ]
   go_wp2
   go_roundw
   case rel=>exact⟨k+1,I,aG,(by repeat' (first|exact hb|exact hsz|refine cZ ?_ _|refine Below.alloc ?_ ?_ _)),fun k' hk' j hj hjn=>by
    rcases Nat.lt_or_ge k' k with h|h
    .exact hall k' h j hj hjn
    omega⟩
   case measure=>simp [intOf];omega
  obtain rfl:k=n:=I
  go_wp2
  go_ret
  exact⟨dF (by rw[tB (by rw[HL.out];exact hall),HL.out];simp;omega),hb⟩
theorem gT:(prog.info? 252).map (·.size)=some 17:=by kernel_rfl
theorem GV(C:Array Value)(z:Nat->Int)(kind:Int)(w:World)(h:cH C 17 z)(hk:kind=1\/kind=2\/kind=3):
 Calls prog 140 #[.int .i64 kind,.agg C] w fun e w'=>∃b,e=.returned (.bool b)/\(b=true↔gW z)/\Below w.heap.size w w':=by
 have HC:=Lib.hid h
 have Hl:Hid ((prog.info? 252).map (·.size)=some C.size):=by show _=_;rw[gT,h.size]
 have Lv:Hid (aY (w.alloc (.cells C 252)) w.heap.size 252 C):=aY.new _ _ _
 have HL:Calls prog 155 #[.agg C] (w.alloc (.cells C 252)) (AZ z (w.alloc (.cells C 252))):=vX C z _ h
 clear h
 rcases hk with rfl|rfl|rfl
 all_goals
  go_enter func140,ntmps140
  go_wp2_with (refine wpList_load_row rfl 252 _ rfl w.heap.size rfl 252 C (0,0) _ Lv underlying252 rfl Hl ?_)
  refine HL.mono ?_
  rintro e w1 ⟨hb,hcase⟩
  have hB:Below w.heap.size w w1:=Below.trans (by go_grown) (hb.mono (by simp))
  rcases hcase with⟨hok,A,c,rfl,hown⟩|⟨hno,rfl⟩
  .have Kw:=Lib.hid hok
   clear hok hown
   go_wp2
   go_ret
   exact⟨_,rfl,Iff.intro (fun _=>Kw.out) (fun _=>rfl),hB⟩
  .have Rx:=Lib.hid hno
   clear hno
   go_wp2
   go_ret
   exact⟨_,rfl,Iff.intro (fun h=>Bool.noConfusion h) (fun h=>absurd h Rx),hB⟩
theorem GH(C:Array Value)(z:Nat->Int)(w:World)(h:cH C 17 z):
 Calls prog 140 #[.int .i64 4,.agg C] w fun e w'=>∃b,e=.returned (.bool b)/\(b=true↔gW z/\iJ (zW z (z 0).toNat)=true)/\Below w.heap.size w w':=by
 have HC:=Lib.hid h
 have Hl:Hid ((prog.info? 252).map (·.size)=some C.size):=by show _=_;rw[gT,h.size]
 have Lv:Hid (aY (w.alloc (.cells C 252)) w.heap.size 252 C):=aY.new _ _ _
 have HL:Calls prog 155 #[.agg C] (w.alloc (.cells C 252)) (AZ z (w.alloc (.cells C 252))):=vX C z _ h
 clear h
 go_enter func140,ntmps140
 go_wp2_with (refine wpList_load_row rfl 252 _ rfl w.heap.size rfl 252 C (0,0) _ Lv underlying252 rfl Hl ?_)
 refine HL.mono ?_
 rintro e w1 ⟨hb,hcase⟩
 have hB:Below w.heap.size w w1:=Below.trans (by go_grown) (hb.mono (by simp))
 rcases hcase with⟨hok,A,c,rfl,hown⟩|⟨hno,rfl⟩
 .have Kw:=Lib.hid hok
  have hn:(z 0).toNat<=16:=by have:=hok.1;omega
  have HS:Hid (fI w1 A (z 0).toNat c (zW z (z 0).toNat)):=Lib.hid (fI.of_own hown (fun i=>by
   by_cases hi:i<(z 0).toNat
   .rw[pA z _ i hi]
    have h1:=(hok.2 i (by omega)).1
    have h0:=(HC.bd (i+1) (by omega)).1
    omega
   rw[List.getElem?_eq_none (by rw[qT];omega)]
   decide))
  clear hok hown
  go_wp2_with (go_at_call 156;refine(yO A _ c _ _ HS).mono ?_;rintro e w2 ⟨rfl,Gt⟩)
  go_ret
  exact⟨_,rfl,Iff.intro (fun h=>⟨Kw.out,h⟩) (fun h=>h.2),hB.trans (Gt.mono hB.size)⟩
 have Rx:=aH hno
 clear hno
 go_wp2
 go_ret
 exact⟨_,rfl,Iff.intro (fun h=>Bool.noConfusion h) (fun h=>absurd h.1 Rx),hB⟩
theorem EF(C:Array Value)(z:Nat->Int)(w:World)(h:cH C 17 z):
 Calls prog 140 #[.int .i64 5,.agg C] w fun e w'=>∃b,e=.returned (.bool b)/\(b=true↔kQ z)/\Below w.heap.size w w':=by
 have Hl:Hid ((prog.info? 252).map (·.size)=some C.size):=by show _=_;rw[gT,h.size]
 have Lv:Hid (aY (w.alloc (.cells C 252)) w 252 C):=aY.new _ _ _
 have HL:Calls prog 157 #[.agg C] (w.alloc (.cells C 252)) (CD z (w.alloc (.cells C 252))):=zN C z _ h
 clear h
 go_enter func140,ntmps140
 go_wp2_with (refine wpList_load_row rfl 252 _ rfl w rfl 252 C (0,0) _ Lv underlying252 rfl Hl ?_)
 refine HL.mono ?_
 rintro e w1 ⟨hb,D,y,b,rfl,hI,Gs,Gt⟩
 have hB:Below w w w1:=Below.trans (by go_grown) (hb.mono (by simp))
 have HI:=aH hI
 have Oa:Hid ((prog.info? 284).map (·.size)=some D.size):=by show _=_;rw[BG,hI.size]
 have Hc:=aH Gs
 clear Gs Gt hI
 go_wp2_with (refine wpList_store_row rfl 284 _ _ rfl w1 D rfl rfl 284 (16:Int) (aY.new _ _ _) Oa (by rw[HI.size];rfl) HI.one ?_)
 go_ret
 exact⟨_,rfl,Hc.out,aL (hB.alloc hB.size _) (hB.size) _⟩
theorem GJ(C:Array Value)(kind:Int)(w:World)(h:kind<1\/6<kind):
 Calls prog 140 #[.int .i64 kind,.agg C] w fun e w'=>e=.returned (.bool false)/\Below w.heap.size w w':=by
 have e1:(kind==1)=false:=by simp;omega
 have e2:(kind==2)=false:=by simp;omega
 have e3:(kind==3)=false:=by simp;omega
 have e4:(kind==4)=false:=by simp;omega
 have e5:(kind==5)=false:=by simp;omega
 have e6:(kind==6)=false:=by simp;omega
 clear h
 go_enter func140,ntmps140
 go_wp2
 go_ret
 exact⟨rfl,by go_grown⟩
def qO(z:Nat->Int):Prop:=z 0<=4294967295/\∀i,i<17->z i=if i=0 then z 0 else 0
theorem Ak(w:World):(sizeOf 23).run prog w=.ok 1 w:=by kernel_rfl
theorem DW(C:Array Value)(z:Nat->Int)(r:Bool)(w:World)(h:cH C 17 z)(hr:r=true↔qO z):
 Calls prog 140 #[.int .i64 6,.agg C] w fun e w'=>e=.returned (.bool r)/\Below w.heap.size w w':=by
 have Hl:Hid ((prog.info? 252).map (·.size)=some C.size):=by show _=_;rw[gT,h.size]
 have Lv:Hid (aY (w.alloc (.cells C 252)) w 252 C):=aY.new _ _ _
 have c0:=h.get 0 I
 obtain⟨n,hn⟩:=aP (z 0)
 have hU:=((cH.zero 17).set_ (k:=0) (v:=n) (by rw[<-hn];exact h.bd 0 I))
 have e:(Array.replicate 17 (Value.int .u64 0)).setIfInBounds 0 (.int .u64 n)= #[.int .u64 n,.int .u64 0,.int .u64 0,.int .u64 0,.int .u64 0,.int .u64 0,.int .u64 0,.int .u64 0,.int .u64 0,.int .u64 0,.int .u64 0,.int .u64 0,.int .u64 0,.int .u64 0,.int .u64 0,.int .u64 0,.int .u64 0]:=rfl
 rw[e]at hU
 obtain⟨b,hb,heq⟩:∃b:Bool,(b=true↔∀i,i<17->z i=if i=0 then n else 0)/\∀w:World,(Op.equalIn 10000 252 (.agg C) (.agg #[[n],.int .u64 0,.int .u64 0,.int .u64 0,.int .u64 0,.int .u64 0,.int .u64 0,.int .u64 0,.int .u64 0,.int .u64 0,.int .u64 0,.int .u64 0,.int .u64 0,.int .u64 0,.int .u64 0,.int .u64 0,.int .u64 0])).run prog w=.ok b w:=
  ⟨_,decide_eq_true_iff,fun w=>uH w 9998 17 underlying252 underlying23 Ak h.get hU.get⟩
 rw[hn]at c0
 clear hU e
 by_cases h4:n<=4294967295
 .have d1:decide (n<=4294967295)=true:=by simpa using h4
  obtain rfl:r=b:=by
   rw[Bool.eq_iff_iff,hr,hb]
   unfold qO
   rw[hn]
   exact⟨fun h=>h.2,fun h=>⟨h4,h⟩⟩
  clear h hr hb hn
  go_enter func140,ntmps140
  go_wp2_with (refine eM rfl 252 _ rfl w rfl 252 C (0,0) _ Lv underlying252 rfl Hl ?_)
  go_ret
  exact⟨rfl,by go_grown⟩
 have d1:decide (n<=4294967295)=false:=by simpa using h4
 obtain rfl:r=false:=by
  rw[Bool.eq_false_iff]
  intro h1
  have:=(hr.1 h1).1
  rw[hn]at this
  exact h4 this
 clear h hr hb hn
 go_enter func140,ntmps140
 go_wp2
 go_ret
 exact⟨rfl,by go_grown⟩
end
section
def cK(kind:Int)(z:Nat->Int):Prop:=
 if kind=5 then kQ z else if kind=6 then qO z else if kind=4 then gW z/\iJ (zW z (z 0).toNat)=true else 1<=kind/\kind<=3/\gW z
def VU(z:Nat->Int):Prop:=∀i,i<17->0<=z i/\z i<18446744073709551616
def zL(z:Nat->Int):List Int:=zW z (z 0).toNat
end
section
attribute [local go_sem↓] Go.wp_at_zero Go.wp_at_succ
def jI(a k v:Int):Int:=if cB a k v=true then(a*65536+k)*4294967296+v else 0
def jN(b:Bool)(e:Int):Int:=if b=true then 0 else e
theorem KJ(x y:Int)(n p:Nat)(hx:x=((2^n*p:Nat):Int))(h0:0<=y)(hy:y<((2^n:Nat):Int))(hs:x+y<18446744073709551616):bits .or .u64 x y=x+y:=by
 obtain⟨m,rfl⟩:=Int.eq_ofNat_of_zero_le h0
 have hm:m<2^n:=I
 subst hx
 rw[u64_or_nat _ _ I I,<-Nat.two_pow_add_eq_or_of_lt hm]
 simp
theorem Gf:(2:Nat)^48=281474976710656:=by decide
theorem Eu:(2:Nat)^32=4294967296:=by decide
theorem NJ(a k v:Int)(q1:1<=a)(q2:a<=6)(q3:0<=k)(q4:k<=1000)(q5:0<=v)(q6:v<=4294967295):
 bits .or .u64 (bits .or .u64 (a*281474976710656) (k*4294967296)) v=(a*65536+k)*4294967296+v:=by
 obtain⟨p,rfl⟩:=Int.eq_ofNat_of_zero_le (show 0<=a by omega)
 obtain⟨q,rfl⟩:=Int.eq_ofNat_of_zero_le q3
 rw[KJ ((p:Int)*281474976710656) ((q:Int)*4294967296) 48 p (by rw[Gf];omega) I (by rw[Gf];omega) I]
 rw[KJ _ v 32 (p*65536+q) (by rw[Eu];omega) I (by rw[Eu];omega) I]
 omega
theorem EJ(a v:Int)(q1:1<=a)(q2:a<=5)(q5:0<=v)(q6:v<=4294967295):bits .or .u64 (a*4294967296) v=a*4294967296+v:=by
 obtain⟨p,rfl⟩:=Int.eq_ofNat_of_zero_le (show 0<=a by omega)
 rw[KJ _ v 32 p (by rw[Eu];omega) I (by rw[Eu];omega) I]
theorem yC{x y:Int}{e:Value}(h:x=y):Ending.returned (.tuple #[[x],e])=.returned (.tuple #[[y],e]):=by rw[h]
theorem JT(a k v:Int)(w:World):Calls prog 90 #[.agg #[a,k,v]] w fun e w'=>e=.returned (.tuple #[[jI a k v],gS (jN (cB a k v) 1)])/\Below w w w':=by
 cases hr:cB a k v with
 |false=>
  have e1:jI a k v=0:=by unfold jI;rw[iN (by rw[hr];simp)]
  have e2:gS (jN false 1)=.iface 53 (1:Int):=by simp [jN,gS]
  rw[e1,e2]
  clear e1 e2
  have HR:=aH hr
  clear hr
  go_enter func90,ntmps90
  go_wp2_with (go_at_call 74;refine(nG _ _ _ _).mono ?_;rintro e w1 ⟨rfl,hb⟩;rw[HR.out])
  go_ret2
  exact⟨rfl,Below.trans (by go_grown) (hb.mono (by simp))⟩
 |true=>
  have e1:jI a k v=(a*65536+k)*4294967296+v:=by unfold jI;rw[iP hr]
  have e2:gS (jN true 1)=.nilIface:=by simp [jN,gS]
  rw[e1,e2]
  clear e1 e2
  have hq:1<=a/\a<=6/\0<=k/\k<=1000/\0<=v/\v<=4294967295:=by simpa [cB]using hr
  obtain⟨q1,q2,q3,q4,q5,q6⟩:=hq
  have HR:=aH hr
  clear hr
  go_enter func90,ntmps90
  go_wp2_with (go_at_call 74;refine(nG _ _ _ _).mono ?_;rintro e w1 ⟨rfl,hb⟩;rw[HR.out];obtain⟨hc,hf⟩:=cJ hb;have hz:=hb.size;simp only[World.size_alloc]at hz)
  go_ret2
  exact⟨yC (NJ a k v q1 q2 q3 q4 q5 q6),Below.trans (by go_grown) (hb.mono (by simp))⟩
theorem CE(a k v:Int)(w:World):Calls prog 116 #[.agg #[a,k,v]] w fun e w'=>e=.returned (.tuple #[[jI a k v],(jN (cB a k v) 1)])/\Below w w w':=by
 cases hr:cB a k v with
 |false=>
  have e1:jI a k v=0:=by unfold jI;rw[iN (by rw[hr];simp)]
  have e2:jN false 1=1:=by simp [jN]
  rw[e1,e2]
  clear e1 e2
  have HR:=aH hr
  clear hr
  go_enter func116,ntmps116
  go_wp2_with (go_at_call 20;refine(eK _ _ _ _).mono ?_;rintro e w1 ⟨rfl,hb⟩;rw[HR.out])
  go_ret2
  exact⟨rfl,Below.trans (by go_grown) (hb.mono (by simp))⟩
 |true=>
  have e1:jI a k v=(a*65536+k)*4294967296+v:=by unfold jI;rw[iP hr]
  have e2:jN true 1=0:=by simp [jN]
  rw[e1,e2]
  clear e1 e2
  have hq:1<=a/\a<=6/\0<=k/\k<=1000/\0<=v/\v<=4294967295:=by simpa [cB]using hr
  obtain⟨q1,q2,q3,q4,q5,q6⟩:=hq
  have HR:=aH hr
  clear hr
  go_enter func116,ntmps116
  go_wp2_with (go_at_call 20;refine(eK _ _ _ _).mono ?_;rintro e w1 ⟨rfl,hb⟩;rw[HR.out];obtain⟨hc,hf⟩:=cJ hb;have hz:=hb.size;simp only[World.size_alloc]at hz)
  go_ret2
  exact⟨rfl,Below.trans (by go_grown) (hb.mono (by simp))⟩
def fU(a v:Int):Bool:=decide (1<=a/\a<=5/\0<=v/\v<=4294967295/\(a=1\/v=0))
def iV(a v:Int):Int:=if fU a v=true then a*4294967296+v else 0
theorem sX(a v:Int)(w:World):Calls prog 122 #[.agg #[a,v]] w fun e w'=>e=.returned (fU a v)/\Below w w w':=by
 go_enter func122,ntmps122
 go_wp2
 all_goals(go_ret;refine⟨dF ?_,by go_grown⟩;simp_all [fU];try omega)
theorem nK(a v:Int)(w:World):Calls prog 104 #[.agg #[a,v]] w fun e w'=>e=.returned (fU a v)/\Below w w w':=by
 go_enter func104,ntmps104
 go_wp2_with (go_at_call 55;refine(bQ _ _ _ _).mono ?_;rintro e w' ⟨rfl,rfl⟩)
 all_goals(go_ret;refine⟨dF ?_,by go_grown⟩;simp_all [fU,bV];try omega)
theorem FV(a v:Int)(w:World):Calls prog 144 #[.agg #[a,v]] w fun e w'=>e=.returned (.tuple #[[iV a v],gS (jN (fU a v) 1)])/\Below w w w':=by
 cases hr:fU a v with
 |false=>
  have e1:iV a v=0:=by unfold iV;rw[iN (by rw[hr];simp)]
  have e2:gS (jN false 1)=.iface 53 (1:Int):=by simp [jN,gS]
  rw[e1,e2]
  clear e1 e2
  have HR:=aH hr
  clear hr
  go_enter func144,ntmps144
  go_wp2_with (go_at_call 122;refine(sX _ _ _).mono ?_;rintro e w1 ⟨rfl,hb⟩;rw[HR.out])
  go_ret2
  exact⟨rfl,Below.trans (by go_grown) (hb.mono (by simp))⟩
 |true=>
  have e1:iV a v=a*4294967296+v:=by unfold iV;rw[iP hr]
  have e2:gS (jN true 1)=.nilIface:=by simp [jN,gS]
  rw[e1,e2]
  clear e1 e2
  have hq:1<=a/\a<=5/\0<=v/\v<=4294967295/\(a=1\/v=0):=by simpa [fU]using hr
  obtain⟨q1,q2,q5,q6,_⟩:=hq
  have HR:=aH hr
  clear hr
  go_enter func144,ntmps144
  go_wp2_with (go_at_call 122;refine(sX _ _ _).mono ?_;rintro e w1 ⟨rfl,hb⟩;rw[HR.out];obtain⟨hc,hf⟩:=cJ hb;have hz:=hb.size;simp only[World.size_alloc]at hz)
  go_ret2
  exact⟨yC (EJ a v q1 q2 q5 q6),Below.trans (by go_grown) (hb.mono (by simp))⟩
theorem rF(a v:Int)(w:World):Calls prog 86 #[.agg #[a,v]] w fun e w'=>e=.returned (.tuple #[[iV a v],(jN (fU a v) 1)])/\Below w w w':=by
 cases hr:fU a v with
 |false=>
  have e1:iV a v=0:=by unfold iV;rw[iN (by rw[hr];simp)]
  have e2:jN false 1=1:=by simp [jN]
  rw[e1,e2]
  clear e1 e2
  have HR:=aH hr
  clear hr
  go_enter func86,ntmps86
  go_wp2_with (go_at_call 104;refine(nK _ _ _).mono ?_;rintro e w1 ⟨rfl,hb⟩;rw[HR.out])
  go_ret2
  exact⟨rfl,Below.trans (by go_grown) (hb.mono (by simp))⟩
 |true=>
  have e1:iV a v=a*4294967296+v:=by unfold iV;rw[iP hr]
  have e2:jN true 1=0:=by simp [jN]
  rw[e1,e2]
  clear e1 e2
  have hq:1<=a/\a<=5/\0<=v/\v<=4294967295/\(a=1\/v=0):=by simpa [fU]using hr
  obtain⟨q1,q2,q5,q6,_⟩:=hq
  have HR:=aH hr
  clear hr
  go_enter func86,ntmps86
  go_wp2_with (go_at_call 104;refine(nK _ _ _).mono ?_;rintro e w1 ⟨rfl,hb⟩;rw[HR.out];obtain⟨hc,hf⟩:=cJ hb;have hz:=hb.size;simp only[World.size_alloc]at hz)
  go_ret2
  exact⟨rfl,Below.trans (by go_grown) (hb.mono (by simp))⟩
def qL(a n:Int):Bool:=decide (1<=n/\n<=64/\0<=a/\a<=64-n)
def JU(x:Nat)(a n:Int):Nat:=if qL a n=true then x/2^a.toNat%2^n.toNat else 0
theorem xG(a n:Int)(w:World):Calls prog 131 #[a,n] w fun e w'=>e=.returned (qL a n)/\Below w w w':=by
 go_enter func131,ntmps131
 go_wp2
 all_goals(go_ret;refine⟨dF ?_,by go_grown⟩;simp_all [qL];try omega)
theorem LA(j:Nat):1<=2^j:=Nat.one_le_two_pow
theorem QO(j:Nat)(w:World)(hj:j<=64):Calls prog 132 #[j] w fun e w'=>e=.returned [((2^j-1:Nat):Int)]/\Below w w w':=by
 by_cases h:j=64
 .subst h
  go_enter func132,ntmps132
  go_wp2
  go_ret
  exact⟨gU aJ,by go_grown⟩
 have hj':j<64:=I
 have h1:=rX hj'
 have h0:=LA j
 have e1:IntKind.u64.wrap ((2:Int)^j)=((2^j:Nat):Int):=by
  have h2:(2:Int)^j=((2^j:Nat):Int):=by simp
  rw[h2]
  generalize 2^j=q at h1
  exact IntWalk.u64_in _ I
 have E1:=aH e1
 clear e1
 have H0:=aH h0
 have H1:=aH h1
 clear h0 h1
 go_enter func132,ntmps132
 go_wp2
 go_ret
 refine⟨gU ?_,by go_grown⟩
 have h0:=H0.out
 have h1:=H1.out
 rw[E1.out]
 generalize 2^j=q at h0 h1
 rw[IntWalk.u64_in _ I]
 omega
theorem SU(x a j:Nat)(hx:x<18446744073709551616)(hj:j<=64):bits .and .u64 ((x:Int)/2^a) ((2^j-1:Nat):Int)=((x/2^a%2^j:Nat):Int):=by
 have e:(x:Int)/2^a=((x/2^a:Nat):Int):=by simp
 have hq:2^j-1<18446744073709551616:=by
  have h1:2^j<=2^64:=Nat.pow_le_pow_right aJ hj
  have h2:(2:Nat)^64=18446744073709551616:=by decide
  have h3:=LA j
  omega
 rw[e,u64_and_nat _ _ (Nat.lt_of_le_of_lt (Nat.div_le_self _ _) hx) hq,Nat.and_two_pow_sub_one_eq_mod]
theorem WK(x:Nat)(a n:Int)(w:World)(hx:x<18446744073709551616):Calls prog 121 #[[x],a,n] w fun e w'=>e=.returned (.tuple #[[((JU x a n:Nat):Int)],gS (jN (qL a n) 2)])/\Below w w w':=by
 cases hr:qL a n with
 |false=>
  have e1:JU x a n=0:=by unfold JU;rw[iN (by rw[hr];simp)]
  have e2:gS (jN false 2)=.iface 53 (2:Int):=by simp [jN,gS]
  rw[e1,e2]
  clear e1 e2
  have HR:=aH hr
  clear hr
  go_enter func121,ntmps121
  go_wp2_with (go_at_call 131;refine(xG _ _ _).mono ?_;rintro e w1 ⟨rfl,hb⟩;rw[HR.out])
  go_ret2
  exact⟨rfl,hb⟩
 |true=>
  have e1:JU x a n=x/2^a.toNat%2^n.toNat:=by unfold JU;rw[iP hr]
  have e2:gS (jN true 2)=.nilIface:=by simp [jN,gS]
  rw[e1,e2]
  clear e1 e2
  have hq:1<=n/\n<=64/\0<=a/\a<=64-n:=by simpa [qL]using hr
  obtain⟨q1,q2,q3,q4⟩:=hq
  obtain⟨i,rfl⟩:=Int.eq_ofNat_of_zero_le q3
  obtain⟨j,rfl⟩:=Int.eq_ofNat_of_zero_le (show 0<=n by omega)
  have hj:j<=64:=I
  have HR:=aH hr
  clear hr
  have HX:=aH hx
  clear hx
  have hi63:(i:Int)<64:=I
  go_enter func121,ntmps121
  go_wp2_with (go_at_call 131;refine(xG _ _ _).mono ?_;rintro e w1 ⟨rfl,hb⟩;rw[HR.out])
  refine aA 7 ?_
  iterate 7
   first
   |(refine aR1 ?_;constructor
     .intro w9 Gq Gy Gz
      go_simp
      first
      |exact aE
      |(go_at_call 132;exact bS (QO j _ hj)))
   |refine aU ?_
  refine bZ ?_
  intro w9 Gq Gy Gz
  go_wp2
  go_ret2
  exact⟨yC (by rw[SU x i j HX.out hj];simp),hb.trans (Gq.same.mono hb.size)⟩
theorem wT(x:Nat)(i j:Nat)(p:Nat)(w:World)(hx:x<18446744073709551616)(hi:1<=j/\i+j<=64)(hp:x/2^i%2^j=p)(a n:Int)(ha:a=i)(hn:n=j):
 Calls prog 121 #[[x],a,n] w fun e w'=>e=.returned (.tuple #[[p],.nilIface])/\Below w w w':=by
 subst ha hn
 have hr:qL i j=true:=by simp [qL];omega
 refine(WK x i j w hx).mono fun e w' ⟨he,hb⟩=>⟨?_,hb⟩
 rw[he,hr]
 have e1:JU x i j=p:=by unfold JU;rw[iP hr];simpa using hp
 rw[e1]
 simp [jN,gS]
def pF(p q:Int):Int:=if fU p q=true then p else 0
def pC(p q:Int):Int:=if fU p q=true then q else 0
theorem sN(x p q:Nat)(w:World)(hx:x<18446744073709551616)(hp:x/4294967296=p)(hq:x%4294967296=q):
 Calls prog 99 #[[x]] w fun e w'=>e=.returned (.tuple #[.agg #[(pF p q),(pC p q)],gS (jN (fU p q) 3)])/\Below w w w':=by
 have Un:(p:Int)<=4294967295:=I
 have Ol:(q:Int)<=4294967295:=I
 have Xi:(2:Nat)^32=4294967296:=by decide
 have g1:∀w,_:=fun w=>wT x 32 32 p w hx I (by rw[Xi,hp];omega) 32 32 rfl rfl
 have g2:∀w,_:=fun w=>wT x 0 32 q w hx I (by rw[Xi,Nat.pow_zero,Nat.div_one,hq]) 0 32 rfl rfl
 have G1:=aH g1
 have G2:=aH g2
 clear g1 g2 Xi hx hp hq
 cases hr:fU p q with
 |false=>
  have e1:pF p q=0:=by unfold pF;rw[iN (by rw[hr];simp)]
  have e2:pC p q=0:=by unfold pC;rw[iN (by rw[hr];simp)]
  have e3:gS (jN false 3)=.iface 53 (3:Int):=by simp [jN,gS]
  rw[e1,e2,e3]
  clear e1 e2 e3
  have HR:=aH hr
  clear hr
  go_enter func99,ntmps99
  go_wp2_with (first
   |(go_at_call 121;(with_reducible refine(G1.out _).mono ?_);rintro e w1 ⟨rfl,Gs⟩;have z1:w.heap.size+1<=w1:=(by have:=Gs.size;simpa using this);have Hc:=Gs.mono (show w.heap.size+1<=_ by simp))
   |(go_at_call 121;(with_reducible refine(G2.out _).mono ?_);rintro e w2 ⟨rfl,Gt⟩;have z2:w.heap.size+1<=w2:=(by have:=Gt.size;omega);have Hf:=Hc.trans (Gt.mono z1))
   |(go_at_call 122;refine(sX _ _ _).mono ?_;rintro e w3 ⟨rfl,He⟩;rw[HR.out];have z3:w2.heap.size+1<=w3:=(by have:=He.size;simpa using this);have Hi:=Hf.trans (Below.trans (by go_grown) (He.mono (show w.heap.size+1<=_ by simp;omega)));obtain⟨hc,hf⟩:=cJ Hi;obtain⟨Lt,Lx⟩:=cJ He;have m3:w2.heap.size<w3:=I;have n3:¬w2.heap.size=w:=I;have hB:Below w w w3:=Below.trans (by go_grown) (Hi.mono I)))
  refine bodyPost_ret (by simp [results,results99,go_sem,hc];try rfl) rfl ?_
  exact⟨rfl,by go_grown⟩
 |true=>
  have e1:pF p q=p:=by unfold pF;rw[iP hr]
  have e2:pC p q=q:=by unfold pC;rw[iP hr]
  have e3:gS (jN true 3)=.nilIface:=by simp [jN,gS]
  rw[e1,e2,e3]
  clear e1 e2 e3
  have HR:=aH hr
  clear hr
  go_enter func99,ntmps99
  go_wp2_with (first
   |(go_at_call 121;(with_reducible refine(G1.out _).mono ?_);rintro e w1 ⟨rfl,Gs⟩;have z1:w.heap.size+1<=w1:=(by have:=Gs.size;simpa using this);have Hc:=Gs.mono (show w.heap.size+1<=_ by simp))
   |(go_at_call 121;(with_reducible refine(G2.out _).mono ?_);rintro e w2 ⟨rfl,Gt⟩;have z2:w.heap.size+1<=w2:=(by have:=Gt.size;omega);have Hf:=Hc.trans (Gt.mono z1))
   |(go_at_call 122;refine(sX _ _ _).mono ?_;rintro e w3 ⟨rfl,He⟩;rw[HR.out];have z3:w2.heap.size+1<=w3:=(by have:=He.size;simpa using this);have Hi:=Hf.trans (Below.trans (by go_grown) (He.mono (show w.heap.size+1<=_ by simp;omega)));obtain⟨hc,hf⟩:=cJ Hi;obtain⟨Lt,Lx⟩:=cJ He;have m3:w2.heap.size<w3:=I;have n3:¬w2.heap.size=w:=I;have hB:Below w w w3:=Below.trans (by go_grown) (Hi.mono I)))
  refine bodyPost_ret (by simp [results,results99,go_sem,hc];try rfl) rfl ?_
  exact⟨rfl,by go_grown⟩
def KP(p k q y:Int):Int:=if cB p k q=true then y else 0
theorem Ah(x p k q:Nat)(w:World)(hx:x<18446744073709551616)(hp:x/65536/4294967296=p)(hk:x/4294967296%65536=k)(hq:x%4294967296=q):
 Calls prog 96 #[[x]] w fun e w'=>e=.returned (.tuple #[.agg #[(KP p k q p),(KP p k q k),(KP p k q q)],gS (jN (cB p k q) 3)])/\Below w w w':=by
 have Un:(p:Int)<=65535:=I
 have Hp:(k:Int)<=65535:=I
 have Ol:(q:Int)<=4294967295:=I
 have Xi:(2:Nat)^32=4294967296:=by decide
 have Qy:(2:Nat)^16=65536:=by decide
 have h48:(2:Nat)^48=281474976710656:=by decide
 have g1:∀w,_:=fun w=>wT x 48 16 p w hx I (by rw[h48,Qy];omega) 48 16 rfl rfl
 have g3:∀w,_:=fun w=>wT x 32 16 k w hx I (by rw[Xi,Qy];omega) 32 16 rfl rfl
 have g2:∀w,_:=fun w=>wT x 0 32 q w hx I (by rw[Xi,Nat.pow_zero,Nat.div_one,hq]) 0 32 rfl rfl
 have G1:=aH g1
 have G2:=aH g2
 have G3:=aH g3
 clear g1 g2 g3 Xi Qy h48 hx hp hk hq
 cases hr:cB p k q with
 |false=>
  have e1:∀y,KP p k q y=0:=fun y=>by unfold KP;rw[iN (by rw[hr];simp)]
  have e3:gS (jN false 3)=.iface 53 (3:Int):=by simp [jN,gS]
  simp only[e1,e3]
  clear e1 e3
  have HR:=aH hr
  clear hr
  go_enter func96,ntmps96
  go_wp2_with (first
   |(go_at_call 121;(with_reducible refine(G1.out _).mono ?_);rintro e w1 ⟨rfl,Gs⟩;have z1:w.heap.size+1<=w1:=(by have:=Gs.size;simpa using this);have Hc:=Gs.mono (show w.heap.size+1<=_ by simp))
   |(go_at_call 121;(with_reducible refine(G3.out _).mono ?_);rintro e w5 ⟨rfl,Pz⟩;have z5:w.heap.size+1<=w5:=(by have:=Pz.size;omega);have Ki:=Hc.trans (Pz.mono z1))
   |(go_at_call 121;(with_reducible refine(G2.out _).mono ?_);rintro e w2 ⟨rfl,Gt⟩;have z2:w.heap.size+1<=w2:=(by have:=Gt.size;omega);have Hf:=Ki.trans (Gt.mono z5))
   |(go_at_call 74;refine(nG _ _ _ _).mono ?_;rintro e w3 ⟨rfl,He⟩;rw[HR.out];have z3:w2.heap.size+1<=w3:=(by have:=He.size;simpa using this);have Hi:=Hf.trans (Below.trans (by go_grown) (He.mono (show w.heap.size+1<=_ by simp;omega)));obtain⟨hc,hf⟩:=cJ Hi;obtain⟨Lt,Lx⟩:=cJ He;have m3:w2.heap.size<w3:=I;have n3:¬w2.heap.size=w:=I;have hB:Below w w w3:=Below.trans (by go_grown) (Hi.mono I)))
  refine bodyPost_ret (by simp [results,results96,go_sem,hc];try rfl) rfl ?_
  exact⟨rfl,by go_grown⟩
 |true=>
  have e1:∀y,KP p k q y=y:=fun y=>by unfold KP;rw[iP hr]
  have e3:gS (jN true 3)=.nilIface:=by simp [jN,gS]
  simp only[e1,e3]
  clear e1 e3
  have HR:=aH hr
  clear hr
  go_enter func96,ntmps96
  go_wp2_with (first
   |(go_at_call 121;(with_reducible refine(G1.out _).mono ?_);rintro e w1 ⟨rfl,Gs⟩;have z1:w.heap.size+1<=w1:=(by have:=Gs.size;simpa using this);have Hc:=Gs.mono (show w.heap.size+1<=_ by simp))
   |(go_at_call 121;(with_reducible refine(G3.out _).mono ?_);rintro e w5 ⟨rfl,Pz⟩;have z5:w.heap.size+1<=w5:=(by have:=Pz.size;omega);have Ki:=Hc.trans (Pz.mono z1))
   |(go_at_call 121;(with_reducible refine(G2.out _).mono ?_);rintro e w2 ⟨rfl,Gt⟩;have z2:w.heap.size+1<=w2:=(by have:=Gt.size;omega);have Hf:=Ki.trans (Gt.mono z5))
   |(go_at_call 74;refine(nG _ _ _ _).mono ?_;rintro e w3 ⟨rfl,He⟩;rw[HR.out];have z3:w2.heap.size+1<=w3:=(by have:=He.size;simpa using this);have Hi:=Hf.trans (Below.trans (by go_grown) (He.mono (show w.heap.size+1<=_ by simp;omega)));obtain⟨hc,hf⟩:=cJ Hi;obtain⟨Lt,Lx⟩:=cJ He;have m3:w2.heap.size<w3:=I;have n3:¬w2.heap.size=w:=I;have hB:Below w w w3:=Below.trans (by go_grown) (Hi.mono I)))
  refine bodyPost_ret (by simp [results,results96,go_sem,hc];try rfl) rfl ?_
  exact⟨rfl,by go_grown⟩
theorem vH(x p q:Nat)(w:World)(hx:x<18446744073709551616)(hp:x/4294967296=p)(hq:x%4294967296=q):
 Calls prog 113 #[[x]] w fun e w'=>e=.returned (.tuple #[.agg #[(pF p q),(pC p q)],(jN (fU p q) 3)])/\Below w w w':=by
 have p1:(x:Int)/4294967296=(p:Int):=I
 have q1:(x:Int)%4294967296=(q:Int):=I
 have p2:(p:Int)<=4294967295:=I
 have q2:(q:Int)<=4294967295:=I
 clear hp hq
 clear hx
 cases hr:fU p q with
 |false=>
  have e1:pF p q=0:=by unfold pF;rw[iN (by rw[hr];simp)]
  have e2:pC p q=0:=by unfold pC;rw[iN (by rw[hr];simp)]
  have e3:jN false 3=3:=by simp [jN]
  simp only[e1,e2,e3]
  clear e1 e2 e3
  have HR:=aH hr
  clear hr
  go_enter func113,ntmps113
  go_wp2_with (go_at_call 104;refine(nK _ _ _).mono ?_;rintro e w3 ⟨rfl,He⟩;rw[HR.out];have Hi:Below (w,1) (w.alloc (.cells (2:Int) 44)) w3:=Below.trans (by go_grown) (He.mono (show w.heap.size+1<=_ by simp));obtain⟨hc,hf⟩:=cJ Hi;obtain⟨Lt,Lx⟩:=cJ He;have z3:=He.size;simp only[World.size_alloc]at z3;have m3:w.heap.size+1<w3:=I;have hB:Below w w w3:=Below.trans (by go_grown) (Hi.mono I))
  refine bodyPost_ret (by simp [results,results113,go_sem,hc];try rfl) rfl ?_
  exact⟨rfl,by go_grown⟩
 |true=>
  have e1:pF p q=p:=by unfold pF;rw[iP hr]
  have e2:pC p q=q:=by unfold pC;rw[iP hr]
  have e3:jN true 3=0:=by simp [jN]
  simp only[e1,e2,e3]
  clear e1 e2 e3
  have HR:=aH hr
  clear hr
  go_enter func113,ntmps113
  go_wp2_with (go_at_call 104;refine(nK _ _ _).mono ?_;rintro e w3 ⟨rfl,He⟩;rw[HR.out];have Hi:Below (w,1) (w.alloc (.cells (2:Int) 44)) w3:=Below.trans (by go_grown) (He.mono (show w.heap.size+1<=_ by simp));obtain⟨hc,hf⟩:=cJ Hi;obtain⟨Lt,Lx⟩:=cJ He;have z3:=He.size;simp only[World.size_alloc]at z3;have m3:w.heap.size+1<w3:=I;have hB:Below w w w3:=Below.trans (by go_grown) (Hi.mono I))
  refine bodyPost_ret (by simp [results,results113,go_sem,hc];try rfl) rfl ?_
  exact⟨rfl,by go_grown⟩
theorem CS(x p k q:Nat)(w:World)(hx:x<18446744073709551616)(hp:x/65536/4294967296=p)(hk:x/4294967296%65536=k)(hq:x%4294967296=q):
 Calls prog 154 #[[x]] w fun e w'=>e=.returned (.tuple #[.agg #[(KP p k q p),(KP p k q k),(KP p k q q)],(jN (cB p k q) 3)])/\Below w w w':=by
 have p1:(x:Int)/65536/4294967296=(p:Int):=I
 have k1:(x:Int)/4294967296%65536=(k:Int):=I
 have q1:(x:Int)%4294967296=(q:Int):=I
 have p2:(p:Int)<=65535:=I
 have k2:(k:Int)<=65535:=I
 have q2:(q:Int)<=4294967295:=I
 clear hp hk hq
 clear hx
 cases hr:cB p k q with
 |false=>
  have e1:∀y,KP p k q y=0:=fun y=>by unfold KP;rw[iN (by rw[hr];simp)]
  have e2:True=True:=rfl
  have e3:jN false 3=3:=by simp [jN]
  simp only[e1,e2,e3]
  clear e1 e2 e3
  have HR:=aH hr
  clear hr
  go_enter func154,ntmps154
  go_wp2_with (go_at_call 20;refine(eK _ _ _ _).mono ?_;rintro e w3 ⟨rfl,He⟩;rw[HR.out];have Hi:Below (w,1) (w.alloc (.cells (3:Int) 39)) w3:=Below.trans (by go_grown) (He.mono (show w.heap.size+1<=_ by simp));obtain⟨hc,hf⟩:=cJ Hi;obtain⟨Lt,Lx⟩:=cJ He;have z3:=He.size;simp only[World.size_alloc]at z3;have m3:w.heap.size+1<w3:=I;have hB:Below w w w3:=Below.trans (by go_grown) (Hi.mono I))
  refine bodyPost_ret (by simp [results,results154,go_sem,hc];try rfl) rfl ?_
  exact⟨rfl,by go_grown⟩
 |true=>
  have e1:∀y,KP p k q y=y:=fun y=>by unfold KP;rw[iP hr]
  have e2:True=True:=rfl
  have e3:jN true 3=0:=by simp [jN]
  simp only[e1,e2,e3]
  clear e1 e2 e3
  have HR:=aH hr
  clear hr
  go_enter func154,ntmps154
  go_wp2_with (go_at_call 20;refine(eK _ _ _ _).mono ?_;rintro e w3 ⟨rfl,He⟩;rw[HR.out];have Hi:Below (w,1) (w.alloc (.cells (3:Int) 39)) w3:=Below.trans (by go_grown) (He.mono (show w.heap.size+1<=_ by simp));obtain⟨hc,hf⟩:=cJ Hi;obtain⟨Lt,Lx⟩:=cJ He;have z3:=He.size;simp only[World.size_alloc]at z3;have m3:w.heap.size+1<w3:=I;have hB:Below w w w3:=Below.trans (by go_grown) (Hi.mono I))
  refine bodyPost_ret (by simp [results,results154,go_sem,hc];try rfl) rfl ?_
  exact⟨rfl,by go_grown⟩
end
section
def yI(x:Int):Bool:=fU (x/4294967296) (x%4294967296)
def oz(z:Nat->Int):Nat->Int:=fun i=>z (1+i)
def dH(z:Nat->Int):Int:=if z 0<=4294967296 then z 0 else 4294967296
def FM(z:Nat->Int):Prop:=cK (dH z) (oz z)/\z 26<16/\z 28<=1099511627776/\z 27<=1099511627776
def BL(z:Nat->Int)(t:Nat):Prop:=(yI (z (18+t))=true\/z (18+t)=0)/\z (22+t)<=z 28/\(z (18+t)=0↔z (22+t)=0)
def pV(z:Nat->Int)(t:Nat):Prop:=BL z t/\∀u,u<t->z (22+t)≠0->z (22+u)≠z (22+t)
def eE(z:Nat->Int):Prop:=FM z/\(∀t,t<4->pV z t)/\z 29=0/\z 30=0/\z 31=0
end
end Go.Proofs.YtplpimkgihnmhaaGreatDoor
