/-
  Part of a proof: MHeap QueueD StackD Ends Lists. For all values.
-/
import Derived.BigRegion
import Derived.Test.YtplpimkgihnmhaaGreatDoorA06
set_option maxRecDepth 100000
set_option maxHeartbeats 2000000
set_option linter.all false
namespace Go.Proofs.YtplpimkgihnmhaaGreatDoor
open Go.Proofs.Tryz Go.RowKit
section
def gI(xs:List Int)(i:Nat):Int:=xs[i]?.getD 0
theorem kH{xs:List Int}{i j:Nat}{v:Int}(hi:i<xs.length):gI (xs.set i v) j=if j=i then v else gI xs j:=by
 unfold gI
 rw[List.getElem?_set]
 by_cases h:i=j
 .subst h;simp [hi]
 rw[iN h,iN (fun e=>h e.symm)]
theorem vO{xs:List Int}{n i:Nat}(h:i<n):gI (xs.take n) i=gI xs i:=by
 unfold gI;rw[List.getElem?_take,iP h]
theorem tV{xs ys:List Int}{i:Nat}(h:i<xs.length):gI (xs++ys) i=gI xs i:=by
 unfold gI;rw[List.getElem?_append_left h]
def eO(xs:List Int)(i:Nat):Nat:=if 2*i+2<xs.length/\gI xs (2*i+2)<gI xs (2*i+1)then 2*i+2 else 2*i+1
theorem kV(xs:List Int)(i:Nat):(eO xs i=2*i+2/\2*i+2<xs.length/\gI xs (2*i+2)<gI xs (2*i+1))\/(eO xs i=2*i+1/\¬(2*i+2<xs.length/\gI xs (2*i+2)<gI xs (2*i+1))):=by
 unfold eO
 by_cases h:2*i+2<xs.length/\gI xs (2*i+2)<gI xs (2*i+1)
 .rw[iP h];exact .inl ⟨rfl,h.1,h.2⟩
 rw[iN h];exact .inr ⟨rfl,h⟩
def jU(xs:List Int)(i:Nat)(v:Int):List Int:=
 if h:eO xs i<xs.length/\gI xs (eO xs i)<v then jU (xs.set i (gI xs (eO xs i))) (eO xs i) v else xs.set i v
termination_by xs.length-i
decreasing_by
 have:=kV xs i
 rw[List.length_set]
 omega
theorem oG{xs:List Int}{i:Nat}{v:Int}(h:eO xs i<xs.length/\gI xs (eO xs i)<v):jU xs i v=jU (xs.set i (gI xs (eO xs i))) (eO xs i) v:=by
 rw[jU,dif_pos h]
theorem kW{xs:List Int}{i:Nat}{v:Int}(h:¬(eO xs i<xs.length/\gI xs (eO xs i)<v)):jU xs i v=xs.set i v:=by
 rw[jU,dif_neg h]
theorem vY(i:Nat)(v:Int):jU [] i v=[]:=by rw[kW (by simp)];rfl
def jS(xs:List Int)(i:Nat):List Int:=
 if h:0<i/\gI xs i<gI xs ((i-1)/2)then jS ((xs.set i (gI xs ((i-1)/2))).set ((i-1)/2) (gI xs i)) ((i-1)/2)else xs
termination_by i
decreasing_by omega
theorem oH{xs:List Int}{i:Nat}(h:0<i/\gI xs i<gI xs ((i-1)/2)):jS xs i=jS ((xs.set i (gI xs ((i-1)/2))).set ((i-1)/2) (gI xs i)) ((i-1)/2):=by
 rw[jS,dif_pos h]
theorem lW{xs:List Int}{i:Nat}(h:¬(0<i/\gI xs i<gI xs ((i-1)/2))):jS xs i=xs:=by
 rw[jS,dif_neg h]
end
section
attribute [local go_sem↓] Go.wp_at_zero Go.wp_at_succ
structure jC (w:World) (g n:Nat) (xs:List Int):Prop where
 len:xs.length=n
 bd:nJ xs
 blk:∃cs,aY w g 3 cs/\∀i,i<n->cs[i]? =some (.int .i64 (gI xs i))
section
variable{w w':World}{g n:Nat}{xs:List Int}
theorem jC.lt(h:jC w g n xs):g<w:=by obtain⟨cs,hb,_⟩:=h.blk;exact hb.lt
theorem jC.cell(h:jC w g n xs){i:Nat}(hi:i<n):w.cell? (g,i)=(gI xs i):=by
 obtain⟨cs,hb,hc⟩:=h.blk;rw[hb.cell];exact hc i hi
theorem jC.frozen(h:jC w g n xs)(i:Nat):w.frozen? ⟨g,i,none⟩=false:=by obtain⟨cs,hb,_⟩:=h.blk;exact hb.frozen i
theorem nJ.gI{xs:List Int}(h:nJ xs)(i:Nat): -9223372036854775808<=gI xs i/\gI xs i<=9223372036854775807:=h i
theorem nJ.set{xs:List Int}(h:nJ xs){i:Nat}{v:Int}(hv: -9223372036854775808<=v/\v<=9223372036854775807):nJ (xs.set i v):=fun j=>by
 rw[List.getElem?_set]
 split
 .split
  .exact hv
  decide
 exact h j
theorem nJ.take{xs:List Int}(h:nJ xs)(k:Nat):nJ (xs.take k):=fun j=>by
 rw[List.getElem?_take]
 split
 .exact h j
 decide
theorem jC.set(h:jC w g n xs){i:Nat}{v:Int}(hv: -9223372036854775808<=v/\v<=9223372036854775807)(hi:i<n):jC (w.setCell (g,i) v) g n (xs.set i v):=by
 obtain⟨cs,hb,hc⟩:=h.blk
 have hl:=h.len
 refine⟨by rw[List.length_set];exact hl,h.bd.set hv,_,hb.set_ i _,fun j hj=>?_⟩
 rw[Array.getElem?_setIfInBounds,kH I]
 have hsz:i<cs.size:=by
  have:=hc i hi
  rcases Nat.lt_or_ge i cs.size with h|h
  .exact h
  rw[Array.getElem?_eq_none h]at this;cases this
 by_cases hij:i=j
 .subst hij;rw[iP rfl,iP hsz,iP rfl]
 rw[iN hij,iN (fun e=>hij e.symm)];exact hc j hj
theorem jC.alloc(h:jC w g n xs)(o:Obj):jC (w.alloc o) g n xs:=by
 obtain⟨cs,hk,hc⟩:=h.blk
 exact⟨h.len,h.bd,cs,hk.alloc o,hc⟩
theorem jC.drew(h:jC w g n xs):jC w.drew g n xs:=⟨h.len,h.bd,h.blk⟩
theorem jC.drewN(h:jC w g n xs)(k:Nat):jC (w.drewN k) g n xs:=⟨h.len,h.bd,h.blk⟩
theorem jC.take(h:jC w g n xs){k:Nat}(hk:k<=n):jC w g k (xs.take k):=by
 obtain⟨cs,hb,hc⟩:=h.blk
 exact⟨by rw[List.length_take,h.len];omega,h.bd.take k,cs,hb,fun i hi=>by rw[vO hi];exact hc i I⟩
theorem jC.slo(h:jC w g n xs){B c:Nat}(hg:B<=g)(hc:n<=c)(On:c<=9223372036854775807):kC w B (some ⟨g,0,none⟩) n c xs:=
 ⟨⟨h.len,hc,On,h.bd,fun _=>⟨g,0,rfl,h.lt,fun i hi=>by rw[Nat.zero_add];exact h.cell hi⟩⟩,fun _ b hb=>by cases hb;exact hg⟩
end
theorem jX.row{w:World}{B:Nat}{A:Option Addr}{n c:Nat}{xs:List Int}(h:jX w B A n c xs)(bd:nJ xs)(hn:0<n):∃g,A=some ⟨g,0,none⟩/\B<=g/\jC w g n xs:=by
 have hl:=h.len
 rcases h.2 with⟨hv,h0⟩|⟨g,cap,cur,hv,hb,hg,hc,hm,hs,ht⟩
 .omega
 simp only[Value.slice.injEq,true_and]at hv
 obtain⟨rfl,rfl⟩:=hv
 refine⟨g,rfl,hb,hl,bd,cur,hg,fun i hi=>?_⟩
 have e:(cur.toList.take (n*1))[i]? =(xs.map (Value.int .i64))[i]? :=by rw[ht]
 rw[List.getElem?_take,iP I,List.getElem?_map,List.getElem?_eq_getElem (l:=xs) I]at e
 simpa [gI,List.getElem?_eq_getElem (show i<xs.length by omega)]using e
theorem aD.set_{g:Nat}{w w':World}(h:aD (fun b=>b=g) w w')(i:Nat)(u:Value):aD (fun b=>b=g) w (w'.setCell (g,i) u):=h.setCell (.inl rfl) u
theorem Bm(g n c:Nat)(xs:List Int)(w:World)(h:jC w g n xs)(hn:0<n)(h60:n<=100):
 Calls prog 189 #[.slice (some ⟨g,0,none⟩) n c] w fun e w'=>e=.returned (.slice (some ⟨g,0,none⟩) n c)/\jC w' g n (jS xs (n-1))/\aD (fun b=>b=g) w w':=by
 have H:=aH h
 clear h
 go_enter func189,ntmps189
 go_wp2
 go_loopw [3] (fun i wr=>∃(k:Nat) (R:List Int),k<n/\i=.int .i64 k/\Hid (jC wr g n R)/\Hid (jS R k=jS xs (n-1))/\Hid (aD (fun b=>b=g) w wr)) (fun i _=>(intOf i).toNat)
 case atStart=>exact⟨n-1,xs,I,jW I,H,aH rfl,aH (aD.refl _ _)⟩
 case round=>
  obtain⟨k,R,hk,rfl,hR,hI,Kl⟩:=hrel
  have q1:(k:Int)<n:=I
  have hlt:=hR.lt
  by_cases Ny:0<k
  .have c1:=hR.cell hk
   have c2:=hR.cell (i:=(k-1)/2) I
   have b2:((k:Int)-1)/2<n:=I
   have b3:0<=((k:Int)-1)/2:=I
   have b4:0<(k:Int):=I
   have hne:k≠(k-1)/2:=I
   have hbx:=hR.bd.gI k
   have hby:=hR.bd.gI ((k-1)/2)
   have hS:Hid (gI R k<gI R ((k-1)/2)->jS R k=jS ((R.set k (gI R ((k-1)/2))).set ((k-1)/2) (gI R k)) ((k-1)/2)):=fun h=>oH ⟨Ny,h⟩
   have hE:Hid (¬gI R k<gI R ((k-1)/2)->jS R k=R):=fun h=>lW (fun h'=>h h'.2)
   generalize hx:gI R k=x at*
   generalize hy:gI R ((k-1)/2)=y at*
   have hx:=aH hx
   have hy:=aH hy
   go_wp2
   go_quiet (fail)
   go_wp2
   .have Ig:x<y:=by assumption
    have Il:=aH (hR.drewN nq)
    have Jc:=aH (Kl.drewN nq)
    have Sq:g<(wr.drewN nq).heap.size:=hlt
    clear c1 c2 hlt hR Kl
    generalize wr.drewN nq=W at*
    have c1:=Il.cell hk
    have c2:=Il.cell (i:=(k-1)/2) I
    rw[hx.out]at c1
    rw[hy.out]at c2
    have f1:=Il.frozen k
    have f2:=Il.frozen ((k-1)/2)
    have hSS:=aH (hS.out Ig)
    have e1:IntKind.i64.wrap ((k:Int)-1)=(k:Int)-1:=IntWalk.i64_in _ I
    have e2:IntKind.i64.wrap (((k:Int)-1).tdiv 2)=((k:Int)-1)/2:=by rw[Int.tdiv_eq_ediv_of_nonneg I];exact IntWalk.i64_in _ I
    have e3:(((k:Int)-1)/2).toNat=(k-1)/2:=I
    go_region
    go_wp2
    exact⟨⟨(k-1)/2,_,I,jW I,aH ((Il.set hby hk).set hbx I).drew,aH (hSS.symm.trans hI),aH ((Jc.set_ _ _).set_ _ _).drew⟩,by simp [intOf];omega⟩
   have hge:y<=x:=by assumption
   have Om:=hE.out hge
   go_ret
   exact⟨rfl,by rw[<-hI.out,Om];exact hR.drewN _,Kl.drewN _⟩
  obtain rfl:k=0:=I
  have Om:jS R 0=R:=lW (fun h=>absurd h.1 I)
  have Zj:=aH Om
  clear Om
  go_wp2
  go_quiet (fail)
  go_wp2
  go_ret
  exact⟨rfl,by rw[<-hI.out,Zj.out];exact hR.drewN _,Kl.drewN _⟩
theorem UH(A:Option Addr)(g n c:Nat)(xs:List Int)(v:Int)(w:World)(hA:0<n->A=some ⟨g,0,none⟩)(h:jC w g n (xs.set 0 v))(h60:n<=100):
 Calls prog 190 #[.slice A n c] w fun e w'=>e=.returned (.slice A n c)/\jC w' g n (jU xs 0 v)/\aD (fun b=>b=g) w w':=by
 have H:=aH h
 have hl:xs.length=n:=by have:=h.len;simpa using this
 have HL:=aH hl
 have HA:=aH hA
 clear h hl hA
 go_enter func190,ntmps190
 go_wp2
 go_loopw [3] (fun i wr=>∃(k:Nat) (R:List Int),(k<n\/n=0/\k=0)/\i=.int .i64 k/\R.length=n/\Hid (jC wr g n (R.set k v))/\Hid (jU R k v=jU xs 0 v)/\Hid (aD (fun b=>b=g) w wr)) (fun i _=>n-(intOf i).toNat)
 case atStart=>exact⟨0,xs,I,rfl,HL.out,H,aH rfl,aH (aD.refl _ _)⟩
 case round=>
  obtain⟨k,R,hk,rfl,Yu,hR,hI,Kl⟩:=hrel
  have Ra:=aH Yu
  clear Yu
  have hk60:k<100:=I
  have e1:IntKind.i64.wrap (2*(k:Int))=2*k:=IntWalk.i64_in _ I
  have e2:IntKind.i64.wrap (2*(k:Int)+1)=2*k+1:=IntWalk.i64_in _ I
  have e3:IntKind.i64.wrap (2*(k:Int)+1+1)=2*k+2:=by rw[show 2*(k:Int)+1+1=2*k+2 by omega];exact IntWalk.i64_in _ I
  have hlt:=hR.lt
  rcases Nat.lt_or_ge (2*k+1) n with p1|p1
  .obtain rfl:=HA.out I
   have hkn:k<n:=I
   have q0:(k:Int)<n:=I
   have q1:2*(k:Int)+1<n:=I
   have c0:=hR.cell hkn
   have c1:=hR.cell p1
   have g0:gI (R.set k v) k=v:=by rw[kH (by have:=Ra.out;omega),iP rfl]
   have g1:gI (R.set k v) (2*k+1)=gI R (2*k+1):=by rw[kH (by have:=Ra.out;omega),iN I]
   have g2:gI (R.set k v) (2*k+2)=gI R (2*k+2):=by rw[kH (by have:=Ra.out;omega),iN I]
   have hch:=kV R k
   have hst:eO R k<R.length/\gI R (eO R k)<v->jU R k v=jU (R.set k (gI R (eO R k))) (eO R k) v:=oG
   have hen:¬(eO R k<R.length/\gI R (eO R k)<v)->jU R k v=R.set k v:=kW
   rw[Ra.out]at hch hst hen
   rw[g0]at c0
   rw[g1]at c1
   have Gs:=hR.bd.gI (2*k+1)
   rw[g1]at Gs
   have Mz:=hR.bd.gI k
   rw[g0]at Mz
   clear g0 g1
   by_cases p2:2*k+2<n
   .have q2:2*(k:Int)+2<n:=I
    have c2:=hR.cell p2
    rw[g2]at c2
    have Gt:=hR.bd.gI (2*k+2)
    rw[g2]at Gt
    clear g2
    generalize Hx:gI R (2*k+1)=y1 at*
    generalize Uc:gI R (2*k+2)=y2 at*
    have HY1:=aH Hx
    have HY2:=aH Uc
    have Id:=aH hst
    have Us:=aH hen
    clear hst hen Hx Uc
    by_cases Ta:y2<y1
    .have hcc:eO R k=2*k+2:=by rcases hch with h|h<;>omega
     have HY:Hid (gI R (2*k+2)=y2):=HY2
     have dm:decide ((n:Int)<=2*(k:Int)+2)=false:=by simp;omega
     have Lp:=aH hcc
     clear hch hcc
     by_cases hyv:y2<v
     .have Xo:=aH (Id.out (by rw[Lp.out,HY.out];exact⟨I,hyv⟩))
      go_wp2
      go_quiet (fail)
      go_wp2
      rename Nat=>nq1
      go_quiet (fail)
      go_wp2
      have Il:=aH ((hR.drewN nq1).drewN nq)
      have Jc:=aH ((Kl.drewN nq1).drewN nq)
      have Sq:g<((wr.drewN nq1).drewN nq).heap.size:=hlt
      have c0':((wr.drewN nq1).drewN nq).cell? (g,k)=v:=c0
      have cm:((wr.drewN nq1).drewN nq).cell? (g,2*k+2)=y2:=c2
      have f1:=Il.frozen k
      have f2:=Il.frozen (2*k+2)
      have hkm:k≠2*k+2:=I
      clear hlt hR Kl
      generalize(wr.drewN nq1).drewN nq=W at*
      go_region
      go_wp2
      refine⟨⟨2*k+2,R.set k y2,.inl I,jW I,by rw[List.length_set];exact Ra,aH ?_,aH ?_,aH ((Jc.set_ _ _).set_ _ _).drew⟩,by simp [intOf];omega⟩
      .have h3:=(Il.set Gt (show k<n by omega)).set Mz (i:=2*k+2) I
       rw[List.set_set]at h3
       exact h3.drew
      have h4:=Xo.out
      rw[Lp.out,HY.out]at h4
      exact h4.symm.trans hI
     .have hvy:v<=y2:=I
      have Ut:=aH (Us.out (by rw[Lp.out,HY.out];omega))
      go_wp2
      go_quiet (fail)
      go_wp2
      rename Nat=>nq1
      go_quiet (fail)
      go_wp2
      go_ret
      exact⟨rfl,by rw[<-hI.out,Ut.out];exact(hR.drewN nq1).drewN _,(Kl.drewN nq1).drewN _⟩
    have hcc:eO R k=2*k+1:=by rcases hch with h|h<;>omega
    have HY:Hid (gI R (2*k+1)=y1):=HY1
    have dm:decide ((n:Int)<=2*(k:Int)+1)=false:=by simp;omega
    have Lp:=aH hcc
    have Ze:y1<=y2:=I
    clear hch hcc
    by_cases hyv:y1<v
    .have Xo:=aH (Id.out (by rw[Lp.out,HY.out];exact⟨I,hyv⟩))
     go_wp2
     go_quiet (fail)
     go_wp2
     rename Nat=>nq1
     go_quiet (fail)
     go_wp2
     have Il:=aH ((hR.drewN nq1).drewN nq)
     have Jc:=aH ((Kl.drewN nq1).drewN nq)
     have Sq:g<((wr.drewN nq1).drewN nq).heap.size:=hlt
     have c0':((wr.drewN nq1).drewN nq).cell? (g,k)=v:=c0
     have cm:((wr.drewN nq1).drewN nq).cell? (g,2*k+1)=y1:=c1
     have f1:=Il.frozen k
     have f2:=Il.frozen (2*k+1)
     have hkm:k≠2*k+1:=I
     clear hlt hR Kl
     generalize(wr.drewN nq1).drewN nq=W at*
     go_region
     go_wp2
     refine⟨⟨2*k+1,R.set k y1,.inl I,jW I,by rw[List.length_set];exact Ra,aH ?_,aH ?_,aH ((Jc.set_ _ _).set_ _ _).drew⟩,by simp [intOf];omega⟩
     .have h3:=(Il.set Gs (show k<n by omega)).set Mz (i:=2*k+1) I
      rw[List.set_set]at h3
      exact h3.drew
     have h4:=Xo.out
     rw[Lp.out,HY.out]at h4
     exact h4.symm.trans hI
    have hvy:v<=y1:=I
    have Ut:=aH (Us.out (by rw[Lp.out,HY.out];omega))
    go_wp2
    go_quiet (fail)
    go_wp2
    rename Nat=>nq1
    go_quiet (fail)
    go_wp2
    go_ret
    exact⟨rfl,by rw[<-hI.out,Ut.out];exact(hR.drewN nq1).drewN _,(Kl.drewN nq1).drewN _⟩
   have d2:decide (2*(k:Int)+2<n)=false:=by simp;omega
   have hcc:eO R k=2*k+1:=by rcases hch with h|h<;>omega
   generalize Hx:gI R (2*k+1)=y1 at*
   have HY:=aH Hx
   have dm:decide ((n:Int)<=2*(k:Int)+1)=false:=by simp;omega
   have Id:=aH hst
   have Us:=aH hen
   have Lp:=aH hcc
   clear hst hen Hx hch hcc
   by_cases hyv:y1<v
   .have Xo:=aH (Id.out (by rw[Lp.out,HY.out];exact⟨I,hyv⟩))
    go_wp2
    go_quiet (fail)
    go_wp2
    rename Nat=>nq1
    go_quiet (fail)
    go_wp2
    have Il:=aH ((hR.drewN nq1).drewN nq)
    have Jc:=aH ((Kl.drewN nq1).drewN nq)
    have Sq:g<((wr.drewN nq1).drewN nq).heap.size:=hlt
    have c0':((wr.drewN nq1).drewN nq).cell? (g,k)=v:=c0
    have cm:((wr.drewN nq1).drewN nq).cell? (g,2*k+1)=y1:=c1
    have f1:=Il.frozen k
    have f2:=Il.frozen (2*k+1)
    have hkm:k≠2*k+1:=I
    clear hlt hR Kl
    generalize(wr.drewN nq1).drewN nq=W at*
    go_region
    go_wp2
    refine⟨⟨2*k+1,R.set k y1,.inl I,jW I,by rw[List.length_set];exact Ra,aH ?_,aH ?_,aH ((Jc.set_ _ _).set_ _ _).drew⟩,by simp [intOf];omega⟩
    .have h3:=(Il.set Gs (show k<n by omega)).set Mz (i:=2*k+1) I
     rw[List.set_set]at h3
     exact h3.drew
    have h4:=Xo.out
    rw[Lp.out,HY.out]at h4
    exact h4.symm.trans hI
   have hvy:v<=y1:=I
   have Ut:=aH (Us.out (by rw[Lp.out,HY.out];omega))
   go_wp2
   go_quiet (fail)
   go_wp2
   rename Nat=>nq1
   go_quiet (fail)
   go_wp2
   go_ret
   exact⟨rfl,by rw[<-hI.out,Ut.out];exact(hR.drewN nq1).drewN _,(Kl.drewN nq1).drewN _⟩
  have hen:jU R k v=R.set k v:=kW (by rcases kV R k with h|h<;>(rw[Ra.out]at h;rw[Ra.out];omega))
  have Us:=aH hen
  clear hen
  have d1:decide (2*(k:Int)+2<n)=false:=by simp;omega
  have d2:decide ((n:Int)<=2*(k:Int)+1)=true:=by simp;omega
  go_wp2
  go_quiet (fail)
  go_wp2
  rename Nat=>nq1
  go_quiet (fail)
  go_wp2
  go_ret
  exact⟨rfl,by rw[<-hI.out,Us.out];exact(hR.drewN nq1).drewN _,(Kl.drewN nq1).drewN _⟩
def gD(xs:List Int)(a v:Int):List Int:=if a=1 then(if xs.length<6 then jS (xs++[v]) xs.length else xs)else if a=2 then jU (xs.take (xs.length-1)) 0 (gI xs (xs.length-1))else xs
def gM(xs:List Int)(a:Int):Int:=if a=1 then(if xs.length<6 then 1 else 3)else if a=2\/a=5 then(if xs.length=0 then 2 else 1)else if a=6 then 1 else 5
def gK(xs:List Int)(a:Int):Int:=if a=2\/a=5 then gI xs 0 else if a=6 then xs.length else 0
theorem mN(w:World)(p q:Addr)(u:Value):(w.setCell p u).frozen? q=w.frozen? q:=by simp
theorem iE{w w1 w2:World}{g:Nat}(hb:Below w w w1)(hk:aD (fun b=>b=g) w1 w2)(hg:w<=g):Below w w w2:=
 hb.trans (hk.below hb.size (fun b hlt e=>by omega))
theorem SV(A:Option Addr)(n c:Nat)(xs:List Int)(k v:Int)(w:World)(h:fI w A n c xs)(hn:n<6)(hv: -9223372036854775808<=v/\v<=9223372036854775807):
 Calls prog 164 #[.slice A n c,.agg #[(1:Int),k,v]] w (fQ (jS (xs++[v]) n) 1 0 w):=by
 have H:=aH h
 clear h
 have hv':=aH hv
 clear hv
 have d0:decide (6<=(n:Int))=false:=by simp;omega
 go_enter func164,ntmps164
 go_wp2_with (first
  |(go_at_call 186;refine(fR A n c xs w _ H I ?_).mono ?_;(go_grown);rintro e w1 ⟨A1,c1,rfl,hown,Gs,hB⟩;obtain⟨hc,hf⟩:=cJ Gs;have hz:=Gs.size;simp only[World.size_alloc]at hz;replace hown:=hown.mono (B':=w+2) (by simp);have q1:w.heap.size+1<w1:=I;have q0:w.heap.size<w1:=I;have hown':=aH hown;clear hown;have r0:=hc (w,1) 0 (by simp);have r1:=hc (w,1) 1 (by simp);have p0:=hf (w,1) 0 (by simp);have p1:=hf (w,1) 1 (by simp);simp [go_sem]at r0 r1 p0 p1;have m1:¬w.heap.size+1=w1:=I)
  |(at_builtin;refine dM rfl (.tmp 19) (.tmp 22) rfl (B:=w+2) rfl (hown'.alloc _) rfl ((aY.new _ _ _).cell 0) I (by simp;omega) ?_;intro g2 c2 w2 Hb Gt;obtain⟨Hk,Ja⟩:=cJ Gt;have Hh:=Gt.size;simp only[World.size_alloc]at Hh;have In:Below w w w2:=Below.trans (by go_grown) (Gt.mono (by simp));have s0:=(Hk (w,1) 0 (by simp)).trans ((bX I).trans r0);have s1:=(Hk (w,1) 1 (by simp)).trans ((bX I).trans r1);have y0:=(Ja (w,1) 0 (by simp)).trans ((eP I).trans p0);have y1:=(Ja (w,1) 1 (by simp)).trans ((eP I).trans p1);have Qb:=aH (Hb.sli (nJ.app H.bd hv'));obtain⟨g3,hg3,hBg,hrow⟩:=Hb.row (nJ.app H.bd hv') I;cases hg3;have hrow':=aH hrow;clear hrow Hb;have q3:w.heap.size+1<w2:=I;have q4:w.heap.size<w2:=I;have m2:¬w.heap.size+1=w2:=I)
  |(go_at_call 189;refine(Bm g2 (n+1) c2 _ _ hrow' I I).mono ?_;rintro e w3 ⟨rfl,Pt,Nj⟩;have hr3:=aH Pt;clear Pt;have Rb:=Nj.size;have Vw:=iE In Nj I;have t0:=(Nj.cell (p:=⟨w+1,0,none⟩) q3 (by show¬w+1=g2;omega)).trans s0;have t1:=(Nj.cell (p:=⟨w+1,1,none⟩) q3 (by show¬w+1=g2;omega)).trans s1;have z0:=(Nj.frozen (p:=⟨w+1,0,none⟩) q3 (by show¬w+1=g2;omega)).trans y0;have z1:=(Nj.frozen (p:=⟨w+1,1,none⟩) q3 (by show¬w+1=g2;omega)).trans y1;have q5:w.heap.size+1<w3:=I;have hk3':=aH Nj;clear Nj))
 all_goals(refine bodyPost_ret (by first|(simp [results,results164,go_sem,t0,t1];try rfl;done)) rfl ?_)
 refine dB (hr3.slo hBg Qb.cap Qb.cap63) Vw ?_ ?_ ?_ ?_ ?_ rfl rfl
 all_goals first|(show w.heap.size+1<w+2;omega)|(show w.heap.size<=w+1;omega)|skip
 simp
theorem MM(A:Option Addr)(n c:Nat)(xs:List Int)(k v:Int)(w:World)(h:fI w A n c xs)(hn:n<=60)(Hr:0<n):
 Calls prog 164 #[.slice A n c,.agg #[(2:Int),k,v]] w (fQ (jU (xs.take (n-1)) 0 (gI xs (n-1))) 1 (gI xs 0) w):=by
 have hlen:=aH h.len
 have H:=aH h
 clear h
 have d0:((n:Int)==0)=false:=by simp;omega
 have b0:(0:Int)<=(n:Int)-1:=I
 have b1:(n:Int)-1<n:=I
 have b1':(n:Int)-1<=n:=I
 have b1'':(1:Int)<=n:=I
 have e1:((n:Int)-1).toNat=n-1:=I
 go_enter func164,ntmps164
 go_wp2_with (first
  |(go_at_call 186;refine(fR A n c xs w _ H I ?_).mono ?_;(go_grown);rintro e w1 ⟨A1,c1,rfl,hown,Gs,hB⟩;obtain⟨hc,hf⟩:=cJ Gs;have hz:=Gs.size;simp only[World.size_alloc]at hz;replace hown:=hown.mono (B':=w+2) (by simp);have q1:w.heap.size+1<w1:=I;have q0:w.heap.size<w1:=I;obtain⟨g,rfl,Sf,hrow⟩:=hown.row H.bd Hr;have hrow':=aH hrow;have x0:=hrow.cell (i:=0) Hr;have x1:=hrow.cell (i:=n-1) I;have fz:=hrow.frozen 0;have Sr:=(hown.sli H.bd).cap;have Jr:=(hown.sli H.bd).cap63;have b2:(n:Int)-1<=c1:=I;have hgl:=hrow.lt;have mg:¬w=g:=I;have mg2:¬w+1=g:=I;clear hrow hown;have r0:=hc (w,1) 0 (by simp);have r1:=hc (w,1) 1 (by simp);have r2:=hc w 0 (by simp;omega);have p0:=hf (w,1) 0 (by simp);have p1:=hf (w,1) 1 (by simp);simp [go_sem]at r0 r1 r2 p0 p1;have m1:¬w.heap.size+1=w1:=I)
  |(go_at_call 190;refine(UH _ g (n-1) c1 (xs.take (n-1)) (gI xs (n-1)) _ (fun _=>rfl) ?_ I).mono ?_;(have h9:=(hrow'.set (H.bd (n-1)) Hr (v:=gI xs (n-1))).take (k:=n-1) I;rw[List.take_set]at h9;exact h9);rintro e w3 ⟨rfl,Pt,Nj⟩;have hr3:=aH Pt;clear Pt;have Rb:=Nj.size;simp only[World.size_setCell]at Rb;have Vw:=iE (hB.setCell (show w<=g by omega) _) Nj I;have t0:=(Nj.cell (p:=⟨w+1,0,none⟩) (by simpa using q1) (by show¬w+1=g;omega)).trans ((World.cell?_setCell_far _ _ _ _ (by show g≠w+1;omega)).trans r0);have t1:=(Nj.cell (p:=⟨w+1,1,none⟩) (by simpa using q1) (by show¬w+1=g;omega)).trans ((World.cell?_setCell_far _ _ _ _ (by show g≠w+1;omega)).trans r1);have z0:=(Nj.frozen (p:=⟨w+1,0,none⟩) (by simpa using q1) (by show¬w+1=g;omega)).trans ((mN _ _ _ _).trans p0);have z1:=(Nj.frozen (p:=⟨w+1,1,none⟩) (by simpa using q1) (by show¬w+1=g;omega)).trans ((mN _ _ _ _).trans p1);have q5:w.heap.size+1<w3:=I;have hk3':=aH Nj;clear Nj))
 all_goals(refine bodyPost_ret (by first|(simp [results,results164,go_sem,t0,t1];try rfl;done)) rfl ?_)
 refine dB (hr3.slo Sf I Jr) Vw ?_ ?_ ?_ ?_ rfl rfl rfl
 all_goals first|(show w.heap.size+1<w+2;omega)|(show w.heap.size<=w+1;omega)|skip
theorem MN(A:Option Addr)(n c:Nat)(xs:List Int)(a k v:Int)(w:World)(h:fI w A n c xs)(hn:n<=60)(h1:a=1->6<=n)(h2:a=2->n=0):
 Calls prog 164 #[.slice A n c,.agg #[a,k,v]] w (fQ xs (gM xs a) (gK xs a) w):=by
 have hlen:=aH h.len
 have H:=aH h
 clear h
 rcases Nat.eq_zero_or_pos n with Hr|Hr
 .subst Hr
  obtain rfl:xs=[]:=List.eq_nil_of_length_eq_zero hlen
  have na1:¬a=1:=fun e=>absurd (h1 e) I
  clear h1 h2
  go_enter func164,ntmps164
  go_wp2_with (go_at_call 186;refine(fR A 0 c [] w _ H I ?_).mono ?_;(go_grown);rintro e w1 ⟨A1,c1,rfl,hown,Gs,hB⟩;obtain⟨hc,hf⟩:=cJ Gs;have hz:=Gs.size;simp only[World.size_alloc]at hz;replace hown:=hown.mono (B':=w+2) (by simp);have q1:w.heap.size+1<w1:=I;have q0:w.heap.size<w1:=I;have hown':=aH hown;clear hown;have r0:=hc (w,1) 0 (by simp);have r1:=hc (w,1) 1 (by simp);have r2:=hc w 0 (by simp;omega);have p0:=hf (w,1) 0 (by simp);have p1:=hf (w,1) 1 (by simp);simp [go_sem]at r0 r1 r2 p0 p1;have m1:¬w.heap.size+1=w1:=I)
  all_goals(refine bodyPost_ret (by first|(simp [results,results164,go_sem,r0,r1];try rfl;done)) rfl ?_)
  all_goals try simp only[beq_iff_eq,beq_eq_false_iff_ne,bne_iff_ne,bne_eq_false_iff_eq,ne_eq]at*
  all_goals(refine dB (hown'.slo H.bd) hB ?_ ?_ ?_ ?_ rfl ?_ ?_)
  all_goals first|(show w.heap.size+1<w+2;omega)|(show w.heap.size<=w+1;omega)|skip
  all_goals(simp only[gM,gK,gI];(repeat' split)<;>first|rfl|(exfalso;omega)|(simp_all;done)|(simp_all;omega))
 have d0:((n:Int)==0)=false:=by simp;omega
 have na2:¬a=2:=fun e=>absurd (h2 e) I
 by_cases Tu:a=1
 .have h6:=h1 Tu
  subst Tu
  have d6:decide (6<=(n:Int))=true:=by simp;omega
  clear h1 h2
  go_enter func164,ntmps164
  go_wp2_with (go_at_call 186;refine(fR A n c xs w _ H I ?_).mono ?_;(go_grown);rintro e w1 ⟨A1,c1,rfl,hown,Gs,hB⟩;obtain⟨hc,hf⟩:=cJ Gs;have hz:=Gs.size;simp only[World.size_alloc]at hz;replace hown:=hown.mono (B':=w+2) (by simp);have q1:w.heap.size+1<w1:=I;have q0:w.heap.size<w1:=I;obtain⟨g,rfl,Sf,hrow⟩:=hown.row H.bd Hr;have x0:=hrow.cell (i:=0) Hr;have hgl:=hrow.lt;have hown':=aH hown;clear hrow hown;have r0:=hc (w,1) 0 (by simp);have r1:=hc (w,1) 1 (by simp);have r2:=hc w 0 (by simp;omega);have p0:=hf (w,1) 0 (by simp);have p1:=hf (w,1) 1 (by simp);simp [go_sem]at r0 r1 r2 p0 p1;have m1:¬w.heap.size+1=w1:=I)
  all_goals(refine bodyPost_ret (by first|(simp [results,results164,go_sem,r0,r1];try rfl;done)) rfl ?_)
  all_goals try simp only[beq_iff_eq,beq_eq_false_iff_ne,bne_iff_ne,bne_eq_false_iff_eq,ne_eq]at*
  all_goals(refine dB (hown'.slo H.bd) hB ?_ ?_ ?_ ?_ rfl ?_ ?_)
  all_goals first|(show w.heap.size+1<w+2;omega)|(show w.heap.size<=w+1;omega)|skip
  all_goals(have hl:=hlen.out;simp only[gM,gK];(repeat' split)<;>first|rfl|(exfalso;omega)|(simp_all;done)|(simp_all;omega))
 clear h1 h2
 go_enter func164,ntmps164
 go_wp2_with (go_at_call 186;refine(fR A n c xs w _ H I ?_).mono ?_;(go_grown);rintro e w1 ⟨A1,c1,rfl,hown,Gs,hB⟩;obtain⟨hc,hf⟩:=cJ Gs;have hz:=Gs.size;simp only[World.size_alloc]at hz;replace hown:=hown.mono (B':=w+2) (by simp);have q1:w.heap.size+1<w1:=I;have q0:w.heap.size<w1:=I;obtain⟨g,rfl,Sf,hrow⟩:=hown.row H.bd Hr;have x0:=hrow.cell (i:=0) Hr;have hgl:=hrow.lt;have hown':=aH hown;clear hrow hown;have r0:=hc (w,1) 0 (by simp);have r1:=hc (w,1) 1 (by simp);have r2:=hc w 0 (by simp;omega);have p0:=hf (w,1) 0 (by simp);have p1:=hf (w,1) 1 (by simp);simp [go_sem]at r0 r1 r2 p0 p1;have m1:¬w.heap.size+1=w1:=I)
 all_goals(refine bodyPost_ret (by first|(simp [results,results164,go_sem,r0,r1];try rfl;done)) rfl ?_)
 all_goals try simp only[beq_iff_eq,beq_eq_false_iff_ne,bne_iff_ne,bne_eq_false_iff_eq,ne_eq]at*
 all_goals(refine dB (hown'.slo H.bd) hB ?_ ?_ ?_ ?_ rfl ?_ ?_)
 all_goals first|(show w.heap.size+1<w+2;omega)|(show w.heap.size<=w+1;omega)|skip
 all_goals(have hl:=hlen.out;simp only[gM,gK];(repeat' split)<;>first|rfl|(exfalso;omega)|(simp_all;done)|(simp_all;omega))
theorem SS(A:Option Addr)(n c:Nat)(xs:List Int)(a k v:Int)(w:World)(h:fI w A n c xs)(hn:n<=60)(hv: -9223372036854775808<=v/\v<=9223372036854775807):
 Calls prog 164 #[.slice A n c,.agg #[a,k,v]] w (fQ (gD xs a v) (gM xs a) (gK xs a) w):=by
 have hl:=h.len
 by_cases h1:a=1/\n<6
 .obtain⟨rfl,h6⟩:=h1
  have e1:gD xs 1 v=jS (xs++[v]) n:=by simp [gD,hl,h6]
  have e2:gM xs 1=1:=by simp [gM,hl,h6]
  have e3:gK xs 1=0:=by simp [gK]
  rw[e1,e2,e3]
  exact SV A n c xs k v w h h6 hv
 by_cases h2:a=2/\0<n
 .obtain⟨rfl,h0⟩:=h2
  have e1:gD xs 2 v=jU (xs.take (n-1)) 0 (gI xs (n-1)):=by simp [gD,hl]
  have e2:gM xs 2=1:=by simp [gM,hl];omega
  have e3:gK xs 2=gI xs 0:=by simp [gK]
  rw[e1,e2,e3]
  exact MM A n c xs k v w h hn h0
 have e1:gD xs a v=xs:=by
  unfold gD
  split
  .rw[iN I]
  split
  .obtain rfl:xs=[]:=List.eq_nil_of_length_eq_zero I
   exact vY _ _
  rfl
 rw[e1]
 exact MN A n c xs a k v w h hn I I
end
section
attribute [local go_sem ↓] Go.wp_at_zero Go.wp_at_succ
def qB(xs:List Int)(a v:Int):List Int:=if a=1 then(if xs.length<6 then xs++[v]else xs)else if a=2 then xs.tail else xs
def pN(xs:List Int)(a:Int):Int:=if a=1 then(if xs.length<6 then 1 else 3)else if a=2\/a=5 then(if xs.length=0 then 2 else 1)else if a=6 then 1 else 5
def pO(xs:List Int)(a:Int):Int:=if a=2\/a=5 then xs[0]?.getD 0 else if a=6 then xs.length else 0
set_option linter.unusedSimpArgs false in
theorem NF(A:Option Addr)(n c:Nat)(xs:List Int)(a k v:Int)(w:World)(h:fI w A n c xs)(hn:n<=60)(hv: -9223372036854775808<=v/\v<=9223372036854775807):
 Calls prog 161 #[.slice A n c,.agg #[.int .i64 a,.int .i64 k,.int .i64 v]] w (fQ (qB xs a v) (pN xs a) (pO xs a) w):=by
 have On:=h.cap63
 have hnc:=h.cap
 have hlen:=h.len
 have BD:=Lib.hid h.bd
 have HV:=Lib.hid hv
 clear hv
 rcases Nat.eq_zero_or_pos n with Hr|Hr
 .subst Hr
  obtain rfl:xs=[]:=List.eq_nil_of_length_eq_zero hlen
  have H:=Lib.hid h
  clear h
  go_enter func161,ntmps161
  go_wp2_with (go_at_call 186;refine(fR A _ c [] w _ H.out hn ?_).mono ?_;(go_grown);rintro e w1 ⟨A1,c1,rfl,hown,Gs,hB⟩;obtain⟨hc,hf⟩:=cJ Gs;have hz:=Gs.size;simp only[World.size_alloc,World.size_drew]at hz;replace hown:=hown.mono (B':=w.heap.size+2) (by simp);have r0:=hc (w.heap.size+1) 0 (by simp);have r1:=hc (w.heap.size+1) 1 (by simp);have r2:=hc w.heap.size 2 (by simp;omega);have f0:=hf (w.heap.size+1) 0 (by simp);have f1:=hf (w.heap.size+1) 1 (by simp);simp [go_sem]at r0 r1 r2 f0 f1)
  focus
   go_region_held3 (fun w'=>w'.cell? ⟨w.heap.size,2,none⟩=some (.int .i64 v)) (go_keep) (first
   |(go_at_call 186;refine(fR A _ c [] w _ H.out hn ?_).mono ?_;(go_grown);rintro e w1 ⟨A1,c1,rfl,hown,Gs,hB⟩;obtain⟨hc,hf⟩:=cJ Gs;have hz:=Gs.size;simp only[World.size_alloc,World.size_drew]at hz;replace hown:=hown.mono (B':=w.heap.size+2) (by simp);have r0:=hc (w.heap.size+1) 0 (by simp);have r1:=hc (w.heap.size+1) 1 (by simp);have r2:=hc w.heap.size 2 (by simp;omega);have f0:=hf (w.heap.size+1) 0 (by simp);have f1:=hf (w.heap.size+1) 1 (by simp);simp [go_sem]at r0 r1 r2 f0 f1)
   |(refine lR rfl (.tmp 17) (.tmp 20) rfl (B:=w.heap.size+2) (A:=A1) (n:=0) (c:=c1) (xs:=[]) rfl ?_ (g:=w1.heap.size) (v:=v) (c':=1) rfl ?_ ?_ ?_ ?_;(exact hown.alloc _);(exact(aY.new _ _ _).cell 0);(omega);(first|omega|(simp;omega));intro g2 Yw w2 Hb Gt;obtain⟨Hk,Ja⟩:=cJ Gt;have Hh:=Gt.size;(try simp only[World.size_alloc,World.size_drew]at Hh);have s0:=(Hk (w.heap.size+1) 0 (by omega)).trans ((bX (by omega)).trans r0);have t0:=(Ja (w.heap.size+1) 0 (by omega)).trans ((eP (by omega)).trans f0);have s1:=(Hk (w.heap.size+1) 1 (by omega)).trans ((bX (by omega)).trans r1);have t1:=(Ja (w.heap.size+1) 1 (by omega)).trans ((eP (by omega)).trans f1);have s2:=(Hk w.heap.size 2 (by omega)).trans ((bX (by omega)).trans r2);have In:Below w.heap.size w w2:=Below.trans (by go_grown) (Gt.mono (by omega));clear Hk Ja hc hf)
   |(refine lR rfl (.tmp 17) (.tmp 20) rfl (B:=w.heap.size+2) (A:=A1) (n:=0) (c:=c1) (xs:=[]) rfl ?_ (g:=w.heap.size+1+1) (v:=v) (c':=1) rfl ?_ ?_ ?_ ?_;(exact hown);(exact(hc _ _ (by simp)).trans ((aY.newAt _ _ _ (by simp)).cell 0));(omega);(first|omega|(simp;omega));intro g2 Yw w2 Hb Gt;obtain⟨Hk,Ja⟩:=cJ Gt;have Hh:=Gt.size;(try simp only[World.size_alloc,World.size_drew]at Hh);have s0:=(Hk (w.heap.size+1) 0 (by omega)).trans r0;have t0:=(Ja (w.heap.size+1) 0 (by omega)).trans f0;have s1:=(Hk (w.heap.size+1) 1 (by omega)).trans r1;have t1:=(Ja (w.heap.size+1) 1 (by omega)).trans f1;have s2:=(Hk w.heap.size 2 (by omega)).trans r2;have In:Below w.heap.size w w2:=Below.trans (by go_grown) (Gt.mono (by omega));clear Hk Ja hc hf))
   all_goals go_wp2
  all_goals try(refine bodyPost_ret (by first|(simp [results,results161,go_sem,s0,s1];try rfl;done)|(simp [results,results161,go_sem,r0,r1];try rfl;done)|(simp [results,results161,go_sem];try rfl;done)) rfl ?_)
  all_goals simp only[beq_iff_eq,beq_eq_false_iff_ne,ne_eq]at*
  all_goals first
   |(refine nZ Hb In ?_ ?_ ?_ ?_ ?_ ?_ ?_ ?_;(exact nJ.app BD.out HV.out);(show w.heap.size+1<w.heap.size+2;omega);(show w.heap.size+1<w.heap.size+2;omega);(show w.heap.size<=w.heap.size+1;omega);(show w.heap.size<=w.heap.size+1;omega))
   |(refine nZ hown hB BD.out ?_ ?_ ?_ ?_ ?_ ?_ ?_;(show w.heap.size+1<w.heap.size+2;omega);(show w.heap.size+1<w.heap.size+2;omega);(show w.heap.size<=w.heap.size+1;omega);(show w.heap.size<=w.heap.size+1;omega))
   |(refine nZ hown hB (nJ.tail BD.out) ?_ ?_ ?_ ?_ ?_ ?_ ?_;(show w.heap.size+1<w.heap.size+2;omega);(show w.heap.size+1<w.heap.size+2;omega);(show w.heap.size<=w.heap.size+1;omega);(show w.heap.size<=w.heap.size+1;omega))
   |(refine ET ?_ ?_ ?_ ?_;(go_grown))
  all_goals(simp only[qB,pN,pO];(repeat' split)<;>first|rfl|(exfalso;omega)|(simp_all;done)|omega)
 .obtain⟨b,off,rfl,hblt,hcell⟩:=h.at_ Hr
  have H:=Lib.hid h
  clear h
  have Qp:=hcell 0 Hr
  rw[Nat.add_zero]at Qp
  obtain⟨x0,Im⟩:∃x,xs[0]?.getD 0=x:=⟨_,rfl⟩
  rw[Im]at Qp
  have Ip:=Lib.hid Im
  clear Im
  clear hcell
  have hT:=Lib.hid (fI.tailIf H.out Hr)
  go_enter func161,ntmps161
  have nb1:¬b=w.heap.size+1:=by omega
  have nb2:¬w.heap.size+1=b:=by omega
  have d0:((n:Int)==0)=false:=by simp;omega
  have e1:(1:Int)<=n:=by omega
  have e2:(n:Int)<=c:=by omega
  have e3:((n:Int)-1).toNat=n-1:=by omega
  have e4:((c:Int)-1).toNat=c-1:=by omega
  go_wp2_with (go_at_call 186;refine(fR _ _ c xs w _ H.out hn ?_).mono ?_;(go_grown);rintro e w1 ⟨A1,c1,rfl,hown,Gs,hB⟩;obtain⟨hc,hf⟩:=cJ Gs;have hz:=Gs.size;simp only[World.size_alloc,World.size_drew]at hz;replace hown:=hown.mono (B':=w.heap.size+2) (by simp);have r0:=hc (w.heap.size+1) 0 (by simp);have r1:=hc (w.heap.size+1) 1 (by simp);have r2:=hc w.heap.size 2 (by simp;omega);have rb:=(hB.cell (p:=⟨b,off,none⟩) hblt).trans Qp;have f0:=hf (w.heap.size+1) 0 (by simp);have f1:=hf (w.heap.size+1) 1 (by simp);simp [go_sem]at r0 r1 r2 f0 f1)
  all_goals try((have hq:(a==1)=true:=by assumption);clear hq;go_region_held3 (fun w'=>w'.cell? ⟨w.heap.size,2,none⟩=some (.int .i64 v)) (go_keep) (first
   |(go_at_call 186;refine(fR _ _ c xs w _ H.out hn ?_).mono ?_;(go_grown);rintro e w1 ⟨A1,c1,rfl,hown,Gs,hB⟩;obtain⟨hc,hf⟩:=cJ Gs;have hz:=Gs.size;simp only[World.size_alloc,World.size_drew]at hz;replace hown:=hown.mono (B':=w.heap.size+2) (by simp);have r0:=hc (w.heap.size+1) 0 (by simp);have r1:=hc (w.heap.size+1) 1 (by simp);have r2:=hc w.heap.size 2 (by simp;omega);have rb:=(hB.cell (p:=⟨b,off,none⟩) hblt).trans Qp;have f0:=hf (w.heap.size+1) 0 (by simp);have f1:=hf (w.heap.size+1) 1 (by simp);simp [go_sem]at r0 r1 r2 f0 f1)
   |(refine lR rfl (.tmp 17) (.tmp 20) rfl (B:=w.heap.size+2) (A:=A1) (n:=n) (c:=c1) (xs:=xs) rfl ?_ (g:=w1.heap.size) (v:=v) (c':=1) rfl ?_ ?_ ?_ ?_;(exact hown.alloc _);(exact(aY.new _ _ _).cell 0);(omega);(first|omega|(simp;omega));intro g2 Yw w2 Hb Gt;obtain⟨Hk,Ja⟩:=cJ Gt;have Hh:=Gt.size;(try simp only[World.size_alloc,World.size_drew]at Hh);have s0:=(Hk (w.heap.size+1) 0 (by omega)).trans ((bX (by omega)).trans r0);have t0:=(Ja (w.heap.size+1) 0 (by omega)).trans ((eP (by omega)).trans f0);have s1:=(Hk (w.heap.size+1) 1 (by omega)).trans ((bX (by omega)).trans r1);have t1:=(Ja (w.heap.size+1) 1 (by omega)).trans ((eP (by omega)).trans f1);have s2:=(Hk w.heap.size 2 (by omega)).trans ((bX (by omega)).trans r2);have In:Below w.heap.size w w2:=Below.trans (by go_grown) (Gt.mono (by omega));clear Hk Ja hc hf;have sb:=(In.cell (p:=⟨b,off,none⟩) hblt).trans Qp)
   |(refine lR rfl (.tmp 17) (.tmp 20) rfl (B:=w.heap.size+2) (A:=A1) (n:=n) (c:=c1) (xs:=xs) rfl ?_ (g:=w.heap.size+1+1) (v:=v) (c':=1) rfl ?_ ?_ ?_ ?_;(exact hown);(exact(hc _ _ (by simp)).trans ((aY.newAt _ _ _ (by simp)).cell 0));(omega);(first|omega|(simp;omega));intro g2 Yw w2 Hb Gt;obtain⟨Hk,Ja⟩:=cJ Gt;have Hh:=Gt.size;(try simp only[World.size_alloc,World.size_drew]at Hh);have s0:=(Hk (w.heap.size+1) 0 (by omega)).trans r0;have t0:=(Ja (w.heap.size+1) 0 (by omega)).trans f0;have s1:=(Hk (w.heap.size+1) 1 (by omega)).trans r1;have t1:=(Ja (w.heap.size+1) 1 (by omega)).trans f1;have s2:=(Hk w.heap.size 2 (by omega)).trans r2;have In:Below w.heap.size w w2:=Below.trans (by go_grown) (Gt.mono (by omega));clear Hk Ja hc hf;have sb:=(In.cell (p:=⟨b,off,none⟩) hblt).trans Qp)))
  all_goals try((have hq:(a==5)=true:=by assumption);clear hq;go_region_held3 (fun w'=>w'.cell? ⟨b,off,none⟩=some (.int .i64 x0)) (go_keep) (first
   |(go_at_call 186;refine(fR _ _ c xs w _ H.out hn ?_).mono ?_;(go_grown);rintro e w1 ⟨A1,c1,rfl,hown,Gs,hB⟩;obtain⟨hc,hf⟩:=cJ Gs;have hz:=Gs.size;simp only[World.size_alloc,World.size_drew]at hz;replace hown:=hown.mono (B':=w.heap.size+2) (by simp);have r0:=hc (w.heap.size+1) 0 (by simp);have r1:=hc (w.heap.size+1) 1 (by simp);have r2:=hc w.heap.size 2 (by simp;omega);have rb:=(hB.cell (p:=⟨b,off,none⟩) hblt).trans Qp;have f0:=hf (w.heap.size+1) 0 (by simp);have f1:=hf (w.heap.size+1) 1 (by simp);simp [go_sem]at r0 r1 r2 f0 f1)))
  all_goals try((have hq:(a==2)=true:=by assumption);clear hq;by_cases Iz:c=1<;>go_region_held3 (fun w'=>w'.cell? ⟨b,off,none⟩=some (.int .i64 x0)) (go_keep) (first
   |(go_at_call 186;refine(fR _ _ _ xs.tail w _ ?_ ?_ ?_).mono ?_;(first|exact hT.out|simpa [Iz]using hT.out);(omega);(go_grown);rintro e w1 ⟨A1,c1,rfl,hown,Gs,hB⟩;obtain⟨hc,hf⟩:=cJ Gs;have hz:=Gs.size;simp only[World.size_alloc,World.size_drew]at hz;replace hown:=hown.mono (B':=w.heap.size+2) (by simp);have r0:=hc (w.heap.size+1) 0 (by simp);have r1:=hc (w.heap.size+1) 1 (by simp);have r2:=hc w.heap.size 2 (by simp;omega);have rb:=(hB.cell (p:=⟨b,off,none⟩) hblt).trans Qp;have f0:=hf (w.heap.size+1) 0 (by simp);have f1:=hf (w.heap.size+1) 1 (by simp);simp [go_sem]at r0 r1 r2 f0 f1)))
  all_goals try go_wp2
  all_goals try(refine bodyPost_ret (by first|(simp [results,results161,go_sem,s0,s1];try rfl;done)|(simp [results,results161,go_sem,r0,r1];try rfl;done)|(simp [results,results161,go_sem];try rfl;done)) rfl ?_)
  all_goals simp only[beq_iff_eq,beq_eq_false_iff_ne,ne_eq]at*
  all_goals first
   |(refine nZ Hb In ?_ ?_ ?_ ?_ ?_ ?_ ?_ ?_;(exact nJ.app BD.out HV.out);(show w.heap.size+1<w.heap.size+2;omega);(show w.heap.size+1<w.heap.size+2;omega);(show w.heap.size<=w.heap.size+1;omega);(show w.heap.size<=w.heap.size+1;omega))
   |(refine nZ hown hB BD.out ?_ ?_ ?_ ?_ ?_ ?_ ?_;(show w.heap.size+1<w.heap.size+2;omega);(show w.heap.size+1<w.heap.size+2;omega);(show w.heap.size<=w.heap.size+1;omega);(show w.heap.size<=w.heap.size+1;omega))
   |(refine nZ hown hB (nJ.tail BD.out) ?_ ?_ ?_ ?_ ?_ ?_ ?_;(show w.heap.size+1<w.heap.size+2;omega);(show w.heap.size+1<w.heap.size+2;omega);(show w.heap.size<=w.heap.size+1;omega);(show w.heap.size<=w.heap.size+1;omega))
   |(refine ET ?_ ?_ ?_ ?_;(go_grown))
  all_goals(have hx:=Ip.out;subst hlen;simp only[qB,pN,pO];(repeat' split)<;>first|rfl|(exfalso;omega)|(simp_all;done)|(simp_all;omega))
end
section
attribute [local go_sem↓] Go.wp_at_zero Go.wp_at_succ
theorem kC.takeCap{w:World}{G:Nat}{A:Option Addr}{n c:Nat}{xs:List Int}(h:kC w G A n c xs)(k:Nat)(hk:k<=n):kC w G A k c (xs.take k):=
 ⟨⟨by rw[List.length_take,h.sli.len];omega,by have:=h.sli.cap;omega,h.sli.cap63,(h.take k hk).sli.bd,(h.take k hk).sli.at_⟩,(h.take k hk).up⟩
def nR(xs:List Int)(a v:Int):List Int:=if a=1 then(if xs.length<6 then xs++[v]else xs)else if a=2 then xs.take (xs.length-1)else xs
def nP(xs:List Int)(a:Int):Int:=if a=1 then(if xs.length<6 then 1 else 3)else if a=6 then 1 else if a=2\/a=5 then(if xs.length=0 then 2 else 1)else 5
def nT(xs:List Int)(a:Int):Int:=if a=6 then xs.length else if a=2\/a=5 then xs[xs.length-1]?.getD 0 else 0
theorem NO(A:Option Addr)(n c:Nat)(xs:List Int)(a k v:Int)(w:World)(h:fI w A n c xs)(hn:n<=60)(hv: -9223372036854775808<=v/\v<=9223372036854775807)(Hr:0<n):
 Calls prog 162 #[.slice A n c,.agg #[a,k,v]] w (fQ (nR xs a v) (nP xs a) (nT xs a) w):=by
 have hlen:=aH h.len
 obtain⟨x0,Im⟩:=aP (xs[n-1]?.getD 0)
 have Ip:=aH Im
 clear Im
 have H:=aH h
 clear h
 have hv':=aH hv
 clear hv
 go_enter func162,ntmps162
 have b0:(0:Int)<=(n:Int)-1:=I
 have b1:(n:Int)-1<n:=I
 have b1':(n:Int)-1<=n:=I
 have b1'':(1:Int)<=n:=I
 have e1:((n:Int)-1).toNat=n-1:=I
 have e2:IntKind.i64.wrap ((n:Int)-1)=n-1:=IntWalk.i64_in _ I
 go_wp2_with (first
  |(go_at_call 186;refine(fR A n c xs w _ H hn ?_).mono ?_;(go_grown);rintro e w1 ⟨A1,c1,rfl,hown,Gs,hB⟩;obtain⟨hc,hf⟩:=cJ Gs;have hz:=Gs.size;simp only[World.size_alloc]at hz;replace hown:=hown.mono (B':=w+2) (by simp);have q1:w.heap.size+1<w1:=I;have q0:w.heap.size<w1:=I;obtain⟨g,rfl,Sf,Zf,hgc⟩:=hown.at_ Hr;have Sr:=(hown.sli H.bd).cap;have Jr:=(hown.sli H.bd).cap63;have hgx:=hgc (n-1) I;rw[Ip.out]at hgx;clear hgc;have hown':=aH hown;clear hown;have r0:=hc (w,1) 0 (by simp);have r1:=hc (w,1) 1 (by simp);simp [go_sem]at r0 r1;have m1:¬w.heap.size+1=w1:=I;have b2:(n:Int)-1<=c1:=I)
  |(at_builtin;refine dM rfl (.tmp 27) (.tmp 30) rfl (B:=w+2) rfl (hown'.alloc _) rfl ((aY.new _ _ _).cell 0) I (by simp;omega) ?_;intro g2 c2 w2 Hb Gt;obtain⟨Hk,Ja⟩:=cJ Gt;have Hh:=Gt.size;simp only[World.size_alloc]at Hh;have In:Below w w w2:=Below.trans (by go_grown) (Gt.mono (by simp));have s0:=(Hk (w,1) 0 (by simp)).trans ((bX I).trans r0);have s1:=(Hk (w,1) 1 (by simp)).trans ((bX I).trans r1);have hslo':=aH (Hb.slo (nJ.app H.bd hv'));clear Hb;have q3:w.heap.size+1<w2:=I;have q4:w.heap.size<w2:=I;have m2:¬w.heap.size+1=w2:=I))
 iterate 2
  rotate_right 1
  focus
   (first
    |(have hq:(a==5)=true:=by assumption
      clear hq
      refine aA 7 ?_
      iterate 7
       first
       |(refine aR1 ?_;constructor
         .intro w9 Gq Gy Gz
          go_simp
          first
          |exact aE)
       |refine aU ?_
      refine bZ ?_
      intro w9 Gq Gy Gz
      have s0:=(Gy (w,1) 0 I).trans r0
      have s1:=(Gy (w,1) 1 I).trans r1
      have In:Below w w w9:=hB.trans (Gq.same.mono I)
      have hslo':=aH ((hown'.slo H.bd).keeps Gq)
      go_wp2)
    |(skip
      refine aA 9 ?_
      iterate 9
       first
       |(refine aR1 ?_;constructor
         .intro w9 Gq Gy Gz
          go_simp
          first
          |exact aE)
       |refine aU ?_
      refine bZ ?_
      intro w9 Gq Gy Gz
      have s0:=(Gy (w,1) 0 I).trans r0
      have s1:=(Gy (w,1) 1 I).trans r1
      have In:Below w w w9:=hB.trans (Gq.same.mono I)
      have hslo':=aH (((hown'.slo H.bd).takeCap (n-1) I).keeps Gq)
      go_wp2))
 all_goals(refine bodyPost_ret (by first|(simp [results,results162,go_sem,s0,s1];try rfl;done)|(simp [results,results162,go_sem,r0,r1];try rfl;done)) rfl ?_)
 all_goals try simp only[beq_iff_eq,beq_eq_false_iff_ne,bne_iff_ne,bne_eq_false_iff_eq,ne_eq]at*
 all_goals(first
  |(refine dB hslo' In ?_ ?_ ?_ ?_ ?_ ?_ ?_)
  |(refine dB (hown'.slo H.bd) hB ?_ ?_ ?_ ?_ ?_ ?_ ?_))
 all_goals first|(show w.heap.size+1<w+2;omega)|(show w.heap.size<=w+1;omega)|skip
 all_goals(have hx:=Ip.out;have hl:=hlen.out;simp only[nR,nP,nT];(repeat' split)<;>first|rfl|(exfalso;omega)|(simp_all;done)|(simp_all;omega))
theorem OE(A:Option Addr)(c:Nat)(a k v:Int)(w:World)(h:fI w A 0 c [])(hv: -9223372036854775808<=v/\v<=9223372036854775807):
 Calls prog 162 #[.slice A 0 c,.agg #[a,k,v]] w (fQ (nR [] a v) (nP [] a) (nT [] a) w):=by
 have H:=aH h
 clear h
 have hv':=aH hv
 clear hv
 go_enter func162,ntmps162
 go_wp2_with (first
  |(go_at_call 186;refine(fR A 0 c [] w _ H I ?_).mono ?_;(go_grown);rintro e w1 ⟨A1,c1,rfl,hown,Gs,hB⟩;obtain⟨hc,hf⟩:=cJ Gs;have hz:=Gs.size;simp only[World.size_alloc]at hz;replace hown:=hown.mono (B':=w+2) (by simp);have q1:w.heap.size+1<w1:=I;have q0:w.heap.size<w1:=I;have hown':=aH hown;clear hown;have r0:=hc (w,1) 0 (by simp);have r1:=hc (w,1) 1 (by simp);simp [go_sem]at r0 r1;have m1:¬w.heap.size+1=w1:=I)
  |(at_builtin;refine dM rfl (.tmp 27) (.tmp 30) rfl (B:=w+2) rfl (hown'.alloc _) rfl ((aY.new _ _ _).cell 0) I (by simp;omega) ?_;intro g2 c2 w2 Hb Gt;obtain⟨Hk,Ja⟩:=cJ Gt;have Hh:=Gt.size;simp only[World.size_alloc]at Hh;have In:Below w w w2:=Below.trans (by go_grown) (Gt.mono (by simp));have s0:=(Hk (w,1) 0 (by simp)).trans ((bX I).trans r0);have s1:=(Hk (w,1) 1 (by simp)).trans ((bX I).trans r1);have hslo':=aH (Hb.slo (nJ.app H.bd hv'));clear Hb;have q3:w.heap.size+1<w2:=I;have q4:w.heap.size<w2:=I;have m2:¬w.heap.size+1=w2:=I))
 all_goals(refine bodyPost_ret (by first|(simp [results,results162,go_sem,s0,s1];try rfl;done)|(simp [results,results162,go_sem,r0,r1];try rfl;done)) rfl ?_)
 all_goals try simp only[beq_iff_eq,beq_eq_false_iff_ne,bne_iff_ne,bne_eq_false_iff_eq,ne_eq]at*
 all_goals(first
  |(refine dB hslo' In ?_ ?_ ?_ ?_ ?_ ?_ ?_)
  |(refine dB (hown'.slo H.bd) hB ?_ ?_ ?_ ?_ ?_ ?_ ?_))
 all_goals first|(show w.heap.size+1<w+2;omega)|(show w.heap.size<=w+1;omega)|skip
 all_goals(simp only[nR,nP,nT];(repeat' split)<;>first|rfl|(exfalso;omega)|(simp_all;done)|(simp_all;omega))
theorem NM(A:Option Addr)(n c:Nat)(xs:List Int)(a k v:Int)(w:World)(h:fI w A n c xs)(hn:n<=60)(hv: -9223372036854775808<=v/\v<=9223372036854775807):
 Calls prog 162 #[.slice A n c,.agg #[a,k,v]] w (fQ (nR xs a v) (nP xs a) (nT xs a) w):=by
 rcases Nat.eq_zero_or_pos n with Hr|Hr
 .subst Hr
  obtain rfl:xs=[]:=List.eq_nil_of_length_eq_zero h.len
  exact OE A c a k v w h hv
 exact NO A n c xs a k v w h hn hv Hr
theorem gX(c v:Int)(w:World):Calls prog 206 #[c,v] w fun e w'=>e=.returned (.agg #[c,v])/\Below w w w':=
 (eY c v w).mono fun _ _ ⟨he,hw⟩=>⟨he,by rw[hw];exact(Below.refl _ _).alloc (Nat.le_refl _) _⟩
def iA(xs:List Int)(a v:Int)(fr:Bool)(k:Nat):List Int:=if a=6 then xs else if a=1\/a=3 then(if xs.length<6 then(if fr then v::xs else xs++[v])else xs)else if a=5\/xs.length=0 then xs else xs.take k++xs.drop (k+1)
def gZ(xs:List Int)(a:Int):Int:=if a=6 then 1 else if a=1\/a=3 then(if xs.length<6 then 1 else 3)else if xs.length=0 then 2 else 1
def gY(xs:List Int)(a:Int)(k:Nat):Int:=if a=6 then xs.length else if a=1\/a=3 then 0 else if xs.length=0 then 0 else xs[k]?.getD 0
theorem RR(A:Option Addr)(n c:Nat)(xs:List Int)(a k v:Int)(fr:Bool)(out:Int)(p:Nat)(w:World)(h:fI w A n c xs)(hn:n<=60)(hv: -9223372036854775808<=v/\v<=9223372036854775807)(Hr:0<n)(hp:out=p)(hpn:p<n):
 Calls prog 207 #[.slice A n c,.agg #[a,k,v],fr,out] w (fQ (iA xs a v fr p) (gZ xs a) (gY xs a p) w):=by
 subst hp
 obtain⟨b,off,rfl,hblt,hcell⟩:=h.at_ Hr
 have On:=h.cap63
 have hnc:=h.cap
 have hlen:=aH h.len
 have Qp:=hcell p hpn
 obtain⟨x0,Im⟩:=aP (xs[p]?.getD 0)
 rw[Im]at Qp
 have Ip:=aH Im
 clear Im hcell
 have H:=aH h
 clear h
 have hv':=aH hv
 clear hv
 go_enter func207,ntmps207
 have d0:((n:Int)==0)=false:=by simp;omega
 have hpn':(p:Int)<n:=I
 go_wp2_with (first
  |(at_builtin;refine cY rfl (.const (.slice none 0 0)) (.tmp 11) rfl rfl rfl (H.below (by go_grown)) I ?_;intro A1 c1 w1 hown Gs;obtain⟨hc,hf⟩:=cJ Gs;have hz:=Gs.size;simp only[World.size_alloc]at hz;have hB:Below w w w1:=Below.trans (by go_grown) (Gs.mono (by simp;omega));replace hown:=hown.mono (B':=w+2) (by simp);have q1:w.heap.size+1<w1:=I;have q0:w.heap.size<w1:=I;have m1:¬w.heap.size+1=w1:=I;obtain⟨g,rfl,Sf,Zf,hgc⟩:=hown.at_ Hr;have Sr:=(hown.sli H.bd).cap;have Jr:=(hown.sli H.bd).cap63;clear hgc;have hown':=aH hown;clear hown;have rb:=(hB.cell (p:=⟨b,off+p,none⟩) hblt).trans Qp;have r0:=hc (w,1) 0 (by simp);have r1:=hc (w,1) 1 (by simp);simp [go_sem]at r0 r1)
  |(at_builtin;refine mQ rfl (.tmp 38) (.tmp 39) rfl rfl rfl (kC.one w1 3 v hv') (by simp) (by intro h;cases h) ((hown'.sli H.bd).below (by go_grown)) I I ?_;intro A2 c2 w2 hslo Gt;obtain⟨Hk,Ja⟩:=cJ Gt;have Hh:=Gt.size;simp only[World.size_alloc]at Hh;have In:Below w w w2:=Below.trans (by go_grown) (Gt.mono (by simp;omega));have s0:=(Hk (w,1) 0 (by simp;omega)).trans ((bX I).trans r0);have s1:=(Hk (w,1) 1 (by simp;omega)).trans ((bX I).trans r1);replace hslo:=hslo.mono (B':=w+2) I;have hslo':=aH hslo;clear hslo;have q3:w.heap.size+1<w2:=I;have q4:w.heap.size<w2:=I;have m2:¬w.heap.size+1=w2:=I)
  |(at_builtin;refine dM rfl (.tmp 42) (.tmp 45) rfl (B:=w+2) rfl (hown'.alloc _) rfl ((aY.new _ _ _).cell 0) I (by simp;omega) ?_;intro g2 c2 w2 Hb Gt;obtain⟨Hk,Ja⟩:=cJ Gt;have Hh:=Gt.size;simp only[World.size_alloc]at Hh;have In:Below w w w2:=Below.trans (by go_grown) (Gt.mono (by simp));have s0:=(Hk (w,1) 0 (by simp)).trans ((bX I).trans r0);have s1:=(Hk (w,1) 1 (by simp)).trans ((bX I).trans r1);have hslo':=aH (Hb.slo (nJ.app H.bd hv'));clear Hb;have q3:w.heap.size+1<w2:=I;have q4:w.heap.size<w2:=I;have m2:¬w.heap.size+1=w2:=I)
  |(go_at_call 206;refine(eY _ _ _).mono ?_;rintro e w2 ⟨rfl,rfl⟩))
 rotate_right 1
 focus
  have e1:IntKind.i64.wrap ((p:Int)+1)=p+1:=IntWalk.i64_in _ I
  have hbw1:b<w1:=I
  have hc1p:((c1:Int)-(p+1)).toNat=c1-(p+1):=I
  have hn1p:((n:Int)-(p+1)).toNat=n-(p+1):=I
  have hp1:((p:Int)+1).toNat=p+1:=I
  have b1:(p:Int)+1<=n:=I
  have b2:(p:Int)+1<=c1:=I
  have b3:(p:Int)<=c1:=I
  have b4:(n:Int)<=c1:=I
  have b5:(p:Int)<=n:=I
  have hS1:fI w1 (some ⟨g,0,none⟩) n c1 xs:=hown'.sli H.bd
  have hS2:=aH (((hown'.slo H.bd).take p I))
  have hS3:=aH (hS1.dropIf (p+1) I)
  have hS1:=aH hS1
  refine aA 14 ?_
  iterate 14
   refine aC (fun K hK=>?_)
   first
   |(refine .inl ?_
     apply Exists.intro
     refine⟨cX,?_,hK _ _ _ _ ?_⟩
     .simp only[bJ,bM]
      first
      |refine⟨rfl,fun w9 Gq _=>?_⟩
      |(rintro _ ⟨A9,c9,rfl⟩;refine⟨rfl,fun w9 Gq _=>?_⟩)
      obtain⟨Gy,Gz⟩:=Gq.all
      go_simp
      first
      |exact aE
      |(go_at_call 206;exact bS (gX _ _ _))
     clear hK K
     refine aN ?_)
   |(refine .inr (.inr ⟨fun v=>∃A c,v=.slice A (n-1) c,fun v w'=>∃A c,v=.slice A (n-1) c/\kC w' (w+2) A (n-1) c (xs.take p++xs.drop (p+1)),⟨_,none,0,rfl⟩,?_,hK _ _ _ _ ?_⟩)
     .simp only[bJ,bM]
      refine⟨rfl,fun w9 Gq _=>?_⟩
      refine rJ (.tmp 67) (.tmp 71) rfl (n:=p) (c:=p) (xs:=xs.take p) (ys:=xs.drop (p+1)) (m:=n-(p+1)) (G:=w+2) (A:=some ⟨g,0,none⟩) rfl ?_ (hS2.keeps Gq) ?_ ?_ (hS3.keeps Gq) ?_ ?_ ?_
      .simp [go_sem]
      .have:=Gq.size;omega
      .intro h;cases h
      .omega
      .omega
      intro A' c' w' hslo hbb
      exact⟨⟨⟨A',c',by rw[show p+(n-(p+1))=n-1 by omega]⟩,⟨A',c',by rw[show p+(n-(p+1))=n-1 by omega],by rw[show n-1=p+(n-(p+1)) by omega];exact hslo⟩⟩,aD.of_same hbb⟩
     clear hK K)
  refine aZ ?_
  rintro _ ⟨A9,c9,rfl⟩ w9 Gq hmet
  obtain⟨w0,k0,k1,A8,c8,Rr,hslo⟩:=(hmet.1 rfl).out
  cases Rr
  obtain⟨Gy,Gz⟩:=Gq.all
  have s0:=(Gy (w,1) 0 I).trans r0
  have s1:=(Gy (w,1) 1 I).trans r1
  have In:Below w w w9:=hB.trans (Gq.same.mono I)
  have hslo':=aH (hslo.below k1)
  clear hmet hslo
  go_wp2
 all_goals(refine bodyPost_ret (by first|(simp [results,results207,go_sem,s0,s1,m2,q3];try rfl;done)|(simp [results,results207,go_sem,s0,s1];try rfl;done)|(simp [results,results207,go_sem,r0,r1,m1,q1];try rfl;done)) rfl ?_)
 all_goals simp only[beq_iff_eq,beq_eq_false_iff_ne,ne_eq]at*
 all_goals(first
  |(refine dB hslo' In ?_ ?_ ?_ ?_ ?_ ?_ ?_)
  |(refine fQ.alloc (dB hslo' In ?_ ?_ ?_ ?_ ?_ ?_ ?_) _)
  |(refine fQ.alloc (dB (hown'.slo H.bd) hB ?_ ?_ ?_ ?_ ?_ ?_ ?_) _))
 all_goals first|(show w.heap.size+1<w+2;omega)|(show w.heap.size<=w+1;omega)|skip
 all_goals(have hx:=Ip.out;have hl:=hlen.out;simp only[iA,gZ,gY];(repeat' split)<;>first|rfl|(exfalso;omega)|(simp_all;done)|(simp_all;omega))
theorem UI(A:Option Addr)(c:Nat)(a k v:Int)(fr:Bool)(out:Int)(p:Nat)(w:World)(h:fI w A 0 c [])(hv: -9223372036854775808<=v/\v<=9223372036854775807):
 Calls prog 207 #[.slice A 0 c,.agg #[a,k,v],fr,out] w (fQ (iA [] a v fr p) (gZ [] a) (gY [] a p) w):=by
 have On:=h.cap63
 have H:=aH h
 clear h
 have hv':=aH hv
 clear hv
 go_enter func207,ntmps207
 go_wp2_with (first
  |(at_builtin;refine cY rfl (.const (.slice none 0 0)) (.tmp 11) rfl rfl rfl (H.below (by go_grown)) I ?_;intro A1 c1 w1 hown Gs;obtain⟨hc,hf⟩:=cJ Gs;have hz:=Gs.size;simp only[World.size_alloc]at hz;have hB:Below w w w1:=Below.trans (by go_grown) (Gs.mono (by simp;omega));replace hown:=hown.mono (B':=w+2) (by simp);have q1:w.heap.size+1<w1:=I;have q0:w.heap.size<w1:=I;have m1:¬w.heap.size+1=w1:=I;have Jr:=(hown.sli H.bd).cap63;have hown':=aH hown;clear hown;have r0:=hc (w,1) 0 (by simp);have r1:=hc (w,1) 1 (by simp);simp [go_sem]at r0 r1)
  |(at_builtin;refine mQ rfl (.tmp 38) (.tmp 39) rfl rfl rfl (kC.one w1 3 v hv') (by simp) (by intro h;cases h) ((hown'.sli H.bd).below (by go_grown)) I I ?_;intro A2 c2 w2 hslo Gt;obtain⟨Hk,Ja⟩:=cJ Gt;have Hh:=Gt.size;simp only[World.size_alloc]at Hh;have In:Below w w w2:=Below.trans (by go_grown) (Gt.mono (by simp;omega));have s0:=(Hk (w,1) 0 (by simp;omega)).trans ((bX I).trans r0);have s1:=(Hk (w,1) 1 (by simp;omega)).trans ((bX I).trans r1);replace hslo:=hslo.mono (B':=w+2) I;have hslo':=aH hslo;clear hslo;have q3:w.heap.size+1<w2:=I;have q4:w.heap.size<w2:=I;have m2:¬w.heap.size+1=w2:=I)
  |(at_builtin;refine dM rfl (.tmp 42) (.tmp 45) rfl (B:=w+2) rfl (hown'.alloc _) rfl ((aY.new _ _ _).cell 0) I (by simp;omega) ?_;intro g2 c2 w2 Hb Gt;obtain⟨Hk,Ja⟩:=cJ Gt;have Hh:=Gt.size;simp only[World.size_alloc]at Hh;have In:Below w w w2:=Below.trans (by go_grown) (Gt.mono (by simp));have s0:=(Hk (w,1) 0 (by simp)).trans ((bX I).trans r0);have s1:=(Hk (w,1) 1 (by simp)).trans ((bX I).trans r1);have hslo':=aH (Hb.slo (nJ.app H.bd hv'));clear Hb;have q3:w.heap.size+1<w2:=I;have q4:w.heap.size<w2:=I;have m2:¬w.heap.size+1=w2:=I)
  |(go_at_call 206;refine(eY _ _ _).mono ?_;rintro e w2 ⟨rfl,rfl⟩))
 all_goals(refine bodyPost_ret (by first|(simp [results,results207,go_sem,s0,s1,m2,q3];try rfl;done)|(simp [results,results207,go_sem,s0,s1];try rfl;done)|(simp [results,results207,go_sem,r0,r1,m1,q1];try rfl;done)) rfl ?_)
 all_goals simp only[beq_iff_eq,beq_eq_false_iff_ne,ne_eq]at*
 all_goals(first
  |(refine fQ.alloc (dB hslo' In ?_ ?_ ?_ ?_ ?_ ?_ ?_) _)
  |(refine fQ.alloc (dB (hown'.slo H.bd) hB ?_ ?_ ?_ ?_ ?_ ?_ ?_) _))
 all_goals first|(show w.heap.size+1<w+2;omega)|(show w.heap.size<=w+1;omega)|skip
 all_goals(simp only[iA,gZ,gY];(repeat' split)<;>first|rfl|(exfalso;omega)|(simp_all;done)|(simp_all;omega))
theorem mF(A:Option Addr)(n c:Nat)(xs:List Int)(a k v:Int)(fr:Bool)(out:Int)(p:Nat)(w:World)(h:fI w A n c xs)(hn:n<=60)(hv: -9223372036854775808<=v/\v<=9223372036854775807)(hp:0<n->out=p/\p<n):
 Calls prog 207 #[.slice A n c,.agg #[a,k,v],fr,out] w (fQ (iA xs a v fr p) (gZ xs a) (gY xs a p) w):=by
 rcases Nat.eq_zero_or_pos n with Hr|Hr
 .subst Hr
  obtain rfl:xs=[]:=List.eq_nil_of_length_eq_zero h.len
  exact UI A c a k v fr out p w h hv
 exact RR A n c xs a k v fr out p w h hn hv Hr (hp Hr).1 (hp Hr).2
def AQ(A0:Option Addr)(n0:Nat)(ys:List Int)(code val:Int)(w:World)(e:Ending)(w':World):Prop:=
 ∃A n c,e=.returned (.tuple #[.slice A n c,.agg #[code,val]])/\fI w' A n c ys/\Below w w w'/\(0<n->(A=A0/\n=n0)\/∀b,A=some b->w<=b.block)
theorem fQ.weakJ{ys:List Int}{code val:Int}{w:World}{e:Ending}{w':World}(h:fQ ys code val w e w')(A0:Option Addr)(n0:Nat):AQ A0 n0 ys code val w e w':=by
 obtain⟨A,n,c,he,hs,hb⟩:=h
 exact⟨A,n,c,he,hs.sli,hb,fun hn=>.inr (hs.up hn)⟩
theorem xU{ys:List Int}{code val co va:Int}{w w':World}{A:Option Addr}{n c:Nat}(h:fI w A n c ys)(hb:Below w w w')(h1:co=code)(h2:va=val):AQ A n ys code val w (.returned (.tuple #[.slice A n c,.agg #[co,va]])) w':=
 ⟨A,n,c,by rw[h1,h2],h.below hb,hb,fun _=>.inl ⟨rfl,rfl⟩⟩
def VP(xs:List Int)(a:Int):Int:=if a=1\/a=2\/a=5\/a=6 then gZ xs a else 5
def VT(xs:List Int)(a v:Int)(p:Nat):List Int:=if a=1\/a=2\/a=5\/a=6 then iA xs a v false p else xs
def VS(xs:List Int)(a:Int)(p:Nat):Int:=if a=1\/a=2\/a=5\/a=6 then gY xs a p else 0
theorem AV(A:Option Addr)(n c:Nat)(xs:List Int)(a k v:Int)(w:World)(h:fI w A n c xs)(hn:n<=60)(hv: -9223372036854775808<=v/\v<=9223372036854775807):
 Calls prog 197 #[.slice A n c,.agg #[a,k,v]] w (AQ A n (VT xs a v 0) (VP xs a) (VS xs a 0) w):=by
 have H:=aH h
 clear h
 have hv':=aH hv
 clear hv
 go_enter func197,ntmps197
 go_wp2_with (first
  |(go_at_call 55;refine(bQ _ _ _ _).mono ?_;rintro e w' ⟨rfl,rfl⟩)
  |(go_at_call 206;refine(eY _ _ _).mono ?_;rintro e w2 ⟨rfl,rfl⟩)
  |(go_at_call 207;refine(mF A n c xs a k v false 0 0 _ (H.below (by go_grown)) hn hv' (fun h=>⟨rfl,h⟩)).mono ?_;rintro e w1 ⟨A1,n1,c1,rfl,hs,hb⟩;obtain⟨hc,hf⟩:=cJ hb;have hz:=hb.size;simp only[World.size_alloc]at hz;have r0:=hc (w,1) 0 (by simp);have r1:=hc (w,1) 1 (by simp);simp [go_sem]at r0 r1;have q1:w.heap.size+1<w1:=I;have m1:¬w.heap.size+1=w1:=I;have hs':=aH hs;clear hs))
 all_goals(refine bodyPost_ret (by first|(simp [results,results197,go_sem,r0,r1];try rfl;done)|(simp [results,results197,go_sem];try rfl;done)) rfl ?_)
 all_goals simp only[beq_iff_eq,beq_eq_false_iff_ne,ne_eq,bV,decide_eq_true_eq,decide_eq_false_iff_not]at*
 all_goals first
  |(have e1:a=1\/a=2\/a=5\/a=6:=I
    have e2:VT xs a v 0=iA xs a v false 0:=iP e1
    have e3:VP xs a=gZ xs a:=iP e1
    have e4:VS xs a 0=gY xs a 0:=iP e1
    rw[e2,e3,e4]
    exact(oY hs' (by go_grown) hb (by simp) (by simp) (by simp) (by simp)).weakJ A n)
  |(have e1:¬(a=1\/a=2\/a=5\/a=6):=I
    have e2:VT xs a v 0=xs:=iN e1
    have e3:VP xs a=5:=iN e1
    have e4:VS xs a 0=0:=iN e1
    rw[e2,e3,e4]
    exact xU H (by go_grown) rfl rfl)
theorem AM(A:Option Addr)(n c:Nat)(xs:List Int)(a k v:Int)(w:World)(h:fI w A n c xs)(hn:n<=60)(hv: -9223372036854775808<=v/\v<=9223372036854775807):
 Calls prog 198 #[.slice A n c,.agg #[a,k,v]] w (AQ A n (VT xs a v (n-1)) (VP xs a) (VS xs a (n-1)) w):=by
 have H:=aH h
 clear h
 have hv':=aH hv
 clear hv
 go_enter func198,ntmps198
 have e2:IntKind.i64.wrap ((n:Int)-1)=n-1:=IntWalk.i64_in _ I
 go_wp2_with (first
  |(go_at_call 55;refine(bQ _ _ _ _).mono ?_;rintro e w' ⟨rfl,rfl⟩)
  |(go_at_call 206;refine(eY _ _ _).mono ?_;rintro e w2 ⟨rfl,rfl⟩)
  |(go_at_call 207;refine(mF A n c xs a k v false _ (n-1) _ (H.below (by go_grown)) hn hv' (fun h=>⟨I,I⟩)).mono ?_;rintro e w1 ⟨A1,n1,c1,rfl,hs,hb⟩;obtain⟨hc,hf⟩:=cJ hb;have hz:=hb.size;simp only[World.size_alloc]at hz;have r0:=hc (w,1) 0 (by simp);have r1:=hc (w,1) 1 (by simp);simp [go_sem]at r0 r1;have q1:w.heap.size+1<w1:=I;have m1:¬w.heap.size+1=w1:=I;have hs':=aH hs;clear hs))
 all_goals(refine bodyPost_ret (by first|(simp [results,results198,go_sem,r0,r1];try rfl;done)|(simp [results,results198,go_sem];try rfl;done)) rfl ?_)
 all_goals simp only[beq_iff_eq,beq_eq_false_iff_ne,ne_eq,bV,decide_eq_true_eq,decide_eq_false_iff_not]at*
 all_goals first
  |(have e1:a=1\/a=2\/a=5\/a=6:=I
    have e2:VT xs a v (n-1)=iA xs a v false (n-1):=iP e1
    have e3:VP xs a=gZ xs a:=iP e1
    have e4:VS xs a (n-1)=gY xs a (n-1):=iP e1
    rw[e2,e3,e4]
    exact(oY hs' (by go_grown) hb (by simp) (by simp) (by simp) (by simp)).weakJ A n)
  |(have e1:¬(a=1\/a=2\/a=5\/a=6):=I
    have e2:VT xs a v (n-1)=xs:=iN e1
    have e3:VP xs a=5:=iN e1
    have e4:VS xs a (n-1)=0:=iN e1
    rw[e2,e3,e4]
    exact xU H (by go_grown) rfl rfl)
end
end Go.Proofs.YtplpimkgihnmhaaGreatDoor
