/-
  Part of a proof: MTh RecR. For all values.
-/
import Derived.Test.YtplpimkgihnmhaaGreatDoorA08
set_option maxRecDepth 100000
set_option maxHeartbeats 4000000
set_option linter.all false
namespace Go.Proofs.YtplpimkgihnmhaaGreatDoor
open Go.Proofs.Tryz Go.RowKit
section
attribute [local go_sem↓] Go.wp_at_zero Go.wp_at_succ
theorem tQ(A B:Option Addr)(n c m d:Nat)(z y:Nat->Int)(w:World)(h:qY w A n c z)(k:qY w B m d y):
 Calls prog 170 #[.slice A n c,.slice B m d] w fun e w'=>∃b,e=.returned (.bool b)/\(b=true↔n=m/\∀i,i<n->z i=y i)/\Below w.heap.size w w':=by
 have On:=h.cap63
 have k63:=k.cap63
 have hnc:=h.cap
 have kmc:=k.cap
 have HX:=Lib.hid h
 have HY:=Lib.hid k
 clear h k
 go_enter func170,ntmps170
 go_wp2
 go_loopw [8] (fun i wr=>∃k:Nat,k<=n/\k<=m/\i=.int .i64 k/\Below w.heap.size w wr/\Hid (∀j,j<k->z j=y j)) (fun i _=>n-(intOf i).toNat)
 case atStart=>exact⟨0,by omega,by omega,rfl,Below.refl _ _,fun j hj=>absurd hj (by omega)⟩
 case round=>
  obtain⟨k,hk,hkm,rfl,hb,hall⟩:=hrel
  by_cases hkn:k<n
  .have b1:(k:Int)<n:=by omega
   obtain⟨b,off,rfl,hblt,hcell⟩:=HX.at_ (by omega)
   have Iz:=(hb.cell (p:=⟨b,off+k,none⟩) hblt).trans (hcell k hkn)
   clear hcell
   by_cases Hp:k<m
   .have b2:(k:Int)<m:=by omega
    have d2:decide ((m:Int)<=k)=false:=by simp;omega
    obtain⟨b',off',rfl,hblt',hcell'⟩:=HY.at_ (by omega)
    have Hk:=(hb.cell (p:=⟨b',off'+k,none⟩) hblt').trans (hcell' k Hp)
    clear hcell'
    go_wp2
    go_quiet (fail)
    go_wp2
    .go_ret
     refine⟨_,rfl,?_,cZ hb _⟩
     constructor
     .intro h;cases h
     intro h
     have:=h.2 k hkn
     simp_all<;>omega
    go_roundw
    case rel=>exact⟨k+1,by omega,by omega,by go_num,cZ hb _,Lib.hid fun j hj=>by
     rcases Nat.lt_or_ge j k with h|h
     .exact hall j h
     obtain rfl:j=k:=by omega
     simp_all<;>omega⟩
    case measure=>simp [intOf];omega
   have d2:decide ((m:Int)<=k)=true:=by simp;omega
   go_wp2
   go_quiet (fail)
   go_wp2
   go_ret
   refine⟨_,rfl,?_,cZ hb _⟩
   constructor
   .intro h;cases h
   intro h
   exact absurd h.1 (by omega)
  obtain rfl:k=n:=by omega
  go_wp2
  go_ret
  refine⟨_,rfl,?_,hb⟩
  constructor
  .intro h
   have h:=of_decide_eq_true h
   exact⟨I,hall.out⟩
  rintro⟨h,_⟩
  exact decide_eq_true I
def tz(kind:Int):Array Value:= #[kind,.slice none 0 0,(0:Int),(0:Int),(0:Int),(0:Int),(0:Int),(0:Int),(0:Int),(0:Int),(0:Int),(0:Int),(0:Int),(0:Int),(0:Int),(0:Int),(0:Int),(0:Int),(0:Int)]
theorem sC(kind:Int)(w:World):(Instr.build 131 #[(0,kind)]).run prog w=.ok (.agg (tz kind)) w:=J
theorem BC(kind:Int):lD (tz kind) kind none 0 0 (fun _=>0) 0:=⟨rfl,rfl,rfl,fun i hi=>by
 match i,hi with
 |0,_|1,_|2,_|3,_|4,_|5,_|6,_|7,_|8,_|9,_|10,_|11,_|12,_|13,_|14,_|15,_=>rfl
 |i+16,h=>omega,rfl⟩
theorem jT:(prog.info? 131).map (·.size)=some 19:=J
theorem kM{C:Array Value}{kind:Int}{A:Option Addr}{n c:Nat}{d:Nat->Int}{N:Int}(h:lD C kind A n c d N):C.all (·.oneCell')=true:=by
 rw[Array.all_eq_true]
 intro i hi
 have hs:=h.size
 have key:∀v,C[i]? =some v->v.oneCell'=true->C[i].oneCell'=true:=fun v e hv=>by
  rw[Array.getElem?_eq_getElem hi]at e
  rw[Option.some.inj e];exact hv
 by_cases h0:i=0
 .subst h0;exact key _ h.kind_ rfl
 by_cases h1:i=1
 .subst h1;exact key _ h.list rfl
 by_cases h2:i<18
 .have:=h.slot (i-2) I
  rw[show 2+(i-2)=i by omega]at this
  exact key _ this rfl
 obtain rfl:i=18:=I
 exact key _ h.num rfl
theorem lD.setN{C:Array Value}{kind:Int}{A:Option Addr}{n c:Nat}{d:Nat->Int}{N:Int}(h:lD C kind A n c d N)(N':Int):lD (C.setIfInBounds 18 N') kind A n c d N':=by
 have hs:=h.size
 refine⟨by simp [hs],?_,?_,fun i hi=>?_,?_⟩
 .rw[Array.getElem?_setIfInBounds,iN I];exact h.kind_
 .rw[Array.getElem?_setIfInBounds,iN I];exact h.list
 .rw[Array.getElem?_setIfInBounds,iN I];exact h.slot i hi
 rw[Array.getElem?_setIfInBounds,iP rfl,iP I]
theorem lD.setL{C:Array Value}{kind:Int}{A:Option Addr}{n c:Nat}{d:Nat->Int}{N:Int}(h:lD C kind A n c d N)(A':Option Addr)(n' c':Nat):lD (C.setIfInBounds 1 (.slice A' n' c')) kind A' n' c' d N:=by
 have hs:=h.size
 refine⟨by simp [hs],?_,?_,fun i hi=>?_,?_⟩
 .rw[Array.getElem?_setIfInBounds,iN I];exact h.kind_
 .rw[Array.getElem?_setIfInBounds,iP rfl,iP I]
 .rw[Array.getElem?_setIfInBounds,iN I];exact h.slot i hi
 rw[Array.getElem?_setIfInBounds,iN I];exact h.num
theorem lD.setD{C:Array Value}{kind:Int}{A:Option Addr}{n c:Nat}{d:Nat->Int}{N:Int}(h:lD C kind A n c d N)(j:Nat)(hj:j<16)(x:Int):lD (C.setIfInBounds (2+j) x) kind A n c (fun i=>if i=j then x else d i) N:=by
 have hs:=h.size
 refine⟨by simp [hs],?_,?_,fun i hi=>?_,?_⟩
 .rw[Array.getElem?_setIfInBounds,iN I];exact h.kind_
 .rw[Array.getElem?_setIfInBounds,iN I];exact h.list
 .rw[Array.getElem?_setIfInBounds]
  by_cases e:i=j
  .subst e
   rw[iP rfl,iP I,iP rfl]
  rw[iN I,iN e]
  exact h.slot i hi
 rw[Array.getElem?_setIfInBounds,iN I];exact h.num
theorem qY.blk_lt{w:World}{A:Option Addr}{n c:Nat}{z:Nat->Int}(h:qY w A n c z)(hn:0<n):∀a,A=some a->a.block<w:=fun a ha=>by
 obtain⟨b,off,hA,hlt,_⟩:=h.at_ hn
 rw[ha]at hA
 cases hA
 exact hlt
theorem qY.set_far{w:World}{A:Option Addr}{n c:Nat}{z:Nat->Int}(h:qY w A n c z){p:Addr}(hp:∀a,A=some a->a.block≠p.block)(u:Value):qY (w.setCell p u) A n c z:=
 ⟨h.cap,h.cap63,h.bd,fun hn=>by
  obtain⟨b,off,rfl,hlt,hc⟩:=h.at_ hn
  refine⟨b,off,rfl,by simpa using hlt,fun i hi=>?_⟩
  rw[World.cell?_setCell_far _ _ _ _ (show p.block≠b from fun e=>hp _ rfl e.symm)]
  exact hc i hi⟩
theorem zD{z:Nat->Int}(h:∀i,i<17->z i<=4294967295):(∀i,i<17->(if i=0 then z 0 else 0)=z i)↔qO z:=
 ⟨fun h1=>⟨h 0 I,fun i hi=>(h1 i hi).symm⟩,fun h1 i hi=>(h1.2 i hi).symm⟩
theorem zR{z:Nat->Int}(h0:∀i,i<17->0<=z i)(h:kQ z):∀i,i<17->z i<=4294967295:=fun i hi=>by
 obtain⟨h1,h2,_⟩:=h
 rcases Nat.lt_or_ge i 16 with Qy|Qy
 .have:=h1 (i/2) I
  unfold tW at this
  rcases Nat.mod_two_eq_zero_or_one i with e|e
  .rw[show 2*(i/2)=i by omega]at this;omega
  rw[show 2*(i/2)+1=i by omega]at this;omega
 obtain rfl:i=16:=I
 omega
theorem uE{z:Nat->Int}(h:∀i,i<17->z i<=4294967295)(h0:∀i,i<17->0<=z i)(hr:cS z=true):(∀i,i<17->eF 8 z i=z i)↔kQ z:=by
 constructor
 .intro h1
  refine⟨fun i hi=>?_,?_,hr⟩
  .have:=nB hr hi
   unfold tW
   omega
  have:=h1 16 I
  unfold eF at this
  rw[iN I]at this
  exact this.symm
 rintro⟨_,Qy,_⟩ i hi
 unfold eF
 by_cases e:i<2*8
 .rw[iP e]
 obtain rfl:i=16:=I
 rw[iN e,Qy]
theorem lD.congr{C:Array Value}{kind:Int}{A:Option Addr}{n c:Nat}{d d':Nat->Int}{N:Int}(h:lD C kind A n c d N)(e:∀i,i<16->d' i=d i):lD C kind A n c d' N:=
 ⟨h.size,h.kind_,h.list,fun i hi=>by rw[e i hi];exact h.slot i hi,h.num⟩
theorem CV{z:Nat->Int}(h0:∀i,i<17->0<=z i)(h:gW z):∀i,i<17->z i<=4294967295:=fun i hi=>by
 rcases Nat.eq_zero_or_pos i with e|e
 .subst e;have:=h.1;omega
 have:=(h.2 (i-1) I).1
 rw[Nat.sub_add_cancel e]at this
 exact this
theorem xV{z:Nat->Int}{n:Nat}(h:∀i,i<17->z i<=4294967295)(h0:∀i,i<17->0<=z i)(hn:(z 0).toNat=n)(h6:n<=6):(∀i,i<17->iT n (zL z) i=z i)↔gW z:=by
 have Ib:z 0=n:=by have:=h0 0 I;omega
 have e:∀i,i≠0->i<=n->iT n (zL z) i=z i:=fun i h1 h2=>by
  unfold iT zL
  rw[iN h1,iP h2,hn,pA _ _ _ I,Nat.sub_add_cancel I]
 have e2:∀i,i≠0->¬i<=n->iT n (zL z) i=0:=fun i h1 h2=>by unfold iT;rw[iN h1,iN h2]
 constructor
 .intro h1
  refine⟨I,fun i hi=>⟨h _ I,fun hni=>?_⟩⟩
  rw[hn]at hni
  rw[<-h1 (i+1) I,e2 _ I I]
 intro h1 i hi
 by_cases Is:i=0
 .subst Is;rw[Ib];rfl
 by_cases hin:i<=n
 .exact e i Is hin
 rw[e2 i Is hin]
 have:=(h1.2 (i-1) I).2 (by rw[hn];omega)
 rw[Nat.sub_add_cancel I]at this
 exact this.symm
theorem jX.lt'{w:World}{B:Nat}{A:Option Addr}{n c:Nat}{xs:List Int}(h:jX w B A n c xs)(hn:0<n):∀a,A=some a->B<=a.block/\a.block<w:=fun a ha=>by
 obtain⟨g,hA,h1,h2,_⟩:=h.at_ hn
 rw[ha]at hA
 cases hA
 exact⟨h1,h2⟩
theorem fI.setRow{w:World}{A:Option Addr}{n c:Nat}{xs:List Int}(h:fI w A n c xs){g:Nat}(hp:0<n->∀a,A=some a->a.block≠g)(cs:Array Value):fI (w.setRow g cs) A n c xs:=
 ⟨h.len,h.cap,h.cap63,h.bd,fun hn=>by
  obtain⟨b,off,rfl,hlt,hc⟩:=h.at_ hn
  refine⟨b,off,rfl,by simpa [World.setRow]using hlt,fun i hi=>?_⟩
  rw[<-hc i hi]
  exact World.cell?_of_block (setRow_other w g b cs (by have h9:b≠g:=hp hn _ rfl;omega))⟩
def Fc(x:Value):Prop:=∃g,x=.slice (some ⟨g,0,none⟩) 1 1
def Gl(t:TypeId)(v:Int)(x:Value)(w:World):Prop:=∃g,x=.slice (some ⟨g,0,none⟩) 1 1/\aY w g t #[v]
theorem AA{S:Nat->Prop}{w w':World}{B:Nat}{A:Option Addr}{n c:Nat}{xs:List Int}(h:jX w B A n c xs)(hk:aD S w w')(hS:∀b,¬S b):jX w' B A n c xs:=
 World.ownsRow.kept (row:=none) h ⟨hk.os,hk.tape,hk.output,hk.size,fun k hlt _=>hk.block k hlt (hS k)⟩ (by
  by_cases ho:(Value.slice A n c).ownBlock=none
  .exact .inl ho
  exact .inr ho)
def Ew(n:Nat)(x:Value):Prop:=∃A c,x=.slice A n c
def El(B n:Nat)(xs:List Int)(x:Value)(w:World):Prop:=∃A c,x=.slice A n c/\jX w B A n c xs
def LO(x:Value):Prop:=∃g,x=.slice (some ⟨g,0,none⟩) 17 17
def XB(z:Nat->Int)(x:Value)(w:World):Prop:=∃g D,x=.slice (some ⟨g,0,none⟩) 17 17/\aY w g 23 D/\cH D 17 z
def pR(b:Bool)(T:Array Value->World->Prop)(w:World)(e:Ending)(w':World):Prop:=
 Below w w w'/\∃C,C.size=19/\C.all (·.oneCell')=true/\e=.returned (.tuple #[.agg C,b])/\(b=true->T C w')
theorem GZ(A:Option Addr)(c:Nat)(z:Nat->Int)(kind:Int)(w:World)(h:qY w A 17 c z)(hk:kind<1\/6<kind):
 Calls prog 169 #[kind,.slice A 17 c] w (pR false (fun _ _=>True) w):=by
 have d1:bV kind 1 6=false:=by simp [bV];omega
 have HW:=aH d1
 have hbu:=sC
 have HT:=aH (BC kind)
 have HI:Hid ((prog.info? 131).map (·.size)=some (tz kind).size):=jT
 have HO:=aH (kM HT)
 clear h d1
 go_enter func169,ntmps169
 go_wp2_with (refine wpList_store_row rfl 131 _ _ rfl (w,1) (tz kind) rfl rfl 131 (tz 0) ((aY.newAt _ _ _ (by simp))) HI rfl HO ?_)
 refine(bQ _ _ _ _).mono ?_
 rintro e W1 ⟨rfl,hW⟩
 rw[HW.out]
 have Jl:aY W1 w 131 (tz 0):=by
  rw[<-hW]
  exact(setRow_other _ _ _ _ I).trans ((aY.new _ _ _).alloc _)
 have Ob:aY W1 (w,1) 131 (tz kind):=by rw[<-hW];exact aY.setRow (aY.newAt _ _ _ (by simp)) _
 have Ka:Below w.heap.size w W1:=by rw[<-hW];exact aL (by go_grown) (by omega) _
 clear hW HW hbu
 go_wp2_with (first
  |(refine wpList_load_row rfl 131 _ rfl (w.heap.size+1) rfl 131 (tz kind) (0,0) _ Ob underlying131 rfl HI ?_)
  |(refine wpList_store_row rfl 131 _ _ rfl w.heap.size (tz kind) rfl rfl 131 (tz 0) Jl HI rfl HO ?_))
 refine bodyPost_ret (bR results169 _ _ w.heap.size 131 (tz kind) _ _ rfl rfl (aY.setRow Jl (tz kind)) underlying131 rfl HI) rfl ⟨aL Ka (Nat.le_refl _) _,(tz kind),HT.size,HO.out,rfl,fun h=>Bool.noConfusion h⟩
theorem DI(A:Option Addr)(c:Nat)(z:Nat->Int)(b:Bool)(w:World)(h:qY w A 17 c z)(hb:b=true↔qO z):
 Calls prog 169 #[(6:Int),.slice A 17 c] w (pR b (fun C _=>lD C 6 none 0 0 (fun _=>0) (z 0)) w):=by
 have d1:bV 6 1 6=true:=by simp [bV]
 have HW:=aH d1
 have hbu:=sC
 have HT:=aH (BC 6)
 have HI:Hid ((prog.info? 131).map (·.size)=some (tz 6).size):=jT
 have HO:=aH (kM HT)
 have H:=aH h
 have HB:=aH hb
 clear h d1 hb
 go_enter func169,ntmps169
 go_wp2_with (refine wpList_store_row rfl 131 _ _ rfl (w,1) (tz 6) rfl rfl 131 (tz 0) ((aY.newAt _ _ _ (by simp))) HI rfl HO ?_)
 refine(bQ _ _ _ _).mono ?_
 rintro e W1 ⟨rfl,hW⟩
 rw[HW.out]
 have Jl:aY W1 w 131 (tz 0):=by
  rw[<-hW]
  exact(setRow_other _ _ _ _ I).trans ((aY.new _ _ _).alloc _)
 have Ob:aY W1 (w,1) 131 (tz 6):=by rw[<-hW];exact aY.setRow (aY.newAt _ _ _ (by simp)) _
 have Ka:Below w w W1:=by rw[<-hW];exact aL (by go_grown) I _
 clear hW HW hbu
 have Io:=Ob.lt
 have Hv:=aH (H.below Ka)
 have HG:=aH (H.blk_lt I)
 go_wp2
 go_loop [19] (fun i=>∃k:Nat,k<=17/\i=.int .i64 k/\Hid (∀j,j<k->z j<=4294967295)) (fun i=>17-(intOf i).toNat)
 case atStart=>exact⟨0,I,rfl,aH fun j hj=>absurd hj I⟩
 case round=>
  obtain⟨k,hk,rfl,hall⟩:=hrel
  by_cases hk17:k<17
  .have q1:(k:Int)<17:=I
   obtain⟨g,off,rfl,hglt,hcell⟩:=Hv.at_ I
   have c0:=hcell k hk17
   have bd:=Hv.bd k hk17
   clear hcell
   generalize hv:z k=v at c0 bd
   have HV:=aH hv
   clear hv
   by_cases hM:v<=4294967295
   .have d2:decide (4294967295<v)=false:=by simp;omega
    go_wp2
    go_round
    case rel=>exact⟨k+1,I,aG,aH fun j hj=>by
     rcases Nat.lt_or_ge j k with h|h
     .exact hall j h
     obtain rfl:j=k:=I
     rw[HV.out];exact hM⟩
    case measure=>simp [intOf];omega
   have d2:decide (4294967295<v)=true:=by simp;omega
   obtain rfl:b=false:=by
    rw[Bool.eq_false_iff]
    intro ht
    have h9:=HB.out.1 ht
    have Kx:=HV.out
    have Qa:4294967295<z k:=by omega
    exact absurd Qa (by unfold qO at h9;have a1:=h9.1;have a2:=h9.2 k hk17;split at a2<;>omega)
   go_wp2_with (first
    |(refine wpList_load_row rfl 131 _ rfl (w.heap.size+1) rfl 131 (tz 6) (0,0) _ Ob underlying131 rfl HI ?_)
    |(refine wpList_store_row rfl 131 _ _ rfl w.heap.size (tz 6) rfl rfl 131 (tz 0) Jl HI rfl HO ?_))
   refine bodyPost_ret (bR results169 _ _ w.heap.size 131 (tz 6) _ _ rfl rfl (aY.setRow Jl (tz 6)) underlying131 rfl HI) rfl ⟨aL Ka (Nat.le_refl _) _,(tz 6),HT.size,HO.out,rfl,fun h=>Bool.noConfusion h⟩
  obtain rfl:k=17:=I
  have Iu:=aH hall
  clear hall
  obtain⟨g,off,rfl,hglt,hcell⟩:=Hv.at_ I
  have c0:=hcell 0 I
  have bd:=Hv.bd 0 I
  have hM:=Iu.out 0 I
  have hthr:=(HT.setN (z 0))
  simp only[Nat.add_zero]at c0
  clear hcell
  generalize hv:z 0=v at c0 bd hM hthr
  have HV:=aH hv
  clear hv
  have hq:=Ob.cell 18
  rw[HT.num]at hq
  have hf:=Ob.frozen 18
  have HC:=aH hthr
  clear hthr
  have Jp:Hid ((prog.info? 131).map (·.size)=some ((tz 6).setIfInBounds 18 (.int .i64 v)).size):=jT
  have Rz:=Lib.hid (kM HC)
  have Hf:=Lib.hid (Ob.set_ 18 (.int .i64 v))
  have Ky:=Lib.hid (Jl.far (p:=⟨w.heap.size+1,18,none⟩) (by simp) (.int .i64 v))
  have Ht:=Lib.hid (Ka.setCell (p:=⟨w.heap.size+1,18,none⟩) (by show w.heap.size<=w.heap.size+1;omega) (.int .i64 v))
  have Oo:Hid (qY (W1.setCell ⟨w.heap.size+1,18,none⟩ (.int .i64 v)) (some ⟨g,off,none⟩) 17 c z):=Lib.hid (Hv.set_far (fun a ha=>by have:=HG.out a ha;show a.block≠w.heap.size+1;omega) _)
  clear Jl Ob Ka
  go_wp2_with fail
  generalize W1.setCell ⟨w.heap.size+1,18,none⟩ (.int .i64 v)=W2 at*
  refine bK 5 bN [] (by kernel_rfl) (by kernel_rfl) ?_
  iterate 2
   refine aR ?_;constructor
   .intro w9 Gq _
    exact bT 131 _ rfl (w.heap.size+1) rfl 131 ((tz 6).setIfInBounds 18 (.int .i64 v)) _ (Hf.below Gq.same Hf.lt) underlying131 rfl Jp aE
  refine bC LO (XB (fun i=>if i=0 then v else 0)) ⟨_,0,rfl⟩ ?_ ?_
  .intro w9 Gq _
   go_simp
   go_at_call 85
   refine(uY _ none 0 0 (fun _=>0) v _ HC (by omega)).mono ?_
   rintro e Qw ⟨g,D,rfl,Gs,hu,hg,hbl⟩
   exact⟨_,rfl,⟨⟨g,rfl⟩,⟨g,D,rfl,Gs,hu⟩⟩,aD.of_same hbl⟩
  refine aC (fun K hK=>?_)
  refine .inl ?_
  apply Exists.intro
  refine⟨cX,?_,hK _ _ _ _ ?_⟩
  .simp only[bJ,bM]
   rintro _ ⟨g,rfl⟩
   refine⟨rfl,fun w9 Gq _=>?_⟩
   go_simp
   exact aE
  clear hK K
  refine aN ?_
  refine bB (.bool b) cX ?_ ?_
  .rintro _ ⟨g,rfl⟩
   refine⟨rfl,fun w9 Gq hmet=>?_⟩
   obtain⟨w0,k0,k1,g',D,hv,hblk,hu⟩:=(hmet.2.1 (by kernel_rfl)).out
   cases hv
   go_simp
   go_at_call 170
   refine(tQ _ _ 17 17 17 _ (fun i=>if i=0 then v else 0) z _ (by simpa using qY.of_blk (n:=17) (c:=17) (o:=0) (hblk.below k1 hblk.lt) hu (by omega) (by omega) (by omega)) (Oo.below Gq.same)).mono ?_
   rintro e Qw ⟨b',rfl,hb',hbl⟩
   obtain rfl:b'=b:=by
    rw[Bool.eq_iff_iff,hb',HB.out]
    rw[<-HV.out]
    exact⟨fun h=>(zD Iu).1 h.2,fun h=>⟨rfl,(zD Iu).2 h⟩⟩
   exact⟨_,rfl,⟨rfl,trivial⟩,aD.of_same hbl⟩
  refine aZ ?_
  rintro _ ⟨g9,rfl⟩ w9 Gq hmet
  clear hmet
  have Jk:=aH (Ky.below Gq.same Ky.lt)
  have Ir:=aH ((Ht.out).trans (Gq.same.mono (Ht.out).size))
  simp only[List.drop_succ_cons,List.drop_zero]
  go_wp2_with (refine wpList_store_row rfl 131 _ _ rfl w ((tz 6).setIfInBounds 18 v) rfl rfl 131 (tz 0) Jk Jp rfl Rz ?_)
  refine bodyPost_ret (bR results169 _ _ w 131 ((tz 6).setIfInBounds 18 v) _ _ rfl rfl (aY.setRow Jk ((tz 6).setIfInBounds 18 v)) underlying131 rfl Jp) rfl ⟨aL Ir (Nat.le_refl _) _,((tz 6).setIfInBounds 18 v),HC.size,Rz.out,rfl,fun _=>by rw[HV.out];exact HC⟩
theorem ED(A:Option Addr)(c:Nat)(z:Nat->Int)(b:Bool)(w:World)(h:qY w A 17 c z)(hb:b=true↔kQ z):
 Calls prog 169 #[(5:Int),.slice A 17 c] w (pR b (fun C _=>lD C 5 none 0 0 z 0) w):=by
 have d1:bV 5 1 6=true:=by simp [bV]
 have HW:=aH d1
 have hbu:=sC
 have HT:=aH (BC 5)
 have HI:Hid ((prog.info? 131).map (·.size)=some (tz 5).size):=jT
 have HO:=aH (kM HT)
 have H:=aH h
 have HB:=aH hb
 clear h d1 hb
 go_enter func169,ntmps169
 go_wp2_with (refine wpList_store_row rfl 131 _ _ rfl (w,1) (tz 5) rfl rfl 131 (tz 0) ((aY.newAt _ _ _ (by simp))) HI rfl HO ?_)
 refine(bQ _ _ _ _).mono ?_
 rintro e W1 ⟨rfl,hW⟩
 rw[HW.out]
 have Jl:aY W1 w 131 (tz 0):=by
  rw[<-hW]
  exact(setRow_other _ _ _ _ I).trans ((aY.new _ _ _).alloc _)
 have Ob:aY W1 (w,1) 131 (tz 5):=by rw[<-hW];exact aY.setRow (aY.newAt _ _ _ (by simp)) _
 have Ka:Below w w W1:=by rw[<-hW];exact aL (by go_grown) I _
 clear hW HW hbu
 have Io:=Ob.lt
 have Hv:=aH (H.below Ka)
 have HG:=aH (H.blk_lt I)
 go_wp2
 go_loop [19] (fun i=>∃k:Nat,k<=17/\i=.int .i64 k/\Hid (∀j,j<k->z j<=4294967295)) (fun i=>17-(intOf i).toNat)
 case atStart=>exact⟨0,I,rfl,aH fun j hj=>absurd hj I⟩
 case round=>
  obtain⟨k,hk,rfl,hall⟩:=hrel
  by_cases hk17:k<17
  .have q1:(k:Int)<17:=I
   obtain⟨g,off,rfl,hglt,hcell⟩:=Hv.at_ I
   have c0:=hcell k hk17
   have bd:=Hv.bd k hk17
   clear hcell
   generalize hv:z k=v at c0 bd
   have HV:=aH hv
   clear hv
   by_cases hM:v<=4294967295
   .have d2:decide (4294967295<v)=false:=by simp;omega
    go_wp2
    go_round
    case rel=>exact⟨k+1,I,aG,aH fun j hj=>by
     rcases Nat.lt_or_ge j k with h|h
     .exact hall j h
     obtain rfl:j=k:=I
     rw[HV.out];exact hM⟩
    case measure=>simp [intOf];omega
   have d2:decide (4294967295<v)=true:=by simp;omega
   obtain rfl:b=false:=by
    rw[Bool.eq_false_iff]
    intro ht
    have h9:=HB.out.1 ht
    have Kx:=HV.out
    have Qa:4294967295<z k:=by omega
    exact absurd Qa (by have a1:=zR (fun i hi=>(H.bd i hi).1) h9 k hk17;omega)
   go_wp2_with (first
    |(refine wpList_load_row rfl 131 _ rfl (w.heap.size+1) rfl 131 (tz 5) (0,0) _ Ob underlying131 rfl HI ?_)
    |(refine wpList_store_row rfl 131 _ _ rfl w.heap.size (tz 5) rfl rfl 131 (tz 0) Jl HI rfl HO ?_))
   refine bodyPost_ret (bR results169 _ _ w.heap.size 131 (tz 5) _ _ rfl rfl (aY.setRow Jl (tz 5)) underlying131 rfl HI) rfl ⟨aL Ka (Nat.le_refl _) _,(tz 5),HT.size,HO.out,rfl,fun h=>Bool.noConfusion h⟩
  obtain rfl:k=17:=I
  have Iu:=aH hall
  clear hall
  have Hd:=aH Jl
  have Uo:Hid (lD (tz 5) 5 none 0 0 (eF 0 z) 0):=aH (HT.congr fun i hi=>by unfold eF;rw[iN I])
  have Hc:=aH Ob
  have Vs:=aH Ka
  clear Jl Ob Ka
  go_wp2
  go_loopw [63] (fun i wr=>∃k:Nat,k<=8/\i=.int .i64 k/\Hid (∃C,aY wr (w,1) 131 C/\lD C 5 none 0 0 (eF k z) 0)/\Hid (aY wr w 131 (tz 0))/\Hid (Below w w wr)) (fun i _=>8-(intOf i).toNat)
  case atStart=>exact⟨0,I,rfl,aH ⟨_,Hc.out,Uo.out⟩,Hd,Vs⟩
  case round=>
   obtain⟨k,hk,rfl,hC,Nw,Lu⟩:=hrel
   obtain⟨C,hBC,Yv⟩:=hC.out
   clear hC
   have Oc:=aH hBC
   have Nf:=Lib.hid Yv
   clear hBC Yv
   have Qz:=Lib.hid (H.below Lu)
   by_cases Md:k<8
   .have q1:(k:Int)<8:=by omega
    obtain⟨g,off,rfl,hglt,hcell⟩:=Qz.at_ (by omega)
    have c0:=hcell (2*k) (by omega)
    have c1:=hcell (2*k+1) (by omega)
    have Ua:=Qz.bd (2*k) (by omega)
    have Xg:=Qz.bd (2*k+1) (by omega)
    have m0:=Iu.out (2*k) (by omega)
    have m1:=Iu.out (2*k+1) (by omega)
    have c63:=Qz.cap63
    have hcp:=Qz.cap
    have s0:wr.cell? ⟨w.heap.size+1,2+k*2,none⟩=some (.int .i64 (eF k z (2*k))):=by rw[Nat.mul_comm k 2];exact(Oc.cell _).trans (Nf.slot (2*k) (by omega))
    have s1:wr.cell? ⟨w.heap.size+1,2+k*2+1,none⟩=some (.int .i64 (eF k z (2*k+1))):=by rw[Nat.mul_comm k 2,Nat.add_assoc];exact(Oc.cell _).trans (Nf.slot (2*k+1) (by omega))
    have f0:=Oc.frozen (2+k*2)
    have f1:=Oc.frozen (2+k*2+1)
    have Ig:=Oc.lt
    have HK:Hid (∀i,eF (k+1) z i=if i=2*k+1 then z (2*k+1)else if i=2*k then z (2*k)else eF k z i):=aH fun i=>by
     rw[uF,Nat.mul_comm k 2]
    clear hcell
    generalize hx:z (2*k)=x at c0 Ua m0 HK
    generalize hy:z (2*k+1)=y at c1 Xg m1 HK
    have HX:=aH hx
    have HY:=aH hy
    clear hx hy Hd Hc Uo Vs Hv
    go_wp2
    go_region
    apply_assumption
    go_wp2
    go_roundw
    case rel=>exact⟨k+1,I,aG,aH ⟨_,(Oc.set_ (2+k*2) _).set_ (2+k*2+1) _,by
     have h5:=((Nf.setD (2*k) I x).setD (2*k+1) I y).congr (fun i hi=>HK.out i)
     rw[show 2+k*2=2+2*k by omega,show 2+2*k+1=2+(2*k+1) by omega]
     exact h5⟩,
     aH ((Nw.far (p:=⟨w+1,2+k*2,none⟩) (by simp) _).far (p:=⟨w+1,2+k*2+1,none⟩) (by simp) _),
     aH ((Lu.setCell (p:=⟨w+1,2+k*2,none⟩) (by show w.heap.size<=w+1;omega) _).setCell (p:=⟨w+1,2+k*2+1,none⟩) (by show w.heap.size<=w+1;omega) _).drew⟩
    case measure=>simp [intOf];omega
   obtain rfl:k=8:=I
   have HC:Hid (lD C 5 none 0 0 z 0):=aH (Nf.congr fun i hi=>by unfold eF;rw[iP I])
   have Jp:Hid ((prog.info? 131).map (·.size)=some C.size):=by show _=_;rw[jT,HC.size]
   have Rz:=aH (kM HC)
   obtain⟨D,hD⟩:=aO (C.extract 2 18)
   have hI:eB D 16 z:=by
    have hs:=HC.size
    refine⟨by rw[hD];simp;omega,fun i hi=>?_,fun i hi=>by have:=Iu.out i I;have:=H.bd i I;omega⟩
    rw[hD,Array.getElem?_extract,iP I]
    exact HC.slot i hi
   have HD:=aH hD
   have HDI:=aH hI
   have Lo:=aH hI.size
   clear hD hI Hd Hc Uo Vs Hv
   obtain⟨r,hr⟩:=aP (cS z)
   have HR:=Lib.hid hr
   clear hr
   go_wp2_with (refine wpList_load_mid rfl 129 _ rfl (w.heap.size+1) 2 rfl D.toList _ ?hc underlying129 rfl ?hi ?_)
   case hc=>
    rw[HD.out]
    exact World.rangeAt_of_block (t:=131) (fr:=(0,0)) Oc 2 16
   case hi=>rw[BU,Array.length_toList,Lo.out]
   refine(AX D z _ HDI).mono ?_
   rintro e W2 ⟨rfl,Gt⟩
   rw[HR.out]
   have Hf:=Lib.hid (Oc.below Gt Oc.lt)
   have Ky:=Lib.hid (Nw.below Gt Nw.lt)
   have Ht:=Lib.hid (Lu.trans (Gt.mono Lu.size))
   have Oo:=Lib.hid (Qz.below Gt)
   clear Gt
   cases r
   .obtain rfl:b=false:=by
     rw[Bool.eq_false_iff]
     intro ht
     have h9:=(HB.out.1 ht).2.2
     rw[HR.out]at h9
     cases h9
    go_wp2_with (first
     |(refine wpList_load_row rfl 131 _ rfl (w.heap.size+1) rfl 131 C (0,0) _ Hf underlying131 rfl Jp ?_)
     |(refine wpList_store_row rfl 131 _ _ rfl w.heap.size C rfl rfl 131 (tz 0) Ky Jp (by rw[HC.size];rfl) Rz ?_))
    refine bodyPost_ret (bR results169 _ _ w.heap.size 131 C _ _ rfl rfl (aY.setRow Ky C) underlying131 rfl Jp) rfl ⟨aL Ht (Nat.le_refl _) _,C,HC.size,Rz.out,rfl,fun h=>Bool.noConfusion h⟩
   go_wp2_with fail
   refine aA 5 ?_
   iterate 2
    refine aR ?_;constructor
    .intro w9 Gq _
     exact bT 131 _ rfl (w,1) rfl 131 C _ (Hf.below Gq.same Hf.lt) underlying131 rfl Jp aE
   refine bC LO (XB (eF 8 z)) ⟨_,0,rfl⟩ ?_ ?_
   .intro w9 Gq _
    go_simp
    go_at_call 85
    refine(vC _ none 0 0 z 0 _ HC (fun i hi=>by have:=Iu.out i I;have:=H.bd i I;omega)).mono ?_
    rintro e Qw ⟨g,D,rfl,Gs,hu,hg,hbl⟩
    exact⟨_,rfl,⟨⟨g,rfl⟩,⟨g,D,rfl,Gs,hu⟩⟩,aD.of_same hbl⟩
   refine aC (fun K hK=>?_)
   refine .inl ?_
   apply Exists.intro
   refine⟨cX,?_,hK _ _ _ _ ?_⟩
   .simp only[bJ,bM]
    rintro _ ⟨g,rfl⟩
    refine⟨rfl,fun w9 Gq _=>?_⟩
    go_simp
    exact aE
   clear hK K
   refine aN ?_
   refine bB (.bool b) cX ?_ ?_
   .rintro _ ⟨g,rfl⟩
    refine⟨rfl,fun w9 Gq hmet=>?_⟩
    obtain⟨w0,k0,k1,g',D,hv,hblk,hu⟩:=(hmet.2.1 J).out
    cases hv
    go_simp
    go_at_call 170
    refine(tQ _ _ 17 17 17 _ (eF 8 z) z _ (by simpa using qY.of_blk (n:=17) (c:=17) (o:=0) (hblk.below k1 hblk.lt) hu I I I) (Oo.below Gq.same)).mono ?_
    rintro e Qw ⟨b',rfl,hb',hbl⟩
    obtain rfl:b'=b:=by
     rw[Bool.eq_iff_iff,hb',HB.out]
     exact⟨fun h=>(uE Iu (fun i hi=>(H.bd i hi).1) HR).1 h.2,fun h=>⟨rfl,(uE Iu (fun i hi=>(H.bd i hi).1) HR).2 h⟩⟩
    exact⟨_,rfl,⟨rfl,trivial⟩,aD.of_same hbl⟩
   refine aZ ?_
   rintro _ ⟨g9,rfl⟩ w9 Gq hmet
   clear hmet
   have Jk:=aH (Ky.below Gq.same Ky.lt)
   have Ir:=aH ((Ht.out).trans (Gq.same.mono (Ht.out).size))
   simp only[List.drop_succ_cons,List.drop_zero]
   go_wp2_with (refine wpList_store_row rfl 131 _ _ rfl w C rfl rfl 131 (tz 0) Jk Jp (by rw[HC.size];rfl) Rz ?_)
   refine bodyPost_ret (bR results169 _ _ w 131 C _ _ rfl rfl (aY.setRow Jk C) underlying131 rfl Jp) rfl ⟨aL Ir (Nat.le_refl _) _,C,HC.size,Rz.out,rfl,fun _=>HC.out⟩
theorem VA(A:Option Addr)(c:Nat)(z:Nat->Int)(kind:Int)(Nj:kind=1\/kind=2\/kind=3\/kind=4)(b:Bool)(w:World)(h:qY w A 17 c z)(hb:b=true↔gW z/\(kind=4->iJ (zL z)=true)):
 Calls prog 169 #[kind,.slice A 17 c] w (pR b (fun C w'=>∃A c,lD C kind A (z 0).toNat c (fun _=>0) 0/\kC w' w A (z 0).toNat c (zL z)) w):=by
 obtain⟨e,he4⟩:∃e,(kind==4)=e:=⟨_,rfl⟩
 have HE4:=aH he4
 clear he4
 have e5:(kind==5)=false:=by simp;omega
 have e6:(kind==6)=false:=by simp;omega
 have Mt:=aH Nj
 have d1:bV kind 1 6=true:=by simp [bV];omega
 have HW:=aH d1
 have hbu:=sC
 have HT:=aH (BC kind)
 have HI:Hid ((prog.info? 131).map (·.size)=some (tz kind).size):=jT
 have HO:=aH (kM HT)
 have H:=aH h
 have HB:=aH hb
 clear h d1 hb Nj
 go_enter func169,ntmps169
 go_wp2_with (refine wpList_store_row rfl 131 _ _ rfl (w,1) (tz kind) rfl rfl 131 (tz 0) ((aY.newAt _ _ _ (by simp))) HI rfl HO ?_)
 refine(bQ _ _ _ _).mono ?_
 rintro e W1 ⟨rfl,hW⟩
 rw[HW.out]
 have Jl:aY W1 w 131 (tz 0):=by
  rw[<-hW]
  exact(setRow_other _ _ _ _ I).trans ((aY.new _ _ _).alloc _)
 have Ob:aY W1 (w,1) 131 (tz kind):=by rw[<-hW];exact aY.setRow (aY.newAt _ _ _ (by simp)) _
 have Ka:Below w w W1:=by rw[<-hW];exact aL (by go_grown) I _
 clear hW HW hbu
 have Io:=Ob.lt
 have Hv:=aH (H.below Ka)
 have HG:=aH (H.blk_lt I)
 go_wp2
 go_loop [19] (fun i=>∃k:Nat,k<=17/\i=.int .i64 k/\Hid (∀j,j<k->z j<=4294967295)) (fun i=>17-(intOf i).toNat)
 case atStart=>exact⟨0,I,rfl,aH fun j hj=>absurd hj I⟩
 case round=>
  obtain⟨k,hk,rfl,hall⟩:=hrel
  by_cases hk17:k<17
  .have q1:(k:Int)<17:=I
   obtain⟨g,off,rfl,hglt,hcell⟩:=Hv.at_ I
   have c0:=hcell k hk17
   have bd:=Hv.bd k hk17
   clear hcell
   generalize hv:z k=v at c0 bd
   have HV:=aH hv
   clear hv
   by_cases hM:v<=4294967295
   .have d2:decide (4294967295<v)=false:=by simp;omega
    go_wp2
    go_round
    case rel=>exact⟨k+1,I,aG,aH fun j hj=>by
     rcases Nat.lt_or_ge j k with h|h
     .exact hall j h
     obtain rfl:j=k:=I
     rw[HV.out];exact hM⟩
    case measure=>simp [intOf];omega
   have d2:decide (4294967295<v)=true:=by simp;omega
   obtain rfl:b=false:=by
    rw[Bool.eq_false_iff]
    intro ht
    have h9:=HB.out.1 ht
    have Kx:=HV.out
    have Qa:4294967295<z k:=by omega
    exact absurd Qa (by have a1:=CV (fun i hi=>(H.bd i hi).1) h9.1 k hk17;omega)
   go_wp2_with (first
    |(refine wpList_load_row rfl 131 _ rfl (w.heap.size+1) rfl 131 (tz kind) (0,0) _ Ob underlying131 rfl HI ?_)
    |(refine wpList_store_row rfl 131 _ _ rfl w.heap.size (tz kind) rfl rfl 131 (tz 0) Jl HI rfl HO ?_))
   refine bodyPost_ret (bR results169 _ _ w.heap.size 131 (tz kind) _ _ rfl rfl (aY.setRow Jl (tz kind)) underlying131 rfl HI) rfl ⟨aL Ka (Nat.le_refl _) _,(tz kind),HT.size,HO.out,rfl,fun h=>Bool.noConfusion h⟩
  obtain rfl:k=17:=I
  have Iu:=aH hall
  clear hall
  have Hd:=aH Jl
  have Hc:=aH Ob
  have Vs:=aH Ka
  clear Jl Ob Ka
  obtain⟨n0,Hr⟩:=Int.eq_ofNat_of_zero_le (H.bd 0 I).1
  have HN:=aH Hr
  clear Hr
  obtain⟨gA,oA,rfl,hglt,hcell⟩:=Hv.at_ I
  have c0:W1.cell? (gA,oA)=[n0]:=by rw[<-HN.out];exact hcell 0 I
  clear hcell
  have hgA:gA<w:=HG.out _ rfl
  by_cases h6:n0<=6
  .have d6:decide (6<(n0:Int))=false:=by simp;omega
   go_wp2
   clear c0
   go_loopw [37] (fun i wr=>∃k:Nat,k<=n0/\i=.int .i64 k/\Hid (∃C A' c',aY wr (w,1) 131 C/\lD C kind A' k c' (fun _=>0) 0/\jX wr (w,2) A' k c' (zW z k))/\Hid (aY wr w 131 (tz 0))/\Hid (Below w w wr)) (fun i _=>n0-(intOf i).toNat)
   case atStart=>exact⟨0,I,rfl,aH ⟨_,none,0,Hc.out,HT.out,jX.nil _ _⟩,Hd,Vs⟩
   case round=>
    obtain⟨k,hk,rfl,hC,Nw,Lu⟩:=hrel
    obtain⟨C,A',c',hBC,Yv,hown⟩:=hC.out
    clear hC
    have Oc:=aH hBC
    have Nf:=aH Yv
    have HO':=aH hown
    clear hBC Yv hown
    have Qz:=aH (H.below Lu)
    by_cases hkn:k<n0
    .have q1:(k:Int)<n0:=I
     have hglt':gA<wr:=by have:=Lu.size;omega
     have c1:wr.cell? (gA,oA+(k+1))=[z (k+1)]:=by
      obtain⟨g2,o2,he,_,hc⟩:=Qz.at_ I
      cases he
      exact hc (k+1) I
     have l1:=(Oc.cell 1).trans Nf.list
     have f1:=Oc.frozen 1
     have bd:=Qz.bd (k+1) I
     have m1:=Iu.out (k+1) I
     have Ig:=Oc.lt
     have Xj:w.heap.size+2<=wr:=I
     have c63:=Qz.cap63
     have hcp:=Qz.cap
     have e0:(0:Int)<=(k:Int)+1:=I
     have e1:(k:Int)+1<17:=I
     have ew:IntKind.i64.wrap ((k:Int)+1)=((k+1:Nat):Int):=by rw[IntWalk.i64_in _ I];omega
     generalize hv:z (k+1)=v at c1 bd m1
     have HV:=aH hv
     have ev:IntKind.i64.wrap v=v:=IntWalk.i64_in _ I
     clear hv Hd Hc Vs Hv
     go_wp2
     refine bK 11 (fun b=>w+2<=b) [9] J J ?_
     iterate 8
      refine aR ?_;constructor
      .intro w9 Gq _
       have l9:=(Gq.cell (p:=⟨w+1,1,none⟩) Ig (by show¬(w.heap.size+2<=w+1);omega)).trans l1
       have c9:=(Gq.cell (p:=⟨gA,oA+(k+1),none⟩) hglt' (by show¬(w+2<=gA);omega)).trans c1
       go_simp
       exact aE
     refine bC Fc (Gl 3 v) ⟨_,0,rfl⟩ ?_ ?_
     .intro w9 Gq _
      go_simp
      exact⟨⟨⟨_,rfl⟩,_,rfl,by simpa only[ev]using aY.new w9 3 #[(IntKind.i64.wrap v)]⟩,aD.of_same ((Below.refl _ _).alloc (Nat.le_refl _) _)⟩
     refine bD (Ew (k+1)) (El (w,2) (k+1) (zW z (k+1))) ⟨_,none,0,rfl⟩ ?_ ?_
     .rintro _ ⟨g,rfl⟩
      refine⟨rfl,fun w9 Gq hmet=>?_⟩
      obtain⟨w0,k0,k1,g',hv,hblk⟩:=hmet.2.1 J
      cases hv
      have Vt:=Gq.size
      refine xW (.tmp 41) (.tmp 48) rfl (A:=A') (n:=k) (c:=c') rfl (AA HO' hmet.1 (fun b h=>dN h J)) rfl ((k1.cell (p:=⟨g,0,none⟩) hblk.lt (fun h=>dN h J)).trans (hblk.cell 0)) I I ?_
      intro g' cap w' ho hb
      refine⟨⟨⟨_,_,rfl⟩,_,_,rfl,?_⟩,(aD.of_below hb).mono fun b h=>⟨rfl,h⟩⟩
      rw[EW,HV.out]
      exact ho
     refine aC (fun K hK=>?_)
     refine .inl ?_
     apply Exists.intro
     refine⟨cX,?_,hK _ _ _ _ ?_⟩
     .simp only[bJ,bM]
      rintro _ ⟨A2,c2,rfl⟩ _ ⟨g2,rfl⟩
      refine⟨rfl,fun w9 Gq _=>?_⟩
      go_simp
      exact aE
     clear hK K
     refine aN ?_
     refine aZ ?_
     rintro _ ⟨A2,c2,rfl⟩ _ ⟨g2,rfl⟩ w9 Gq hmet
     obtain⟨w0,k0,k1,A8,c8,Rr,hown⟩:=hmet.2.1 rfl
     cases Rr
     have Nn:=aH (AA hown k1 (fun b h=>dN h J))
     have Ie:aY w9 (w,1) 131 C:=(Gq.block _ Ig (by show¬(w.heap.size+2<=w+1);omega)).trans Oc
     have Up:Hid (aY w9 w 131 (tz 0)):=aH ((Gq.block _ Nw.lt (by show¬(w.heap.size+2<=w);omega)).trans Nw)
     have Ir:=aH (Lu.trans (Gq.below Lu.size (fun b hb h=>by omega)))
     have l9:=(Ie.cell 1).trans Nf.list
     have f9:=Ie.frozen 1
     have Jk:=aH Ie
     clear hmet hown k0 k1 Ie l1 f1 c1 ew ev
     go_wp2
     go_roundw
     case rel=>exact⟨k+1,I,aG,aH ⟨_,A2,c2,Jk.set_ 1 _,Nf.setL A2 (k+1) c2,Nn.far (p:=⟨w+1,1,none⟩) (by show w.heap.size+1<w+2;omega) _⟩,
      aH (Up.far (p:=⟨w+1,1,none⟩) (by simp) _),aH (Ir.setCell (p:=⟨w+1,1,none⟩) (by show w.heap.size<=w+1;omega) _)⟩
     case measure=>simp [intOf];omega
    obtain rfl:k=n0:=I
    have HXS:Hid (zW z k=zL z):=aH (by unfold zL;rw[HN.out];rfl)
    have HNN:Hid ((z 0).toNat=k):=aH (by rw[HN.out];rfl)
    have Ng:Hid (fI wr A' k c' (zL z)):=aH (by
     have h5:=HO'.out
     rw[HXS.out]at h5
     exact fI.of_own h5 (fun i=>by
      rw[<-HXS.out]
      by_cases hi:i<k
      .rw[pA z _ i hi]
       have a1:=Iu.out (i+1) I
       have a2:=H.bd (i+1) I
       omega
      rw[List.getElem?_eq_none (by rw[qT];omega)]
      decide))
    have Jp:Hid ((prog.info? 131).map (·.size)=some C.size):=by show _=_;rw[jT,Nf.size]
    have Rz:=aH (kM Nf)
    have l1:=(Oc.cell 1).trans Nf.list
    clear Hd Hc Vs Hv
    cases e
    case' false=>
     have e4:=HE4.out
     have Hf:=Oc
     have Ky:=Nw
     have Ht:=Lu
     have Oo:=Qz
     have Xk:=Ng
     have Uq:Hid (kind=4->iJ (zL z)=true):=aH (fun h=>by simp [h]at e4)
     clear l1
    case' true=>
     have e4:=HE4.out
     obtain⟨r,hr⟩:=aP (iJ (zL z))
     have HR:=aH hr
     clear hr
     go_wp2_with fail
     refine(uK A' k c' (zL z) _ Ng I).mono ?_
     rintro e W2 ⟨rfl,Gt⟩
     rw[HR.out]
     have Hf:=aH (Oc.below Gt Oc.lt)
     have Ky:=Lib.hid (Nw.below Gt Nw.lt)
     have Ht:=Lib.hid (Lu.trans (Gt.mono Lu.size))
     have Oo:=Lib.hid (Qz.below Gt)
     have Xk:=Lib.hid (Ng.below Gt)
     clear Gt l1
     cases r
     case' false=>
      obtain rfl:b=false:=by
       rw[Bool.eq_false_iff]
       intro ht
       have h9:=(HB.out.1 ht).2 (by simpa using e4)
       rw[HR.out]at h9
       cases h9
      go_wp2_with (first
       |(refine wpList_load_row rfl 131 _ rfl (w.heap.size+1) rfl 131 C (0,0) _ Hf underlying131 rfl Jp ?_)
       |(refine wpList_store_row rfl 131 _ _ rfl w.heap.size C rfl rfl 131 (tz 0) Ky Jp (by rw[Nf.size];rfl) Rz ?_))
      refine bodyPost_ret (bR results169 _ _ w.heap.size 131 C _ _ rfl rfl (aY.setRow Ky C) underlying131 rfl Jp) rfl ⟨aL Ht (Nat.le_refl _) _,C,Nf.size,Rz.out,rfl,fun h=>Bool.noConfusion h⟩
     case' true=>have Uq:Hid (kind=4->iJ (zL z)=true):=Lib.hid (fun _=>HR.out)
    all_goals
     go_wp2_with fail
     refine bK 5 bN [] (by kernel_rfl) (by kernel_rfl) ?_
     iterate 2
      refine aR ?_;constructor
      .intro w9 Gq _
       exact bT 131 _ rfl (w.heap.size+1) rfl 131 C _ (Hf.below Gq.same Hf.lt) underlying131 rfl Jp aE
     refine bC LO (XB (iT k (zL z))) ⟨_,0,rfl⟩ ?_ ?_
     .intro w9 Gq _
      go_simp
      go_at_call 85
      refine(wN _ kind A' k c' (zL z) (fun _=>0) 0 _ Nf (Xk.below Gq.same) (by omega) (fun i hi=>by rw[<-HXS.out,pA z _ i hi];exact(H.bd (i+1) (by omega)).1) (by have:=Mt.out;omega) (by have:=Mt.out;omega)).mono ?_
      rintro e Qw ⟨g,D,rfl,Gs,hu,hg,hbl⟩
      exact⟨_,rfl,⟨⟨g,rfl⟩,⟨g,D,rfl,Gs,hu⟩⟩,aD.of_same hbl⟩
     refine aC (fun K hK=>?_)
     refine .inl ?_
     apply Exists.intro
     refine⟨cX,?_,hK _ _ _ _ ?_⟩
     .simp only[bJ,bM]
      rintro _ ⟨g,rfl⟩
      refine⟨rfl,fun w9 Gq _=>?_⟩
      go_simp
      exact aE
     clear hK K
     refine aN ?_
     refine bB (.bool b) cX ?_ ?_
     .rintro _ ⟨g,rfl⟩
      refine⟨rfl,fun w9 Gq hmet=>?_⟩
      obtain⟨w0,k0,k1,g',D,hv,hblk,hu⟩:=(hmet.2.1 (by kernel_rfl)).out
      cases hv
      go_simp
      go_at_call 170
      refine(tQ _ _ 17 17 17 _ (iT k (zL z)) z _ (by simpa using qY.of_blk (n:=17) (c:=17) (o:=0) (hblk.below k1 hblk.lt) hu (by omega) (by omega) (by omega)) (Oo.below Gq.same)).mono ?_
      rintro e Qw ⟨b',rfl,hb',hbl⟩
      obtain rfl:b'=b:=by
       rw[Bool.eq_iff_iff,hb',HB.out]
       exact⟨fun h=>⟨(xV Iu (fun i hi=>(H.bd i hi).1) HNN (by omega)).1 h.2,Uq.out⟩,fun h=>⟨rfl,(xV Iu (fun i hi=>(H.bd i hi).1) HNN (by omega)).2 h.1⟩⟩
      exact⟨_,rfl,⟨rfl,trivial⟩,aD.of_same hbl⟩
     refine aZ ?_
     rintro _ ⟨g9,rfl⟩ w9 Gq hmet
     clear hmet
     have Jk:=Lib.hid (Ky.below Gq.same Ky.lt)
     have Ir:=Lib.hid ((Ht.out).trans (Gq.same.mono (Ht.out).size))
     simp only[List.drop_succ_cons,List.drop_zero]
     go_wp2_with (refine wpList_store_row rfl 131 _ _ rfl w.heap.size C rfl rfl 131 (tz 0) Jk Jp (by rw[Nf.size];rfl) Rz ?_)
     refine bodyPost_ret (bR results169 _ _ w.heap.size 131 C _ _ rfl rfl (aY.setRow Jk C) underlying131 rfl Jp) rfl ⟨aL Ir (Nat.le_refl _) _,C,Nf.size,Rz.out,rfl,fun _=>by
      rw[HNN.out]
      exact⟨A',c',Nf.out,(Xk.below Gq.same).setRow (fun hn a ha=>by have:=HO'.lt' hn a ha;omega) _,fun hn a ha=>by have:=HO'.lt' hn a ha;omega⟩⟩
  have d6:decide (6<(n0:Int))=true:=by simp;omega
  obtain rfl:b=false:=by
   rw[Bool.eq_false_iff]
   intro ht
   have h9:=((HB.out.1 ht).1).1
   rw[HN.out]at h9
   omega
  go_wp2_with (first
   |(refine wpList_load_row rfl 131 _ rfl (w.heap.size+1) rfl 131 (tz kind) (0,0) _ Hc underlying131 rfl HI ?_)
   |(refine wpList_store_row rfl 131 _ _ rfl w.heap.size (tz kind) rfl rfl 131 (tz 0) Hd HI rfl HO ?_))
  refine bodyPost_ret (bR results169 _ _ w.heap.size 131 (tz kind) _ _ rfl rfl (aY.setRow Hd (tz kind)) underlying131 rfl HI) rfl ⟨aL Vs (Nat.le_refl _) _,(tz kind),HT.size,HO.out,rfl,fun h=>Bool.noConfusion h⟩
end
section
def jE(kind:Int)(z:Nat->Int)(C:Array Value)(w:World):Prop:=
 if kind=5 then lD C 5 none 0 0 z 0 else if kind=6 then lD C 6 none 0 0 (fun _=>0) (z 0)else∃A c,lD C kind A (z 0).toNat c (fun _=>0) 0/\fI w A (z 0).toNat c (zL z)
theorem jE.below{kind:Int}{z:Nat->Int}{C:Array Value}{w w':World}(h:jE kind z C w)(hb:Below w w w'):jE kind z C w':=by
 unfold jE at h⊢
 split
 .rename_i e;rwa [iP e]at h
 rename_i e
 rw[iN e]at h
 split
 .rename_i e6;rwa [iP e6]at h
 rename_i e6
 rw[iN e6]at h
 obtain⟨A,c,h1,h2⟩:=h
 exact⟨A,c,h1,h2.below hb⟩
theorem jE.size{kind:Int}{z:Nat->Int}{C:Array Value}{w:World}(h:jE kind z C w):C.size=19:=by
 unfold jE at h
 split at h
 .exact lD.size h
 split at h
 .exact lD.size h
 obtain⟨A,c,h1,h2⟩:=h;exact h1.size
theorem jE.kind_{kind:Int}{z:Nat->Int}{C:Array Value}{w:World}(h:jE kind z C w):C[0]? =some (.int .i64 kind):=by
 unfold jE at h
 split at h
 .rename_i e;rw[e];exact lD.kind_ h
 split at h
 .rename_i e;rw[e];exact lD.kind_ h
 obtain⟨A,c,h1,h2⟩:=h;exact h1.kind_
def iS(G:Nat)(kind:Int)(z:Nat->Int)(C:Array Value)(w:World):Prop:=
 if kind=5 then lD C 5 none 0 0 z 0 else if kind=6 then lD C 6 none 0 0 (fun _=>0) (z 0)else∃A c,lD C kind A (z 0).toNat c (fun _=>0) 0/\kC w G A (z 0).toNat c (zL z)
theorem iS.weak{G:Nat}{kind:Int}{z:Nat->Int}{C:Array Value}{w:World}(h:iS G kind z C w):jE kind z C w:=by
 unfold iS at h
 unfold jE
 split
 .rename_i e;rwa [iP e]at h
 rename_i e
 rw[iN e]at h
 split
 .rename_i e6;rwa [iP e6]at h
 rename_i e6
 rw[iN e6]at h
 obtain⟨A,c,h1,h2⟩:=h
 exact⟨A,c,h1,h2.sli⟩
theorem iS.keeps{G:Nat}{kind:Int}{z:Nat->Int}{C:Array Value}{w w':World}{S:Nat->Prop}(h:iS G kind z C w)(hk:aD S w w')(hS:∀b,G<=b->¬S b):iS G kind z C w':=by
 unfold iS at h⊢
 split
 .rename_i e;rwa [iP e]at h
 rename_i e
 rw[iN e]at h
 split
 .rename_i e6;rwa [iP e6]at h
 rename_i e6
 rw[iN e6]at h
 obtain⟨A,c,h1,h2⟩:=h
 exact⟨A,c,h1,h2.of_keeps hk hS⟩
theorem iS.mono{G G':Nat}{kind:Int}{z:Nat->Int}{C:Array Value}{w:World}(h:iS G kind z C w)(hG:G'<=G):iS G' kind z C w:=by
 unfold iS at h⊢
 split
 .rename_i e;rwa [iP e]at h
 rename_i e
 rw[iN e]at h
 split
 .rename_i e6;rwa [iP e6]at h
 rename_i e6
 rw[iN e6]at h
 obtain⟨A,c,h1,h2⟩:=h
 exact⟨A,c,h1,h2.mono hG⟩
theorem NS(A:Option Addr)(c:Nat)(z:Nat->Int)(kind:Int)(b:Bool)(w:World)(h:qY w A 17 c z)(hb:b=true↔cK kind z):
 Calls prog 169 #[kind,.slice A 17 c] w (pR b (iS w kind z) w):=by
 unfold cK at hb
 by_cases h5:kind=5
 .subst h5
  rw[iP rfl]at hb
  exact(ED A c z b w h hb).mono fun e w' ⟨hB,C,a1,a2,a3,a4⟩=>⟨hB,C,a1,a2,a3,fun ht=>by unfold iS;rw[iP rfl];exact a4 ht⟩
 rw[iN h5]at hb
 by_cases h6:kind=6
 .subst h6
  rw[iP rfl]at hb
  exact(DI A c z b w h hb).mono fun e w' ⟨hB,C,a1,a2,a3,a4⟩=>⟨hB,C,a1,a2,a3,fun ht=>by unfold iS;rw[iN aJ,iP rfl];exact a4 ht⟩
 rw[iN h6]at hb
 by_cases hk:1<=kind/\kind<=4
 .have hb':b=true↔gW z/\(kind=4->iJ (zL z)=true):=by
   by_cases h4:kind=4
   .rw[iP h4]at hb
    exact hb.trans ⟨fun h=>⟨h.1,fun _=>h.2⟩,fun h=>⟨h.1,h.2 h4⟩⟩
   rw[iN h4]at hb
   exact hb.trans ⟨fun h=>⟨h.2.2,fun q=>absurd q h4⟩,fun h=>⟨I,I,h.1⟩⟩
  exact(VA A c z kind I b w h hb').mono fun e w' ⟨hB,C,a1,a2,a3,a4⟩=>⟨hB,C,a1,a2,a3,fun ht=>by unfold iS;rw[iN h5,iN h6];exact a4 ht⟩
 obtain rfl:b=false:=by
  rw[Bool.eq_false_iff]
  intro ht
  have:=hb.1 ht
  rw[iN I]at this
  exact hk ⟨this.1,I⟩
 exact(GZ A c z kind w h I).mono fun e w' ⟨hB,C,a1,a2,a3,a4⟩=>⟨hB,C,a1,a2,a3,fun ht=>Bool.noConfusion ht⟩
theorem jR(C:Array Value)(z:Nat->Int)(kind:Int)(r:Bool)(w:World)(h:cH C 17 z)(hr:r=true↔cK kind z):
 Calls prog 140 #[kind,.agg C] w fun e w'=>e=.returned r/\Below w w w':=by
 unfold cK at hr
 have fit:∀{P:Prop} {e:Ending} {w':World},(r=true↔P)->(∃b,e=.returned (.bool b)/\(b=true↔P)/\Below w.heap.size w w')->e=.returned (.bool r)/\Below w.heap.size w w':=by
  rintro P e w' hP ⟨b,rfl,hb,hB⟩
  obtain rfl:b=r:=by rw[Bool.eq_iff_iff,hb,hP]
  exact⟨rfl,hB⟩
 by_cases h5:kind=5
 .subst h5
  rw[iP rfl]at hr
  exact(EF C z w h).mono fun e w' h'=>fit hr h'
 rw[iN h5]at hr
 by_cases h6:kind=6
 .subst h6
  rw[iP rfl]at hr
  exact DW C z r w h hr
 rw[iN h6]at hr
 by_cases h4:kind=4
 .subst h4
  rw[iP rfl]at hr
  exact(GH C z w h).mono fun e w' h'=>fit hr h'
 rw[iN h4]at hr
 by_cases hk:1<=kind/\kind<=3
 .have hr':=hr.trans ⟨fun h=>h.2.2,fun h=>⟨hk.1,hk.2,h⟩⟩
  exact(GV C z kind w h I).mono fun e w' h'=>fit hr' h'
 obtain rfl:r=false:=by
  rw[Bool.eq_false_iff]
  intro ht
  have:=hr.1 ht
  exact hk ⟨this.1,this.2.1⟩
 exact GJ C kind w I
theorem MJ(C:Array Value)(z:Nat->Int)(kind:Int)(w:World)(hw:∀i,i<17->0<=z i)(hz:cK kind z)(h:jE kind z C w):
 Calls prog 85 #[.agg C] w (oK z w):=by
 have fit:∀{y:Nat->Int} {e:Ending} {w':World},(∀i,i<17->y i=z i)->oK y w e w'->oK z w e w':=by
  rintro y e w' hy ⟨g,D,a1,a2,a3,a4,a5⟩
  exact⟨g,D,a1,a2,a3.congr (fun i hi=>(hy i hi).symm),a4,a5⟩
 unfold cK jE at*
 by_cases h5:kind=5
 .subst h5
  rw[iP rfl]at hz h
  have hn:=zR hw hz
  exact(vC C none 0 0 z 0 w h (fun i hi=>by have:=hn i I;have:=hw i I;omega)).mono fun e w' h'=>fit ((uE hn hw hz.2.2).2 hz) h'
 rw[iN h5]at hz h
 by_cases h6:kind=6
 .subst h6
  rw[iP rfl]at hz h
  have h1:=hz.1
  have h0:=hw 0 I
  exact(uY C none 0 0 (fun _=>0) (z 0) w h I).mono fun e w' h'=>fit (fun i hi=>(hz.2 i hi).symm) h'
 rw[iN h6]at hz h
 obtain⟨A,c,hT,hS⟩:=h
 have hl:gW z:=by
  by_cases h4:kind=4
  .rw[iP h4]at hz;exact hz.1
  rw[iN h4]at hz;exact hz.2.2
 have hn:=CV hw hl
 have h0:=hl.1
 have Ub:=hw 0 I
 exact(wN C kind A (z 0).toNat c (zL z) (fun _=>0) 0 w hT hS I (fun i hi=>by unfold zL;rw[pA _ _ _ hi];exact hw (i+1) I) h5 h6).mono fun e w' h'=>fit ((xV hn hw rfl I).2 hl) h'
end
section
attribute [local go_sem↓] Go.wp_at_zero Go.wp_at_succ
theorem SW:(prog.info? 25).map (·.size)=some 32:=J
theorem Du(x:Int)(h0:0<=x)(h1:x<18446744073709551616):
 ∃(f:Bool) (cc vv:Int),yI x=f/\∀w:World,Calls prog 99 #[[x]] w fun e w'=>e=.returned (.tuple #[.agg #[cc,vv],gS (jN f 3)])/\Below w w w':=by
 obtain⟨n,rfl⟩:=Int.eq_ofNat_of_zero_le h0
 refine⟨_,_,_,?_,fun w=>sN n (n/4294967296) (n%4294967296) w I rfl rfl⟩
 unfold yI
 rw[show(n:Int)/4294967296=((n/4294967296:Nat):Int) by omega,show(n:Int)%4294967296=((n%4294967296:Nat):Int) by omega]
theorem nC(C:Array Value)(z:Nat->Int)(r:Bool)(w:World)(h:cH C 32 z)(hr:r=false)(p:Bool)(hp:p=true↔cK (dH z) (oz z))(hc:p=false\/p=true/\16<=z 26\/p=true/\z 26<16/\1099511627776<z 28\/p=true/\z 26<16/\z 28<=1099511627776/\1099511627776<z 27):
 Calls prog 128 #[.agg C] w fun e w'=>e=.returned r/\Below w w w':=by
 obtain⟨D,hD⟩:∃D,D=C.extract 1 18:=⟨_,rfl⟩
 have Sm:cH D 17 (oz z):=by rw[hD];exact h.cut 1 17 aJ
 have Hl:Hid ((prog.info? 25).map (·.size)=some C.size):=by show _=_;rw[SW,h.size]
 have hK:∀W:World,Calls prog 141 #[.agg C] W fun e w'=>e=.returned (dH z)/\Below W W w':=fun W=>sH C z W h
 have hO:∀W:World,Calls prog 142 #[.agg C] W fun e w'=>e=.returned (.agg D)/\Below W W w':=fun W=>oT C D z W h hD
 have hT:∀W:World,Calls prog 140 #[(dH z),.agg D] W fun e w'=>e=.returned p/\Below W W w':=fun W=>jR D (oz z) (dH z) p W Sm hp
 have HK:=aH hK
 have HO:=aH hO
 have HT:=aH hT
 have Sa:=h.bd 28 I
 have Vu:=h.bd 27 I
 have b26:=h.bd 26 I
 have HC:=aH h
 have Jl:aY (w.alloc (.cells C 25)) w 25 C:=aY.new _ _ _
 have c28:=(Jl.cell 28).trans (h.get 28 I)
 have c27:=(Jl.cell 27).trans (h.get 27 I)
 have Xl:=(Jl.cell 26).trans (h.get 26 I)
 subst hr
 generalize Sn:z 28=n at c28 Sa hc
 generalize So:z 27=v at c27 Vu hc
 generalize Sp:z 26=g at Xl b26 hc
 have HN:=aH Sn
 have HV:=aH So
 have HG:=aH Sp
 have Hd:=aH Jl
 have Zi:Below w w (w.alloc (.cells C 25)):=by go_grown
 have hlt:w<(w.alloc (.cells C 25)).heap.size:=by simp
 clear h Jl hD hK hO hT Sn So Sp Sm hp
 rcases hc with rfl|⟨rfl,s0⟩|⟨rfl,s0,s1⟩|⟨rfl,s0,s1,s2⟩
 all_goals
  try have s26:¬g/16=0:=I
  try have s26:g/16=0:=I
  try have d28:decide (1099511627776<n)=true:=by simp;omega
  try have d28:decide (1099511627776<n)=false:=by simp;omega
  try have d27:decide (1099511627776<v)=true:=by simp;omega
  go_enter func128,ntmps128
  go_wp2_with fail
  generalize w.alloc (.cells C 25)=W0 at*
  refine bK 21 bN [] J J ?_
  iterate 21
   refine aC (fun K hK=>?_)
   first
   |(refine .inl ?_
     apply Exists.intro
     refine⟨cX,?_,hK _ _ _ _ ?_⟩
     .simp only[bJ,bM]
      refine⟨?_,fun w9 Gq _=>?_⟩
      .first|rfl|(go_simp;done)
      obtain⟨Gy,Gz⟩:=Gq.all
      first
      |(exact bT 25 _ rfl w rfl 25 C _ (Hd.out.below Gq.same Hd.out.lt) underlying25 rfl Hl.out ⟨⟨rfl,trivial⟩,aD.refl _ _⟩)
      |(go_simp
        first
        |exact⟨⟨rfl,trivial⟩,aD.refl _ _⟩
        |(go_at_call 141;exact bS (HK.out _))|(go_at_call 142;exact bS (HO.out _))|(go_at_call 140;exact bS (HT.out _)))
     clear hK K
     try simp only[Act.put,List.setIfInBounds_toArray,List.set_cons_zero,List.set_cons_succ])
   |(refine .inr (.inl ⟨?_,hK _ _ _ _ ?_⟩)
     .simp only[bM]
      first|rfl|(go_simp;done)
     clear hK K
     try simp only[Act.put,List.setIfInBounds_toArray,List.set_cons_zero,List.set_cons_succ])
  refine cP ?_
  simp only[bM]
  intro w9 Gq _
  obtain⟨Gy,Gz⟩:=Gq.all
  simp only[List.drop_succ_cons,List.drop_zero,List.drop_nil]
  go_wp2
  go_ret
  exact⟨rfl,Zi.trans (Gq.same.mono Zi.size)⟩
theorem AH(C:Array Value)(z:Nat->Int)(r:Bool)(w:World)(h:cH C 32 z)(hr:r=true↔eE z)(hd:FM z):
 Calls prog 128 #[.agg C] w fun e w'=>e=.returned r/\Below w w w':=by
 obtain⟨D,hD⟩:=aO (C.extract 1 18)
 have Sm:cH D 17 (oz z):=by rw[hD];exact h.cut 1 17 aJ
 have Hl:Hid ((prog.info? 25).map (·.size)=some C.size):=by show _=_;rw[SW,h.size]
 have hK:∀W:World,Calls prog 141 #[.agg C] W fun e w'=>e=.returned (dH z)/\Below W W w':=fun W=>sH C z W h
 have hO:∀W:World,Calls prog 142 #[.agg C] W fun e w'=>e=.returned (.agg D)/\Below W W w':=fun W=>oT C D z W h hD
 have hT:∀W:World,Calls prog 140 #[(dH z),.agg D] W fun e w'=>e=.returned true/\Below W W w':=fun W=>jR D (oz z) (dH z) true W Sm ⟨fun _=>hd.1,fun _=>rfl⟩
 have HK:=aH hK
 have HO:=aH hO
 have HT:=aH hT
 have Sa:=h.bd 28 I
 have Vu:=h.bd 27 I
 have b26:=h.bd 26 I
 have HC:=aH h
 have Jl:aY (w.alloc (.cells C 25)) w 25 C:=aY.new _ _ _
 have c28:=(Jl.cell 28).trans (h.get 28 I)
 have c27:=(Jl.cell 27).trans (h.get 27 I)
 have Xl:=(Jl.cell 26).trans (h.get 26 I)
 have H28:=hd.2.2.1
 have H27:=hd.2.2.2
 have H26:=hd.2.1
 have HR:=aH hr
 have HHD:=aH hd
 clear hr hd
 generalize Sn:z 28=n at c28 Sa H28
 generalize So:z 27=v at c27 Vu H27
 generalize Sp:z 26=g at Xl b26 H26
 have HN:=aH Sn
 have HV:=aH So
 have HG:=aH Sp
 have Hd:=aH Jl
 have Zi:Below w w (w.alloc (.cells C 25)):=by go_grown
 have hlt:w<(w.alloc (.cells C 25)).heap.size:=by simp
 clear h Jl hD hK hO hT Sn So Sp Sm
 have s26:g/16=0:=I
 have d28:decide (1099511627776<n)=false:=by simp;omega
 have d27:decide (1099511627776<v)=false:=by simp;omega
 go_enter func128,ntmps128
 go_wp2_with fail
 generalize w.alloc (.cells C 25)=W0 at*
 refine aA 21 ?_
 iterate 21
  first
  |(refine aR1 ?_;constructor
    .intro w9 Gq Gy Gz
     first
     |(exact bT 25 _ rfl w rfl 25 C _ (Hd.below Gq.same Hd.lt) underlying25 rfl Hl aE)
     |(go_simp
       first
       |exact aE
       |(go_at_call 141;exact bS (HK.out _))|(go_at_call 142;exact bS (HO.out _))|(go_at_call 140;exact bS (HT.out _))))
  |refine aU ?_
 refine bZ ?_
 intro w9 Gq Gy Gz
 simp only[List.drop_succ_cons,List.drop_zero,List.drop_nil]
 clear Xl c27 c28 s26 d27 d28
 have Vv:=aH (Zi.trans (Gq.same.mono Zi.size))
 have Jk:=Hd.below Gq.same Hd.lt
 clear Gy Gz Gq Hd Zi hlt
 have Hd:=aH Jk
 have hlt:=Jk.lt
 clear Jk
 go_wp2
 go_loopw [35] (fun i wr=>∃k:Nat,k<=4/\i=.int .i64 k/\Below w9 w9 wr/\Hid (∀t,t<k->pV z t)) (fun i _=>4-(intOf i).toNat)
 case atStart=>exact⟨0,I,rfl,Below.refl _ _,aH fun t ht=>absurd ht I⟩
 case round=>
  obtain⟨k,hk,rfl,hb,hall⟩:=hrel
  have Qa:w.heap.size<wr:=by have:=hb.size;omega
  have HBw:=aH (Hd.below hb hlt)
  by_cases Jf:k<4
  .have q1:(k:Int)<4:=I
   have Im:=HC.bd (18+k) I
   have Jq:=HC.bd (22+k) I
   have cx:wr.cell? (w.heap.size,18+k)=[z (18+k)]:=(HBw.cell _).trans (HC.get _ I)
   have cy:wr.cell? (w.heap.size,22+k)=[z (22+k)]:=(HBw.cell _).trans (HC.get _ I)
   obtain⟨f,cc,vv,hfw,htold⟩:=Du (z (18+k)) Im.1 Im.2
   have hta:BL z k↔((f=true\/z (18+k)=0)/\z (22+k)<=n/\(z (18+k)=0↔z (22+k)=0)):=by
    unfold BL
    rw[hfw,HN.out]
   generalize hxe:z (18+k)=x at*
   generalize hye:z (22+k)=y at*
   have HXU:=aH hxe
   have Xm:=aH hye
   have Pa:=aH hta
   have HTD:=aH htold
   have Hw:=Jf
   clear hxe hye hta htold hfw
   have e18:IntKind.i64.wrap (18+(k:Int))=((18+k:Nat):Int):=by rw[IntWalk.i64_in _ I];omega
   have e22:IntKind.i64.wrap (22+(k:Int))=((22+k:Nat):Int):=by rw[IntWalk.i64_in _ I];omega
   have f18:((18+k:Nat):Int)<32:=I
   have f22:((22+k:Nat):Int)<32:=I
   generalize hs:18+k=s at*
   generalize hu:22+k=u at*
   go_wp2
   go_quiet (fail)
   clear cx cy e18 e22 f18 f22
   have HS18:=aH hs
   have Ur:=aH hu
   clear hs hu
   go_wp2_with fail
   refine(HTD.out _).mono ?_
   rintro e w1 ⟨rfl,Gs⟩
   have HBX:=aH (hb.trans (((cZ (Below.refl _ wr) _).trans Gs).mono hb.size))
   have hzw:=HBX.size
   have Ir:=aH Vv
   have Hf:Hid (Below w w (w1.alloc (.cells #[cc,vv] 44))):=aH ((Vv.trans (HBX.mono Vv.size)).alloc (by have:=Vv.size;omega) _)
   have Hi:Hid (Below w9 w9 (w1.alloc (.cells #[cc,vv] 44))):=aH (HBX.alloc hzw _)
   clear hb Gs
   cases f
   .rw[show gS (jN false 3)=.iface 53 (3:Int) by simp [jN,gS]]
    by_cases Iy:x=0
    .have dx:(x==0)=true:=by simpa using Iy
     have dx2:(x !=0)=false:=by simpa using Iy
     have Ip:=aH Iy
     clear Iy
     by_cases Hx:y=0
     .have dy:(y==0)=true:=by simpa using Hx
      have Xn:(y !=0)=false:=by simpa using Hx
      have Jm:=aH Hx
      have dc:decide (n<y)=false:=by simp;omega
      clear Hx
      go_wp2
      clear Hf
      go_loopw [70] (fun j wq=>∃m:Nat,m<=k/\j=.int .i64 m/\Below w9 w9 wq/\Hid (∀u,u<m->y≠0->z (22+u)≠y)) (fun j _=>k-(intOf j).toNat)
      case atStart=>exact⟨0,I,rfl,Hi.out,aH fun u hu=>absurd hu I⟩
      case round=>
       rename World=>wq
       obtain⟨m,hm,rfl,hbq,hallq⟩:=hrel
       by_cases hmk:m<k
       .have q2:(m:Int)<k:=I
        go_wp2
        go_roundw
        case rel=>exact⟨m+1,I,aG,hbq,aH fun u hu h=>absurd Jm h⟩
        case measure=>simp [intOf];omega
       obtain rfl:m=k:=I
       go_wp2
       go_roundw
       case rel=>exact⟨m+1,I,aG,hbq,aH fun t ht=>by
        rcases Nat.lt_or_ge t m with h1|h1
        .exact hall t h1
        obtain rfl:t=m:=I
        refine⟨Pa.out.2 (by have:=Ip.out;have:=Jm.out;simp;first|omega|(have:=Mc.out;omega)),fun u hu=>?_⟩
        rw[Ur.out,Xm.out]
        exact hallq u hu⟩
       case measure=>simp [intOf];omega
     have dy:(y==0)=false:=by simpa using Hx
     have Xn:(y !=0)=true:=by simpa using Hx
     have Jm:=aH Hx
     clear Hx
     by_cases hc:y<=n
     .have dc:decide (n<y)=false:=by simp;omega
      have Mc:=aH hc
      clear hc
      go_wp2
      obtain rfl:r=false:=by
       rw[Bool.eq_false_iff]
       intro ht
       obtain⟨Mx,Rs,Zz⟩:=Pa.out.1 ((HR.out.1 ht).2.1 k Hw).1
       try simp at Mx
       have a1:=Ip.out
       first|omega|(have a2:=Jm.out;first|omega|(have a3:=Mc.out;omega))
      go_ret
      exact⟨rfl,Hf.out⟩
     have dc:decide (n<y)=true:=by simp;omega
     have Mc:=aH hc
     clear hc
     go_wp2
     obtain rfl:r=false:=by
      rw[Bool.eq_false_iff]
      intro ht
      obtain⟨Mx,Rs,Zz⟩:=Pa.out.1 ((HR.out.1 ht).2.1 k Hw).1
      try simp at Mx
      have a1:=Ip.out
      first|omega|(have a2:=Jm.out;first|omega|(have a3:=Mc.out;omega))
     go_ret
     exact⟨rfl,Hf.out⟩
    have dx:(x==0)=false:=by simpa using Iy
    have dx2:(x !=0)=true:=by simpa using Iy
    have Ip:=aH Iy
    clear Iy
    go_wp2
    obtain rfl:r=false:=by
     rw[Bool.eq_false_iff]
     intro ht
     obtain⟨Mx,Rs,Zz⟩:=Pa.out.1 ((HR.out.1 ht).2.1 k Hw).1
     try simp at Mx
     have a1:=Ip.out
     first|omega|(have a2:=Jm.out;first|omega|(have a3:=Mc.out;omega))
    go_ret
    exact⟨rfl,Hf.out⟩
   rw[show gS (jN true 3)=.nilIface by simp [jN,gS]]
   by_cases Iy:x=0
   .have dx:(x==0)=true:=by simpa using Iy
    have dx2:(x !=0)=false:=by simpa using Iy
    have Ip:=aH Iy
    clear Iy
    by_cases Hx:y=0
    .have dy:(y==0)=true:=by simpa using Hx
     have Xn:(y !=0)=false:=by simpa using Hx
     have Jm:=aH Hx
     have dc:decide (n<y)=false:=by simp;omega
     clear Hx
     go_wp2
     clear Hf
     go_loopw [70] (fun j wq=>∃m:Nat,m<=k/\j=.int .i64 m/\Below w9 w9 wq/\Hid (∀u,u<m->y≠0->z (22+u)≠y)) (fun j _=>k-(intOf j).toNat)
     case atStart=>exact⟨0,I,rfl,Hi.out,aH fun u hu=>absurd hu I⟩
     case round=>
      rename World=>wq
      obtain⟨m,hm,rfl,hbq,hallq⟩:=hrel
      by_cases hmk:m<k
      .have q2:(m:Int)<k:=I
       go_wp2
       go_roundw
       case rel=>exact⟨m+1,I,aG,hbq,aH fun u hu h=>absurd Jm h⟩
       case measure=>simp [intOf];omega
      obtain rfl:m=k:=I
      go_wp2
      go_roundw
      case rel=>exact⟨m+1,I,aG,hbq,aH fun t ht=>by
       rcases Nat.lt_or_ge t m with h1|h1
       .exact hall t h1
       obtain rfl:t=m:=I
       refine⟨Pa.out.2 (by have:=Ip.out;have:=Jm.out;simp;first|omega|(have:=Mc.out;omega)),fun u hu=>?_⟩
       rw[Ur.out,Xm.out]
       exact hallq u hu⟩
      case measure=>simp [intOf];omega
    have dy:(y==0)=false:=by simpa using Hx
    have Xn:(y !=0)=true:=by simpa using Hx
    have Jm:=aH Hx
    clear Hx
    by_cases hc:y<=n
    .have dc:decide (n<y)=false:=by simp;omega
     have Mc:=aH hc
     clear hc
     go_wp2
     obtain rfl:r=false:=by
      rw[Bool.eq_false_iff]
      intro ht
      obtain⟨Mx,Rs,Zz⟩:=Pa.out.1 ((HR.out.1 ht).2.1 k Hw).1
      try simp at Mx
      have a1:=Ip.out
      first|omega|(have a2:=Jm.out;first|omega|(have a3:=Mc.out;omega))
     go_ret
     exact⟨rfl,Hf.out⟩
    have dc:decide (n<y)=true:=by simp;omega
    have Mc:=aH hc
    clear hc
    go_wp2
    obtain rfl:r=false:=by
     rw[Bool.eq_false_iff]
     intro ht
     obtain⟨Mx,Rs,Zz⟩:=Pa.out.1 ((HR.out.1 ht).2.1 k Hw).1
     try simp at Mx
     have a1:=Ip.out
     first|omega|(have a2:=Jm.out;first|omega|(have a3:=Mc.out;omega))
    go_ret
    exact⟨rfl,Hf.out⟩
   have dx:(x==0)=false:=by simpa using Iy
   have dx2:(x !=0)=true:=by simpa using Iy
   have Ip:=aH Iy
   clear Iy
   by_cases Hx:y=0
   .have dy:(y==0)=true:=by simpa using Hx
    have Xn:(y !=0)=false:=by simpa using Hx
    have Jm:=aH Hx
    have dc:decide (n<y)=false:=by simp;omega
    clear Hx
    go_wp2
    obtain rfl:r=false:=by
     rw[Bool.eq_false_iff]
     intro ht
     obtain⟨Mx,Rs,Zz⟩:=Pa.out.1 ((HR.out.1 ht).2.1 k Hw).1
     try simp at Mx
     have a1:=Ip.out
     first|omega|(have a2:=Jm.out;first|omega|(have a3:=Mc.out;omega))
    go_ret
    exact⟨rfl,Hf.out⟩
   have dy:(y==0)=false:=by simpa using Hx
   have Xn:(y !=0)=true:=by simpa using Hx
   have Jm:=aH Hx
   clear Hx
   by_cases hc:y<=n
   .have dc:decide (n<y)=false:=by simp;omega
    have Mc:=aH hc
    clear hc
    go_wp2
    clear Hf
    go_loopw [70] (fun j wq=>∃m:Nat,m<=k/\j=.int .i64 m/\Below w9 w9 wq/\Hid (∀u,u<m->y≠0->z (22+u)≠y)) (fun j _=>k-(intOf j).toNat)
    case atStart=>exact⟨0,I,rfl,Hi.out,aH fun u hu=>absurd hu I⟩
    case round=>
     rename World=>wq
     obtain⟨m,hm,rfl,hbq,hallq⟩:=hrel
     by_cases hmk:m<k
     .have q2:(m:Int)<k:=I
      have cz:wq.cell? (w.heap.size,22+m)=[z (22+m)]:=((Hd.below hbq hlt).cell _).trans (HC.get _ I)
      have f4:(m:Int)<4:=I
      have em:IntKind.i64.wrap (22+(m:Int))=((22+m:Nat):Int):=by rw[IntWalk.i64_in _ I];omega
      generalize Kx:z (22+m)=v9 at cz
      have HV9:=aH Kx
      clear Kx
      by_cases hvy:v9=y
      .have d9:(v9==y)=true:=by simpa using hvy
       have HVY:=aH hvy
       clear hvy
       go_wp2
       obtain rfl:r=false:=by
        rw[Bool.eq_false_iff]
        intro ht
        have h9:=((HR.out.1 ht).2.1 k Hw).2 m hmk
        rw[Ur.out,Xm.out,HV9.out]at h9
        exact h9 Jm HVY
       go_ret
       exact⟨rfl,Ir.trans (hbq.mono Ir.size)⟩
      have d9:(v9==y)=false:=by simpa using hvy
      have HVY:=aH hvy
      clear hvy
      go_wp2
      go_roundw
      case rel=>exact⟨m+1,I,aG,hbq,aH fun u hu h=>by
       rcases Nat.lt_or_ge u m with h1|h1
       .exact hallq u h1 h
       obtain rfl:u=m:=I
       rw[HV9.out];exact HVY⟩
      case measure=>simp [intOf];omega
     obtain rfl:m=k:=I
     go_wp2
     go_roundw
     case rel=>exact⟨m+1,I,aG,hbq,aH fun t ht=>by
      rcases Nat.lt_or_ge t m with h1|h1
      .exact hall t h1
      obtain rfl:t=m:=I
      refine⟨Pa.out.2 (by have:=Ip.out;have:=Jm.out;simp;first|omega|(have:=Mc.out;omega)),fun u hu=>?_⟩
      rw[Ur.out,Xm.out]
      exact hallq u hu⟩
     case measure=>simp [intOf];omega
   have dc:decide (n<y)=true:=by simp;omega
   have Mc:=aH hc
   clear hc
   go_wp2
   obtain rfl:r=false:=by
    rw[Bool.eq_false_iff]
    intro ht
    obtain⟨Mx,Rs,Zz⟩:=Pa.out.1 ((HR.out.1 ht).2.1 k Hw).1
    try simp at Mx
    have a1:=Ip.out
    first|omega|(have a2:=Jm.out;first|omega|(have a3:=Mc.out;omega))
   go_ret
   exact⟨rfl,Hf.out⟩
  obtain rfl:k=4:=I
  have Iu:=aH hall
  have HBL:=aH hb
  clear hall hb
  go_wp2
  go_loop [87] (fun i=>∃m:Nat,m<=3/\i=.int .i64 m/\Hid (∀u,u<m->z (29+u)=0)) (fun i=>3-(intOf i).toNat)
  case atStart=>exact⟨0,I,rfl,aH fun u hu=>absurd hu I⟩
  case round=>
   obtain⟨m,hm,rfl,hzs⟩:=hrel
   by_cases hm3:m<3
   .have q3:(m:Int)<3:=I
    have cz:wr.cell? (w.heap.size,29+m)=[z (29+m)]:=(HBw.cell _).trans (HC.get _ I)
    generalize Kx:z (29+m)=v9 at cz
    have HV9:=aH Kx
    clear Kx
    by_cases h0:v9=0
    .have d9:(v9 !=0)=false:=by simpa using h0
     have HH0:=aH h0
     clear h0
     go_wp2
     go_round
     case rel=>exact⟨m+1,I,aG,aH fun u hu=>by
      rcases Nat.lt_or_ge u m with h1|h1
      .exact hzs u h1
      obtain rfl:u=m:=I
      rw[HV9.out];exact HH0⟩
     case measure=>simp [intOf];omega
    have d9:(v9 !=0)=true:=by simpa using h0
    have HH0:=aH h0
    clear h0
    go_wp2
    obtain rfl:r=false:=by
     rw[Bool.eq_false_iff]
     intro ht
     obtain⟨_,_,h29,h30,Qi⟩:=HR.out.1 ht
     have h9:=HV9.out
     have h8:=HH0.out
     have:m=0\/m=1\/m=2:=I
     rcases this with rfl|rfl|rfl
     .exact h8 (h9.symm.trans h29)
     .exact h8 (h9.symm.trans h30)
     exact h8 (h9.symm.trans Qi)
    go_ret
    exact⟨rfl,Vv.trans (HBL.mono Vv.size)⟩
   obtain rfl:m=3:=I
   go_wp2
   obtain rfl:r=true:=HR.out.2 ⟨HHD.out,Iu.out,hzs.out 0 I,hzs.out 1 I,hzs.out 2 I⟩
   go_ret
   exact⟨rfl,Vv.trans (HBL.mono Vv.size)⟩
theorem lP(C:Array Value)(z:Nat->Int)(r:Bool)(w:World)(h:cH C 32 z)(hr:r=true↔eE z):
 Calls prog 128 #[.agg C] w fun e w'=>e=.returned r/\Below w w w':=by
 have no:¬FM z->r=false:=fun hn=>by
  rw[Bool.eq_false_iff]
  intro ht
  exact hn (hr.1 ht).1
 by_cases h1:cK (dH z) (oz z)
 .by_cases h2:z 26<16
  .by_cases h3:z 28<=1099511627776
   .by_cases h4:z 27<=1099511627776
    .exact AH C z r w h hr ⟨h1,h2,h3,h4⟩
    exact nC C z r w h (no fun hh=>h4 hh.2.2.2) true (by simp [h1]) (by simp;omega)
   exact nC C z r w h (no fun hh=>h3 hh.2.2.1) true (by simp [h1]) (by simp;omega)
  exact nC C z r w h (no fun hh=>h2 hh.2.1) true (by simp [h1]) (by simp;omega)
 exact nC C z r w h (no fun hh=>h1 hh.1) false (by simp [h1]) (.inl rfl)
end
end Go.Proofs.YtplpimkgihnmhaaGreatDoor
