/-
  Part of a proof: ObjD. For all values.
-/
import Derived.Test.YtplpimkgihnmhaaGreatDoorA14
set_option maxRecDepth 100000
set_option maxHeartbeats 4000000
set_option linter.all false
namespace Go.Proofs.YtplpimkgihnmhaaGreatDoor
open Go.Proofs.Tryz Go.RowKit
section
open Go.Maps
attribute [local go_sem↓] Go.wp_at_zero Go.wp_at_succ
theorem eN{a k v:Int}:cB a k v=true↔gQ a k v:=by unfold cB gQ;rw[decide_eq_true_iff]
theorem jZ(a k v:Int)(w:World):Calls prog 158 #[.agg #[a,k,v]] w fun e w'=>e=.returned (cB a k v)/\Below w w w':=by
 go_enter func158,ntmps158
 go_wp2
 all_goals(go_ret;refine⟨dF ?_,by go_grown⟩;simp [cB];try omega)
theorem kP{P:Program}{fn:Func}{p q r:Tmp}{ty tz:TypeId}(h:fn.results= #[.cell p ty,.cell q tz,.tmp r])(tmps:Array Value)(w:World)(g g':Nat)(t t':TypeId)(cs cs':Array Value)(d d':TypeDesc)(v:Value)
 (hp:tmps.getD p undef=.pointer (some ⟨g,0,none⟩)) (hq:tmps.getD q undef=.pointer (some ⟨g',0,none⟩)) (hr:tmps.getD r undef=v) (hg:aY w g t cs) (hg':aY w g' t' cs')
 (hu:P.underlying ty=some d) (hd:(match d with|.struct _|.array _ _=>true|_=>false)=true) (hi:(P.info? ty).map (·.size)=some cs.size)
 (hu':P.underlying tz=some d') (hd':(match d' with|.struct _|.array _ _=>true|_=>false)=true) (hi':(P.info? tz).map (·.size)=some cs'.size):
 (results fn tmps).run P w=.ok (.tuple #[.agg cs,.agg cs',v]) w:=by
 have hp':tmps[p]?.getD undef=.pointer (some ⟨g,0,none⟩):=by simpa using hp
 have hq':tmps[q]?.getD undef=.pointer (some ⟨g',0,none⟩):=by simpa using hq
 have hr':tmps[r]?.getD undef=v:=by simpa using hr
 simp [results,h,hp',hq',hr',asAddr,run_loadVar_row w g t ty cs (0,0) d hg hu hd hi,run_loadVar_row w g' t' tz cs' (0,0) d' hg' hu' hd' hi']
theorem FJ(A:Option Addr)(n c:Nat)(xs:List Int)(w:World)(hl:fI w A n c xs)(hn:n<=16)(hx:∀i:Nat,i<n->0<=xs[i]?.getD 0)(D:Array Value)(hD:cH D 17 (iT n xs)):
 Calls prog 165 #[.slice A n c] w fun e w'=>e=.returned (.agg D)/\Below w w w':=by
 have HD:=aH hD
 have HX:=aH hx
 have HL:=aH hl
 have hw:(n:Int)%18446744073709551616=n:=I
 have Hr:0<=(n:Int):=I
 have HS:=Lib.hid hD.size
 clear hx hl hD
 have HU0:Hid (cH (#[.int .u64 0,.int .u64 0,.int .u64 0,.int .u64 0,.int .u64 0,.int .u64 0,.int .u64 0,.int .u64 0,.int .u64 0,.int .u64 0,.int .u64 0,.int .u64 0,.int .u64 0,.int .u64 0,.int .u64 0,.int .u64 0,.int .u64 0].setIfInBounds 0 (.int .u64 n)) 17 (tE n 0 xs)):=Lib.hid (((show cH #[.int .u64 0,.int .u64 0,.int .u64 0,.int .u64 0,.int .u64 0,.int .u64 0,.int .u64 0,.int .u64 0,.int .u64 0,.int .u64 0,.int .u64 0,.int .u64 0,.int .u64 0,.int .u64 0,.int .u64 0,.int .u64 0,.int .u64 0] 17 (fun _=>0)from cH.zero 17).set_ (k:=0) (v:=n) (by omega)).congr (fun i hi=>by
  unfold tE
  by_cases h0:i=0
  .rw[iP h0,iP h0]
  rw[iN h0,iN h0,iN (by omega)]))
 go_enter func165,ntmps165
 go_wp2_with (refine wpList_store_row rfl 252 _ _ rfl (w.heap.size+1) (#[.int .u64 0,.int .u64 0,.int .u64 0,.int .u64 0,.int .u64 0,.int .u64 0,.int .u64 0,.int .u64 0,.int .u64 0,.int .u64 0,.int .u64 0,.int .u64 0,.int .u64 0,.int .u64 0,.int .u64 0,.int .u64 0,.int .u64 0].setIfInBounds 0 (.int .u64 n)) rfl ?hy 252 #[.int .u64 0,.int .u64 0,.int .u64 0,.int .u64 0,.int .u64 0,.int .u64 0,.int .u64 0,.int .u64 0,.int .u64 0,.int .u64 0,.int .u64 0,.int .u64 0,.int .u64 0,.int .u64 0,.int .u64 0,.int .u64 0,.int .u64 0] ?hg ?hi rfl ?h1 ?_)
 case hy=>kernel_rfl
 case hg=>exact aY.newAt _ _ _ (by simp)
 case hi=>rw[gT,HU0.size]
 case h1=>exact HU0.one
 go_wp2
 go_loopw [12] (fun i wr=>∃k:Nat,k<=n/\i=.int .i64 k/\Hid (∃E,aY wr (w,1) 252 E/\cH E 17 (tE n k xs))/\Hid (aY wr w 252 (17:Nat))/\Below w w wr) (fun i _=>n-(intOf i).toNat)
 case atStart=>exact⟨0,by omega,rfl,Lib.hid ⟨_,aY.setRow (aY.newAt _ _ _ (by simp)) _,HU0.out⟩,Lib.hid ((setRow_other _ _ _ _ (by omega)).trans ((aY.new _ _ _).alloc _)),aL (by go_grown) (by omega) _⟩
 case round=>
  obtain⟨k,hk,rfl,hE,hR,hb⟩:=hrel
  obtain⟨E,hblk,hU⟩:=hE.out
  clear hE
  have HU:=Lib.hid hU
  have Vq:=Lib.hid hblk
  clear hU hblk
  have hbz:=hb.size
  by_cases hkn:k<n
  .obtain⟨b,off,rfl,hblt,hcell⟩:=HL.at_ (by omega)
   have hc:=(hb.cell (p:=⟨b,off+k,none⟩) hblt).trans (hcell k hkn)
   clear hcell
   have Xg:=HL.bd k
   have Ua:=HX.out k hkn
   have hq:wr.cell? ⟨w.heap.size+1,k+1,none⟩=some (.int .u64 (tE n k xs (k+1))):=by rw[Vq.cell,HU.get (k+1) (by omega)]
   have hf:=Vq.frozen (k+1)
   have q1:(k:Int)<n:=I
   have q2:(k:Int)+1<17:=I
   generalize hv:xs[k]?.getD 0=v at hc Xg Ua
   have HV:=aH hv
   clear hv
   have Zg:v%18446744073709551616=v:=I
   go_wp2
   go_roundw
   case rel=>exact⟨k+1,I,aG,aH ⟨_,Vq.set_ (k+1) _,(HU.set_ (k:=k+1) (v:=v) I).congr (fun i hi=>by
    have hv:=HV.out
    unfold tE
    by_cases h0:i=k+1
    .subst h0
     rw[iP rfl,iN (by omega),iP (by omega),Nat.add_sub_cancel,hv]
    rw[iN h0]
    by_cases h1:i=0
    .rw[iP h1,iP h1]
    rw[iN h1,iN h1]
    by_cases h2:i<=k
    .rw[iP h2,iP (by omega)]
    rw[iN h2,iN (by omega)])⟩,Lib.hid (hR.far (by simp) _),hb.setCell (by show w.heap.size<=w.heap.size+1;omega) _⟩
   case measure=>simp [intOf];omega
  obtain rfl:k=n:=by omega
  have hED:=HU.ext HD
  subst hED
  have hD1:=HD.one
  go_wp2_with (first
   |(refine wpList_load_row rfl 252 _ rfl (w.heap.size+1) rfl 252 E (0,0) _ Vq underlying252 rfl (by rw[gT,HS.out]) ?_)
   |(refine wpList_store_row rfl 252 _ _ rfl w.heap.size E rfl rfl 252 #[.int .u64 0,.int .u64 0,.int .u64 0,.int .u64 0,.int .u64 0,.int .u64 0,.int .u64 0,.int .u64 0,.int .u64 0,.int .u64 0,.int .u64 0,.int .u64 0,.int .u64 0,.int .u64 0,.int .u64 0,.int .u64 0,.int .u64 0] hR (by rw[gT,HS.out]) (by rw[HS.out];rfl) hD1 ?_))
  refine bodyPost_ret (results_cell_row results165 _ _ w.heap.size 252 E (0,0) _ rfl (hR.setRow E) underlying252 rfl (by rw[gT,HS.out])) rfl ⟨rfl,aL hb (Nat.le_refl _) _⟩
theorem iG{H:Type}{P:Program}(w:World){ops:Array Oper}{rest:List Oper}{o:Oper}{a:Act}{Q:Exit->Act->World->Prop}
 (hg:o.guard=none) (m x v:Operand) (t:TypeId) (hop:o.op=Op.insert t m x v)
 (k e:TypeId) (K:Keyed P k) (ht:P.underlying t=some (.map k e)) (R:Value->Option (DataW H×List MemPlace)) (b n:Nat) (D:DataW H)
 (hm:a.eval m=.map (some b)) (hown:w.ownsMap P k R b n D) (hn:n<maxLen) (key val:Value) (kl:Lit) (hx:a.eval x=key) (hv:a.eval v=val) (hkey:keyOf P k key=some kl)
 (d:DataW H) (ps:List MemPlace) (hval:R val=some (d,ps))
 (hK:∀w',w'.ownsMap P k R b (n+1) (D.put kl d)->w.grownBy w' (some b)->wpList P ops Q rest (a.put o.dst undef) w'):
 wpList P ops Q (o::rest) a w:=by
 refine wpList_plain hg fun K' Yx=>?_
 obtain⟨w',hrun,r1,r2⟩:=hown.update K ht hn hkey hval
 unfold Oper.wp
 simp [execOp,hop,hm,hx,hv,hrun,Result.andThen]
 exact Yx _ _ (hK w' r1 r2)
def Ad(v:Value):Option (DataW Unit×List MemPlace):=
 match v with
 |.func (.func f) a b=>if a.size=0/\b.size=0 then some (.lit (.int .i64 f),[])else none
 |.nilFunc=>some (.lit (.bool false),[])
 |_=>none
theorem YY{v:Value}{f:Nat}{ps:List MemPlace}(h:Ad v=some (.lit (.int .i64 f),ps)):v=.func (.func f) #[] #[]:=by
 unfold Ad at h
 split at h
 .rename_i f' a b
  by_cases e:a.size=0/\b.size=0
  .rw[iP e]at h
   obtain⟨e1,e2⟩:=e
   obtain rfl:=Array.eq_empty_of_size_eq_zero e1
   obtain rfl:=Array.eq_empty_of_size_eq_zero e2
   simp at h
   have e:f'=f:=Int.ofNat.inj h.1
   rw[e]
  rw[iN e]at h
  cases h
 .simp at h
 cases h
theorem UP:Keyed prog 3:=int_keyed underlying3
theorem JW:(prog.info? 39).map (·.size)=some 3:=J
structure lS (w W:World) (C:Array Value) (a k v:Int):Prop where
 words:aY W w 252 C
 op:aY W (w,1) 39 #[a,k,v]
 res:aY W (w,2) 252 (17:Nat)
 ans:aY W (w,3) 44 (2:Int)
 below:Below w w W
theorem lS.mk_(w:World)(C:Array Value)(a k v:Int):
 lS w ((((w.alloc (.cells C 252)).alloc (.cells #[a,k,v] 39)).alloc (.cells (17:Nat) 252)).alloc (.cells (2:Int) 44)) C a k v:=
 ⟨(((aY.new _ _ _).alloc _).alloc _).alloc _,(((aY.newAt _ _ _ (by simp))).alloc _).alloc _,(((aY.newAt _ _ _ (by simp)))).alloc _,aY.newAt _ _ _ (by simp),by go_grown⟩
section
variable{w W W':World}{C:Array Value}{a k v:Int}
theorem lS.on(h:lS w W C a k v)(hb:Below W W W'):lS w W' C a k v:=
 ⟨h.words.below hb h.words.lt,h.op.below hb h.op.lt,h.res.below hb h.res.lt,h.ans.below hb h.ans.lt,h.below.trans (hb.mono h.below.size)⟩
theorem lS.lt(h:lS w W C a k v):w.heap.size+3<W:=h.ans.lt
theorem lS.alloc(h:lS w W C a k v)(o:Obj):lS w (W.alloc o) C a k v:=h.on (Below.alloc (Below.refl _ _) (Nat.le_refl _) o)
theorem lS.cell(h:lS w W C a k v){p:Addr}(hp:w+3<p.block)(u:Value):lS w (W.setCell p u) C a k v:=
 ⟨h.words.far I u,h.op.far I u,h.res.far I u,h.ans.far I u,h.below.setCell I u⟩
theorem lS.row(h:lS w W C a k v){g:Nat}(hp:w+3<g)(cs:Array Value):lS w (W.setRow g cs) C a k v:=
 ⟨(setRow_other _ _ _ _ I).trans h.words,(setRow_other _ _ _ _ I).trans h.op,(setRow_other _ _ _ _ I).trans h.res,(setRow_other _ _ _ _ I).trans h.ans,aL h.below I cs⟩
theorem aY.far_row{w:World}{g g':Nat}{t:TypeId}{cs:Array Value}(h:aY w g t cs)(hg:g≠g')(r:Array Value):aY (w.setRow g' r) g t cs:=(setRow_other _ _ _ _ hg).trans h
theorem lS.drew(h:lS w W C a k v):lS w W.drew C a k v:=⟨h.words,h.op,h.res,h.ans,h.below.drew⟩
end
theorem oQ{B b:Nat}{w w':World}(hg:w.grownBy w' (some b))(hb:B<=b)(hs:B<=w):Below B w w':=
 ⟨hg.os,hg.tape,hg.output,hg.size,fun i hi=>hg.block i I (by simp;omega)⟩
theorem UG(C:Array Value)(z:Nat->Int)(kind a k v:Int)(w:World)(h:cH C 17 z)(Zh:cB a k v=false):
 Calls prog 143 #[kind,.agg C,.agg #[a,k,v]] w fun e w'=>e=.returned (.tuple #[.agg (17:Nat),.agg (2:Int),.iface 53 (1:Int)])/\Below w w w':=by
 have Hl:Hid ((prog.info? 252).map (·.size)=some C.size):=by show _=_;rw[gT,h.size]
 have HC:=aH h
 have Id:=aH (lS.mk_ w C a k v)
 have Me:=aH Zh
 clear h Zh
 go_enter func143,ntmps143
 go_wp2_with fail
 refine(jZ a k v _).mono ?_
 rintro e w1 ⟨rfl,Gs⟩
 rw[Me.out]
 have Hc:=Lib.hid (Id.on Gs)
 clear Gs Id
 have HB:=Hc
 clear Hc
 go_wp2_with (first
  |(refine wpList_store_row rfl 252 _ _ rfl (w.heap.size+2) #[.int .u64 0,.int .u64 0,.int .u64 0,.int .u64 0,.int .u64 0,.int .u64 0,.int .u64 0,.int .u64 0,.int .u64 0,.int .u64 0,.int .u64 0,.int .u64 0,.int .u64 0,.int .u64 0,.int .u64 0,.int .u64 0,.int .u64 0] rfl rfl 252 #[.int .u64 0,.int .u64 0,.int .u64 0,.int .u64 0,.int .u64 0,.int .u64 0,.int .u64 0,.int .u64 0,.int .u64 0,.int .u64 0,.int .u64 0,.int .u64 0,.int .u64 0,.int .u64 0,.int .u64 0,.int .u64 0,.int .u64 0] HB.res gT rfl (by kernel_rfl) ?_)
  |(refine wpList_store_row rfl 44 _ _ rfl (w.heap.size+3) #[.int .i64 0,.int .i64 0] rfl rfl 44 #[.int .i64 0,.int .i64 0] ((setRow_other _ _ _ _ (by omega)).trans HB.ans) eU rfl (jH 0 0) ?_))
 refine bodyPost_ret (kP results143 _ _ (w.heap.size+2) (w.heap.size+3) 252 44 #[.int .u64 0,.int .u64 0,.int .u64 0,.int .u64 0,.int .u64 0,.int .u64 0,.int .u64 0,.int .u64 0,.int .u64 0,.int .u64 0,.int .u64 0,.int .u64 0,.int .u64 0,.int .u64 0,.int .u64 0,.int .u64 0,.int .u64 0] #[.int .i64 0,.int .i64 0] _ _ (.iface 53 (.int .i64 1)) rfl rfl rfl ((setRow_other _ _ _ _ (by omega)).trans (aY.setRow HB.res _)) (aY.setRow ((setRow_other _ _ _ _ (by omega)).trans HB.ans) _) underlying252 rfl gT underlying44 rfl eU) rfl ⟨rfl,aL (aL HB.below (by omega) _) (by omega) _⟩
theorem DX(C D:Array Value)(z:Nat->Int)(a k v:Int)(w:World)(h:cH C 17 z)(ho:gQ a k v)(hz:cK 6 z)(hD:cH D 17 (fun i=>if i=0 then iU (z 0) a v else 0)):
 Calls prog 143 #[(6:Int),.agg C,.agg #[a,k,v]] w fun e w'=>e=.returned (.tuple #[.agg D,.agg #[(kZ (z 0) a v),(lI (z 0) a v)],.nilIface])/\Below w w w':=by
 have Hl:Hid ((prog.info? 252).map (·.size)=some C.size):=by show _=_;rw[gT,h.size]
 have HC:=aH h
 have Id:=aH (lS.mk_ w C a k v)
 have Me:=Lib.hid (eN.2 ho)
 have HR:=Lib.hid hz
 have Lo:=Lib.hid hD.size
 have Sw:=Lib.hid hD.one
 have HD:=Lib.hid hD
 have Oa:Hid ((prog.info? 252).map (·.size)=some D.size):=by show _=_;rw[gT,hD.size]
 have h0:=h.bd 0 (by omega)
 have h1:z 0<=4294967295:=by
  unfold cK at hz
  rw[iN (by decide),iP rfl]at hz
  exact hz.1
 have hnn:0<=iU (z 0) a v/\iU (z 0) a v<=4294967295:=(EK (a:=a) (n:=z 0) (v:=v) ⟨h0.1,h1⟩ ⟨ho.2.2.2.2.1,ho.2.2.2.2.2⟩).1
 have c0:=h.get 0 (by omega)
 have Hn:Hid (∀W:World,Calls prog 160 #[.int .i64 (z 0),.agg #[.int .i64 a,.int .i64 k,.int .i64 v]] W fun e w'=>e=.returned (.tuple #[.int .i64 (iU (z 0) a v),.agg #[.int .i64 (kZ (z 0) a v),.int .i64 (lI (z 0) a v)]])/\Below W.heap.size W w'):=Lib.hid fun W=>MW (z 0) a k v W h0.1 h1 ho.2.2.2.2.1 ho.2.2.2.2.2
 clear h hz ho hD
 generalize iU (z 0) a v=nn at*
 generalize kZ (z 0) a v=co at*
 generalize lI (z 0) a v=va at*
 generalize Ib:z 0=z0 at c0 h0 h1 Hn
 have Uo:=Lib.hid Ib
 clear Ib
 have ew:nn%18446744073709551616=nn:=by omega
 have ez:IntKind.i64.wrap z0=z0:=IntWalk.i64_in _ (by omega)
 go_enter func143,ntmps143
 go_wp2_with fail
 refine(jZ a k v _).mono ?_
 rintro e w1 ⟨rfl,Gs⟩
 rw[Me.out]
 have Hc:=Lib.hid (Id.on Gs)
 clear Gs Id
 go_wp2_with (refine eM rfl 252 _ rfl w.heap.size rfl 252 C (0,0) _ Hc.words underlying252 rfl Hl.out ?_)
 refine(jR C z 6 true _ HC.out ⟨fun _=>HR.out,fun _=>rfl⟩).mono ?_
 rintro e w2 ⟨rfl,Gt⟩
 have HB:=Lib.hid (Hc.on Gt)
 clear Gt Hc
 have s0:=(HB.words.cell 0).trans c0
 clear c0
 go_wp2_with (refine wpList_load_row rfl 39 _ rfl (w.heap.size+1) rfl 39 #[.int .i64 a,.int .i64 k,.int .i64 v] (0,0) _ HB.op underlying39 rfl JW ?_)
 refine(Hn.out _).mono ?_
 rintro e w3 ⟨rfl,He⟩
 have Hi:=Lib.hid (HB.on He)
 clear He s0
 have Ho:=Lib.hid (Hi.alloc (.cells #[.int .i64 co,.int .i64 va] 44))
 have Lw:=Lib.hid (aY.new w3 44 #[.int .i64 co,.int .i64 va])
 have HG:=Lib.hid Hi.lt
 have hde:=HD.ext ((show cH #[.int .u64 0,.int .u64 0,.int .u64 0,.int .u64 0,.int .u64 0,.int .u64 0,.int .u64 0,.int .u64 0,.int .u64 0,.int .u64 0,.int .u64 0,.int .u64 0,.int .u64 0,.int .u64 0,.int .u64 0,.int .u64 0,.int .u64 0] 17 (fun _=>0)from cH.zero 17).set_ (k:=0) (v:=nn) (by omega))
 go_wp2_with fail
 generalize hG:w3.heap.size=G at*
 generalize w3.alloc (.cells #[.int .i64 co,.int .i64 va] 44)=W3 at*
 subst hde
 refine dQ 5 (fun b=>b=w.heap.size+2) [4] (by kernel_rfl) (by kernel_rfl) ?_
 intro anc Wr
 refine aR ?_;constructor
 .intro w9 Gq _
  go_simp
  first
  |exact aE
 refine bA (.int .u64 nn) cX ?_ ?_
 .intro w9 Gq _
  go_simp
  first
  |exact aE
  |(rw[ew];exact aE)
  |(refine⟨⟨?_,trivial⟩,aD.refl _ _⟩;exact congrArg _ ew)
  |(refine⟨⟨?_,trivial⟩,aD.refl _ _⟩;exact congrArg _ (IntWalk.u64_in _ (by omega)))
 refine aR ?_;constructor
 .intro w9 Gq _
  go_simp
  first
  |exact aE
 refine bA (.agg #[.int .i64 co,.int .i64 va]) cX ?_ ?_
 .intro w9 Gq _
  exact bT 44 _ rfl G rfl 44 #[.int .i64 co,.int .i64 va] _ ((Gq.block _ Lw.lt (by show¬G=w.heap.size+2;have:=HG.out;omega)).trans Lw.out) underlying44 rfl eU aE
 refine bA undef (fun _ w'=>aY w' (w.heap.size+2) 252 (#[.int .u64 0,.int .u64 0,.int .u64 0,.int .u64 0,.int .u64 0,.int .u64 0,.int .u64 0,.int .u64 0,.int .u64 0,.int .u64 0,.int .u64 0,.int .u64 0,.int .u64 0,.int .u64 0,.int .u64 0,.int .u64 0,.int .u64 0].setIfInBounds 0 (.int .u64 nn))) ?_ ?_
 .intro w9 Gq hmet
  have Ie:aY w9 (w.heap.size+2) 252 #[.int .u64 0,.int .u64 0,.int .u64 0,.int .u64 0,.int .u64 0,.int .u64 0,.int .u64 0,.int .u64 0,.int .u64 0,.int .u64 0,.int .u64 0,.int .u64 0,.int .u64 0,.int .u64 0,.int .u64 0,.int .u64 0,.int .u64 0]:=(hmet.1.block _ Ho.res.lt (fun h=>dN h (by rw[Wr.out];kernel_rfl))).trans Ho.res
  refine dS 252 _ _ rfl (w.heap.size+2) (#[.int .u64 0,.int .u64 0,.int .u64 0,.int .u64 0,.int .u64 0,.int .u64 0,.int .u64 0,.int .u64 0,.int .u64 0,.int .u64 0,.int .u64 0,.int .u64 0,.int .u64 0,.int .u64 0,.int .u64 0,.int .u64 0,.int .u64 0].setIfInBounds 0 (.int .u64 nn)) rfl ?_ 252 #[.int .u64 0,.int .u64 0,.int .u64 0,.int .u64 0,.int .u64 0,.int .u64 0,.int .u64 0,.int .u64 0,.int .u64 0,.int .u64 0,.int .u64 0,.int .u64 0,.int .u64 0,.int .u64 0,.int .u64 0,.int .u64 0,.int .u64 0] Ie Oa.out (by rw[Lo.out];rfl) Sw.out ⟨⟨rfl,Ie.setRow (#[.int .u64 0,.int .u64 0,.int .u64 0,.int .u64 0,.int .u64 0,.int .u64 0,.int .u64 0,.int .u64 0,.int .u64 0,.int .u64 0,.int .u64 0,.int .u64 0,.int .u64 0,.int .u64 0,.int .u64 0,.int .u64 0,.int .u64 0].setIfInBounds 0 (.int .u64 nn))⟩,fD (.inl ⟨by decide,rfl⟩) _⟩
  kernel_rfl
 refine aZ ?_
 intro w9 Gq hmet
 have Od:Hid (aY w9 (w.heap.size+2) 252 (#[.int .u64 0,.int .u64 0,.int .u64 0,.int .u64 0,.int .u64 0,.int .u64 0,.int .u64 0,.int .u64 0,.int .u64 0,.int .u64 0,.int .u64 0,.int .u64 0,.int .u64 0,.int .u64 0,.int .u64 0,.int .u64 0,.int .u64 0].setIfInBounds 0 (.int .u64 nn))):=Lib.hid (by
  have h1:=hmet.1 rfl
  obtain⟨w0,k0,k1,hF⟩:=h1
  exact(k1.block _ hF.lt (fun h=>dN h (by rw[Wr.out];kernel_rfl))).trans hF)
 have Pd:Hid (aY w9 (w.heap.size+3) 44 #[.int .i64 0,.int .i64 0]):=Lib.hid ((Gq.block _ Ho.ans.lt (by show¬w.heap.size+3=w.heap.size+2;omega)).trans Ho.ans)
 have Ir:=Lib.hid (Ho.below.trans (Gq.below Ho.below.size (fun b hb e=>by omega)))
 clear hmet Gq
 simp only[List.drop_succ_cons,List.drop_zero]
 go_wp2_with (refine wpList_store_row rfl 44 _ _ rfl (w.heap.size+3) #[.int .i64 co,.int .i64 va] rfl rfl 44 #[.int .i64 0,.int .i64 0] Pd.out eU rfl (jH _ _) ?_)
 have hR:aY (w9.setRow (w.heap.size+3) #[.int .i64 co,.int .i64 va]) (w.heap.size+2) 252 (#[.int .u64 0,.int .u64 0,.int .u64 0,.int .u64 0,.int .u64 0,.int .u64 0,.int .u64 0,.int .u64 0,.int .u64 0,.int .u64 0,.int .u64 0,.int .u64 0,.int .u64 0,.int .u64 0,.int .u64 0,.int .u64 0,.int .u64 0].setIfInBounds 0 (.int .u64 nn)):=(setRow_other _ _ _ _ (by omega)).trans Od.out
 have hA:aY (w9.setRow (w.heap.size+3) #[.int .i64 co,.int .i64 va]) (w.heap.size+3) 44 #[.int .i64 co,.int .i64 va]:=aY.setRow Pd.out _
 refine bodyPost_ret (kP results143 _ _ (w.heap.size+2) (w.heap.size+3) 252 44 (#[.int .u64 0,.int .u64 0,.int .u64 0,.int .u64 0,.int .u64 0,.int .u64 0,.int .u64 0,.int .u64 0,.int .u64 0,.int .u64 0,.int .u64 0,.int .u64 0,.int .u64 0,.int .u64 0,.int .u64 0,.int .u64 0,.int .u64 0].setIfInBounds 0 (.int .u64 nn)) #[.int .i64 co,.int .i64 va] _ _ .nilIface rfl rfl rfl hR hA underlying252 rfl Oa.out underlying44 rfl eU) rfl ⟨rfl,aL Ir.out (by omega) _⟩
theorem CB(C D:Array Value)(z:Nat->Int)(a k v:Int)(w:World)(h:cH C 17 z)(ho:gQ a k v)(hz:cK 5 z)(m:Nat)(hm:tG z a k m)(hD:cH D 17 (eF 8 (fJ z a k v m))):
 Calls prog 143 #[(5:Int),.agg C,.agg #[a,k,v]] w fun e w'=>e=.returned (.tuple #[.agg D,.agg #[(fV z a k),(fX z a k)],.nilIface])/\Below w w w':=by
 have Hl:Hid ((prog.info? 252).map (·.size)=some C.size):=by show _=_;rw[gT,h.size]
 have HC:=aH h
 have Id:=aH (lS.mk_ w C a k v)
 have Me:=aH (eN.2 ho)
 have HR:=aH hz
 have Lo:=aH hD.size
 have Sw:=aH hD.one
 have HD:=aH hD
 have Oa:Hid ((prog.info? 252).map (·.size)=some D.size):=by show _=_;rw[gT,hD.size]
 have hsl:kQ z:=by
  unfold cK at hz
  rwa [iP rfl]at hz
 have hv: -9223372036854775808<=v/\v<=9223372036854775807:=by have:=ho.2.2.2.2;omega
 have hy:=rV hsl.2.2 ho hm
 have bd:∀i,i<16->0<=fJ z a k v m i/\fJ z a k v m i<=4294967295:=fun i hi=>by
  have:=nB hy (k:=i/2) I
  rcases Nat.mod_two_eq_zero_or_one i with e|e
  .rw[show 2*(i/2)=i by omega]at this;omega
  rw[show 2*(i/2)+1=i by omega]at this;omega
 obtain⟨E,hE⟩:=eB.ex (fJ z a k v m) 16 (fun i hi=>by have:=bd i hi;omega)
 have Hn:Hid (∀(S:Array Value) (W:World),eB S 16 z->Calls prog 159 #[.agg S,.agg #[a,k,v]] W fun e w'=>e=.returned (.tuple #[.agg E,.agg #[(fV z a k),(fX z a k)]])/\Below W W w'):=aH fun S W hS=>YE S E z a k v m W hS hsl.2.2 hv hm hE
 have Ng:=aH hsl
 have Ss:=aH bd
 have HE:=aH hE
 have Zj:Hid ((prog.info? 284).map (·.size)=some E.size):=by show _=_;rw[BG,hE.size]
 have Rc:=aH hE.size
 have No:=aH hE.one
 clear h hz ho hD hsl bd hE hm hv hy
 generalize fV z a k=co at*
 generalize fX z a k=va at*
 generalize fJ z a k v m=yy at*
 go_enter func143,ntmps143
 go_wp2_with fail
 refine(jZ a k v _).mono ?_
 rintro e w1 ⟨rfl,Gs⟩
 rw[Me.out]
 have Hc:=aH (Id.on Gs)
 clear Gs Id
 go_wp2_with (refine eM rfl 252 _ rfl w rfl 252 C (0,0) _ Hc.words underlying252 rfl Hl ?_)
 refine(jR C z 5 true _ HC ⟨fun _=>HR.out,fun _=>rfl⟩).mono ?_
 rintro e w2 ⟨rfl,Gt⟩
 have HB:=aH (Hc.on Gt)
 clear Gt Hc
 go_wp2_with (refine wpList_load_row rfl 252 _ rfl w rfl 252 C (0,0) _ HB.words underlying252 rfl Hl ?_)
 refine(zN C z _ HC).mono ?_
 rintro e w3 ⟨He,S,y,b,rfl,hI,hbb,hy⟩
 obtain rfl:b=true:=hbb.2 Ng
 have HI:=aH (hI.congr (fun i hi=>(hy rfl i hi).symm))
 have HIS:Hid ((prog.info? 284).map (·.size)=some S.size):=by show _=_;rw[BG,hI.size]
 have Hv:=aH hI.one
 have Sv:=aH hI.size
 have Hi:=aH (HB.on He)
 clear He hI hbb hy HB
 have HT:=aH ((Hi.alloc (.cells (16:Int) 284)).row Hi.lt S)
 have HTB:=aH (aY.setRow (aY.new w3 284 (16:Int)) S)
 go_wp2_with (first
  |(refine wpList_store_row rfl 284 _ _ rfl w3 S rfl rfl 284 (16:Int) (aY.new _ _ _) HIS (by rw[Sv.out];rfl) Hv ?_)
  |(refine wpList_load_row rfl 284 _ rfl w3 rfl 284 S (0,0) _ HTB underlying284 rfl HIS ?_)
  |(refine wpList_load_row rfl 39 _ rfl (w.heap.size+1) rfl 39 #[.int .i64 a,.int .i64 k,.int .i64 v] (0,0) _ HT.op underlying39 rfl JW ?_))
 refine(Hn.out S _ HI).mono ?_
 rintro e w4 ⟨rfl,Lh⟩
 have hG3:w3.heap.size<w4:=Nat.lt_of_lt_of_le (by simp) Lh.size
 have Kj:=aH (HT.on Lh)
 have Xp:=aH (HTB.below Lh HTB.lt)
 have hG0:=Hi.lt
 clear Lh HT HTB Hi Hn
 have Xq:=aH ((((Kj.alloc (.cells (2:Int) 44)).row (g:=w3) hG0 E).row Kj.lt #[co,va]).alloc (.cells (17:Nat) 252))
 have HTB5:=aH ((aY.far_row (aY.setRow (Xp.alloc (.cells (2:Int) 44)) E) (show w3.heap.size≠w4 by omega) #[co,va]).alloc (.cells (17:Nat) 252))
 have HAN5:=aH ((aY.setRow (aY.far_row (aY.new w4 44 (2:Int)) (show w4.heap.size≠w3 by omega) E) #[co,va]).alloc (.cells (17:Nat) 252))
 have HCE5:Hid (aY ((((w4.alloc (.cells (2:Int) 44)).setRow w3 E).setRow w4 #[co,va]).alloc (.cells (17:Nat) 252)) (w4,1) 252 (17:Nat)):=aH (aY.newAt _ _ _ (by simp [World.setRow]))
 go_wp2_with (first
  |(refine wpList_store_row rfl 284 _ _ rfl w3 E rfl rfl 284 S (Xp.alloc _) Zj (by rw[Sv.out,Rc.out]) No ?_)
  |(refine wpList_store_row rfl 44 _ _ rfl w4 #[co,va] rfl rfl 44 (2:Int) (aY.far_row (aY.new w4 44 (2:Int)) (show w4.heap.size≠w3 by omega) E) eU rfl (jH _ _) ?_)
  |(refine wpList_load_row rfl 284 _ rfl w3 rfl 284 E (0,0) _ HTB5 underlying284 rfl Zj ?_))
 have HE16:=HE
 have HG:Hid (w.heap.size+3<w4):=aH I
 clear HTB5 Xp Kj
 go_loopw [48] (fun i wr=>∃q:Nat,q<=8/\i=.int .i64 q/\Hid (∃F,aY wr (w4,1) 252 F/\cH F 17 (eF q yy))/\Hid (lS w wr C a k v)/\Hid (aY wr w4 44 #[co,va])) (fun i _=>8-(intOf i).toNat)
 case atStart=>exact⟨0,I,rfl,aH ⟨_,HCE5.out,(show cH (17:Nat) 17 (fun _=>0)from cH.zero 17).congr (fun i hi=>by unfold eF;rw[iN I])⟩,Xq,HAN5⟩
 case round=>
  obtain⟨q,hq,rfl,hF,HT,Lw⟩:=hrel
  clear Xq HAN5 HCE5
  by_cases Tz:q<8
  .have b1:(q:Int)<8:=I
   obtain⟨F,hB,hU⟩:=hF.out
   clear hF
   have hix:=mJ HE q Tz
   have hx:=Ss.out (2*q) I
   have hy:=Ss.out (2*q+1) I
   have HK:Hid (∀i,eF (q+1) yy i=if i=2*q+1 then yy (2*q+1)else if i=2*q then yy (2*q)else eF q yy i):=aH fun i=>by
    have:=uF yy q i
    rwa [show q*2=2*q by omega]at this
   generalize hdx:yy (2*q)=x at hx hix HK
   generalize hdy:yy (2*q+1)=y at hy hix HK
   have HDX:=aH hdx
   have HDY:=aH hdy
   clear hdx hdy
   have hwx:x%18446744073709551616=x:=I
   have hwy:y%18446744073709551616=y:=I
   have q0:=(hB.alloc (.cells #[x,y] 282)).cell (2*q)
   rw[hU.get (2*q) I]at q0
   have q1:=(hB.alloc (.cells #[x,y] 282)).cell (2*q+1)
   rw[hU.get (2*q+1) I]at q1
   have f0:=(hB.alloc (.cells #[x,y] 282)).frozen (2*q)
   have f1:=(hB.alloc (.cells #[x,y] 282)).frozen (2*q+1)
   have s0:=(aY.new wr 282 #[x,y]).cell 0
   have s1:=(aY.new wr 282 #[x,y]).cell 1
   simp only[List.getElem?_toArray,List.getElem?_cons_zero,List.getElem?_cons_succ]at s0 s1
   have hlt:=hB.lt
   have hne:w4.heap.size+1≠wr:=I
   have Ki:=aH (hB.alloc (.cells #[x,y] 282))
   have HTT:=aH (HT.alloc (.cells #[x,y] 282))
   have HAA:=aH (Lw.alloc (.cells #[x,y] 282))
   have HUU:=aH hU
   clear hB hU HT Lw
   go_wp2
   generalize wr.alloc (.cells #[.int .i64 x,.int .i64 y] 282)=w5 at*
   generalize wr.heap.size=gs at*
   go_region
   apply_assumption
   go_wp2
   go_roundw
   case rel=>exact⟨q+1,by omega,by go_num,Lib.hid ⟨_,((Ki.set_ (2*q) _).set_ (2*q+1) _).drew,((HUU.set_ (k:=2*q) (v:=x) (by omega)).set_ (k:=2*q+1) (v:=y) (by omega)).congr (fun i hi=>HK.out i)⟩,
    Lib.hid ((HTT.cell (p:=⟨w4.heap.size+1,2*q,none⟩) (by have:=HG.out;show _<w4.heap.size+1;omega) _).cell (p:=⟨w4.heap.size+1,2*q+1,none⟩) (by have:=HG.out;show _<w4.heap.size+1;omega) _).drew,Lib.hid ((HAA.far (p:=⟨w4.heap.size+1,2*q,none⟩) (by simp) _).far (p:=⟨w4.heap.size+1,2*q+1,none⟩) (by simp) _).drew⟩
   case measure=>simp [intOf];omega
  obtain rfl:q=8:=I
  obtain⟨F,hB,hU⟩:=hF.out
  have hFD:=HD.ext hU
  subst hFD
  have Ho:=HT
  have HFB:=aH hB
  clear hB hU hF
  go_wp2_with fail
  generalize hG:w4.heap.size=G at*
  refine dQ 3 (fun b=>b=w+2) [2] J J ?_
  intro anc Wr
  refine bA (.agg D) cX ?_ ?_
  .intro w9 Gq _
   exact bT 252 _ rfl (G+1) rfl 252 D _ ((Gq.block _ HFB.lt (by show¬G+1=w+2;have:=HG.out;omega)).trans HFB) underlying252 rfl Oa aE
  refine bA (.agg #[co,va]) cX ?_ ?_
  .intro w9 Gq _
   exact bT 44 _ rfl G rfl 44 #[co,va] _ ((Gq.block _ Lw.lt (by show¬G=w+2;have:=HG.out;omega)).trans Lw) underlying44 rfl eU aE
  refine bA undef (fun _ w'=>aY w' (w+2) 252 D) ?_ ?_
  .intro w9 Gq hmet
   have Ie:aY w9 (w,2) 252 (17:Nat):=(hmet.1.block _ Ho.res.lt (fun h=>dN h (by rw[Wr.out];kernel_rfl))).trans Ho.res
   refine dS 252 _ _ rfl (w,2) D rfl ?_ 252 (17:Nat) Ie Oa (by rw[Lo.out];rfl) Sw ⟨⟨rfl,Ie.setRow D⟩,fD (.inl ⟨aJ,rfl⟩) _⟩
   kernel_rfl
  refine aZ ?_
  intro w9 Gq hmet
  have Od:Hid (aY w9 (w,2) 252 D):=aH (by
   have h1:=hmet.1 rfl
   obtain⟨w0,k0,k1,hF⟩:=h1
   exact(k1.block _ hF.lt (fun h=>dN h (by rw[Wr.out];kernel_rfl))).trans hF)
  have Pd:Hid (aY w9 (w,3) 44 (2:Int)):=aH ((Gq.block _ Ho.ans.lt (by show¬w.heap.size+3=w+2;omega)).trans Ho.ans)
  have Ir:=Lib.hid (Ho.below.trans (Gq.below Ho.below.size (fun b hb e=>by omega)))
  clear hmet Gq
  simp only[List.drop_succ_cons,List.drop_zero]
  go_wp2_with (refine wpList_store_row rfl 44 _ _ rfl (w.heap.size+3) #[.int .i64 co,.int .i64 va] rfl rfl 44 #[.int .i64 0,.int .i64 0] Pd eU rfl (jH _ _) ?_)
  have hR:aY (w9.setRow (w.heap.size+3) #[.int .i64 co,.int .i64 va]) (w.heap.size+2) 252 D:=(setRow_other _ _ _ _ (by omega)).trans Od
  have hA:aY (w9.setRow (w.heap.size+3) #[.int .i64 co,.int .i64 va]) (w.heap.size+3) 44 #[.int .i64 co,.int .i64 va]:=aY.setRow Pd _
  refine bodyPost_ret (kP results143 _ _ (w.heap.size+2) (w.heap.size+3) 252 44 D #[.int .i64 co,.int .i64 va] _ _ .nilIface rfl rfl rfl hR hA underlying252 rfl Oa underlying44 rfl eU) rfl ⟨rfl,aL Ir (by omega) _⟩
instance {h : Tg 1} : CoeDep (Tg 1) h Nat := ⟨161⟩
instance {h : Tg 2} : CoeDep (Tg 2) h Nat := ⟨162⟩
instance {h : Tg 3} : CoeDep (Tg 3) h Nat := ⟨163⟩
instance {h : Tg 4} : CoeDep (Tg 4) h Nat := ⟨164⟩
theorem ZE(j:Int)(hj:j=1\/j=2\/j=3\/j=4)(C D:Array Value)(z:Nat->Int)(a k v:Int)(w:World)(h:cH C 17 z)(ho:gQ a k v)(hz:cK j z)(hD:cH D 17 (iT (lY j (zL z) a v).length (lY j (zL z) a v))):
 Calls prog 143 #[.int .i64 j,.agg C,.agg #[.int .i64 a,.int .i64 k,.int .i64 v]] w fun e w'=>e=.returned (.tuple #[.agg D,.agg #[.int .i64 (lC j (zL z) a),.int .i64 (lV j (zL z) a)],.nilIface])/\Below w.heap.size w w':=by
 have q:Tg j:=rfl
 rcases hj with rfl|rfl|rfl|rfl
 all_goals
  have Hl:Hid ((prog.info? 252).map (·.size)=some C.size):=by show _=_;rw[gT,h.size]
  have HC:=Lib.hid h
  have Id:=Lib.hid (lS.mk_ w C a k v)
  have Me:=Lib.hid (eN.2 ho)
  have HR:=Lib.hid hz
  have Lo:=Lib.hid hD.size
  have Sw:=Lib.hid hD.one
  have HD:=Lib.hid hD
  have Oa:Hid ((prog.info? 252).map (·.size)=some D.size):=by show _=_;rw[gT,hD.size]
  have hl:gW z:=by
   unfold cK at hz
   simp only[iN (show¬(q:Int)=5 by decide),iN (show¬(q:Int)=6 by decide)]at hz
   first
   |exact hz.1
   |(rw[iN (by decide)]at hz;exact hz.2.2)
  have hv: -9223372036854775808<=v/\v<=9223372036854775807:=by have:=ho.2.2.2.2;omega
  have hw:VU z:=fun i hi=>h.bd i hi
  have hlk:=LT hw hl
  have hy:=LC (kind:=q) hlk ho
  have h0:=hl.1
  have Ub:=hw 0 (by omega)
  have Hn:Hid (∀(A:Option Addr) (c:Nat) (W:World),fI W A (z 0).toNat c (zL z)->Calls prog q #[.slice A (z 0).toNat c,.agg #[.int .i64 a,.int .i64 k,.int .i64 v]] W (fQ (lY q (zL z) a v) (lC q (zL z) a) (lV q (zL z) a) W)):=by
   first
   |exact Lib.hid fun A c W hS=>Cx A _ c _ a k v W hS (by omega) hv
   |exact Lib.hid fun A c W hS=>Ed A _ c _ a k v W hS (by omega) hv
   |exact Lib.hid fun A c W hS=>Cm A _ c _ a k v W hS (by omega) hv
   |exact Lib.hid fun A c W hS=>Eb A _ c _ a k v W hS (by omega) hv
  have Ng:=Lib.hid hl
  have HY:=Lib.hid hy
  have HLK:=Lib.hid hlk
  clear h hz ho hD hl hv hw hy h0 Ub hlk
  generalize lC q (zL z) a=co at*
  generalize lV q (zL z) a=va at*
  generalize lY q (zL z) a v=yy at*
  go_enter func143,ntmps143
  go_wp2_with fail
  refine(jZ a k v _).mono ?_
  rintro e w1 ⟨rfl,Gs⟩
  rw[Me.out]
  have Hc:=Lib.hid (Id.on Gs)
  clear Gs Id
  go_wp2_with (refine eM rfl 252 _ rfl w.heap.size rfl 252 C (0,0) _ Hc.words underlying252 rfl Hl ?_)
  refine(jR C z q true _ HC ⟨fun _=>HR.out,fun _=>rfl⟩).mono ?_
  rintro e w2 ⟨rfl,Gt⟩
  have HB:=Lib.hid (Hc.on Gt)
  clear Gt Hc
  go_wp2_with (refine wpList_load_row rfl 252 _ rfl w.heap.size rfl 252 C (0,0) _ HB.words underlying252 rfl Hl ?_)
  refine(vX C z _ HC).mono ?_
  rintro e w3 ⟨He,hor⟩
  have hlo:∃A c,e=.returned (.tuple #[.slice A (z 0).toNat c,.bool true])/\fI w3 A (z 0).toNat c (zL z):=by
   rcases hor with⟨_,A,c,he,hO⟩|⟨hno,_⟩
   .refine⟨A,c,he,hO.sli (fun i=>?_)⟩
    have:=HLK.num i
    unfold gI BQ zL at this
    exact⟨by have:=this.1;omega,by have:=this.2;omega⟩
   exact absurd Ng hno
  clear hor
  refine Exists.elim hlo (fun A hlo2=>?_)
  refine Exists.elim hlo2 (fun c hlo3=>?_)
  obtain⟨rfl,hs⟩:=hlo3
  clear hlo hlo2
  have HS:=Lib.hid hs
  have Hi:=Lib.hid (HB.on He)
  clear hs He HB
  have hmm:= @run_makeMap prog
  go_wp2_with (refine iG _ rfl _ _ _ 292 rfl 3 291 UP underlying292 Ad w3.heap.size 0 (DataW.map []:DataW Unit) rfl (World.ownsMap_made w3 prog 3 Ad) (by unfold maxLen;omega) _ _ (.int .i64 1) rfl rfl rfl (.lit (.int .i64 161)) [] rfl ?_)
  intro m1 own1 Ws
  have bl1:=((Below.refl w3.heap.size w3).alloc (Nat.le_refl _) (.map #[] 0)).trans (oQ Ws (Nat.le_refl _) (by simp))
  go_wp2_with (refine iG _ rfl _ _ _ 292 rfl 3 291 UP underlying292 Ad w3.heap.size 1 ((DataW.map []:DataW Unit).put (.int .i64 1) (.lit (.int .i64 161))) rfl own1 (by unfold maxLen;omega) _ _ (.int .i64 2) rfl rfl rfl (.lit (.int .i64 162)) [] rfl ?_)
  intro m2 own2 Wt
  have bl2:=bl1.trans (oQ Wt (Nat.le_refl _) bl1.size)
  go_wp2_with (refine iG _ rfl _ _ _ 292 rfl 3 291 UP underlying292 Ad w3.heap.size 2 (((DataW.map []:DataW Unit).put (.int .i64 1) (.lit (.int .i64 161))).put (.int .i64 2) (.lit (.int .i64 162))) rfl own2 (by unfold maxLen;omega) _ _ (.int .i64 3) rfl rfl rfl (.lit (.int .i64 163)) [] rfl ?_)
  intro m3 own3 Wu
  have bl3:=bl2.trans (oQ Wu (Nat.le_refl _) bl2.size)
  go_wp2_with (refine iG _ rfl _ _ _ 292 rfl 3 291 UP underlying292 Ad w3.heap.size 3 ((((DataW.map []:DataW Unit).put (.int .i64 1) (.lit (.int .i64 161))).put (.int .i64 2) (.lit (.int .i64 162))).put (.int .i64 3) (.lit (.int .i64 163))) rfl own3 (by unfold maxLen;omega) _ _ (.int .i64 4) rfl rfl rfl (.lit (.int .i64 164)) [] rfl ?_)
  intro m4 own4 Wv
  have bl4:=bl3.trans (oQ Wv (Nat.le_refl _) bl3.size)
  have hlk:∃ps,(Instr.lookup 292 (.map (some w3.heap.size)) (.int .i64 q) false).run prog m4=.ok (.func (.func q) #[] #[]) m4/\(ps:List MemPlace)=ps:=by
   obtain⟨u,ps,hrun,hu⟩:=own4.lookup UP underlying292 (z:=.nilFunc) (by kernel_rfl) (zd:=.lit (.bool false)) (zp:=[]) rfl (key:=.int .i64 q) (kl:=.int .i64 q) rfl
   rw[YY (f:=q) (ps:=ps) (hu.trans (by kernel_rfl))]at hrun
   exact⟨ps,hrun,rfl⟩
  obtain⟨_,hrun,_⟩:=hlk
  have Ki:=Lib.hid (Hi.on bl4)
  have Uu:=Lib.hid (HS.below bl4)
  clear own1 own2 own3 own4 Ws Wt Wu Wv bl1 bl2 bl3 bl4 Hi HS
  go_wp2_with (refine wpList_load_row rfl 39 _ rfl (w.heap.size+1) rfl 39 #[.int .i64 a,.int .i64 k,.int .i64 v] (0,0) _ Ki.op underlying39 rfl JW ?_)
  refine(Hn.out A c _ Uu).mono ?_
  rintro e w6 ⟨A',n',c',rfl,hO,Ww⟩
  have Xr:=hO.sli.len
  subst Xr
  have Oe:=aH (Ki.on Ww)
  have Wc:=aH Ki.lt
  have Ho:=aH (Oe.alloc (.cells #[co,va] 44))
  have Lw:=aH (aY.new w6 44 #[co,va])
  have HG:=aH Oe.lt
  have HSA:=aH (hO.alloc (.cells #[co,va] 44))
  clear hO Ww hrun Hn Uu Ki Oe
  go_wp2_with fail
  generalize hG:w6.heap.size=G at*
  generalize w6.alloc (.cells #[co,va] 44)=W3 at*
  refine dQ 4 (fun b=>b=w.heap.size+2) [3] (by kernel_rfl) (by kernel_rfl) ?_
  intro anc Wr
  refine aR ?_;constructor
  .intro w9 Gq _
   go_simp
   first
   |exact aE
  refine bA (.agg D) cX ?_ ?_
  .intro w9 Gq _
   go_simp
   go_at_call 165
   exact bS (FJ A' _ c' yy _ (uG HSA.sli Gq (fun hn b hb e=>by have:=HSA.up hn b hb;have:=Wc.out;omega)) (by have:=HY.out.1;omega) (fun i hi=>(HY.num i).1) D HD)
  refine bA (.agg #[.int .i64 co,.int .i64 va]) cX ?_ ?_
  .intro w9 Gq _
   exact bT 44 _ rfl G rfl 44 #[.int .i64 co,.int .i64 va] _ ((Gq.block _ Lw.lt (by show¬G=w.heap.size+2;have:=HG.out;omega)).trans Lw) underlying44 rfl eU aE
  refine bA undef (fun _ w'=>aY w' (w.heap.size+2) 252 D) ?_ ?_
  .intro w9 Gq hmet
   have Ie:aY w9 (w.heap.size+2) 252 #[.int .u64 0,.int .u64 0,.int .u64 0,.int .u64 0,.int .u64 0,.int .u64 0,.int .u64 0,.int .u64 0,.int .u64 0,.int .u64 0,.int .u64 0,.int .u64 0,.int .u64 0,.int .u64 0,.int .u64 0,.int .u64 0,.int .u64 0]:=(hmet.1.block _ Ho.res.lt (fun h=>dN h (by rw[Wr.out];kernel_rfl))).trans Ho.res
   refine dS 252 _ _ rfl (w.heap.size+2) D rfl ?_ 252 #[.int .u64 0,.int .u64 0,.int .u64 0,.int .u64 0,.int .u64 0,.int .u64 0,.int .u64 0,.int .u64 0,.int .u64 0,.int .u64 0,.int .u64 0,.int .u64 0,.int .u64 0,.int .u64 0,.int .u64 0,.int .u64 0,.int .u64 0] Ie Oa (by rw[Lo.out];rfl) Sw ⟨⟨rfl,Ie.setRow D⟩,fD (.inl ⟨by decide,rfl⟩) _⟩
   kernel_rfl
  refine aZ ?_
  intro w9 Gq hmet
  have Od:Hid (aY w9 (w.heap.size+2) 252 D):=Lib.hid (by
   have h1:=hmet.1 rfl
   obtain⟨w0,k0,k1,hF⟩:=h1
   exact(k1.block _ hF.lt (fun h=>dN h (by rw[Wr.out];kernel_rfl))).trans hF)
  have Pd:Hid (aY w9 (w.heap.size+3) 44 #[.int .i64 0,.int .i64 0]):=Lib.hid ((Gq.block _ Ho.ans.lt (by show¬w.heap.size+3=w.heap.size+2;omega)).trans Ho.ans)
  have Ir:=Lib.hid (Ho.below.trans (Gq.below Ho.below.size (fun b hb e=>by omega)))
  clear hmet Gq
  simp only[List.drop_succ_cons,List.drop_zero]
  go_wp2_with (refine wpList_store_row rfl 44 _ _ rfl (w.heap.size+3) #[.int .i64 co,.int .i64 va] rfl rfl 44 #[.int .i64 0,.int .i64 0] Pd eU rfl (jH _ _) ?_)
  have hR:aY (w9.setRow (w.heap.size+3) #[.int .i64 co,.int .i64 va]) (w.heap.size+2) 252 D:=(setRow_other _ _ _ _ (by omega)).trans Od
  have hA:aY (w9.setRow (w.heap.size+3) #[.int .i64 co,.int .i64 va]) (w.heap.size+3) 44 #[.int .i64 co,.int .i64 va]:=aY.setRow Pd _
  refine bodyPost_ret (kP results143 _ _ (w.heap.size+2) (w.heap.size+3) 252 44 D #[.int .i64 co,.int .i64 va] _ _ .nilIface rfl rfl rfl hR hA underlying252 rfl Oa underlying44 rfl eU) rfl ⟨rfl,aL Ir (by omega) _⟩
theorem NR(C D:Array Value)(z:Nat->Int)(kind a k v:Int)(m:Nat)(w:World)(h:cH C 17 z)(ho:gQ a k v)(hz:cK kind z)(hm:kind=5->tG z a k m)(hD:cH D 17 (BW kind z a k v m)):
 Calls prog 143 #[kind,.agg C,.agg #[a,k,v]] w fun e w'=>e=.returned (.tuple #[.agg D,.agg #[(IB kind z a k v),(JO kind z a k v)],.nilIface])/\Below w w w':=by
 unfold BW at hD
 unfold IB JO
 by_cases h5:kind=5
 .subst h5
  simp only[if_true]at hD⊢
  exact CB C D z a k v w h ho hz m (hm rfl) hD
 simp only[iN h5]at hD⊢
 by_cases h6:kind=6
 .subst h6
  simp only[if_true]at hD⊢
  exact DX C D z a k v w h ho hz hD
 simp only[iN h6]at hD⊢
 have hk:kind=1\/kind=2\/kind=3\/kind=4:=by
  have Hh:=hz
  unfold cK at Hh
  simp only[iN h5,iN h6]at Hh
  by_cases h4:kind=4
  .exact .inr (.inr (.inr h4))
  rw[iN h4]at Hh;omega
 exact ZE kind hk C D z a k v w h ho hz hD
end
end Go.Proofs.YtplpimkgihnmhaaGreatDoor
