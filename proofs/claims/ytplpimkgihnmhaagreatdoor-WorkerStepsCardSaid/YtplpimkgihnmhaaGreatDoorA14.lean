/-
  Part of a proof: InsDel DequeD MKeep MTD. For all values.
-/
import Derived.Test.YtplpimkgihnmhaaGreatDoorShelf
import Derived.Test.YtplpimkgihnmhaaGreatDoorA09
import Derived.Test.YtplpimkgihnmhaaGreatDoorA11
import Derived.Test.YtplpimkgihnmhaaGreatDoorA12
import Derived.Test.YtplpimkgihnmhaaGreatDoorA13
set_option maxRecDepth 100000
set_option maxHeartbeats 4000000
set_option linter.all false
namespace Go.Proofs.YtplpimkgihnmhaaGreatDoor
open Go.Proofs.Tryz Go.RowKit
section
theorem nO(b:Nat):∀(vs:List Value) (o:Nat) (w:World),(w.setCells b o vs).heap.size=w
 |[],_,_=>rfl
 |v::r,o,w=>(nO b r (o+1) _).trans (by simp [World.setCell])
theorem eD{B b:Nat}(hb:B<=b){a:World}:∀(vs:List Value) (o:Nat) (w:World),Below B a w->Below B a (w.setCells b o vs)
 |[],_,_,h=>h
 |v::r,o,w,h=>eD hb r (o+1) _ (h.setCell (p:=⟨b,o,none⟩) hb v)
theorem nJ.cons{xs:List Int}(h:nJ xs){v:Int}(hv: -9223372036854775808<=v/\v<=9223372036854775807):nJ (v::xs):=fun i=>by
 cases i with
 |zero=>exact hv
 |succ i=>simpa using h i
theorem kC.of_cells{w:World}{B g n c:Nat}{xs:List Int}(hg:B<=g)(hlt:g<w)(hn:xs.length=n)(hc:n<=c)(On:c<=9223372036854775807)(bd:nJ xs)
 (h:∀i,i<n->w.cell? (g,i)=(xs[i]?.getD 0)):kC w B (some ⟨g,0,none⟩) n c xs:=
 ⟨⟨hn,hc,On,bd,fun _=>⟨g,0,rfl,hlt,fun i hi=>by rw[Nat.zero_add];exact h i hi⟩⟩,fun _ b hA=>by cases hA;exact hg⟩
theorem jX.parts{w:World}{B:Nat}{A:Option Addr}{n c:Nat}{xs:List Int}(h:jX w B A n c xs):(A=none/\n=0/\c=0)\/∃g cur,A=some ⟨g,0,none⟩/\B<=g/\aY w g 3 cur/\n<=c/\c<=maxLen/\cur.size=c/\∀i,i<n->cur[i]? =some (.int .i64 (xs[i]?.getD 0)):=by
 have hl:=h.len
 rcases h.2 with⟨hv,hn⟩|⟨g,cap,cur,hv,hb,hg,hnc,hm,hs,ht⟩
 .cases hv
  exact .inl ⟨rfl,rfl,rfl⟩
 cases hv
 refine .inr ⟨g,cur,rfl,hb,hg,hnc,hm,by simpa using hs,fun i hi=>?_⟩
 have:(cur.toList.take (n*1))[i]? =(xs.map (Value.int .i64))[i]? :=by rw[ht]
 rw[List.getElem?_take,iP I,List.getElem?_map,List.getElem?_eq_getElem (show i<xs.length by omega)]at this
 rw[List.getElem?_eq_getElem (show i<xs.length by omega)]
 simpa using this
theorem IL{xs:List Int}{j:Nat}{v:Value}(h:(xs.map (Value.int .i64))[j]? =some v):j<xs.length/\v=.int .i64 (xs[j]?.getD 0):=by
 have hj:j<xs.length:=by simpa using(List.getElem?_eq_some_iff.1 h).1
 rw[List.getElem?_map,List.getElem?_eq_getElem hj]at h
 refine⟨hj,?_⟩
 rw[List.getElem?_eq_getElem hj]
 simpa using h.symm
theorem wZ{xs:List Int}:∀v∈xs.map (Value.int .i64),v.oneCell'=true:=fun v hv=>by obtain⟨x,_,rfl⟩:=List.mem_map.1 hv;rfl
def ST(w:World)(B m:Nat)(ys:List Int)(e:Ending)(w':World):Prop:=∃A1 c1,e=.returned (.slice A1 m c1)/\kC w' B A1 m c1 ys/\Below B w w'
theorem EY{w W:World}{B m c1:Nat}{ys:List Int}{cs:Array Value}(hB:B<=w)(hW:W=(w.drew.alloc (.cells cs 3)))(hl:ys.length=m)(hc:m<=c1)(On:c1<=9223372036854775807)(bd:nJ ys)
 (h:∀i,i<m->cs[i]? =some (.int .i64 (ys[i]?.getD 0))):ST w B m ys (.returned (.slice (some ⟨w.heap.size,0,none⟩) m c1)) W:=by
 subst hW
 refine⟨_,_,rfl,kC.of_cells hB (by simp) hl hc On bd fun i hi=>?_,((Below.refl _ _).drew).alloc hB _⟩
 have:=(aY.newAt w.drew 3 cs (n:=w) rfl).cell i
 rw[this]
 exact h i hi
theorem KN{w:World}{B:Nat}{A:Option Addr}{n c g c':Nat}{xs:List Int}{v:Int}(h:jX w B A n c xs)(bd:nJ xs)(hv: -9223372036854775808<=v/\v<=9223372036854775807)(hg:aY w g 3 #[v])(hne:∀a,A=some a->g≠a.block)(hn:n<=60)(hB:B<=w):
 Calls prog 187 #[.slice A n c,(0:Int),.slice (some ⟨g,0,none⟩) 1 c'] w (ST w B (n+1) (v::xs)):=by
 have hl:=h.len
 have hvs:∀(j:Nat) (u:Value),[Value.int .i64 v][j]? =some u->w.cell? (g,0+j)=u:=fun j u hj=>by
  cases j with
  |zero=>simp at hj;subst hj;rw[hg.cell];rfl
  |succ j=>simp at hj
 have h1v:∀u∈[Value.int .i64 v],u.oneCell'=true:=fun u hu=>by simp at hu;subst hu;rfl
 have hbv:=nJ.cons bd hv
 have Pb:(v::xs).length=n+1:=by simp [hl]
 have Vx:(v::xs)[0]?.getD 0=v:=rfl
 have Vy:∀i,(v::xs)[i+1]?.getD 0=xs[i]?.getD 0:=fun i=>by simp
 have hcl:(xs.map (Value.int .i64)).length=n:=by simp [hl]
 rcases h.parts with⟨rfl,rfl,rfl⟩|⟨b,cur,rfl,hb,hblk,hnc,hm,hsz,hcur⟩
 .have hx:xs=[]:=List.eq_nil_of_length_eq_zero hl
  refine(Any2.slices_Insert_int_end_grow Tryz.lays21 none 0 0 g 0 1 c' [] [.int .i64 v] w I I I I rfl rfl (fun _=>rfl) (fun a ha=>by cases ha) hvs h1v).mono ?_
  rintro e w' ⟨rfl,hw⟩
  refine EY hB hw Pb (by have:=grownCap_ge w (0+1) 0 3;exact this) (by have:=grownCap_le_maxLen w (0+1) 0 3 (by unfold maxLen;omega);unfold maxLen at this;exact this) hbv fun i hi=>?_
  obtain rfl:i=0:=I
  rw[Array.getElem?_append_left (by simp)]
  rfl
 have hblt:=hblk.lt
 have hgb:g≠b:=hne _ rfl
 have hcs:∀(j:Nat) (u:Value),(xs.map (Value.int .i64))[j]? =some u->w.cell? (b,0+j)=u:=fun j u hj=>by
  obtain⟨hj',rfl⟩:=IL hj
  rw[Nat.zero_add,hblk.cell,hcur j I]
 have hm':=hm
 unfold maxLen at hm'
 have hsp:∀j,j<n+1->n+1<=c->(w.cell? (b,0+j)).isSome=true:=fun j hj hr=>by
  rw[Nat.zero_add,hblk.cell,Array.getElem?_eq_getElem I];rfl
 rcases Nat.eq_zero_or_pos n with rfl|Hr
 .have hx:xs=[]:=List.eq_nil_of_length_eq_zero hl
  by_cases hroom:0+1<=c
  .refine(Any2.slices_Insert_int_end_room Tryz.lays21 b 0 0 c g 0 1 c' [.int .i64 v] w I hroom hm' rfl (fun j hj=>by simpa using hsp j I hroom) (fun j hj=>hblk.frozen _) hvs h1v).mono ?_
   rintro e w' ⟨rfl,rfl⟩
   refine⟨_,_,rfl,kC.of_cells hb (by simpa [World.setCells]using hblt) Pb hroom hm' hbv fun i hi=>?_,eD hb _ _ _ (Below.refl _ _)⟩
   obtain rfl:i=0:=I
   have:=World.cell?_setCells_in b [.int .i64 v] 0 w (fun j hj=>hsp j (by simpa using hj) hroom) 0 (by simp)
   simpa using this
  refine(Any2.slices_Insert_int_end_grow Tryz.lays21 (some ⟨b,0,none⟩) 0 c g 0 1 c' [] [.int .i64 v] w I I I I rfl rfl (fun h=>by cases h) (fun a ha j u hj=>by simp at hj) hvs h1v).mono ?_
  rintro e w' ⟨rfl,hw⟩
  refine EY hB hw Pb (by have:=grownCap_ge w (0+1) c 3;exact this) (by have:=grownCap_le_maxLen w (0+1) c 3 (by unfold maxLen;omega);unfold maxLen at this;exact this) hbv fun i hi=>?_
  obtain rfl:i=0:=I
  rw[Array.getElem?_append_left (by simp)]
  rfl
 by_cases hroom:n+1<=c
 .refine(Any2.slices_Insert_int_shift Tryz.lays21 b 0 n c 0 g 0 1 c' (xs.map (Value.int .i64)) [.int .i64 v] w Hr I hroom hm' hgb hcl rfl hcs (fun j hj=>hsp j hj hroom) (fun j hj=>hblk.frozen _) hvs wZ h1v 3 3 1 c (by simp [World.shape?,show w.heap[g]? =_ from hg]) (by simp [World.shape?,show w.heap[b]? =_ from hblk,hsz]) I (hg.frozen _) (hg.frozen _)).mono ?_
  rintro e w' ⟨rfl,rfl⟩
  have s1:∀j,j<(xs.map (Value.int .i64)).length->(w.drew.cell? (b,1+j)).isSome=true:=fun j hj=>by
   have:=hsp (1+j) (by rw[hcl]at hj;omega) hroom
   rw[Nat.zero_add]at this
   exact this
  refine⟨_,_,rfl,kC.of_cells hb ?_ Pb hroom hm' hbv fun i hi=>?_,eD hb _ _ _ (eD hb _ _ _ (Below.refl _ _).drew)⟩
  .have:=(eD (B:=0) (Nat.zero_le b) [Value.int .i64 v] 0 _ (eD (Nat.zero_le b) (xs.map (Value.int .i64)) 1 w.drew (Below.refl 0 w).drew)).size
   simpa using Nat.lt_of_lt_of_le hblt this
  cases i with
  |zero=>
   have:=World.cell?_setCells_in b [.int .i64 v] 0 (w.drew.setCells b 1 (xs.map (Value.int .i64))) (fun j hj=>World.isSome_setCells b _ _ _ _ (by
    have:=hsp j (by have:j<1:=hj
                    omega) hroom
    exact this)) 0 (by simp)
   simpa [Vx]using this
  |succ i=>
   have hi':i<(xs.map (Value.int .i64)).length:=by rw[hcl];omega
   rw[World.cell?_setCells_out b [.int .i64 v] (0+0) _ ⟨b,i+1,none⟩ (fun _ _=>.inr (by simp))]
   have:=World.cell?_setCells_in b (xs.map (Value.int .i64)) 1 w.drew s1 i hi'
   rw[Nat.add_comm]at this
   rw[Vy]
   simp only[List.drop_zero,Nat.zero_add]
   rw[this,List.getElem_map,List.getElem?_eq_getElem (by simpa using hi')]
   rfl
 refine(Any2.slices_Insert_int_grow Tryz.lays21 b 0 n c 0 g 0 1 c' (xs.map (Value.int .i64)) [.int .i64 v] w Hr I hnc I I hcl rfl hcs hvs wZ h1v).mono ?_
 rintro e w' ⟨rfl,rfl⟩
 have hge:=grownCap_ge w (n+1) c 3
 have hle:=grownCap_le_maxLen w (n+1) c 3 (by unfold maxLen;omega)
 unfold maxLen at hle
 have hone:(Value.int .i64 0).cells.size=1:=rfl
 refine⟨_,_,rfl,kC.of_cells hB ?_ Pb hge hle hbv fun i hi=>?_,?_⟩
 .rw[nO]
  show w<(World.setCells _ _ _ _).heap.size
  rw[nO]
  show w<(w.alloc _).heap.size
  simp
 .generalize hX:((List.take 0 (xs.map (Value.int .i64))).toArray++Builtin.zeroCells (Value.int .i64 0).cells (n+1-0)++Builtin.zeroCells (Value.int .i64 0).cells (grownCap w (n+1) c (Tryz.lays21_ren.t 3)-(n+1)))=X
  have hXs:n+1<=X.size:=by rw[<-hX];simp [size_zeroCells,hone]<;>omega
  have hbX:aY (w.alloc (.cells X (Tryz.lays21_ren.t 3))) w (Tryz.lays21_ren.t 3) X:=aY.new _ _ _
  have hs:∀j,j<n+1->((w.alloc (.cells X (Tryz.lays21_ren.t 3))).cell? (w.heap.size,j)).isSome=true:=fun j hj=>by
   rw[hbX.cell,Array.getElem?_eq_getElem I];rfl
  have s1:∀j,j<(xs.map (Value.int .i64)).length->(((w.alloc (.cells X (Tryz.lays21_ren.t 3))).drew.setCells w 0 [.int .i64 v]).drew.cell? (w.heap.size,1+j)).isSome=true:=fun j hj=>by
   refine World.isSome_setCells w [.int .i64 v] 0 (w.alloc (.cells X (Tryz.lays21_ren.t 3))).drew ⟨w.heap.size,1+j,none⟩ ?_
   exact hs (1+j) (by rw[hcl]at hj;omega)
  cases i with
  |zero=>
   rw[World.cell?_setCells_out w _ _ _ ⟨w.heap.size,0,none⟩ (fun _ _=>.inl (by simp))]
   have:=World.cell?_setCells_in w [.int .i64 v] 0 (w.alloc (.cells X (Tryz.lays21_ren.t 3))).drew (fun j hj=>by
    have hj':j<1:=hj
    rw[Nat.zero_add]
    exact hs j I) 0 (by simp)
   simpa [Vx]using this
  |succ i=>
   have hi':i<(xs.map (Value.int .i64)).length:=by rw[hcl];omega
   have:=World.cell?_setCells_in w (xs.map (Value.int .i64)) 1 _ s1 i hi'
   rw[Nat.add_comm]at this
   rw[Vy]
   simp only[List.drop_zero,Nat.zero_add]
   rw[this,List.getElem_map,List.getElem?_eq_getElem (by simpa using hi')]
   rfl
 exact eD hB _ _ _ (Below.drew (eD hB _ _ _ ((Below.refl _ _).alloc hB _).drew))
theorem YM{w:World}{B g n c i:Nat}{xs:List Int}(h:jX w B (some ⟨g,0,none⟩) n c xs)(bd:nJ xs)(hi:i<n):
 Calls prog 188 #[.slice (some ⟨g,0,none⟩) n c,i,((i+1:Nat):Int)] w fun e w'=>e=.returned (.slice (some ⟨g,0,none⟩) (n-1) c)/\kC w' B (some ⟨g,0,none⟩) (n-1) c (xs.take i++xs.drop (i+1))/\Below B w w':=by
 have hl:=h.len
 rcases h.parts with⟨h0,_,_⟩|⟨b,cur,hA,hb,hblk,hnc,hm,hsz,hcur⟩
 .cases h0
 cases hA
 unfold maxLen at hm
 have hcc:∀j,j<xs.length->w.cell? (g,0+j)=(xs.getD j 0):=fun j hj=>by
  rw[Nat.zero_add,hblk.cell,hcur j I,List.getD_eq_getElem?_getD]
 refine(Any.slices_Delete_int_cells Tryz.lays23 g 0 n c i (i+1) xs w I hnc hm I I hcc (fun j hj=>hblk.frozen _)).mono ?_
 rintro e w' ⟨rfl,q,rfl⟩
 have hnn:n-(i+1-i)=n-1:=I
 rw[hnn]
 refine⟨rfl,?_,eD hb _ _ _ (cZ (Below.refl _ _) _)⟩
 have ht:xs.take n=xs:=List.take_of_length_le I
 rw[ht]
 generalize hys:xs.take i++xs.drop (i+1)=ys
 have hyl:ys.length=n-1:=by rw[<-hys];simp;omega
 have hbd:nJ ys:=fun j=>by
  rw[<-hys,List.getElem?_append]
  split
  .rw[List.getElem?_take]
   split
   .exact bd j
   decide
  rw[List.getElem?_drop];exact bd _
 refine kC.of_cells hb ?_ hyl I hm hbd fun j hj=>?_
 .exact Nat.lt_of_lt_of_le hblk.lt (eD (B:=0) (Nat.zero_le _) _ _ _ (cZ (Below.refl _ _) _)).size
 have hlen:((ys++List.replicate (i+1-i) 0).map (Value.int .i64)).length=n:=by simp [hyl];omega
 have:=World.cell?_setCells_in g ((ys++List.replicate (i+1-i) 0).map (Value.int .i64)) 0 (w.drewN q) (fun k hk=>by
  rw[hlen]at hk
  have:=hcc k I
  show(w.cell? _).isSome=true
  rw[this];rfl) j (by rw[hlen];omega)
 rw[Nat.zero_add]at this
 rw[this,List.getElem_map,List.getElem_append_left I,List.getElem?_eq_getElem I]
 rfl
end
section
attribute [local go_sem↓] Go.wp_at_zero Go.wp_at_succ
def VV(xs:List Int)(a v:Int):List Int:=if a=1 then(if xs.length<6 then xs++[v]else xs)else if a=3 then(if xs.length<6 then v::xs else xs)else if a=2 then xs.take 0++xs.drop (0+1)else if a=4 then xs.take (xs.length-1)++xs.drop (xs.length-1+1)else xs
def VW(xs:List Int)(a:Int):Int:=if a=1\/a=3 then(if xs.length<6 then 1 else 3)else if a=2\/a=4\/a=5 then(if xs.length=0 then 2 else 1)else if a=6 then 1 else 5
def VX(xs:List Int)(a:Int):Int:=if a=2\/a=5 then xs[0]?.getD 0 else if a=4 then xs[xs.length-1]?.getD 0 else if a=6 then xs.length else 0
theorem jX.lt{w:World}{B:Nat}{A:Option Addr}{n c:Nat}{xs:List Int}(h:jX w B A n c xs):∀a,A=some a->B<=a.block/\a.block<w:=fun a ha=>by
 subst ha
 exact World.ownsRow.lt h a.block rfl
theorem DL{w:World}{B g n c:Nat}(i:Nat){xs:List Int}(p q:Int)(h:jX w B (some ⟨g,0,none⟩) n c xs)(bd:nJ xs)(hi:i<n)(hp:p=i)(hq:q=i+1):
 Calls prog 188 #[.slice (some ⟨g,0,none⟩) n c,p,q] w fun e w'=>e=.returned (.slice (some ⟨g,0,none⟩) (n-1) c)/\kC w' B (some ⟨g,0,none⟩) (n-1) c (xs.take i++xs.drop (i+1))/\Below B w w':=by
 subst hp
 have e:q=((i+1:Nat):Int):=I
 rw[e]
 exact YM h bd hi
theorem OV(A:Option Addr)(n c:Nat)(xs:List Int)(a k v:Int)(w:World)(h:fI w A n c xs)(hn:n<=60)(hv: -9223372036854775808<=v/\v<=9223372036854775807)(Hr:0<n):
 Calls prog 163 #[.slice A n c,.agg #[a,k,v]] w (fQ (VV xs a v) (VW xs a) (VX xs a) w):=by
 have hlen:=aH h.len
 obtain⟨x0,Im⟩:=aP (xs[n-1]?.getD 0)
 have Ip:=aH Im
 clear Im
 obtain⟨y0,Jq⟩:=aP (xs[0]?.getD 0)
 have Jm:=aH Jq
 clear Jq
 have Ss:Hid (nJ xs):=h.bd
 have H:=aH h
 clear h
 have hv':=aH hv
 clear hv
 go_enter func163,ntmps163
 have b0:(0:Int)<=(n:Int)-1:=I
 have b1:(n:Int)-1<n:=I
 have b1':(n:Int)-1<=n:=I
 have b1'':(1:Int)<=n:=I
 have d0:((n:Int)==0)=false:=by simp;omega
 have e1:((n:Int)-1).toNat=n-1:=I
 have e2:IntKind.i64.wrap ((n:Int)-1)=n-1:=IntWalk.i64_in _ I
 go_wp2_with (first
  |(go_at_call 186;refine(fR A n c xs w _ H hn ?_).mono ?_;(go_grown);rintro e w1 ⟨A1,c1,rfl,hown,Gs,hB⟩;obtain⟨hc,hf⟩:=cJ Gs;have hz:=Gs.size;simp only[World.size_alloc]at hz;replace hown:=hown.mono (B':=w+2) (by simp);have q1:w.heap.size+1<w1:=I;have q0:w.heap.size<w1:=I;obtain⟨g,rfl,Sf,Zf,hgc⟩:=hown.at_ Hr;have Sr:=(hown.sli H.bd).cap;have Jr:=(hown.sli H.bd).cap63;have hgx:=hgc (n-1) I;rw[Ip.out]at hgx;have hgy:=hgc 0 I;rw[Jm.out]at hgy;clear hgc;have hown':=aH hown;clear hown;have r0:=hc (w,1) 0 (by simp);have r1:=hc (w,1) 1 (by simp);simp [go_sem]at r0 r1;have m1:¬w.heap.size+1=w1:=I;have b2:(n:Int)-1<=c1:=I)
  |(at_builtin;refine dM rfl (.tmp 23) (.tmp 26) rfl (B:=w+2) rfl (hown'.alloc _) rfl ((aY.new _ _ _).cell 0) I (by simp;omega) ?_;intro g2 c2 w2 Hb Gt;obtain⟨Hk,Ja⟩:=cJ Gt;have Hh:=Gt.size;simp only[World.size_alloc]at Hh;have In:Below w w w2:=Below.trans (by go_grown) (Gt.mono (by simp));have s0:=(Hk (w,1) 0 (by simp)).trans ((bX I).trans r0);have s1:=(Hk (w,1) 1 (by simp)).trans ((bX I).trans r1);have hslo':=aH (Hb.slo (nJ.app H.bd hv'));clear Hb;have q3:w.heap.size+1<w2:=I;have q4:w.heap.size<w2:=I;have m2:¬w.heap.size+1=w2:=I)
  |(go_at_call 188;(with_reducible refine(DL (B:=w+2) 0 0 1 hown'.out Ss.out ?_ ?_ ?_).mono ?_);(omega);(rfl);(rfl);rintro e w2 ⟨rfl,hslo,Gt⟩;obtain⟨Hk,Ja⟩:=cJ Gt;have Hh:=Gt.size;have In:Below w w w2:=hB.trans (Gt.mono I);have s0:=(Hk (w,1) 0 I).trans r0;have s1:=(Hk (w,1) 1 I).trans r1;have t0:=(Hk w 0 I);have hslo':=aH hslo;clear hslo;have q3:w.heap.size+1<w2:=I;have q4:w.heap.size<w2:=I;have m2:¬w.heap.size+1=w2:=I)
  |(go_at_call 188;(with_reducible refine(DL (B:=w+2) (n-1) ((n:Int)-1) n hown'.out Ss.out ?_ ?_ ?_).mono ?_);(omega);(omega);(omega);rintro e w2 ⟨rfl,hslo,Gt⟩;obtain⟨Hk,Ja⟩:=cJ Gt;have Hh:=Gt.size;have In:Below w w w2:=hB.trans (Gt.mono I);have s0:=(Hk (w,1) 0 I).trans r0;have s1:=(Hk (w,1) 1 I).trans r1;have t0:=(Hk w 0 I);have hslo':=aH hslo;clear hslo;have q3:w.heap.size+1<w2:=I;have q4:w.heap.size<w2:=I;have m2:¬w.heap.size+1=w2:=I)
  |(go_at_call 187;refine(KN (B:=w+2) (xs:=xs) (v:=v) (hown'.alloc _) H.bd hv' (aY.new _ _ _) (fun a ha=>by have:=(hown'.lt a ha).2;omega) hn (by simp;omega)).mono ?_;rintro e w2 ⟨A2,c2,rfl,hslo,Gt⟩;obtain⟨Hk,Ja⟩:=cJ Gt;have Hh:=Gt.size;simp only[World.size_alloc]at Hh;have In:Below w w w2:=Below.trans (by go_grown) (Gt.mono (by simp));have s0:=(Hk (w,1) 0 (by simp)).trans ((bX I).trans r0);have s1:=(Hk (w,1) 1 (by simp)).trans ((bX I).trans r1);have hslo':=aH hslo;clear hslo;have q3:w.heap.size+1<w2:=I;have q4:w.heap.size<w2:=I;have m2:¬w.heap.size+1=w2:=I))
 all_goals(refine bodyPost_ret (by first|(simp [results,results163,go_sem,s0,s1];try rfl;done)|(simp [results,results163,go_sem,r0,r1];try rfl;done)) rfl ?_)
 all_goals try simp only[beq_iff_eq,beq_eq_false_iff_ne,bne_iff_ne,bne_eq_false_iff_eq,ne_eq]at*
 all_goals(first
  |(refine dB hslo' In ?_ ?_ ?_ ?_ ?_ ?_ ?_)
  |(refine dB (hown'.slo H.bd) hB ?_ ?_ ?_ ?_ ?_ ?_ ?_))
 all_goals first|(show w.heap.size+1<w+2;omega)|(show w.heap.size<=w+1;omega)|skip
 all_goals(have hx:=Ip.out;have hy:=Jm.out;have hl:=hlen.out;simp only[VV,VW,VX];(repeat' split)<;>first|rfl|(exfalso;omega)|(simp_all;done)|(simp_all;omega))
theorem NL(A:Option Addr)(c:Nat)(a k v:Int)(w:World)(h:fI w A 0 c [])(hv: -9223372036854775808<=v/\v<=9223372036854775807):
 Calls prog 163 #[.slice A 0 c,.agg #[a,k,v]] w (fQ (VV [] a v) (VW [] a) (VX [] a) w):=by
 have H:=aH h
 clear h
 have hv':=aH hv
 clear hv
 go_enter func163,ntmps163
 go_wp2_with (first
  |(go_at_call 186;refine(fR A 0 c [] w _ H I ?_).mono ?_;(go_grown);rintro e w1 ⟨A1,c1,rfl,hown,Gs,hB⟩;obtain⟨hc,hf⟩:=cJ Gs;have hz:=Gs.size;simp only[World.size_alloc]at hz;replace hown:=hown.mono (B':=w+2) (by simp);have q1:w.heap.size+1<w1:=I;have q0:w.heap.size<w1:=I;have hown':=aH hown;clear hown;have r0:=hc (w,1) 0 (by simp);have r1:=hc (w,1) 1 (by simp);simp [go_sem]at r0 r1;have m1:¬w.heap.size+1=w1:=I)
  |(at_builtin;refine dM rfl (.tmp 23) (.tmp 26) rfl (B:=w+2) rfl (hown'.alloc _) rfl ((aY.new _ _ _).cell 0) I (by simp;omega) ?_;intro g2 c2 w2 Hb Gt;obtain⟨Hk,Ja⟩:=cJ Gt;have Hh:=Gt.size;simp only[World.size_alloc]at Hh;have In:Below w w w2:=Below.trans (by go_grown) (Gt.mono (by simp));have s0:=(Hk (w,1) 0 (by simp)).trans ((bX I).trans r0);have s1:=(Hk (w,1) 1 (by simp)).trans ((bX I).trans r1);have hslo':=aH (Hb.slo (nJ.app H.bd hv'));clear Hb;have q3:w.heap.size+1<w2:=I;have q4:w.heap.size<w2:=I;have m2:¬w.heap.size+1=w2:=I)
  |(go_at_call 187;refine(KN (B:=w+2) (xs:=[]) (v:=v) (hown'.alloc _) H.bd hv' (aY.new _ _ _) (fun a ha=>by have:=(hown'.lt a ha).2;omega) I (by simp;omega)).mono ?_;rintro e w2 ⟨A2,c2,rfl,hslo,Gt⟩;obtain⟨Hk,Ja⟩:=cJ Gt;have Hh:=Gt.size;simp only[World.size_alloc]at Hh;have In:Below w w w2:=Below.trans (by go_grown) (Gt.mono (by simp));have s0:=(Hk (w,1) 0 (by simp)).trans ((bX I).trans r0);have s1:=(Hk (w,1) 1 (by simp)).trans ((bX I).trans r1);have hslo':=aH hslo;clear hslo;have q3:w.heap.size+1<w2:=I;have q4:w.heap.size<w2:=I;have m2:¬w.heap.size+1=w2:=I))
 all_goals(refine bodyPost_ret (by first|(simp [results,results163,go_sem,s0,s1];try rfl;done)|(simp [results,results163,go_sem,r0,r1];try rfl;done)) rfl ?_)
 all_goals try simp only[beq_iff_eq,beq_eq_false_iff_ne,bne_iff_ne,bne_eq_false_iff_eq,ne_eq]at*
 all_goals(first
  |(refine dB hslo' In ?_ ?_ ?_ ?_ ?_ ?_ ?_)
  |(refine dB (hown'.slo H.bd) hB ?_ ?_ ?_ ?_ ?_ ?_ ?_))
 all_goals first|(show w.heap.size+1<w+2;omega)|(show w.heap.size<=w+1;omega)|skip
 all_goals(simp only[VV,VW,VX];(repeat' split)<;>first|rfl|(exfalso;omega)|(simp_all;done)|(simp_all;omega))
theorem NQ(A:Option Addr)(n c:Nat)(xs:List Int)(a k v:Int)(w:World)(h:fI w A n c xs)(hn:n<=60)(hv: -9223372036854775808<=v/\v<=9223372036854775807):
 Calls prog 163 #[.slice A n c,.agg #[a,k,v]] w (fQ (VV xs a v) (VW xs a) (VX xs a) w):=by
 rcases Nat.eq_zero_or_pos n with Hr|Hr
 .subst Hr
  obtain rfl:xs=[]:=List.eq_nil_of_length_eq_zero h.len
  exact NL A c a k v w h hv
 exact OV A n c xs a k v w h hn hv Hr
end
section
theorem yU{xs:List Int}{k:Nat}:lZ xs k=true↔k=0\/gI xs ((k-1)/2)<=gI xs k:=by
 unfold lZ gI;rw[decide_eq_true_iff]
theorem zV{xs:List Int}:iJ xs=true↔(∀k,k<xs.length->k=0\/gI xs ((k-1)/2)<=gI xs k)/\xs.length<=6:=by
 unfold iJ
 rw[Bool.and_eq_true,List.all_eq_true,decide_eq_true_iff]
 constructor
 .rintro⟨h,h6⟩
  exact⟨fun k hk=>yU.1 (h k (by simpa using hk)),h6⟩
 rintro⟨h,h6⟩
 exact⟨fun k hk=>yU.2 (h k (by simpa using hk)),h6⟩
theorem wC:∀(i:Nat) (xs:List Int),(jS xs i).length=xs.length:=by
 intro i
 induction i using Nat.strongRecOn with
 |ind i ih=>
  intro xs
  by_cases h:0<i/\gI xs i<gI xs ((i-1)/2)
  .rw[oH h,ih ((i-1)/2) I]
   simp
  .rw[lW h]
theorem MT:∀(i:Nat) (xs:List Int),i<xs.length->(∀k,k<xs.length->k=0\/k=i\/gI xs ((k-1)/2)<=gI xs k)->(∀k,k<xs.length->0<k->(k-1)/2=i->0<i->gI xs ((i-1)/2)<=gI xs k)->
 ∀k,k<xs.length->k=0\/gI (jS xs i) ((k-1)/2)<=gI (jS xs i) k:=by
 intro i
 induction i using Nat.strongRecOn with
 |ind i ih=>
  intro xs hi h1 h2 k hk
  by_cases h:0<i/\gI xs i<gI xs ((i-1)/2)
  .rw[oH h]
   have hp:(i-1)/2<i:=I
   have hg:∀j,gI ((xs.set i (gI xs ((i-1)/2))).set ((i-1)/2) (gI xs i)) j=if j=(i-1)/2 then gI xs i else if j=i then gI xs ((i-1)/2)else gI xs j:=fun j=>by
    rw[kH (by simp;omega)]
    by_cases hj:j=(i-1)/2
    .rw[iP hj,iP hj]
    rw[iN hj,iN hj,kH hi]
   generalize hgen:(xs.set i (gI xs ((i-1)/2))).set ((i-1)/2) (gI xs i)=ys at*
   have hl:ys.length=xs.length:=by rw[<-hgen];simp
   refine ih ((i-1)/2) hp ys I (fun k hk=>?_) (fun k hk h0 hkp hp0=>?_) k I
   .have a1:=h1 k I
    have a2:=h2 k I
    have a3:=h1 ((i-1)/2) I
    rw[hg,hg]
    by_cases e1:k=(i-1)/2
    .exact .inr (.inl e1)
    by_cases e0:k=0
    .exact .inl e0
    right;right
    rw[iN e1]
    by_cases e2:k=i
    .rw[iP e2,iP (by rw[e2])];omega
    rw[iN e2]
    by_cases e3:(k-1)/2=(i-1)/2
    .rw[iP e3];rw[e3]at a1;omega
    rw[iN e3]
    by_cases e4:(k-1)/2=i
    .rw[iP e4];exact a2 I e4 h.1
    rw[iN e4];omega
   have a1:=h1 ((i-1)/2) I
   have a2:=h1 k I
   rw[hg,hg,iN I,iN I,iN I]
   by_cases e2:k=i
   .rw[iP e2];omega
   rw[iN e2]
   rw[hkp]at a2
   omega
  .rw[lW h]
   have:=h1 k hk
   rcases this with e|e|e
   .exact .inl e
   .subst e
    rcases Nat.eq_zero_or_pos k with h0|h0
    .exact .inl h0
    right
    have:¬gI xs k<gI xs ((k-1)/2):=fun hh=>h ⟨h0,hh⟩
    omega
   exact .inr e
theorem UW:∀(i:Nat) (xs:List Int) (P:Int->Prop),i<xs.length->(∀k,k<xs.length->P (gI xs k))->∀k,k<xs.length->P (gI (jS xs i) k):=by
 intro i
 induction i using Nat.strongRecOn with
 |ind i ih=>
  intro xs P hi hP k hk
  by_cases h:0<i/\gI xs i<gI xs ((i-1)/2)
  .rw[oH h]
   refine ih ((i-1)/2) I _ P (by simp;omega) (fun j hj=>?_) k (by simpa using hk)
   simp only[List.length_set]at hj
   rw[kH (by simp;omega)]
   split
   .exact hP i hi
   rw[kH hi]
   split
   .exact hP _ I
   exact hP j hj
  .rw[lW h];exact hP k hk
theorem yA:∀(n:Nat) (xs:List Int) (i:Nat) (v:Int),xs.length-i<=n->(jU xs i v).length=xs.length:=by
 intro n
 induction n with
 |zero=>
  intro xs i v h
  have:=kV xs i
  rw[kW I];simp
 |succ n ih=>
  intro xs i v h
  by_cases hc:eO xs i<xs.length/\gI xs (eO xs i)<v
  .rw[oG hc,ih _ _ _ (by have:=kV xs i;simp;omega)];simp
  .rw[kW hc];simp
theorem TB:∀(n:Nat) (xs:List Int) (i:Nat) (v:Int) (P:Int->Prop),xs.length-i<=n->i<xs.length->P v->(∀k,k<xs.length->P (gI xs k))->∀k,k<xs.length->P (gI (jU xs i v) k):=by
 intro n
 induction n with
 |zero=>intro xs i v P h hi;omega
 |succ n ih=>
  intro xs i v P h hi hv hP k hk
  by_cases hc:eO xs i<xs.length/\gI xs (eO xs i)<v
  .rw[oG hc]
   refine ih _ _ _ P (by have:=kV xs i;simp;omega) (by simp;exact hc.1) hv (fun j hj=>?_) k (by simpa using hk)
   simp only[List.length_set]at hj
   rw[kH hi]
   split
   .exact hP _ hc.1
   exact hP j hj
  .rw[kW hc,kH hi]
   split
   .exact hv
   exact hP k hk
theorem ME:∀(n:Nat) (xs:List Int) (i:Nat) (v:Int),xs.length-i<=n->i<xs.length->(∀k,k<xs.length->k=0\/k=i\/(k-1)/2=i\/gI xs ((k-1)/2)<=gI xs k)->
 (0<i->gI xs ((i-1)/2)<=v)->(0<i->∀k,k<xs.length->0<k->(k-1)/2=i->gI xs ((i-1)/2)<=gI xs k)->
 ∀k,k<xs.length->k=0\/gI (jU xs i v) ((k-1)/2)<=gI (jU xs i v) k:=by
 intro n
 induction n with
 |zero=>intro xs i v h hi;omega
 |succ n ih=>
  intro xs i v h hi h1 h2 h3 k hk
  have hco:=kV xs i
  by_cases hc:eO xs i<xs.length/\gI xs (eO xs i)<v
  .rw[oG hc]
   generalize eO xs i=c at*
   have hci:(c-1)/2=i/\i<c:=I
   have hmin:∀j,j<xs.length->0<j->(j-1)/2=i->gI xs c<=gI xs j:=fun j hj h0 hp=>by
    have:j=2*i+1\/j=2*i+2:=I
    rcases this with rfl|rfl
    .rcases hco with⟨rfl,a,b⟩|⟨rfl,a⟩<;>omega
    rcases hco with⟨rfl,a,b⟩|⟨rfl,a⟩<;>omega
   have hg:∀j,gI (xs.set i (gI xs c)) j=if j=i then gI xs c else gI xs j:=fun j=>kH hi
   have hl:(xs.set i (gI xs c)).length=xs.length:=by simp
   generalize xs.set i (gI xs c)=ys at*
   refine ih ys c v I I (fun j hj=>?_) (fun h0=>?_) (fun h0 j hj Xf hp=>?_) k I
   .rw[hg,hg]
    have a1:=h1 j I
    by_cases e0:j=0
    .exact .inl e0
    by_cases e1:j=c
    .exact .inr (.inl e1)
    by_cases e2:(j-1)/2=c
    .exact .inr (.inr (.inl e2))
    right;right;right
    by_cases e3:j=i
    .rw[iN I,iP e3,e3]
     exact h3 I c hc.1 I hci.1
    rw[iN e3]
    by_cases e4:(j-1)/2=i
    .rw[iP e4]
     exact hmin j I I e4
    rw[iN e4]
    omega
   .rw[hg,iP hci.1];omega
   rw[hg,hg,iP hci.1,iN I]
   have a1:=h1 j I
   rw[hp]at a1
   omega
  .rw[kW hc,kH hi,kH hi]
   by_cases e0:k=0
   .exact .inl e0
   right
   have a1:=h1 k hk
   by_cases e1:k=i
   .rw[iP e1,iN I]
    subst e1
    exact h2 I
   rw[iN e1]
   by_cases e2:(k-1)/2=i
   .rw[iP e2]
    have:k=2*i+1\/k=2*i+2:=I
    rcases hco with⟨a,b,c⟩|⟨a,b⟩
    .rw[a]at hc
     rcases this with rfl|rfl<;>omega
    rw[a]at hc
    rcases this with rfl|rfl
    .omega
    have:¬gI xs (2*i+2)<gI xs (2*i+1):=fun h=>b ⟨hk,h⟩
    omega
   rw[iN e2];omega
theorem KD{xs:List Int}{v:Int}(h:iJ xs=true)(hn:xs.length<6):iJ (jS (xs++[v]) xs.length)=true:=by
 rw[zV]at h⊢
 rw[wC]
 refine⟨fun k hk=>MT xs.length (xs++[v]) (by simp) (fun j hj=>?_) (fun j hj h0 hp=>?_) k hk,by simp;omega⟩
 .simp only[List.length_append,List.length_cons,List.length_nil]at hj
  rcases Nat.lt_or_ge j xs.length with hlt|hge
  .rw[tV I,tV hlt]
   have:=h.1 j hlt
   omega
  right;left;omega
 simp only[List.length_append,List.length_cons,List.length_nil]at hj
 omega
theorem JF{xs:List Int}(h:iJ xs=true):iJ (jU (xs.take (xs.length-1)) 0 (gI xs (xs.length-1)))=true:=by
 rw[zV]at h⊢
 rw[yA _ _ _ _ (Nat.le_refl _)]
 have hl:(xs.take (xs.length-1)).length=xs.length-1:=by simp
 by_cases h0:xs.length-1=0
 .exact⟨fun k hk=>by omega,I⟩
 refine⟨fun k hk=>ME _ _ 0 _ (Nat.le_refl _) I (fun j hj=>?_) (fun h=>absurd h I) (fun h=>absurd h I) k hk,I⟩
 rw[vO I,vO I]
 have:=h.1 j I
 omega
def pE(z:Nat->Int)(s:Nat):Prop:=z (2*s)=0\/∃d,d<8/\dR (z (2*s)).toNat d=s/\∀b,b<d->z (2*dR (z (2*s)).toNat b)≠0/\z (2*dR (z (2*s)).toNat b)≠z (2*s)
theorem xX{q a b:Nat}(ha:a<8)(hb:b<8)(h:dR q a=dR q b):a=b:=by unfold dR at h;omega
theorem BA{z:Nat->Int}{q d:Nat}(hd:d<8):(kF z q=(dR q d:Nat))↔(gL z q d=true/\∀b,b<d->gL z q b=false):=by
 constructor
 .intro h
  unfold kF at h
  split at h
  .rename_i k hk
   have hk':=hk
   rw[List.find?_range_eq_some]at hk
   obtain⟨h1,h2,h3⟩:=hk
   simp at h2
   have:k=d:=xX (q:=q) h2 hd I
   subst this
   exact⟨h1,fun b hb=>by simpa using h3 b hb⟩
  omega
 rintro⟨h1,h2⟩
 unfold kF
 rw[mC hd h1 h2]
theorem zZ{z:Nat->Int}{s:Nat}(h0:0<=z (2*s))(hs:s<8):pE z s↔(z (2*s)≠0->kF z (z (2*s)).toNat=s):=by
 have hq:((z (2*s)).toNat:Int)=z (2*s):=I
 constructor
 .rintro(h|⟨d,hd,hr,hall⟩) hne
  .exact absurd h hne
  have:(kF z (z (2*s)).toNat=(dR (z (2*s)).toNat d:Nat)):=(BA hd).2 ⟨by unfold gL;rw[hr];simp [hq],fun b hb=>by unfold gL;have:=hall b hb;rw[hq];simp [this.1,this.2]⟩
  rw[hr]at this
  exact this
 intro h
 by_cases hz:z (2*s)=0
 .exact .inl hz
 have ha:=h hz
 have hex:∃d,d<8/\dR (z (2*s)).toNat d=s:=⟨(s+8-(z (2*s)).toNat*5%8)%8,I,by unfold dR;omega⟩
 obtain⟨d,hd,hr⟩:=hex
 have:=(BA (z:=z) (q:=(z (2*s)).toNat) hd).1 (by rw[hr];exact ha)
 refine .inr ⟨d,hd,hr,fun b hb=>?_⟩
 have:=this.2 b hb
 unfold gL at this
 rw[hq]at this
 simp at this
 exact⟨this.2,this.1⟩
theorem xT{z:Nat->Int}{q p:Nat}{v:Int}(Zx:p<8)(hat:kF z q=(p:Nat))(s:Nat)(_:s<8)(hg:s=p\/pE z s):pE (setS z p q v) s:=by
 have hex:∃d,d<8/\dR q d=p:=⟨(p+8-q*5%8)%8,I,by unfold dR;omega⟩
 obtain⟨d,hd,hr⟩:=hex
 obtain⟨hh,hno⟩:=(BA (z:=z) hd).1 (by rw[hr];exact hat)
 have hpz:z (2*p)=q\/z (2*p)=0:=by unfold gL at hh;rw[hr]at hh;simpa using hh
 by_cases hsp:s=p
 .subst hsp
  by_cases hq0:q=0
  .left;rw[dI,iP rfl,hq0];rfl
  right
  refine⟨d,hd,by rw[dI,iP rfl];exact hr,fun b hb=>?_⟩
  rw[dI z s q v s,iP rfl,Int.toNat_natCast,dI,iN (fun e=>by have:=xX I hd (e.trans hr.symm);omega)]
  have:=hno b hb
  unfold gL at this
  simp at this
  exact⟨this.2,this.1⟩
 have hg:=hg.resolve_left hsp
 unfold pE
 rw[dI z p q v s,iN hsp]
 rcases hg with h|⟨d',hd',hr',hall⟩
 .exact .inl h
 refine .inr ⟨d',hd',hr',fun b hb=>?_⟩
 rw[dI]
 have:=hall b hb
 by_cases e:dR (z (2*s)).toNat b=p
 .rw[iP e]
  rw[e]at this
  rcases hpz with h|h
  .rw[<-h];exact this
  exact absurd h this.1
 rw[iN e];exact this
theorem wD{z:Nat->Int}{k s:Nat}(hg:pE z s)(hk:∀d,d<8->z (2*s)≠0->dR (z (2*s)).toNat d=s->(∀b,b<d->z (2*dR (z (2*s)).toNat b)≠0)->∀b,b<d->dR (z (2*s)).toNat b≠k):pE (setS z k 0 0) s:=by
 unfold pE
 rw[dI z k 0 0 s]
 by_cases hsk:s=k
 .rw[iP hsk];exact .inl rfl
 rw[iN hsk]
 rcases hg with h|⟨d,hd,hr,hall⟩
 .exact .inl h
 by_cases hz:z (2*s)=0
 .exact .inl hz
 refine .inr ⟨d,hd,hr,fun b hb=>?_⟩
 rw[dI,iN (hk d hd hz hr (fun b hb=>(hall b hb).1) b hb)]
 exact hall b hb
theorem LN{z z':Nat->Int}{k:Nat}(h:∀x,x≠k->(z' (2*x)=0↔z (2*x)=0)):∀n,eV z' n=eV z n+(if k<n then(if z' (2*k)≠0 then 1 else 0)-(if z (2*k)≠0 then 1 else 0)else 0)
 |0=>by simp [eV]
 |n+1=>by
  rw[lU,lU,LN h n]
  generalize eV z n=l
  by_cases hk:n=k
  .subst hk
   rw[iN (Nat.lt_irrefl n),iP (Nat.lt_succ_self n)]
   generalize(if z' (2*n)≠0 then(1:Int)else 0)=a
   generalize(if z (2*n)≠0 then(1:Int)else 0)=b
   omega
  .have:=h n hk
   have e:(z' (2*n)≠0)↔(z (2*n)≠0):=by rw[Ne,Ne,this]
   have e2:(if z' (2*n)≠0 then(1:Int)else 0)=if z (2*n)≠0 then 1 else 0:=by simp only[e]
   rw[e2]
   generalize(if z (2*n)≠0 then(1:Int)else 0)=a
   by_cases hlt:k<n
   .rw[iP hlt,iP (show k<n+1 by omega)];omega
   rw[iN hlt,iN (show¬k<n+1 by omega)];omega
theorem qQ(z:Nat->Int)(k:Nat)(q v:Int)(hk:k<8):eV (setS z k q v) 8=eV z 8+((if q≠0 then 1 else 0)-(if z (2*k)≠0 then 1 else 0)):=by
 rw[LN (k:=k) (z:=z) (fun x hx=>by rw[dI,iN hx]) 8,iP hk,dI,iP rfl]
def WH(z:Nat->Int)(i:Nat):Prop:=0<=z (2*i)/\z (2*i)<=1000/\0<=z (2*i+1)/\z (2*i+1)<=4294967295/\(z (2*i)=0->z (2*i+1)=0)
theorem BO{z:Nat->Int}{i s:Nat}{k v:Int}(h:WH z s)(hk:0<=k/\k<=1000/\0<=v/\v<=4294967295/\(k=0->v=0)):WH (setS z i k v) s:=by
 unfold WH
 rw[dI,sI]
 by_cases e:s=i
 .rw[iP e,iP e];exact hk
 rw[iN e,iN e];exact h
theorem mM{z:Nat->Int}:cS z=true↔eV z 8<=6/\∀s,s<8->WH z s/\pE z s:=by
 constructor
 .intro h
  refine⟨oO h,fun s hs=>?_⟩
  have hb:=nB h hs
  have ho:=qE h hs
  unfold iL at ho
  simp only[decide_eq_true_eq]at ho
  exact⟨hb,(zZ hb.1 hs).2 ho.2.2.2.2.2⟩
 rintro⟨hl,h⟩
 refine rU hl fun s hs=>?_
 obtain⟨hb,hg⟩:=h s hs
 unfold iL
 rw[decide_eq_true_iff]
 exact⟨hb.1,hb.2.1,hb.2.2.1,hb.2.2.2.1,hb.2.2.2.2,(zZ hb.1 hs).1 hg⟩
theorem IK{z:Nat->Int}{q p:Nat}{v:Int}(h:cS z=true)(hp:p<8)(hat:kF z q=(p:Nat))(hq:q<=1000)(hq0:0<q)(hv:0<=v/\v<=4294967295)(hl:z (2*p)=0->eV z 8<6):cS (setS z p q v)=true:=by
 rw[mM]at h⊢
 obtain⟨h6,hs⟩:=h
 refine⟨?_,fun s Wq=>⟨BO (hs s Wq).1 I,xT hp hat s Wq (.inr (hs s Wq).2)⟩⟩
 rw[qQ _ _ _ _ hp]
 by_cases h0:z (2*p)=0
 .have:=hl h0
  simp only[h0]
  split<;>simp<;>omega
 rw[iP h0]
 split<;>omega
structure VK (z T:Nat->Int) (i m j:Nat):Prop where
 agree:xP T (setS z i 0 0) i j m
 len:eV T 8<=6
 bd:∀s,s<8->WH T s
 good:∀s,s<8->(∀x,j<=x->x<m->s≠kk i x)->pE T s
theorem VK.start{z:Nat->Int}{i m:Nat}(b:vI z i m):VK z (setS z i 0 0) i m 0:=by
 have hr:=mM.1 b.right
 have h6:=b.m6
 refine⟨fun _ _ _=>⟨rfl,rfl⟩,?_,fun s hs=>BO (hr.2 s hs).1 I,fun s hs hx=>?_⟩
 .rw[qQ _ _ _ _ b.hi]
  have:=hr.1
  simp only[ne_eq,not_true_eq_false,if_false]
  split<;>omega
 refine wD (hr.2 s hs).2 fun d hd hz hrow hall c hc he=>?_
 have hsi:s≠i:=fun e=>by
  have:=xX I hd (he.trans (e▸hrow.symm))
  omega
 generalize(z (2*s)).toNat=q at*
 have hfull:∀x,x<d-c->z (2*kk i x)≠0\/kk i x=s:=fun x hx=>by
  have e:kk i x=dR q (c+1+x):=by unfold dR at he⊢;unfold kk;omega
  rcases Nat.lt_or_ge (c+1+x) d with h|h
  .left;rw[e];exact hall _ h
  right;rw[e,show c+1+x=d by omega,hrow]
 have hs':kk i (d-c-1)=s:=by unfold dR at he hrow;unfold kk;omega
 have hm:d-c-1<m:=by
  rcases Nat.lt_or_ge (d-c-1) m with h|h
  .exact h
  exfalso
  have hf:=b.free
  rw[dI]at hf
  have hmi:kk i m≠i:=by unfold kk;have:=b.hi;omega
  rw[iN hmi]at hf
  rcases hfull m I with h1|h1
  .exact h1 hf
  rw[h1]at hf;exact hz hf
 exact hx (d-c-1) I hm hs'.symm
theorem VK.step{z T:Nat->Int}{i m j:Nat}(b:vI z i m)(hM:VK z T i m j)(hj:j<m):VK z (rC T (kk i j)) i m (j+1):=by
 have h6:=b.m6
 have hi:=b.hi
 obtain⟨p,hp,hat,hne⟩:=b.step hj hM.agree
 have hkj:kk i j≠i:=by unfold kk;omega
 have Md:=vD i j
 have eT:T (2*kk i j)=z (2*kk i j):=by rw[(hM.agree j (Nat.le_refl _) I).1,dI,iN hkj]
 have hTz:T (2*kk i j)≠0:=by have:=b.occ j hj;rw[dI,iN hkj]at this;rwa [eT]
 have hbk:=hM.bd _ Md
 have hTm:T (2*kk i m)=0:=by rw[(hM.agree m I (Nat.le_refl _)).1];exact b.free
 obtain⟨q,hq⟩:∃q:Nat,T (2*kk i j)=(q:Int):=⟨_,(Int.toNat_of_nonneg hbk.1).symm⟩
 have eS:rC T (kk i j)=setS (setS T (kk i j) 0 0) p q (T (2*kk i j+1)):=by
  unfold rC
  rw[hat,Int.toNat_natCast,hq]
 have hat':kF (setS T (kk i j) 0 0) q=(p:Nat):=by rw[hq,Int.toNat_natCast]at hat;exact hat
 have Gt:=hbk
 unfold WH at Gt
 refine⟨b.next hj hM.agree,?_,fun s hs=>?_,fun s hs hx=>?_⟩
 .rw[eS,qQ _ _ _ _ hp,qQ _ _ _ _ Md]
  have:=hM.len
  rw[iP hTz]
  simp only[ne_eq,not_true_eq_false,if_false]
  split<;>split<;>omega
 .rw[eS]
  exact BO (BO (hM.bd s hs) I) I
 rw[eS]
 by_cases hsp:s=p
 .exact xT hp hat' s hs (.inl hsp)
 refine xT hp hat' s hs (.inr ?_)
 by_cases hsk:s=kk i j
 .left;rw[hsk,dI,iP rfl]
 refine wD (hM.good s hs fun x hxj hxm e=>?_) fun d hd hz hrow hall c hc he=>?_
 .rcases Nat.eq_or_lt_of_le hxj with h|h
  .subst h;exact hsk e
  exact hx x h hxm e
 generalize(T (2*s)).toNat=r at*
 have hs':kk i (j+(d-c))=s:=by unfold dR at he hrow;unfold kk at he⊢;omega
 rcases Nat.lt_or_ge (j+(d-c)) m with h|h
 .exact hx _ I h hs'.symm
 rcases Nat.eq_or_lt_of_le h with h|h
 .rw[<-h]at hs'
  rw[hs']at hTm
  exact hz hTm
 have e:kk i m=dR r (c+(m-j)):=by unfold dR at he⊢;unfold kk at he⊢;omega
 exact hall (c+(m-j)) I (by rw[<-e];exact hTm)
theorem VK.run{z:Nat->Int}{i m:Nat}(b:vI z i m):∀j,j<=m->VK z (iX z i j) i m j
 |0,_=>VK.start b
 |j+1,h=>VK.step b (VK.run b j I) I
theorem GL{z:Nat->Int}{i m:Nat}(b:vI z i m):cS (iX z i m)=true:=by
 have h:=VK.run b m (Nat.le_refl _)
 exact mM.2 ⟨h.len,fun s hs=>⟨h.bd s hs,h.good s hs fun x h1 h2=>absurd h2 I⟩⟩
def lY(kind:Int)(xs:List Int)(a v:Int):List Int:=if kind=1 then qB xs a v else if kind=2 then nR xs a v else if kind=3 then VV xs a v else gD xs a v
def lC(kind:Int)(xs:List Int)(a:Int):Int:=if kind=1 then pN xs a else if kind=2 then nP xs a else if kind=3 then VW xs a else gM xs a
def lV(kind:Int)(xs:List Int)(a:Int):Int:=if kind=1 then pO xs a else if kind=2 then nT xs a else if kind=3 then VX xs a else gK xs a
def gQ(a k v:Int):Prop:=1<=a/\a<=6/\0<=k/\k<=1000/\0<=v/\v<=4294967295
def BQ(x:Int):Prop:=0<=x/\x<=4294967295
def wX(xs:List Int):Prop:=xs.length<=6/\∀i,i<xs.length->BQ (gI xs i)
def nA(c v:Int):Prop:=1<=c/\c<=5/\BQ v/\(c=1\/v=0)
theorem MD{xs:List Int}{v:Int}:gI (xs++[v]) xs.length=v:=by unfold gI;simp
theorem UA{xs:List Int}{i:Nat}(h:xs.length<=i):gI xs i=0:=by unfold gI;rw[List.getElem?_eq_none h];rfl
theorem XN(xs:List Int)(i:Nat):gI xs.tail i=gI xs (i+1):=by unfold gI;rw[List.getElem?_tail]
theorem wX.num{xs:List Int}(h:wX xs)(i:Nat):BQ (gI xs i):=by
 rcases Nat.lt_or_ge i xs.length with hi|hi
 .exact h.2 i hi
 rw[UA hi];exact⟨aJ,aJ⟩
theorem wX.app{xs:List Int}{v:Int}(h:wX xs)(hn:xs.length<6)(hv:BQ v):wX (xs++[v]):=
 ⟨by simp;omega,fun i hi=>by
  simp only[List.length_append,List.length_cons,List.length_nil]at hi
  rcases Nat.lt_or_ge i xs.length with h1|h1
  .rw[tV h1];exact h.2 i h1
  obtain rfl:i=xs.length:=I
  rw[MD];exact hv⟩
theorem wX.cons{xs:List Int}{v:Int}(h:wX xs)(hn:xs.length<6)(hv:BQ v):wX (v::xs):=
 ⟨by simp;omega,fun i hi=>by
  cases i with
  |zero=>exact hv
  |succ i=>exact h.2 i (by simpa using hi)⟩
theorem wX.tail{xs:List Int}(h:wX xs):wX xs.tail:=⟨by simp;have:=h.1;omega,fun i hi=>by rw[XN];exact h.num _⟩
theorem wX.take{xs:List Int}(h:wX xs)(n:Nat):wX (xs.take n):=⟨by simp;have:=h.1;omega,fun i hi=>by rw[vO (by simp at hi;omega)];exact h.num _⟩
theorem wX.heap{xs:List Int}(h:wX xs)(a v:Int)(hv:BQ v):wX (gD xs a v):=by
 unfold gD
 split
 .split
  .rename_i hn
   have:=h.app hn hv
   exact⟨by rw[wC];exact this.1,fun i hi=>by rw[wC]at hi;exact UW _ _ BQ (by simp) this.2 i hi⟩
  exact h
 split
 .have ht:=h.take (xs.length-1)
  refine⟨by rw[yA _ _ _ _ (Nat.le_refl _)];exact ht.1,fun i hi=>?_⟩
  rw[yA _ _ _ _ (Nat.le_refl _)]at hi
  exact TB _ _ _ _ BQ (Nat.le_refl _) I (h.num _) ht.2 i hi
 exact h
theorem UQ(xs:List Int):xs.take 0++xs.drop (0+1)=xs.tail:=by cases xs<;>rfl
theorem YF(xs:List Int):xs.take (xs.length-1)++xs.drop (xs.length-1+1)=xs.take (xs.length-1):=by rw[List.drop_eq_nil_of_le I,List.append_nil]
theorem LC{kind a k v:Int}{xs:List Int}(h:wX xs)(ho:gQ a k v):wX (lY kind xs a v):=by
 have hv:BQ v:=⟨ho.2.2.2.2.1,ho.2.2.2.2.2⟩
 unfold lY qB nR VV
 rw[UQ,YF]
 repeat' split
 all_goals first
  |exact h
  |exact h.tail
  |exact h.take _
  |exact h.app (by assumption) hv
  |exact h.cons (by assumption) hv
  |exact h.heap a v hv
theorem Em{xs:List Int}(h:wX xs):nA 1 xs.length:=⟨aJ,aJ,⟨I,by have:=h.1;omega⟩,.inl rfl⟩
theorem ZS{kind a:Int}{xs:List Int}(h:wX xs):nA (lC kind xs a) (lV kind xs a):=by
 have hn:=fun i=>h.num i
 have hl:BQ xs.length:=⟨I,by have:=h.1;omega⟩
 have h0:BQ 0:=⟨aJ,aJ⟩
 have e0:= @UA xs
 unfold gI at hn e0
 unfold lC lV pN pO nP nT VW VX gM gK gI nA
 by_cases hx:xs.length=0
 .have z0:=e0 (i:=0) I
  have z1:=e0 (i:=xs.length-1) I
  simp only[hx,z0]at*
  (repeat' split)<;>simp_all<;>omega
 repeat' split
 all_goals first
  |(exact⟨aJ,aJ,hn _,.inl rfl⟩)
  |(exact⟨aJ,aJ,hl,.inl rfl⟩)
  |(exact⟨aJ,aJ,h0,.inr rfl⟩)
  |(exfalso;omega)
def BW(kind:Int)(z:Nat->Int)(a k v:Int)(m:Nat):Nat->Int:=
 if kind=5 then eF 8 (fJ z a k v m)else if kind=6 then(fun i=>if i=0 then iU (z 0) a v else 0)else iT (lY kind (zL z) a v).length (lY kind (zL z) a v)
def IB(kind:Int)(z:Nat->Int)(a k v:Int):Int:=if kind=5 then fV z a k else if kind=6 then kZ (z 0) a v else lC kind (zL z) a
def JO(kind:Int)(z:Nat->Int)(a k v:Int):Int:=if kind=5 then fX z a k else if kind=6 then lI (z 0) a v else lV kind (zL z) a
theorem LT{z:Nat->Int}(hw:VU z)(h:gW z):wX (zL z):=by
 have h0:=hw 0 I
 refine⟨by unfold zL;rw[qT];have:=h.1;omega,fun i hi=>?_⟩
 unfold zL at hi⊢
 rw[qT]at hi
 have:=h.1
 unfold gI
 rw[pA _ _ _ hi]
 exact⟨(hw (i+1) I).1,(h.2 i I).1⟩
theorem xS{xs:List Int}(h:wX xs):gW (iT xs.length xs)/\VU (iT xs.length xs)/\zL (iT xs.length xs)=xs:=by
 have hx:∀i,i≠0->i<=xs.length->iT xs.length xs i=gI xs (i-1):=fun i h1 h2=>by unfold iT gI;rw[iN h1,iP h2]
 have hy:∀i,i≠0->¬i<=xs.length->iT xs.length xs i=0:=fun i h1 h2=>by unfold iT;rw[iN h1,iN h2]
 have h0:iT xs.length xs 0=xs.length:=rfl
 have h6:=h.1
 refine⟨⟨by rw[h0];omega,fun i hi=>?_⟩,fun i hi=>?_,?_⟩
 .rw[h0,Int.toNat_natCast]
  unfold tY
  by_cases hl:i+1<=xs.length
  .rw[hx _ I hl]
   exact⟨(h.num _).2,fun h=>absurd h I⟩
  rw[hy _ I hl]
  exact⟨I,fun _=>rfl⟩
 .by_cases Is:i=0
  .subst Is;rw[h0];omega
  by_cases hl:i<=xs.length
  .rw[hx _ Is hl];have:=h.num (i-1);unfold BQ at this;omega
  rw[hy _ Is hl];omega
 unfold zL
 rw[h0,Int.toNat_natCast]
 apply List.ext_getElem?
 intro i
 by_cases hi:i<xs.length
 .have e1:=pA (iT xs.length xs) xs.length i hi
  rw[hx _ I I,Nat.add_sub_cancel]at e1
  unfold gI at e1
  rw[List.getElem?_eq_getElem (by rw[qT];exact hi),List.getElem?_eq_getElem hi]at*
  simpa using e1
 rw[List.getElem?_eq_none (by rw[qT];omega),List.getElem?_eq_none I]
theorem vZ{z z':Nat->Int}(h:∀i,i<16->z' i=z i):∀n,n<=8->eV z' n=eV z n
 |0,_=>by simp [eV]
 |n+1,hn=>by rw[lU,lU,vZ h n I,h (2*n) I]
theorem BS{z z':Nat->Int}(h:∀i,i<16->z' i=z i):cS z'=true↔cS z=true:=by
 have hg:∀s,s<8->(pE z' s↔pE z s):=fun s hs=>by
  unfold pE
  rw[h (2*s) I]
  have e:∀b,z' (2*dR (z (2*s)).toNat b)=z (2*dR (z (2*s)).toNat b):=fun b=>h _ (by have:=mY (z (2*s)).toNat b;omega)
  simp only[e]
 have hb:∀s,s<8->(WH z' s↔WH z s):=fun s hs=>by
  unfold WH
  rw[h (2*s) I,h (2*s+1) I]
 rw[mM,mM,vZ h 8 (Nat.le_refl _)]
 constructor
 .rintro⟨h1,h2⟩;exact⟨h1,fun s hs=>⟨(hb s hs).1 (h2 s hs).1,(hg s hs).1 (h2 s hs).2⟩⟩
 rintro⟨h1,h2⟩;exact⟨h1,fun s hs=>⟨(hb s hs).2 (h2 s hs).1,(hg s hs).2 (h2 s hs).2⟩⟩
theorem rV{z:Nat->Int}{a k v:Int}{m:Nat}(h:cS z=true)(ho:gQ a k v)(hm:tG z a k m):cS (fJ z a k v m)=true:=by
 unfold fJ
 split
 .rename_i hc
  obtain⟨hc,Hu,Hp⟩:=hc
  obtain⟨i,hi,hat,hor⟩:=nX h k.toNat
  have e:(kF z k.toNat).toNat=i:=by rw[hat];rfl
  have ek:((k.toNat:Nat):Int)=k:=I
  rw[e]
  split
  .split
   .exact h
   rename_i hne
   rw[ek]at hor
   have:=IK (v:=v) h hi hat I I ⟨ho.2.2.2.2.1,ho.2.2.2.2.2⟩ (fun h0=>by
    rcases Int.lt_or_le (eV z 8) 6 with h6|h6
    .exact h6
    exact absurd ⟨I,h6⟩ hne)
   rwa [ek]at this
  split
  .exact h
  rename_i hz
  split
  .rename_i h2
   have:=hm h2 Hu Hp (by rw[e];omega)
   rw[e]at this
   exact GL this
  exact h
 exact h
theorem wO{d:Nat->Int}(h:cS d=true):kQ (eF 8 d)/\VU (eF 8 d):=by
 have he:∀i,i<16->eF 8 d i=d i:=fun i hi=>by unfold eF;rw[iP I]
 have hz:∀i,16<=i->eF 8 d i=0:=fun i hi=>by unfold eF;rw[iN I]
 refine⟨⟨fun i hi=>?_,hz 16 I,(BS he).2 h⟩,fun i hi=>?_⟩
 .have:=nB h hi
  unfold tW
  rw[he _ I,he _ I]
  omega
 rcases Nat.lt_or_ge i 16 with Qy|Qy
 .rw[he i Qy]
  have:=nB h (k:=i/2) I
  rcases Nat.mod_two_eq_zero_or_one i with e|e
  .rw[show 2*(i/2)=i by omega]at this;omega
  rw[show 2*(i/2)+1=i by omega]at this;omega
 rw[hz i Qy];omega
theorem WN{z:Nat->Int}{a k:Int}(h:cS z=true):nA (fV z a k) (fX z a k):=by
 obtain⟨i,hi,hat,hor⟩:=nX h k.toNat
 have e:(kF z k.toNat).toNat=i:=by rw[hat];rfl
 have hb:=nB h hi
 have hl:=sQ z 8
 unfold fV fX
 rw[e]
 repeat' split
 all_goals first
  |(exact⟨aJ,aJ,⟨I,I⟩,.inl rfl⟩)
  |(exact⟨aJ,aJ,⟨I,I⟩,.inr rfl⟩)
  |(exfalso;omega)
theorem EK{n a v:Int}(hn:BQ n)(hv:BQ v):BQ (iU n a v)/\nA (kZ n a v) (lI n a v):=by
 unfold BQ at*
 unfold iU kZ lI nA BQ
 constructor
 .repeat' split
  all_goals omega
 repeat' split
 all_goals omega
theorem IS{xs:List Int}{a v:Int}(h:iJ xs=true):iJ (gD xs a v)=true:=by
 unfold gD
 split
 .split
  .exact KD h (by assumption)
  exact h
 split
 .exact JF h
 exact h
theorem DC{kind a k v:Int}{z:Nat->Int}{m:Nat}(hw:VU z)(h:cK kind z)(ho:gQ a k v)(hm:kind=5->tG z a k m):
 cK kind (BW kind z a k v m)/\VU (BW kind z a k v m)/\nA (IB kind z a k v) (JO kind z a k v):=by
 unfold cK BW IB JO at*
 by_cases h5:kind=5
 .simp only[iP h5]at*
  have:=rV h.2.2 ho (hm h5)
  exact⟨(wO this).1,(wO this).2,WN h.2.2⟩
 simp only[iN h5]at*
 by_cases h6:kind=6
 .simp only[iP h6]at*
  have h0:=hw 0 I
  have:=EK (a:=a) (n:=z 0) (v:=v) ⟨h0.1,h.1⟩ ⟨ho.2.2.2.2.1,ho.2.2.2.2.2⟩
  refine⟨⟨this.1.2,fun i hi=>by simp⟩,fun i hi=>?_,this.2⟩
  have h1:=this.1
  unfold BQ at h1
  show 0<=(if i=0 then iU (z 0) a v else 0)/\(if i=0 then iU (z 0) a v else 0)<_
  split<;>omega
 simp only[iN h6]at*
 by_cases h4:kind=4
 .simp only[iP h4]at*
  have hl:=LT hw h.1
  obtain⟨a1,a2,a3⟩:=xS (LC (kind:=kind) hl ho)
  refine⟨⟨a1,?_⟩,a2,ZS hl⟩
  show iJ (zL _)=true
  rw[a3]
  have e:lY kind (zL z) a v=gD (zL z) a v:=by unfold lY;rw[iN I,iN I,iN I]
  rw[e]
  exact IS h.2
 simp only[iN h4]at*
 have hl:=LT hw h.2.2
 obtain⟨a1,a2,a3⟩:=xS (LC (kind:=kind) hl ho)
 exact⟨⟨h.1,h.2.1,a1⟩,a2,ZS hl⟩
theorem SL(xs:List Int)(a v:Int):VT xs a v 0=qB xs a v/\VP xs a=pN xs a/\VS xs a 0=pO xs a:=by
 refine⟨?_,?_,?_⟩
 .simp only[VT,iA,qB]
  (repeat' split)<;>first|rfl|(exfalso;omega)|(simp_all;done)|skip
 .simp only[VP,gZ,pN]
  (repeat' split)<;>first|rfl|(exfalso;omega)|(simp_all;done)|skip
 simp only[VS,gY,pO]
 (repeat' split)<;>first|rfl|(exfalso;omega)|(simp_all;done)|skip
theorem UU(xs:List Int)(a v:Int):VT xs a v (xs.length-1)=nR xs a v/\VP xs a=nP xs a/\VS xs a (xs.length-1)=nT xs a:=by
 refine⟨?_,?_,?_⟩
 .simp only[VT,iA,nR]
  (repeat' split)<;>first|rfl|(exfalso;omega)|(simp_all;done)|skip
  .rename_i h1 h2 h3 h4 h5 h6
   have:xs.length-1+1=xs.length:=I
   rw[this,List.drop_length,List.append_nil]
  all_goals(have:xs=[]:=List.eq_nil_of_length_eq_zero I;subst this;simp)
 .simp only[VP,gZ,nP]
  (repeat' split)<;>first|rfl|(exfalso;omega)|(simp_all;done)|skip
 simp only[VS,gY,nT]
 (repeat' split)<;>first|rfl|(exfalso;omega)|(simp_all;done)|skip
theorem TE(xs:List Int)(a v:Int):CR xs a v=VV xs a v/\PI xs a=VW xs a/\DB xs a=VX xs a:=by
 have h3:decide (a=3)=true↔a=3:=by simp
 refine⟨?_,?_,?_⟩
 .simp only[CR,DH,iA,VV,h3]
  (repeat' split)<;>first|rfl|(exfalso;omega)|(simp_all;done)|skip
  all_goals(have:xs=[]:=List.eq_nil_of_length_eq_zero I;subst this;simp)
 .simp only[PI,gZ,VW]
  (repeat' split)<;>first|rfl|(exfalso;omega)|(simp_all;done)|skip
 simp only[DB,DH,gY,VX]
 (repeat' split)<;>first|rfl|(exfalso;omega)|(simp_all;done)|skip
theorem l1(xs:List Int)(a v:Int):lY 1 xs a v=qB xs a v/\lC 1 xs a=pN xs a/\lV 1 xs a=pO xs a:=⟨rfl,rfl,rfl⟩
theorem l2(xs:List Int)(a v:Int):lY 2 xs a v=nR xs a v/\lC 2 xs a=nP xs a/\lV 2 xs a=nT xs a:=⟨rfl,rfl,rfl⟩
theorem l3(xs:List Int)(a v:Int):lY 3 xs a v=VV xs a v/\lC 3 xs a=VW xs a/\lV 3 xs a=VX xs a:=⟨rfl,rfl,rfl⟩
theorem l4(xs:List Int)(a v:Int):lY 4 xs a v=gD xs a v/\lC 4 xs a=gM xs a/\lV 4 xs a=gK xs a:=⟨rfl,rfl,rfl⟩
section
variable(A:Option Addr)(n c:Nat)(xs:List Int)(a k v:Int)(w:World)
theorem Dr(h:fI w A n c xs)(hn:n<=60)(hv: -9223372036854775808<=v/\v<=9223372036854775807):
 Calls prog 197 #[.slice A n c,.agg #[a,k,v]] w (AQ A n (lY 1 xs a v) (lC 1 xs a) (lV 1 xs a) w):=by
 obtain⟨e1,e2,e3⟩:=l1 xs a v
 obtain⟨f1,f2,f3⟩:=SL xs a v
 rw[e1,e2,e3,<-f1,<-f2,<-f3]
 exact AV A n c xs a k v w h hn hv
theorem Cy(h:fI w A n c xs)(hn:n<=60)(hv: -9223372036854775808<=v/\v<=9223372036854775807):
 Calls prog 198 #[.slice A n c,.agg #[a,k,v]] w (AQ A n (lY 2 xs a v) (lC 2 xs a) (lV 2 xs a) w):=by
 obtain⟨e1,e2,e3⟩:=l2 xs a v
 obtain⟨f1,f2,f3⟩:=UU xs a v
 rw[e1,e2,e3,<-f1,<-f2,<-f3,h.len]
 exact AM A n c xs a k v w h hn hv
theorem Ea(h:fI w A n c xs)(hn:n<=60)(hv: -9223372036854775808<=v/\v<=9223372036854775807):
 Calls prog 199 #[.slice A n c,.agg #[a,k,v]] w (AQ A n (lY 3 xs a v) (lC 3 xs a) (lV 3 xs a) w):=by
 obtain⟨e1,e2,e3⟩:=l3 xs a v
 obtain⟨f1,f2,f3⟩:=TE xs a v
 rw[e1,e2,e3,<-f1,<-f2,<-f3]
 exact AO A n c xs a k v w h hn hv
theorem Cr(h:fI w A n c xs)(hn:n<=60)(hv: -9223372036854775808<=v/\v<=9223372036854775807):
 Calls prog 200 #[.slice A n c,.agg #[a,k,v]] w (AQ A n (lY 4 xs a v) (lC 4 xs a) (lV 4 xs a) w):=by
 obtain⟨e1,e2,e3⟩:=l4 xs a v
 rw[e1,e2,e3]
 exact(FA A n c xs a k v w h hn hv).mono fun _ _ h=>h.weakJ A n
theorem Cx(h:fI w A n c xs)(hn:n<=60)(hv: -9223372036854775808<=v/\v<=9223372036854775807):
 Calls prog 161 #[.slice A n c,.agg #[a,k,v]] w (fQ (lY 1 xs a v) (lC 1 xs a) (lV 1 xs a) w):=by
 obtain⟨e1,e2,e3⟩:=l1 xs a v
 rw[e1,e2,e3]
 exact(NF A n c xs a k v w h hn hv)
theorem Ed(h:fI w A n c xs)(hn:n<=60)(hv: -9223372036854775808<=v/\v<=9223372036854775807):
 Calls prog 162 #[.slice A n c,.agg #[a,k,v]] w (fQ (lY 2 xs a v) (lC 2 xs a) (lV 2 xs a) w):=by
 obtain⟨e1,e2,e3⟩:=l2 xs a v
 rw[e1,e2,e3]
 exact(NM A n c xs a k v w h hn hv)
theorem Cm(h:fI w A n c xs)(hn:n<=60)(hv: -9223372036854775808<=v/\v<=9223372036854775807):
 Calls prog 163 #[.slice A n c,.agg #[a,k,v]] w (fQ (lY 3 xs a v) (lC 3 xs a) (lV 3 xs a) w):=by
 obtain⟨e1,e2,e3⟩:=l3 xs a v
 rw[e1,e2,e3]
 exact(NQ A n c xs a k v w h hn hv)
theorem Eb(h:fI w A n c xs)(hn:n<=60)(hv: -9223372036854775808<=v/\v<=9223372036854775807):
 Calls prog 164 #[.slice A n c,.agg #[a,k,v]] w (fQ (lY 4 xs a v) (lC 4 xs a) (lV 4 xs a) w):=by
 obtain⟨e1,e2,e3⟩:=l4 xs a v
 rw[e1,e2,e3]
 exact(SS A n c xs a k v w h hn hv)
end
end
section
attribute [local go_sem↓] Go.wp_at_zero Go.wp_at_succ
def rB(T:Array Value->World->Prop)(code val:Int)(w:World)(e:Ending)(w':World):Prop:=
 Below w w w'/\∃C,C.size=19/\C.all (·.oneCell')=true/\e=.returned (.tuple #[.agg C,.agg #[code,val]])/\T C w'
theorem jH(c x:Int):(#[Value.int .i64 c,Value.int .i64 x]:Array Value).all (·.oneCell')=true:=J
theorem eU:(prog.info? 44).map (·.size)=some 2:=J
theorem fI.farc{w:World}{A:Option Addr}{n c:Nat}{xs:List Int}(h:fI w A n c xs){p:Addr}(hp:0<n->∀b,A=some b->b.block≠p.block)(u:Value):fI (w.setCell p u) A n c xs:=
 ⟨h.len,h.cap,h.cap63,h.bd,fun hn=>by
  obtain⟨b,off,rfl,hlt,hc⟩:=h.at_ hn
  refine⟨b,off,rfl,by simpa using hlt,fun i hi=>?_⟩
  rw[World.cell?_setCell_far _ _ _ _ (show p.block≠b from fun e=>hp hn _ rfl e.symm)]
  exact hc i hi⟩
theorem uG{S:Nat->Prop}{w w':World}{A:Option Addr}{n c:Nat}{xs:List Int}(h:fI w A n c xs)(hk:aD S w w')(hS:0<n->∀b,A=some b->¬S b.block):fI w' A n c xs:=
 ⟨h.len,h.cap,h.cap63,h.bd,fun hn=>by
  obtain⟨b,off,rfl,hlt,hc⟩:=h.at_ hn
  exact⟨b,off,rfl,Nat.lt_of_lt_of_le hlt hk.size,fun i hi=>(hk.cell (p:=⟨b,off+i,none⟩) hlt (hS hn ⟨b,off,none⟩ rfl)).trans (hc i hi)⟩⟩
structure mX (w W:World) (C:Array Value) (a k v c x:Int):Prop where
 thing:aY W w 131 C
 op:aY W (w,1) 39 #[a,k,v]
 res:aY W (w,2) 131 (tz 0)
 ans:aY W (w,3) 44 (2:Int)
 tmp:aY W (w,4) 44 #[c,x]
 below:Below w w W
theorem mX.mk_(w:World)(C:Array Value)(a k v:Int):
 mX w (((((w.alloc (.cells C 131)).alloc (.cells #[a,k,v] 39)).alloc (.cells (tz 0) 131)).alloc (.cells (2:Int) 44)).alloc (.cells (2:Int) 44)) C a k v 0 0:=
 ⟨((((aY.new _ _ _).alloc _).alloc _).alloc _).alloc _,((((aY.newAt _ _ _ (by simp))).alloc _).alloc _).alloc _,(((aY.newAt _ _ _ (by simp))).alloc _).alloc _,(aY.newAt _ _ _ (by simp)).alloc _,aY.newAt _ _ _ (by simp),by go_grown⟩
theorem mX.on{w W W':World}{C:Array Value}{a k v c x:Int}(h:mX w W C a k v c x)(hb:Below W W W'):mX w W' C a k v c x:=
 ⟨h.thing.below hb h.thing.lt,h.op.below hb h.op.lt,h.res.below hb h.res.lt,h.ans.below hb h.ans.lt,h.tmp.below hb h.tmp.lt,h.below.trans (hb.mono h.below.size)⟩
theorem mX.answer{w W:World}{C:Array Value}{a k v c x:Int}(h:mX w W C a k v c x)(c' x':Int):
 mX w ((W.setCell (w,4) c').setCell ((w,4),1) x') C a k v c' x':=
 ⟨(h.thing.far (by simp) _).far (by simp) _,(h.op.far (by simp) _).far (by simp) _,(h.res.far (by simp) _).far (by simp) _,(h.ans.far (by simp) _).far (by simp) _,(h.tmp.set_ 0 _).set_ 1 _,
   (h.below.setCell (by show w.heap.size<=w+4;omega) _).setCell (by show w.heap.size<=w+4;omega) _⟩
theorem mX.cell{w W:World}{C:Array Value}{a k v c x:Int}(h:mX w W C a k v c x)(i:Nat)(u:Value):mX w (W.setCell (w.heap.size,i) u) (C.setIfInBounds i u) a k v c x:=
 ⟨h.thing.set_ i u,h.op.far (by simp) _,h.res.far (by simp) _,h.ans.far (by simp) _,h.tmp.far (by simp) _,h.below.setCell (Nat.le_refl _) _⟩
theorem mX.answerRow{w W:World}{C:Array Value}{a k v c x:Int}(h:mX w W C a k v c x)(c' x':Int):mX w (W.setRow (w,4) #[c',x']) C a k v c' x':=
 ⟨(setRow_other _ _ _ _ I).trans h.thing,(setRow_other _ _ _ _ I).trans h.op,(setRow_other _ _ _ _ I).trans h.res,(setRow_other _ _ _ _ I).trans h.ans,aY.setRow h.tmp _,aL h.below I _⟩
theorem eB.ex(y:Nat->Int)(n:Nat)(hb:∀i,i<n->-9223372036854775808<=y i/\y i<=9223372036854775807):∃D,eB D n y:=
 ⟨((List.range n).map fun i=>Value.int .i64 (y i)).toArray,by simp,fun i hi=>by simp [hi],hb⟩
theorem lD.setS{C D:Array Value}{y d:Nat->Int}(h:lD C 5 none 0 0 d 0)(hD:eB D 16 y):lD (fF C 2 D.toList) 5 none 0 0 y 0:=by
 have hs:=h.size
 have hl:D.toList.length=16:=by rw[Array.length_toList,hD.size]
 refine⟨by rw[fA];exact hs,?_,?_,fun i hi=>?_,?_⟩
 .rw[iB (.inl I)];exact h.kind_
 .rw[iB (.inl I)];exact h.list
 .rw[EE I I,Array.getElem?_toList];exact hD.get i hi
 rw[iB (.inr I)];exact h.num
theorem mX.cells{w W:World}{C:Array Value}{a k v c x:Int}(h:mX w W C a k v c x)(o:Nat)(vs:List Value):mX w (W.setCells w o vs) (fF C o vs) a k v c x:=
 ⟨h.thing.setCells,h.op.far_cells (by simp) _ _,h.res.far_cells (by simp) _ _,h.ans.far_cells (by simp) _ _,h.tmp.far_cells (by simp) _ _,vJ h.below (Nat.le_refl _) _ _⟩
theorem QE(C D:Array Value)(z:Nat->Int)(a k v:Int)(m:Nat)(w:World)(h:lD C 5 none 0 0 z 0)(hz:∀i,i<16->-9223372036854775808<=z i/\z i<=9223372036854775807)(hr:cS z=true)(hv: -9223372036854775808<=v/\v<=9223372036854775807)(hm:tG z a k m)(hD:eB D 16 (fJ z a k v m)):
 Calls prog 191 #[.agg C,.agg #[a,k,v]] w
  (rB (fun D w'=>lD D 5 none 0 0 (fJ z a k v m) 0) (fV z a k) (fX z a k) w):=by
 have c0:=h.kind_
 obtain⟨E,hE⟩:=aO (C.extract 2 18)
 have hI:eB E 16 z:=by
  have hs:=h.size
  refine⟨by rw[hE];simp;omega,fun i hi=>?_,hz⟩
  rw[hE,Array.getElem?_extract,iP I]
  exact h.slot i hi
 have H:=aH h
 have HE:=aH hE
 have HI:=aH hI
 have Rc:=aH hI.size
 have Lo:=aH hD.size
 have HD:=aH hD
 have Hn:Hid (∀W:World,Calls prog 201 #[.agg E,.agg #[a,k,v]] W fun e w'=>e=.returned (.tuple #[.agg D,.agg #[(fV z a k),(fX z a k)]])/\Below W W w'):=aH fun W=>SX E D z a k v m W hI hr hv hm hD
 have Id:=aH (mX.mk_ w C a k v)
 clear h hE hI hD hz hr hv hm
 generalize hco:fV z a k=co at*
 generalize hva:fX z a k=va at*
 have HCO:=aH hco
 have HVA:=aH hva
 clear hco hva
 go_enter func191,ntmps191
 go_wp2_with (refine wpList_load_mid rfl 129 _ rfl w 2 rfl E.toList _ ?hc underlying129 rfl ?hi ?_)
 case hc=>
  rw[HE.out]
  exact World.rangeAt_of_block (t:=131) (fr:=(0,0)) Id.thing 2 16
 case hi=>rw[BU,Array.length_toList,Rc.out]
 go_wp2_with fail
 refine(Hn.out _).mono ?_
 rintro e w1 ⟨rfl,Gs⟩
 have Ih:=aH (Id.on Gs)
 have Lq:=aH (H.setS HD)
 have Jp:Hid ((prog.info? 131).map (·.size)=some (fF C 2 D.toList).size):=by show _=_;rw[jT,Lq.size]
 have Sv:=aH Lq.size
 have Pc:=Lib.hid (kM Lq)
 have Ho:=Lib.hid ((Ih.cells 2 D.toList).answerRow co va)
 clear Gs c0
 go_wp2_with (first
  |(refine wpList_store_mid rfl 129 _ _ rfl w.heap.size 2 D rfl rfl (Ih.thing.there (by rw[Lo.out,H.size];decide)) (by rw[BU,Lo.out]) HD.one ?_)
  |(refine wpList_store_row rfl 44 _ _ rfl (w.heap.size+4) #[.int .i64 co,.int .i64 va] rfl rfl 44 #[.int .i64 0,.int .i64 0] (Ih.cells 2 D.toList).tmp eU rfl (jH _ _) ?_))
 clear Ih
 generalize(w1.setCells w.heap.size 2 D.toList).setRow (w.heap.size+4) #[.int .i64 co,.int .i64 va]=W3 at*
 generalize fF C 2 D.toList=C2 at*
 refine dQ 3 (fun b=>b=w.heap.size+2) [2] (by kernel_rfl) (by kernel_rfl) ?_
 intro anc HA
 refine bA (.agg C2) cX ?_ ?_
 .intro w9 Gq _
  exact bT 131 _ rfl w.heap.size rfl 131 C2 _ ((Gq.block _ Ho.thing.lt (by show¬w.heap.size=w.heap.size+2;omega)).trans Ho.thing) underlying131 rfl Jp aE
 refine bA (.agg #[.int .i64 co,.int .i64 va]) cX ?_ ?_
 .intro w9 Gq _
  exact bT 44 _ rfl (w.heap.size+4) rfl 44 #[.int .i64 co,.int .i64 va] _ ((Gq.block _ Ho.tmp.lt (by show¬w.heap.size+4=w.heap.size+2;omega)).trans Ho.tmp) underlying44 rfl eU aE
 refine bA undef (fun _ w'=>aY w' (w+2) 131 C2) ?_ ?_
 .intro w9 Gq hmet
  have Ie:aY w9 (w,2) 131 (tz 0):=(hmet.1.block _ Ho.res.lt (fun h=>dN h (by rw[HA.out];kernel_rfl))).trans Ho.res
  exact dS 131 _ _ rfl (w,2) C2 rfl rfl 131 (tz 0) Ie Jp (by rw[Sv.out];rfl) Pc ⟨⟨rfl,Ie.setRow C2⟩,fD (.inl ⟨aJ,rfl⟩) _⟩
 refine aZ ?_
 intro w9 Gq hmet
 have Od:Hid (aY w9 (w,2) 131 C2):=aH (by
  have h1:=hmet.1 rfl
  obtain⟨w0,k0,k1,hF⟩:=h1
  exact(k1.block _ hF.lt (fun h=>dN h (by rw[HA.out];kernel_rfl))).trans hF)
 have Pd:Hid (aY w9 (w.heap.size+3) 44 #[.int .i64 0,.int .i64 0]):=Lib.hid ((Gq.block _ Ho.ans.lt (by show¬w.heap.size+3=w.heap.size+2;omega)).trans Ho.ans)
 have Ir:=Lib.hid (Ho.below.trans (Gq.below Ho.below.size (fun b hb e=>by omega)))
 have Qq:=Lib.hid Gq
 clear hmet Gq
 simp only[List.drop_succ_cons,List.drop_zero]
 go_wp2_with (refine wpList_store_row rfl 44 _ _ rfl (w.heap.size+3) #[.int .i64 co,.int .i64 va] rfl rfl 44 #[.int .i64 0,.int .i64 0] Pd eU rfl (jH _ _) ?_)
 have hR:aY (w9.setRow (w.heap.size+3) #[.int .i64 co,.int .i64 va]) (w.heap.size+2) 131 C2:=(setRow_other _ _ _ _ (by omega)).trans Od
 have hA:aY (w9.setRow (w.heap.size+3) #[.int .i64 co,.int .i64 va]) (w.heap.size+3) 44 #[.int .i64 co,.int .i64 va]:=aY.setRow Pd _
 refine bodyPost_ret (bY results191 _ _ (w.heap.size+2) (w.heap.size+3) 131 44 C2 #[.int .i64 co,.int .i64 va] _ _ rfl rfl hR hA underlying131 rfl Jp underlying44 rfl eU) rfl ⟨aL Ir (by omega) _,C2,Sv.out,Pc.out,rfl,?_⟩
 exact Lq
theorem UM(C:Array Value)(n a k v:Int)(w:World)(h:lD C 6 none 0 0 (fun _=>0) n)(h0:0<=n)(h1:n<=4294967295)(h2:0<=v)(h3:v<=4294967295):
 Calls prog 191 #[.agg C,.agg #[a,k,v]] w
  (rB (fun D w'=>lD D 6 none 0 0 (fun _=>0) (iU n a v)) (kZ n a v) (lI n a v) w):=by
 have c0:=h.kind_
 have c18:=h.num
 have H:=aH h
 have Hn:Hid (∀W:World,Calls prog 202 #[n,.agg #[a,k,v]] W fun e w'=>e=.returned (.tuple #[(iU n a v),.agg #[(kZ n a v),(lI n a v)]])/\Below W W w'):=aH fun W=>BB n a k v W h0 h1 h2 h3
 have Id:=aH (mX.mk_ w C a k v)
 clear h
 generalize iU n a v=nn at*
 generalize kZ n a v=co at*
 generalize lI n a v=va at*
 go_enter func191,ntmps191
 go_wp2_with fail
 refine(Hn.out _).mono ?_
 rintro e w1 ⟨rfl,Gs⟩
 have Ih:=aH (Id.on Gs)
 have t1:=(Ih.thing.cell 18).trans c18
 have f1:=Ih.thing.frozen 18
 have a0:=Ih.tmp.cell 0
 have a1:=Ih.tmp.cell 1
 have f2:=Ih.tmp.frozen 0
 have f3:=Ih.tmp.frozen 1
 simp only[List.getElem?_toArray,List.getElem?_cons_zero,List.getElem?_cons_succ]at a0 a1
 have Lq:=aH (H.setN nn)
 have Jp:Hid ((prog.info? 131).map (·.size)=some (C.setIfInBounds 18 nn).size):=by show _=_;rw[jT,Lq.size]
 have Sv:=aH Lq.size
 have Pc:=aH (kM Lq)
 have Ho:Hid (mX w (((w1.setCell ⟨w.heap.size,18,none⟩ (.int .i64 nn)).setCell ⟨w.heap.size+1+1+1+1,0,none⟩ (.int .i64 co)).setCell ⟨w.heap.size+1+1+1+1,1,none⟩ (.int .i64 va)) (C.setIfInBounds 18 (.int .i64 nn)) a k v co va):=Lib.hid ((Ih.cell 18 (.int .i64 nn)).answer co va)
 clear Gs c0 c18
 go_wp2_with fail
 clear Ih t1 f1 a0 a1 f2 f3
 generalize((w1.setCell (w.heap.size,18) nn).setCell (w.heap.size+1+1+1+1,0) co).setCell (w.heap.size+1+1+1+1,1) va=W3 at*
 generalize C.setIfInBounds 18 nn=C2 at*
 refine dQ 3 (fun b=>b=w+2) [2] J J ?_
 intro anc HA
 refine bA (.agg C2) cX ?_ ?_
 .intro w9 Gq _
  exact bT 131 _ rfl w.heap.size rfl 131 C2 _ ((Gq.block _ Ho.thing.lt (by show¬w.heap.size=w.heap.size+2;omega)).trans Ho.thing) underlying131 rfl Jp aE
 refine bA (.agg #[.int .i64 co,.int .i64 va]) cX ?_ ?_
 .intro w9 Gq _
  exact bT 44 _ rfl (w.heap.size+4) rfl 44 #[.int .i64 co,.int .i64 va] _ ((Gq.block _ Ho.tmp.lt (by show¬w.heap.size+4=w.heap.size+2;omega)).trans Ho.tmp) underlying44 rfl eU aE
 refine bA undef (fun _ w'=>aY w' (w+2) 131 C2) ?_ ?_
 .intro w9 Gq hmet
  have Ie:aY w9 (w,2) 131 (tz 0):=(hmet.1.block _ Ho.res.lt (fun h=>dN h (by rw[HA.out];kernel_rfl))).trans Ho.res
  exact dS 131 _ _ rfl (w,2) C2 rfl rfl 131 (tz 0) Ie Jp (by rw[Sv.out];rfl) Pc ⟨⟨rfl,Ie.setRow C2⟩,fD (.inl ⟨aJ,rfl⟩) _⟩
 refine aZ ?_
 intro w9 Gq hmet
 have Od:Hid (aY w9 (w,2) 131 C2):=aH (by
  have h1:=hmet.1 rfl
  obtain⟨w0,k0,k1,hF⟩:=h1
  exact(k1.block _ hF.lt (fun h=>dN h (by rw[HA.out];kernel_rfl))).trans hF)
 have Pd:Hid (aY w9 (w,3) 44 (2:Int)):=aH ((Gq.block _ Ho.ans.lt (by show¬w.heap.size+3=w+2;omega)).trans Ho.ans)
 have Ir:=aH (Ho.below.trans (Gq.below Ho.below.size (fun b hb e=>by omega)))
 have Qq:=Lib.hid Gq
 clear hmet Gq
 simp only[List.drop_succ_cons,List.drop_zero]
 go_wp2_with (refine wpList_store_row rfl 44 _ _ rfl (w.heap.size+3) #[.int .i64 co,.int .i64 va] rfl rfl 44 #[.int .i64 0,.int .i64 0] Pd eU rfl (jH _ _) ?_)
 have hR:aY (w9.setRow (w.heap.size+3) #[.int .i64 co,.int .i64 va]) (w.heap.size+2) 131 C2:=(setRow_other _ _ _ _ (by omega)).trans Od
 have hA:aY (w9.setRow (w.heap.size+3) #[.int .i64 co,.int .i64 va]) (w.heap.size+3) 44 #[.int .i64 co,.int .i64 va]:=aY.setRow Pd _
 refine bodyPost_ret (bY results191 _ _ (w.heap.size+2) (w.heap.size+3) 131 44 C2 #[.int .i64 co,.int .i64 va] _ _ rfl rfl hR hA underlying131 rfl Jp underlying44 rfl eU) rfl ⟨aL Ir (by omega) _,C2,Sv.out,Pc.out,rfl,?_⟩
 exact Lq
end
section
theorem yB(C:Array Value)(z:Nat->Int)(kind a k v:Int)(m:Nat)(w:World)(hw:VU z)(hz:cK kind z)(ho:gQ a k v)(hm:kind=5->tG z a k m)(h:jE kind z C w)(h56:kind=5\/kind=6):
 Calls prog 191 #[.agg C,.agg #[a,k,v]] w (rB (jE kind (BW kind z a k v m)) (IB kind z a k v) (JO kind z a k v) w):=by
 have fit:∀{T T':Array Value->World->Prop} {c x:Int} {e:Ending} {w':World},(∀D w',T D w'->T' D w')->rB T c x w e w'->rB T' c x w e w':=
  fun hT ⟨hB,D,h1,h2,h3,h4⟩=>⟨hB,D,h1,h2,h3,hT _ _ h4⟩
 have hv: -9223372036854775808<=v/\v<=9223372036854775807:=by have:=ho.2.2.2.2;omega
 unfold cK at hz
 unfold jE at h
 unfold IB JO
 by_cases h5:kind=5
 .subst h5
  simp only[if_true]at hz h⊢
  have hy:=rV hz.2.2 ho (hm rfl)
  have bd:∀{d:Nat->Int},cS d=true->∀i,i<16->-9223372036854775808<=d i/\d i<=9223372036854775807:=fun{d} hd i hi=>by
   have:=nB hd (k:=i/2) I
   rcases Nat.mod_two_eq_zero_or_one i with e|e
   .rw[show 2*(i/2)=i by omega]at this;omega
   rw[show 2*(i/2)+1=i by omega]at this;omega
  obtain⟨D,hD⟩:=eB.ex (fJ z a k v m) 16 (bd hy)
  refine(QE C D z a k v m w h (bd hz.2.2) hz.2.2 hv (hm rfl) hD).mono fun e w' h'=>fit (fun E w' hT=>?_) h'
  unfold jE BW
  simp only[if_true]
  exact⟨hT.size,hT.kind_,hT.list,fun i hi=>by rw[show eF 8 (fJ z a k v m) i=fJ z a k v m i from iP I];exact hT.slot i hi,hT.num⟩
 simp only[iN h5]at hz h⊢
 by_cases h6:kind=6
 .subst h6
  simp only[if_true]at hz h⊢
  have h0:=hw 0 I
  refine(UM C (z 0) a k v w h h0.1 hz.1 ho.2.2.2.2.1 ho.2.2.2.2.2).mono fun e w' h'=>fit (fun E w' hT=>?_) h'
  unfold jE BW
  exact hT
 omega
end
end Go.Proofs.YtplpimkgihnmhaaGreatDoor
