/-
  Part of a proof: ShWr ShRd BatW ShA. For all values.
-/
import Derived.Test.YtplpimkgihnmhaaGreatDoorA25
import Derived.Test.YtplpimkgihnmhaaGreatDoorA26
import Derived.Test.YtplpimkgihnmhaaGreatDoorA27
set_option maxRecDepth 100000
set_option maxHeartbeats 4000000
set_option linter.all false
namespace Go.Proofs.YtplpimkgihnmhaaGreatDoor
open Go.Proofs.Tryz Go.RowKit
section
attribute [local go_sem↓] Go.wp_at_zero Go.wp_at_succ
section
variable{w:World}{tag:Nat->Nat}{t:Nat}{θ:cQ}{last:Int}{q:Nat}{RA:Option Addr}{cr:Nat}{D:Option Addr}{cd:Nat}{Jh:List (List Value)}{ended:Bool}
theorem yZ{α:Type}(L:List α)(f:Nat->α)(k:Nat):(L++(List.range k).map f)++[f k]=L++(List.range (k+1)).map f:=by
 rw[List.range_succ,List.map_append,List.append_assoc];rfl
def kL(p q g V b:Nat):List (Nat×Nat×TypeId×Value):=[(b,106,47,cR p),(b+1,106,63,cR q),(b+2,106,91,.slice (some ⟨g,0,none⟩) 32 32),(b+3,106,23,[V])]
def lJ(p q g:Nat):mG:=⟨p,q,0,0,g,0,0,0⟩
theorem XW(t p q g V b:Nat)(ht:t<4):yD t (kL p q g V b):=by
 intro x hx
 simp only[kL,List.mem_cons,List.not_mem_nil,or_false]at hx
 rcases hx with rfl|rfl|rfl|rfl<;>(constructor<;>(try dsimp only)<;>omega)
structure PR (w0:World) (Gu:Nat->Nat) (t:Nat) (θ:cQ) (last:Int) (p q g V b:Nat) (D:Option Addr) (cd:Nat) (ended:Bool) (cs:List Cl) (w:World) (tag:Nat->Nat) (R:Option Addr) (cr:Nat) (rows:List (List Value)):Prop where
 k:Kg (eJ t) w0 Gu w tag
 th:lT w tag t θ last q R cr D cd rows ended
 bx:FG w tag (kL p q g V b)
 rs:dD w tag (lJ p q g) cs rows
def NW(w0:World)(Gu:Nat->Nat)(t:Nat)(θ:cQ)(last:Int)(p q g V b:Nat)(D:Option Addr)(cd:Nat)(ended:Bool)(cs:List Cl)(w:World):Prop:=∃tag R cr rows,PR w0 Gu t θ last p q g V b D cd ended cs w tag R cr rows
theorem PR.below{w0 w w':World}{Gu tag tag':Nat->Nat}{p g V b:Nat}{cs:List Cl}{R:Option Addr}{rows:List (List Value)}(h:PR w0 Gu t θ last p q g V b D cd ended cs w tag R cr rows)(hb:Below w w w')(ht:bI w tag tag'):PR w0 Gu t θ last p q g V b D cd ended cs w' tag' R cr rows:=
 ⟨h.k.go (S:=bN) ht (aD.of_same hb) (fun _ x=>x.elim),h.th.below hb ht,h.bx.kept (S:=bN) (aD.of_same hb) ht (fun _ x=>x.elim),h.rs.below hb ht⟩
theorem PR.add{w0 w w':World}{Gu tag tag':Nat->Nat}{p g V b:Nat}{cs:List Cl}{R R':Option Addr}{cr':Nat}{rows:List (List Value)}(Js:t<4)(h:PR w0 Gu t θ last p q g V b D cd ended cs w tag R cr rows)(hk:Kg (eJ t) w tag w' tag'){r:List Value}(hth:lT w' tag' t θ last q R' cr' D cd (rows++[r]) ended){c:Cl}(hc:c.At w tag (lJ p q g) r):PR w0 Gu t θ last p q g V b D cd ended (cs++[c]) w' tag' R' cr' (rows++[r]):=
 have hc':c.At w' tag' (lJ p q g) r:=hc.kept hk.k hk.t (fun b hb=>by rcases hb with hb|hb<;>omega)
 ⟨h.k.trans hk,hth,h.bx.then_ hk (XW t p q g V b Js),(h.rs.then_ Js hk).add hc'⟩
theorem PR.ro{w0 w:World}{Gu tag:Nat->Nat}{p g V b:Nat}{cs:List Cl}{R:Option Addr}{rows:List (List Value)}(h:PR w0 Gu t θ last p q g V b D cd ended cs w tag R cr rows):
 yK w tag (lJ p q g) b/\FH w tag (lJ p q g) (b+1)/\Dp w tag (lJ p q g) (b+2)/\Ch w tag (b+3) V:=
 ⟨h.bx (b,106,47,cR p) (by simp [kL]),h.bx (b+1,106,63,cR q) (by simp [kL]),h.bx (b+2,106,91,.slice (some ⟨g,0,none⟩) 32 32) (by simp [kL]),h.bx (b+3,106,23,[V]) (by simp [kL])⟩
theorem PR.start(h:lT w tag t θ last q RA cr D cd [] ended)(p g V:Nat):PR w tag t θ last p q g V w D cd ended [] ((((w.alloc (.cells #[(p,0)] 47)).alloc (.cells #[(q,0)] 63)).alloc (.cells #[.slice (some ⟨g,0,none⟩) 32 32] 91)).alloc (.cells #[[V]] 23)) (fH w tag [106,106,106,106]) RA cr []:=by
 have hb:Below w w ((((w.alloc (.cells #[(p,0)] 47)).alloc (.cells #[(q,0)] 63)).alloc (.cells #[.slice (some ⟨g,0,none⟩) 32 32] 91)).alloc (.cells #[[V]] 23)):=(((((Below.refl w w).alloc (Nat.le_refl _) (.cells #[(p,0)] 47)).alloc (by simp;try omega) (.cells #[(q,0)] 63)).alloc (by simp;try omega) (.cells #[.slice (some ⟨g,0,none⟩) 32 32] 91)).alloc (by simp;try omega) (.cells #[[V]] 23))
 have hN:∀i,fH w tag [106,106,106,106] (w+i)=_:=fB w tag [106,106,106,106]
 refine⟨Kg.start hb (dX _ _ _),h.below hb (dX _ _ _),?_,trivial⟩
 intro x hx
 simp only[kL,List.mem_cons,List.not_mem_nil,or_false]at hx
 rcases hx with rfl|rfl|rfl|rfl
 .exact⟨hN 0,(((aY.newAt _ _ _ rfl).alloc _).alloc _).alloc _⟩
 .exact⟨hN 1,((aY.newAt _ _ _ (by simp)).alloc _).alloc _⟩
 .exact⟨hN 2,(aY.newAt _ _ _ (by simp)).alloc _⟩
 exact⟨hN 3,aY.newAt _ _ _ (by simp)⟩
theorem WR(h:lT w tag t θ last q RA cr D cd [] ended)(p g V:Nat)(ht:t<4):
 Calls prog 151 #[(p,0),(q,0),.slice (some ⟨g,0,none⟩) 32 32,[V]] w fun e w'=>e=.returned (.tuple #[])/\∃tag' env RA' cr' rows',Kg (eJ t) w tag w' tag'/\(env.p=p/\env.q=q/\env.w=g)/\lT w' tag' t θ last q RA' cr' D cd rows' ended/\dD w' tag' env (kB V 0++(jP V 0++qI V)) rows':=by
 have hmf:=KH
 have Pj:=aH (PR.start h p g V)
 clear h
 go_enter func151,ntmps151
 go_upto_region 1 with(fail)
 show Code.wp _ _ _ _ ((((w.alloc (.cells #[(p,0)] 47)).alloc (.cells #[(q,0)] 63)).alloc (.cells #[.slice (some ⟨g,0,none⟩) 32 32] 91)).alloc (.cells #[[V]] 23))
 generalize((((w.alloc (.cells #[(p,0)] 47)).alloc (.cells #[(q,0)] 63)).alloc (.cells #[.slice (some ⟨g,0,none⟩) 32 32] 91)).alloc (.cells #[[V]] 23))=w0 at*
 generalize fH w tag [106,106,106,106]=Gu at*
 generalize w.heap.size=b0 at*
 have cw:w0.cell? (b0+1+1,0)=some (.slice (some ⟨g,0,none⟩) 32 32):=Pj.bx.cell (b:=b0+2) (k:=106) (ty:=91) (by simp [kL])
 have Qo:Hid (NW w tag t θ last p q g V b0 D cd ended ((List.range 0).map (Cl.write V)) w0):=aH ⟨_,_,_,_,Pj.out⟩
 clear Pj
 go_wp2_with fail
 go_loopw [12] (fun i wr=>∃k:Nat,k<=32/\i=.int .i64 k/\Hid (NW w tag t θ last p q g V b0 D cd ended ((List.range k).map (Cl.write V)) wr)) (fun i _=>32-(intOf i).toNat)
 case atStart=>exact⟨0,I,rfl,Qo⟩
 case round=>
  clear Qo
  obtain⟨k,hk,rfl,hS⟩:=hrel
  by_cases hkn:k<32
  .have q1:(k:Int)<32:=I
   obtain⟨Ha,R1,Rn,Mo,hI⟩:=hS.out
   have hlen:=hI.rs.len
   simp only[List.length_append,List.length_cons,List.length_map,List.length_range]at hlen
   have La:=aH (hI.below ((Below.refl wr wr).alloc (Nat.le_refl _) (.cells #[k] 3)) (cO wr Ha 106))
   have cq:wr.cell? (b0+1,0)=(q,0):=hI.bx.cell (k:=106) (ty:=63) (by simp [kL,cR])
   have hlq:b0+1<wr:=hI.bx.lt (k:=106) (ty:=63) (v:=cR q) (by simp [kL])
   have HX:Hid ((cG wr Ha 106) wr=106/\aY (wr.alloc (.cells #[k] 3)) wr 3 #[k]):=aH ⟨dT _ _ _ (Nat.le_refl _),aY.new _ _ _⟩
   have HC:=aH (jF La.th 8 171 #[(b0+1+1,0),wr,(b0,0),(b0+1+1+1,0)] 8 rfl I)
   have hR:=La.ro
   have Kq:=aH (show(Cl.write V k).At (wr.alloc (.cells #[k] 3)) (cG wr Ha 106) (lJ p q g) (td 8 (fv 171 #[(b0+1+1,0),wr,(b0,0),(b0+1+1+1,0)]))from⟨b0+2,wr.heap.size,b0,b0+3,rfl,hR.2.2.1,HX.out,hR.1,hR.2.2.2⟩)
   clear hI hS hR HX
   go_wp2_with fail
   with_reducible refine HC.out.mono ?_
   rintro e w2 ⟨rfl,Kb,R2,Sk,Hp,Nd⟩
   have Mu:=aH (La.add (c:=.write V k) ht Hp Nd Kq)
   have Sz:Hid (NW w tag t θ last p q g V b0 D cd ended ((List.range (k+1)).map (Cl.write V)) w2):=aH ⟨_,_,_,_,by
    have:=Mu.out
    rw[show((List.range k).map (Cl.write V))++[Cl.write V k]=(List.range (k+1)).map (Cl.write V)from yZ [] _ k]at this
    exact this⟩
   clear HC Kq La Mu Hp Nd
   go_wp2
   go_roundw
   case rel=>exact⟨k+1,I,aG,Sz⟩
   case measure=>simp [intOf];omega
  obtain rfl:k=32:=I
  have q1:¬((32:Nat):Int)<32:=I
  have Qo:Hid (NW w tag t θ last p q g V b0 D cd ended ((List.range 32).map (Cl.write V)++(List.range 0).map (Cl.wish V)) wr):=aH (by rw[show(List.range 0).map (Cl.wish V)=[]from rfl,List.append_nil];exact hS)
  clear hS
  obtain⟨wo,hwo⟩:=aO (wr:World)
  subst hwo
  go_wp2_with fail
  go_loopw [19] (fun i wr=>∃k:Nat,k<=4/\i=.int .i64 k/\Hid (NW w tag t θ last p q g V b0 D cd ended ((List.range 32).map (Cl.write V)++(List.range k).map (Cl.wish V)) wr)) (fun i _=>4-(intOf i).toNat)
  case atStart=>exact⟨0,I,rfl,Qo⟩
  case round=>
   clear Qo
   obtain⟨k,hk,rfl,hS⟩:=hrel
   by_cases hkn:k<4
   .have q1:(k:Int)<4:=I
    obtain⟨Ha,R1,Rn,Mo,hI⟩:=hS.out
    have hlen:=hI.rs.len
    simp only[List.length_append,List.length_cons,List.length_map,List.length_range]at hlen
    have La:=aH (hI.below ((Below.refl wr wr).alloc (Nat.le_refl _) (.cells #[k] 3)) (cO wr Ha 106))
    have cq:wr.cell? (b0+1,0)=(q,0):=hI.bx.cell (k:=106) (ty:=63) (by simp [kL,cR])
    have hlq:b0+1<wr:=hI.bx.lt (k:=106) (ty:=63) (v:=cR q) (by simp [kL])
    have HX:Hid ((cG wr Ha 106) wr=106/\aY (wr.alloc (.cells #[k] 3)) wr 3 #[k]):=aH ⟨dT _ _ _ (Nat.le_refl _),aY.new _ _ _⟩
    have HC:=aH (jF La.th 9 172 #[(b0,0),(b0+1,0),(b0+1+1+1,0),wr] 9 rfl I)
    have hR:=La.ro
    have Kq:=aH (show(Cl.wish V k).At (wr.alloc (.cells #[k] 3)) (cG wr Ha 106) (lJ p q g) (td 9 (fv 172 #[(b0,0),(b0+1,0),(b0+1+1+1,0),wr]))from⟨b0,b0+1,b0+3,wr.heap.size,rfl,hR.1,hR.2.1,hR.2.2.2,HX.out⟩)
    clear hI hS hR HX
    go_wp2_with fail
    with_reducible refine HC.out.mono ?_
    rintro e w2 ⟨rfl,Kb,R2,Sk,Hp,Nd⟩
    have Mu:=aH (La.add (c:=.wish V k) ht Hp Nd Kq)
    have Sz:Hid (NW w tag t θ last p q g V b0 D cd ended ((List.range 32).map (Cl.write V)++(List.range (k+1)).map (Cl.wish V)) w2):=aH ⟨_,_,_,_,by
     have:=Mu.out
     rw[show((List.range 32).map (Cl.write V)++(List.range k).map (Cl.wish V))++[Cl.wish V k]=(List.range 32).map (Cl.write V)++(List.range (k+1)).map (Cl.wish V)from yZ _ _ k]at this
     exact this⟩
    clear HC Kq La Mu Hp Nd
    go_wp2
    go_roundw
    case rel=>exact⟨k+1,I,aG,Sz⟩
    case measure=>simp [intOf];omega
   obtain rfl:k=4:=I
   have q1:¬((4:Nat):Int)<4:=I
   obtain⟨Gu,R0,Tl,Jh,hI⟩:=hS.out
   have Pj:=aH hI
   have Zn:Hid (Jh.length=36):=aH (by have:=hI.rs.len;simpa using this)
   clear hI hS
   obtain⟨w0,Oh⟩:=aO (wr:World)
   subst Oh
   have cq:w0.cell? (b0+1,0)=(q,0):=Pj.bx.cell (k:=106) (ty:=63) (by simp [kL,cR])
   have hlq:b0+1<w0:=Pj.bx.lt (k:=106) (ty:=63) (v:=cR q) (by simp [kL])
   have hR:=Pj.ro
   have HC:=aH (jF Pj.th 10 174 #[(b0,0),(b0+1,0)] 10 rfl (by have:=Zn.out;omega))
   have Kq:=aH (show(Cl.firm).At w0 Gu (lJ p q g) (td 10 (fv 174 #[(b0,0),(b0+1,0)]))from⟨b0,b0+1,rfl,hR.1,hR.2.1⟩)
   clear hR
   go_wp2_with fail
   with_reducible refine HC.out.mono ?_
   rintro e w1 ⟨rfl,Ha,R1,Rn,hk,hth⟩
   have Uf:=aH (Pj.add (c:=.firm) ht hk hth Kq)
   have Jx:=aH (show(Jh++[td 10 (fv 174 #[(b0,0),(b0+1,0)])]:List (List Value)).length=37 by rw[List.length_append,Zn.out];rfl)
   clear hk hth HC Kq cq hlq Pj Zn
   generalize Jh++[td 10 (fv 174 #[(b0,0),(b0+1,0)])]=Mo at*
   have cq:w1.cell? (b0+1,0)=(q,0):=Uf.bx.cell (k:=106) (ty:=63) (by simp [kL,cR])
   have hlq:b0+1<w1:=Uf.bx.lt (k:=106) (ty:=63) (v:=cR q) (by simp [kL])
   have hR:=Uf.ro
   have HC:=aH (jF Uf.th 11 176 #[(b0+1+1+1,0),(b0,0),(b0+1,0)] 11 rfl (by have:=Jx.out;omega))
   have Kq:=aH (show(Cl.index V).At w1 Ha (lJ p q g) (td 11 (fv 176 #[(b0+1+1+1,0),(b0,0),(b0+1,0)]))from⟨b0+3,b0,b0+1,rfl,hR.2.2.2,hR.1,hR.2.1⟩)
   clear hR
   go_wp2_with fail
   with_reducible refine HC.out.mono ?_
   rintro e w2 ⟨rfl,Kb,R2,Sk,hk,hth⟩
   have La:=aH (Uf.add (c:=.index V) ht hk hth Kq)
   have It:=aH (show(Mo++[td 11 (fv 176 #[(b0+1+1+1,0),(b0,0),(b0+1,0)])]:List (List Value)).length=38 by rw[List.length_append,Jx.out];rfl)
   clear hk hth HC Kq cq hlq Uf Jx
   generalize Mo++[td 11 (fv 176 #[(b0+1+1+1,0),(b0,0),(b0+1,0)])]=Ku at*
   have cq:w2.cell? (b0+1,0)=(q,0):=La.bx.cell (k:=106) (ty:=63) (by simp [kL,cR])
   have hlq:b0+1<w2:=La.bx.lt (k:=106) (ty:=63) (v:=cR q) (by simp [kL])
   have hR:=La.ro
   have HC:=aH (jF La.th 12 177 #[(b0,0),(b0+1,0)] 12 rfl (by have:=It.out;omega))
   have Kq:=aH (show(Cl.wish2).At w2 Kb (lJ p q g) (td 12 (fv 177 #[(b0,0),(b0+1,0)]))from⟨b0,b0+1,rfl,hR.1,hR.2.1⟩)
   clear hR
   go_wp2_with fail
   with_reducible refine HC.out.mono ?_
   rintro e w3 ⟨rfl,Kc,R3,Uj,hk,hth⟩
   have Mu:=aH (La.add (c:=.wish2) ht hk hth Kq)
   have Ms:=aH (show(Ku++[td 12 (fv 177 #[(b0,0),(b0+1,0)])]:List (List Value)).length=39 by rw[List.length_append,It.out];rfl)
   clear hk hth HC Kq cq hlq La It
   generalize Ku++[td 12 (fv 177 #[(b0,0),(b0+1,0)])]=Lk at*
   have cq:w3.cell? (b0+1,0)=(q,0):=Mu.bx.cell (k:=106) (ty:=63) (by simp [kL,cR])
   have hlq:b0+1<w3:=Mu.bx.lt (k:=106) (ty:=63) (v:=cR q) (by simp [kL])
   have hR:=Mu.ro
   have HC:=aH (jF Mu.th 13 178 #[(b0,0),(b0+1,0)] 13 rfl (by have:=Ms.out;omega))
   have Kq:=aH (show(Cl.firm2).At w3 Kc (lJ p q g) (td 13 (fv 178 #[(b0,0),(b0+1,0)]))from⟨b0,b0+1,rfl,hR.1,hR.2.1⟩)
   clear hR
   go_wp2_with fail
   with_reducible refine HC.out.mono ?_
   rintro e w4 ⟨rfl,tag4,R4,cr4,hk,hth⟩
   have Tc:=aH (Mu.add (c:=.firm2) ht hk hth Kq)
   have Jd:=aH (show(Lk++[td 13 (fv 178 #[(b0,0),(b0+1,0)])]:List (List Value)).length=40 by rw[List.length_append,Ms.out];rfl)
   clear hk hth HC Kq cq hlq Mu Ms
   generalize Lk++[td 13 (fv 178 #[(b0,0),(b0+1,0)])]=rows4 at*
   have cq:w4.cell? (b0+1,0)=(q,0):=Tc.bx.cell (k:=106) (ty:=63) (by simp [kL,cR])
   have hlq:b0+1<w4:=Tc.bx.lt (k:=106) (ty:=63) (v:=cR q) (by simp [kL])
   have hR:=Tc.ro
   have HC:=aH (jF Tc.th 14 179 #[(b0+1+1+1,0),(b0,0)] 14 rfl (by have:=Jd.out;omega))
   have Kq:=aH (show(Cl.tell V).At w4 tag4 (lJ p q g) (td 14 (fv 179 #[(b0+1+1+1,0),(b0,0)]))from⟨b0+3,b0,rfl,hR.2.2.2,hR.1⟩)
   clear hR
   go_wp2_with fail
   with_reducible refine HC.out.mono ?_
   rintro e w5 ⟨rfl,Kd,R5,cr5,hk,hth⟩
   have Ue:=aH (Tc.add (c:=.tell V) ht hk hth Kq)
   have Qn:=aH (show(rows4++[td 14 (fv 179 #[(b0+1+1+1,0),(b0,0)])]:List (List Value)).length=41 by rw[List.length_append,Jd.out];rfl)
   clear hk hth HC Kq cq hlq Tc Jd
   generalize rows4++[td 14 (fv 179 #[(b0+1+1+1,0),(b0,0)])]=rows5 at*
   have cq:w5.cell? (b0+1,0)=(q,0):=Ue.bx.cell (k:=106) (ty:=63) (by simp [kL,cR])
   have hlq:b0+1<w5:=Ue.bx.lt (k:=106) (ty:=63) (v:=cR q) (by simp [kL])
   have hR:=Ue.ro
   have HC:=aH (jF Ue.th 15 180 #[(b0,0)] 15 rfl (by have:=Qn.out;omega))
   have Kq:=aH (show(Cl.unlock).At w5 Kd (lJ p q g) (td 15 (fv 180 #[(b0,0)]))from⟨b0,rfl,hR.1⟩)
   clear hR
   go_wp2_with fail
   with_reducible refine HC.out.mono ?_
   rintro e w6 ⟨rfl,Jb,R6,cr6,hk,hth⟩
   have Zo:=aH (Ue.add (c:=.unlock) ht hk hth Kq)
   have Lg:=aH (show(rows5++[td 15 (fv 180 #[(b0,0)])]:List (List Value)).length=42 by rw[List.length_append,Qn.out];rfl)
   clear hk hth HC Kq cq hlq Ue Qn
   generalize rows5++[td 15 (fv 180 #[(b0,0)])]=Ll at*
   have cq:w6.cell? (b0+1,0)=(q,0):=Zo.bx.cell (k:=106) (ty:=63) (by simp [kL,cR])
   have hlq:b0+1<w6:=Zo.bx.lt (k:=106) (ty:=63) (v:=cR q) (by simp [kL])
   have hR:=Zo.ro
   have HC:=aH (jF Zo.th 16 181 #[(b0+1,0)] 16 rfl (by have:=Lg.out;omega))
   have Kq:=aH (show(Cl.reply).At w6 Jb (lJ p q g) (td 16 (fv 181 #[(b0+1,0)]))from⟨b0+1,rfl,hR.2.1⟩)
   clear hR
   go_wp2_with fail
   with_reducible refine HC.out.mono ?_
   rintro e w7 ⟨rfl,tag7,R7,cr7,hk,hth⟩
   have HI7:=aH (Zo.add (c:=.reply) ht hk hth Kq)
   have HL7:=aH (show(Ll++[td 16 (fv 181 #[(b0+1,0)])]:List (List Value)).length=43 by rw[List.length_append,Lg.out];rfl)
   clear hk hth HC Kq cq hlq Zo Lg
   generalize Ll++[td 16 (fv 181 #[(b0+1,0)])]=Xb at*
   go_wp2
   refine bodyPost_end (v:=.tuple #[]) (by simp [results,results151,go_sem]) rfl ?_
   refine⟨rfl,tag7,lJ p q g,R7,cr7,Xb,HI7.k,⟨rfl,rfl,rfl⟩,HI7.th,?_⟩
   have:=HI7.rs
   simp only[List.append_assoc]at this
   have e1:kB V 0=(List.range 32).map (Cl.write V):=by unfold kB;simp
   have e2:jP V 0=(List.range 4).map (Cl.wish V):=by unfold jP;simp
   rw[e1,e2]
   exact this
end
section
variable{w:World}{tag:Nat->Nat}{t:Nat}{θ:cQ}{last:Int}{q:Nat}{RA:Option Addr}{cr:Nat}{D:Option Addr}{cd:Nat}{Jh:List (List Value)}{ended:Bool}
def lB(e0:mG)(i:Nat)(b:Nat):List (Nat×Nat×TypeId×Value):=[(b,106,47,cR e0.p),(b+1,106,63,cR e0.q),(b+2,106,3,i),(b+3,106,248,cR e0.l),(b+4,106,91,e0.W),(b+5,106,249,cR e0.v)]
theorem YW(t:Nat)(e0:mG)(i b:Nat)(ht:t<4):yD t (lB e0 i b):=by
 intro x hx
 simp only[lB,List.mem_cons,List.not_mem_nil,or_false]at hx
 rcases hx with rfl|rfl|rfl|rfl|rfl|rfl<;>(constructor<;>(try dsimp only)<;>omega)
theorem KV(e0:mG)(i:Nat)(w:World)(tag:Nat->Nat):FG ((((((w.alloc (.cells #[(e0.p,0)] 47)).alloc (.cells #[(e0.q,0)] 63)).alloc (.cells #[i] 3)).alloc (.cells #[(e0.l,0)] 248)).alloc (.cells #[.slice (some ⟨e0.w,0,none⟩) 32 32] 91)).alloc (.cells #[(e0.v,0)] 249)) (fH w tag [106,106,106,106,106,106]) (lB e0 i w):=by
 have hN:∀i,fH w tag [106,106,106,106,106,106] (w+i)=_:=fB w tag [106,106,106,106,106,106]
 intro x hx
 simp only[lB,List.mem_cons,List.not_mem_nil,or_false]at hx
 rcases hx with rfl|rfl|rfl|rfl|rfl|rfl
 .exact⟨hN 0,(((((aY.newAt _ _ _ rfl).alloc _).alloc _).alloc _).alloc _).alloc _⟩
 .exact⟨hN 1,((((aY.newAt _ _ _ (by simp)).alloc _).alloc _).alloc _).alloc _⟩
 .exact⟨hN 2,(((aY.newAt _ _ _ (by simp)).alloc _).alloc _).alloc _⟩
 .exact⟨hN 3,((aY.newAt _ _ _ (by simp)).alloc _).alloc _⟩
 .exact⟨hN 4,(aY.newAt _ _ _ (by simp)).alloc _⟩
 exact⟨hN 5,aY.newAt _ _ _ (by simp)⟩
theorem GD(e0:mG)(i:Nat)(w:World):Below w.heap.size w ((((((w.alloc (.cells #[.pointer (some ⟨e0.p,0,none⟩)] 47)).alloc (.cells #[.pointer (some ⟨e0.q,0,none⟩)] 63)).alloc (.cells #[.int .i64 (i:Int)] 3)).alloc (.cells #[.pointer (some ⟨e0.l,0,none⟩)] 248)).alloc (.cells #[.slice (some ⟨e0.w,0,none⟩) 32 32] 91)).alloc (.cells #[.pointer (some ⟨e0.v,0,none⟩)] 249)):=(((((((Below.refl w.heap.size w).alloc (Nat.le_refl _) (.cells #[.pointer (some ⟨e0.p,0,none⟩)] 47)).alloc (by simp;try omega) (.cells #[.pointer (some ⟨e0.q,0,none⟩)] 63)).alloc (by simp;try omega) (.cells #[.int .i64 (i:Int)] 3)).alloc (by simp;try omega) (.cells #[.pointer (some ⟨e0.l,0,none⟩)] 248)).alloc (by simp;try omega) (.cells #[.slice (some ⟨e0.w,0,none⟩) 32 32] 91)).alloc (by simp;try omega) (.cells #[.pointer (some ⟨e0.v,0,none⟩)] 249))
theorem zP(e0:mG)(h:lT w tag t θ last e0.q RA cr D cd [] ended)(i:Nat)(i':Int)(hi':i'=i)(hi:i<4)(ht:t<4):
 Calls prog 139 #[.pointer (some ⟨e0.p,0,none⟩),.pointer (some ⟨e0.q,0,none⟩),.int .i64 i',.pointer (some ⟨e0.l,0,none⟩),.slice (some ⟨e0.w,0,none⟩) 32 32,.pointer (some ⟨e0.v,0,none⟩)] w fun e w'=>e=.returned (.tuple #[])/\∃tag' RA' cr' rows',Kg (eJ t) w tag w' tag'/\lT w' tag' t θ last e0.q RA' cr' D cd rows' ended/\dD w' tag' e0 [.asks i] rows':=by
 subst hi'
 have hmf:=KH
 have q4:¬(i:Int)=4:=by omega
 have Hd:=Lib.hid (KV e0 i w tag)
 have Pv:=Lib.hid (h.below (GD e0 i w) (dX w tag [106,106,106,106,106,106]))
 have Kz:Hid (Kg (eJ t) w tag ((((((w.alloc (.cells #[.pointer (some ⟨e0.p,0,none⟩)] 47)).alloc (.cells #[.pointer (some ⟨e0.q,0,none⟩)] 63)).alloc (.cells #[.int .i64 (i:Int)] 3)).alloc (.cells #[.pointer (some ⟨e0.l,0,none⟩)] 248)).alloc (.cells #[.slice (some ⟨e0.w,0,none⟩) 32 32] 91)).alloc (.cells #[.pointer (some ⟨e0.v,0,none⟩)] 249)) _):=Lib.hid (Kg.start (GD e0 i w) (dX w tag [106,106,106,106,106,106]))
 clear h
 go_enter func139,ntmps139
 go_upto_region 1 with(fail)
 show Code.wp _ _ _ _ ((((((w.alloc (.cells #[.pointer (some ⟨e0.p,0,none⟩)] 47)).alloc (.cells #[.pointer (some ⟨e0.q,0,none⟩)] 63)).alloc (.cells #[.int .i64 (i:Int)] 3)).alloc (.cells #[.pointer (some ⟨e0.l,0,none⟩)] 248)).alloc (.cells #[.slice (some ⟨e0.w,0,none⟩) 32 32] 91)).alloc (.cells #[.pointer (some ⟨e0.v,0,none⟩)] 249))
 generalize((((((w.alloc (.cells #[.pointer (some ⟨e0.p,0,none⟩)] 47)).alloc (.cells #[.pointer (some ⟨e0.q,0,none⟩)] 63)).alloc (.cells #[.int .i64 (i:Int)] 3)).alloc (.cells #[.pointer (some ⟨e0.l,0,none⟩)] 248)).alloc (.cells #[.slice (some ⟨e0.w,0,none⟩) 32 32] 91)).alloc (.cells #[.pointer (some ⟨e0.v,0,none⟩)] 249))=w0 at*
 generalize fH w tag [106,106,106,106,106,106]=Gu at*
 generalize w.heap.size=b0 at*
 have ci:w0.cell? ⟨b0+1+1,0,none⟩=some (.int .i64 (i:Int)):=Hd.out.cell (b:=b0+2) (k:=106) (ty:=3) (by simp [lB])
 have cq:w0.cell? ⟨b0+1,0,none⟩=some (.pointer (some ⟨e0.q,0,none⟩)):=Hd.out.cell (b:=b0+1) (k:=106) (ty:=63) (by simp [lB,cR])
 have HR:=Lib.hid (show(Cl.asks i).At w0 Gu e0 (td 6 (fv 152 #[.pointer (some ⟨b0,0,none⟩),.pointer (some ⟨b0+1+1,0,none⟩),.pointer (some ⟨b0+1+1+1+1,0,none⟩),.pointer (some ⟨b0+1,0,none⟩),.pointer (some ⟨b0+1+1+1,0,none⟩),.pointer (some ⟨b0+1+1+1+1+1,0,none⟩)]))from⟨b0,b0+2,b0+4,b0+1,b0+3,b0+5,rfl,Hd.out (b0,106,47,cR e0.p) (by simp [lB]),Hd.out (b0+2,106,3,.int .i64 i) (by simp [lB]),Hd.out (b0+4,106,91,e0.W) (by simp [lB]),Hd.out (b0+1,106,63,cR e0.q) (by simp [lB]),Hd.out (b0+3,106,248,cR e0.l) (by simp [lB]),Hd.out (b0+5,106,249,cR e0.v) (by simp [lB])⟩)
 have HC:=Lib.hid (jF Pv.out 6 152 #[.pointer (some ⟨b0,0,none⟩),.pointer (some ⟨b0+1+1,0,none⟩),.pointer (some ⟨b0+1+1+1+1,0,none⟩),.pointer (some ⟨b0+1,0,none⟩),.pointer (some ⟨b0+1+1+1,0,none⟩),.pointer (some ⟨b0+1+1+1+1+1,0,none⟩)] 6 rfl (by simp))
 clear Hd Pv
 go_wp2_with fail
 with_reducible refine HC.out.mono ?_
 rintro e w1 ⟨rfl,Ha,R1,Rn,hk,hth⟩
 have Hj:=Lib.hid (Kz.out.trans hk)
 have Ih:=Lib.hid hth
 have HRF:Hid (dD w1 Ha e0 [.asks i] [td 6 (fv 152 #[.pointer (some ⟨b0,0,none⟩),.pointer (some ⟨b0+1+1,0,none⟩),.pointer (some ⟨b0+1+1+1+1,0,none⟩),.pointer (some ⟨b0+1,0,none⟩),.pointer (some ⟨b0+1+1+1,0,none⟩),.pointer (some ⟨b0+1+1+1+1+1,0,none⟩)])]):=Lib.hid ⟨HR.out.kept hk.k hk.t (fun b hb=>by rcases hb with hb|hb<;>omega),trivial⟩
 clear hk hth HC Kz HR cq ci
 go_wp2
 refine bodyPost_end (v:=.tuple #[]) (by simp [results,results139,go_sem]) rfl ⟨rfl,Ha,R1,Rn,_,Hj.out,Ih.out,HRF.out⟩
end
theorem kR{P:Program}{fn:Func}{p q s:Tmp}{ty:TypeId}(h:fn.results= #[.cell p ty,.tmp q,.tmp s])(tmps:Array Value)(w:World)(g:Nat)(t:TypeId)(cs:Array Value)(d:TypeDesc)(v u:Value)
 (hp:tmps.getD p undef=.pointer (some ⟨g,0,none⟩)) (hq:tmps.getD q undef=v) (hs:tmps.getD s undef=u) (hg:aY w g t cs)
 (hu:P.underlying ty=some d) (hd:(match d with|.struct _|.array _ _=>true|_=>false)=true) (hi:(P.info? ty).map (·.size)=some cs.size):
 (results fn tmps).run P w=.ok (.tuple #[.agg cs,v,u]) w:=by
 have hp':tmps[p]?.getD undef=.pointer (some ⟨g,0,none⟩):=by simpa using hp
 have hq':tmps[q]?.getD undef=v:=by simpa using hq
 have hs':tmps[s]?.getD undef=u:=by simpa using hs
 simp [results,h,hp',hq',hs',asAddr,run_loadVar_row w g t ty cs (0,0) d hg hu hd hi]
theorem MP:(prog.info? 159).map (fun i=>(i.zero,i.size,i.bytes))=some (some (.agg #[(0:Int),(0:Int),(0:Int),(0:Int),(0:Int),(0:Int)]),6,48):=J
theorem JV:∃i0,prog.info? 159=some i0/\i0.zero=some (.agg #[(0:Int),(0:Int),(0:Int),(0:Int),(0:Int),(0:Int)])/\i0.size=6/\i0.bytes=48:=by
 have h:=MP
 cases hq:prog.info? 159 with
 |none=>simp [hq]at h
 |some i=>simp [hq]at h;exact⟨i,rfl,h.1,h.2.1,h.2.2⟩
def kX(r0 r1:Int):Int:=if r0<0\/4<=r0 then 2 else if r1≠0/\r1≠1 then 1 else 0
theorem TS{z r:Nat->Int}(h:kX (r 0) (r 1)≠0):gR z r=kX (r 0) (r 1):=by
 unfold kX at*
 unfold gR
 split
 .rfl
 rename_i h1
 rw[iN h1]at h
 split
 .rfl
 rename_i h2
 rw[iN h2]at h
 exact absurd rfl h
theorem DK{r0 r1:Int}(h:kX r0 r1=0):0<=r0/\r0<4/\(r1=0\/r1=1):=by
 unfold kX at h
 split at h
 .omega
 split at h
 .omega
 omega
theorem LZ(C:Array Value)(z:Nat->Int)(t g a k v:Int)(w:World)(h:cH C 32 z)(he:kX t g≠0):
 Calls prog 129 #[.agg C,.agg #[t,g,a,k,v]] w fun e w'=>e=.returned (.tuple #[false,.iface 53 (kX t g)])/\Below w w w':=by
 by_cases h1:t<0\/4<=t
 .have e2:kX t g=2:=by unfold kX;rw[iP h1]
  rw[e2]
  exact PC C t g a k v w I
 have e2:kX t g=1:=by
  unfold kX at he⊢
  rw[iN h1]at he⊢
  split at he
  .rename_i h2;rw[iP h2]
  exact absurd rfl he
 rw[e2]
 unfold kX at e2
 rw[iN h1]at e2
 split at e2
 .rename_i h2;exact OL C t g a k v w I I h2
 omega
theorem GU(C:Array Value)(z r:Nat->Int)(t g a k v:Int)(w:World)(h:cH C 32 z)(he:kX t g=0)(h0:r 0=t)(h1:r 1=g):
 Calls prog 129 #[.agg C,.agg #[t,g,a,k,v]] w fun e w'=>e=.returned (.tuple #[(vF z r),.nilIface])/\Below w w w':=by
 obtain⟨q0,q4,qg⟩:=DK he
 have e:vF z r=(AT (z 26).toNat t !=g):=by
  have e1:AT (z 26).toNat t=jA z t.toNat:=by
   unfold AT jA
   rw[show((t.toNat:Nat):Int)=t by omega]
   by_cases hb:gO (z 26).toNat t=true
   .rw[iP ⟨q0,q4,hb⟩,iP hb]
   rw[iN (fun h=>hb h.2.2),iN hb]
  unfold vF
  rw[h0,h1,e1]
  by_cases hx:jA z t.toNat=g
  .simp [hx]
  simp [hx]
 rw[e]
 exact SP C z t g a k v w h q0 q4 qg
theorem VM(C:Array Value)(z:Nat->Int)(t a k v:Int)(w:World)(h:cH C 32 z)(h0:0<=t)(h4:t<4)(hr:rT z)(hb:cB a k v=false\/1099511627776<z 28):
 Calls prog 130 #[.agg C,t,.agg #[a,k,v]] w (rG 1 w):=by
 by_cases hz:eE z
 .rcases hb with hb|hb
  .exact VL C z t a k v w h ⟨h0,h4⟩ hz hb
  have:=(iD.1 hz).2;omega
 exact MO C z t a k v w h ⟨h0,h4⟩ hz
theorem OQ(C:Array Value)(z:Nat->Int)(t a k v:Int)(w:World)(h:cH C 32 z)(h0:0<=t)(h4:t<4)(hr:eE z)(ho:cB a k v=true):
 Calls prog 130 #[.agg C,t,.agg #[a,k,v]] w fun e w'=>∃F,e=.returned (.tuple #[.agg F,.nilIface])/\cH F 32 (dZ z t.toNat a k v)/\Below w w w':=by
 have e:((t.toNat:Nat):Int)=t:=I
 have hx:=QC C z t.toNat a k v (mO z a k) w h I hr (eN.1 ho) (QD hr a k)
 rw[e]at hx
 exact hx
theorem YD{co va:Int}(h:nA co va):∃x p q:Nat,iV co va=(x:Int)/\x/4294967296=p/\x%4294967296=q/\fU p q=true/\(p:Int)=co/\(q:Int)=va:=by
 obtain⟨h1,h2,⟨h3,h4⟩,h5⟩:=h
 have hf:fU co va=true:=by simp [fU];omega
 have e:iV co va=co*4294967296+va:=by unfold iV;rw[iP hf]
 refine⟨(co*4294967296+va).toNat,co.toNat,va.toNat,by rw[e];omega,I,I,?_,I,I⟩
 rw[show((co.toNat:Nat):Int)=co by omega,show((va.toNat:Nat):Int)=va by omega]
 exact hf
theorem EV(F:Array Value)(z:Nat->Int)(t a k v:Int)(w:World)(hb:∀i,i<32->0<=z i/\z i<18446744073709551616)(h:cH F 32 (dZ z t.toNat a k v))(h0:0<=t)(h4:t<4)(hr:eE z)(ho:cB a k v=true):
 Calls prog 120 #[.agg F,.int .i64 t] w fun e w'=>∃y,e=.returned (.tuple #[.agg #[.int .i64 (dC z a k v),.int .i64 (dV z a k v)],.int .i64 y,.nilIface])/\Below w.heap.size w w':=by
 have e:((t.toNat:Nat):Int)=t:=I
 obtain⟨_,_,ha⟩:=zC hr hb (eN.1 ho)
 obtain⟨x,p,q,hx,hp,hq,hf,hpc,hqv⟩:=YD ha
 have Sa:=hb 28 I
 have Xz:=(iD.1 hr).2
 have hx2:dZ z t.toNat a k v (18+t.toNat)=(x:Int):=by
  unfold dZ
  rw[qR _ _ _ _ _ I,iP rfl]
  exact hx
 have Uc:dZ z t.toNat a k v (22+t.toNat)=z 28+1:=by
  unfold dZ
  rw[mB _ _ _ _ _ I I,iP rfl]
 have:=xC F (dZ z t.toNat a k v) t.toNat x p q (z 28+1) (z 28+1) w h I hx2 Uc hp hq hf (.inl ⟨I,rfl⟩)
 rw[e]at this
 rw[hpc,hqv]at this
 exact this.mono fun e' w' ⟨he,hB⟩=>⟨_,he,hB⟩
def VE(f:Nat->Nat->Int)(z:Nat->Int)(n:Nat)(w:World)(e:Ending)(w':World):Prop:=
 Below w w w'/\((∃k g,k<n/\(∀j,j<k->gR (bz f z j) (f j)=0)/\gR (bz f z k) (f k)≠0/\e=.returned (.tuple #[.agg (32:Nat),.slice none 0 0,.iface 188 (g,0)])/\aY w' g 191 #[(gR (bz f z k) (f k)),k])\/
  ((∀j,j<n->gR (bz f z j) (f j)=0)/\∃D A c,e=.returned (.tuple #[.agg D,.slice A (bd f z n).length c,.nilIface])/\cH D 32 (dW (bz f z n))/\cU w' w 159 6 A (bd f z n).length c (bd f z n)))
structure UJ (w:World) (f:Nat->Nat->Int) (z:Nat->Int) (k:Nat) (A:Option Addr) (c:Nat) (D:Array Value) (wr:World):Prop where
 rcd:aY wr w 25 D
 u:cH D 32 (bz f z k)
 res:aY wr (w,1) 25 (32:Nat)
 own:cU wr (w,2) 159 6 A (bd f z k).length c (bd f z k)
 below:Below w w wr
 right:rT (bz f z k)
 good:∀j,j<k->gR (bz f z j) (f j)=0
def Fq(w:World)(f:Nat->Nat->Int)(z:Nat->Int)(k:Nat)(d:Value)(wr:World):Prop:=∃D A c,d=.slice A (bd f z k).length c/\UJ w f z k A c D wr
theorem TO(f:Nat->Nat->Int)(z:Nat->Int):∀k,(bd f z k).length<=k
 |0=>Nat.le_refl _
 |k+1=>by
  have:=TO f z k
  unfold bd
  split
  .simp;omega
  .omega
theorem BF:(prog.info? 25).map (·.size)=some 32:=J
theorem Ca(C:Array Value)(z:Nat->Int)(A:Option Addr)(n c:Nat)(f:Nat->Nat->Int)(w:World)(h:cH C 32 z)(hr:eE z)(hs:PQ LG w A n c f)(hn:n<=1000)(hg:mR w):
 Calls prog 119 #[.agg C,.slice A n c] w (VE f z n w):=by
 have HI:Hid ((prog.info? 25).map (·.size)=some C.size):=by show _=_;rw[BF,h.size]
 have Pf:=aH (fun W=>lP C z true W h ⟨fun _=>hr,fun _=>rfl⟩)
 have HB:=aH ((aY.new w 25 C).alloc (.cells (32:Nat) 25))
 have HR:=aH (aY.newAt (w.alloc (.cells C 25)) 25 (32:Nat) (n:=w+1) (by simp))
 have Um:=aH h
 have HZ:=aH hr
 have Ng:=aH hs
 have HG:=aH hg
 obtain⟨i0,Is,Ib,Io,Hh⟩:=JV
 have HDI:=aH Is
 have HDZ:=aH Ib
 have Lo:=aH Io
 have HDY:=aH Hh
 clear h hr hs hg Is Ib Io Hh
 go_enter func119,ntmps119
 generalize hQ:bodyPost prog Tryz.f119 (VE f z n w)=Q
 have HQ:=aH hQ
 clear hQ
 go_wp2_with (with_reducible refine lL 25 w 25 C J HB.out underlying25 J HI.out ?_)
 with_reducible refine(Pf.out _).mono ?_
 rintro e w1 ⟨rfl,Gs⟩
 have Hv:Hid (UJ w f z 0 none 0 C w1):=aH ⟨HB.out.below Gs HB.out.lt,Um.out,HR.out.below Gs HR.out.lt,cU.nil _ _ _ _,Below.trans (by go_grown) (Gs.mono (by simp;omega)),(iD.1 HZ.out).1,fun j hj=>absurd hj I⟩
 clear Gs HB HR HI Pf
 go_wp2
 go_loopw [7,22] (fun d i wr=>∃k:Nat,k<=n/\i=.int .i64 k/\Hid (Fq w f z k d wr)) (fun _ i _=>n-(intOf i).toNat)
 case atStart=>exact⟨0,I,rfl,aH ⟨C,none,0,rfl,Hv.out⟩⟩
 case round=>
  obtain⟨k,hk,rfl,hst⟩:=hrel
  obtain⟨D,A1,c1,rfl,Kh⟩:=hst.out
  have HS:=aH Kh
  have Oa:Hid ((prog.info? 25).map (·.size)=some D.size):=by show _=_;rw[BF,Kh.u.size]
  have HDz:=aH Kh.u.size
  have hW:=Kh.below
  have hl0:=Kh.res.lt
  have hdl:=TO f z k
  clear hst Kh
  by_cases hkn:k<n
  .have q1:(k:Int)<n:=I
   obtain⟨b,off,rfl,hblt,hcell⟩:=Ng.out.at_ I
   have hcap:=Ng.out.cap
   have hc63:=Ng.out.cap63
   have c0:wr.cell? (b,off+k*5)=(f k 0):=(hW.cell (p:=⟨b,off+k*5,none⟩) hblt).trans (hcell k 0 hkn aJ)
   have c1':wr.cell? (b,off+k*5+1)=(f k 1):=(hW.cell (p:=⟨b,off+k*5+1,none⟩) hblt).trans (hcell k 1 hkn aJ)
   have c2:wr.cell? (b,off+k*5+2)=(f k 2):=(hW.cell (p:=⟨b,off+k*5+2,none⟩) hblt).trans (hcell k 2 hkn aJ)
   have c3:wr.cell? (b,off+k*5+3)=(f k 3):=(hW.cell (p:=⟨b,off+k*5+3,none⟩) hblt).trans (hcell k 3 hkn aJ)
   have c4:wr.cell? (b,off+k*5+4)=(f k 4):=(hW.cell (p:=⟨b,off+k*5+4,none⟩) hblt).trans (hcell k 4 hkn aJ)
   clear hcell
   have Hd:=aH (HS.out.rcd.alloc (.cells #[(f k 0),(f k 1),(f k 2),(f k 3),(f k 4)] 181))
   have Me:=aH (HS.out.res.alloc (.cells #[(f k 0),(f k 1),(f k 2),(f k 3),(f k 4)] 181))
   have Kz:=aH (aY.new wr 181 #[(f k 0),(f k 1),(f k 2),(f k 3),(f k 4)])
   have HO0:=aH (HS.out.own.below (w':=wr.alloc (.cells #[(f k 0),(f k 1),(f k 2),(f k 3),(f k 4)] 181)) (by go_grown))
   have Nr:=aH (hW.alloc hW.size (.cells #[(f k 0),(f k 1),(f k 2),(f k 3),(f k 4)] 181))
   clear hW
   by_cases ho:kX (f k 0) (f k 1)=0
   .obtain⟨r0,r4,rg⟩:=DK ho
    have Uz:=aH (fun W=>GU D (bz f z k) (f k) (f k 0) (f k 1) (f k 2) (f k 3) (f k 4) W HS.out.u ho rfl rfl)
    cases hop:vF (bz f z k) (f k)
    .
     rw[hop]at Uz
     have HN:Hid (UJ w f z (k+1) A1 c1 D wr):=aH ⟨HS.out.rcd,by unfold bz sD;rw[hop];exact HS.out.u,HS.out.res,by unfold bd;rw[hop];exact HS.out.own,HS.out.below,by unfold bz sD;rw[hop];exact HS.out.right,fun j hj=>by
      rcases Nat.lt_or_ge j k with h|h
      .exact HS.out.good j h
      .obtain rfl:j=k:=I
       have ho':=of_decide_eq_false hop
       unfold gR
       rw[if_neg I,if_neg I,if_pos (by simpa using ho')]⟩
     have HL:Hid ((bd f z (k+1)).length=(bd f z k).length):=aH (by rw[bd,if_neg (by rw[hop];exact Bool.false_ne_true)])
     clear hop ho r0 r4 rg
     generalize f k 0=x0 at*
     generalize f k 1=x1 at*
     generalize f k 2=x2 at*
     generalize f k 3=x3 at*
     generalize f k 4=x4 at*
     generalize(bd f z k).length=dn at*
     go_wp2_with (with_reducible refine lL 25 w 25 D J Hd.out underlying25 J Oa.out ?_)
     with_reducible refine(Uz.out _).mono ?_
     rintro e w1 ⟨rfl,Gs⟩
     have Py:Hid (UJ w f z (k+1) A1 c1 D w1):=aH (by
      have hb:Below wr wr w1:=Below.trans (by go_grown) (Gs.mono (by simp))
      exact⟨HN.out.rcd.below hb HN.out.rcd.lt,HN.out.u,HN.out.res.below hb HN.out.res.lt,HN.out.own.below hb,HN.out.below.trans (hb.mono HN.out.below.size),HN.out.right,HN.out.good⟩)
     clear Gs
     go_wp2
     go_roundw
     case rel=>exact⟨k+1,I,aG,aH ⟨D,A1,c1,by rw[HL.out],Py.out⟩⟩
     case measure=>simp [intOf];omega
    .rw[hop]at Uz
     by_cases hbad:cB (f k 2) (f k 3) (f k 4)=false\/1099511627776<bz f z k 28
     .
      have HE:Hid (gR (bz f z k) (f k)=1):=aH (by
       unfold gR
       rw[if_neg I,if_neg I,if_neg (by simpa using of_decide_eq_true hop),if_pos hbad])
      have HE0:Hid ((1:Int)≠0):=aH aJ
      have HDN:=aH (fun W=>VM D (bz f z k) (f k 0) (f k 2) (f k 3) (f k 4) W HS.out.u r0 r4 HS.out.right hbad)
      clear hop ho r0 r4 rg hbad
      generalize f k 0=x0 at*
      generalize f k 1=x1 at*
      generalize f k 2=x2 at*
      generalize f k 3=x3 at*
      generalize f k 4=x4 at*
      go_wp2_with (with_reducible refine lL 25 w 25 D J Hd.out underlying25 J Oa.out ?_)
      with_reducible refine(Uz.out _).mono ?_
      rintro e w1 ⟨rfl,Gs⟩
      have Hc:=aH (Hd.out.below Gs Hd.out.lt)
      have Kn:=aH (Me.out.below Gs Me.out.lt)
      have Hj:=Kz.out.below Gs Kz.out.lt
      have Hq:=aH (Nr.out.trans (Gs.mono Nr.out.size))
      have hlr:=Hj.lt
      have k0:=Hj.cell 0
      have k2:=Hj.cell 2
      have k3:=Hj.cell 3
      have k4:=Hj.cell 4
      simp only[List.getElem?_toArray,List.getElem?_cons_zero,List.getElem?_cons_succ]at k0 k2 k3 k4
      clear Gs Hj
      go_wp2_with (with_reducible refine lL 25 w 25 D J Hc.out underlying25 J Oa.out ?_)
      with_reducible refine(HDN.out _).mono ?_
      rintro e w2 ⟨rfl,Gt⟩
      have Hf:=aH (Hc.out.below Gt Hc.out.lt)
      have Na:=aH (Kn.out.below Gt Kn.out.lt)
      have Ht:=aH (Hq.out.trans (Gt.mono Hq.out.size))
      clear Gt
      have Og:=aH (Na.out.far_row (show w.heap.size+1≠w by omega) (32:Nat))
      have Mh:=aH (aL Ht.out (Nat.le_refl _) (32:Nat))
      go_wp2_with (with_reducible refine fK 25 w (32:Nat) 25 D J J Hf.out J (by rw[HDz.out];kernel_rfl) J ?_)
      go_wp2_with fail
      with_reducible refine(wF 1 _ (HG.out.below Mh.out)).mono ?_
      rintro e w9 ⟨rfl,Ia⟩
      have Uy:=aH (Og.out.below Ia Og.out.lt)
      have Ir:=aH (Mh.out.trans (Ia.mono Mh.out.size))
      have Pg:=Uy.out.lt
      clear Ia
      go_wp2_with (with_reducible refine fK 25 (w,1) (32:Nat) 25 (32:Nat) J J (Uy.out.alloc _) J J J ?_)
      (try simp only[Exit.inBlock,Exit.then])
      rw[<-HQ.out]
      with_reducible refine bodyPost_ret (kR results119 _ _ (w,1) 25 (32:Nat) _ (.slice none 0 0) (.iface 188 w9) J J J (aY.setRow (Uy.out.alloc _) _) underlying25 J J) J ?_
      refine⟨aL (Ir.out.alloc Ir.out.size _) I _,.inl ⟨k,w9.heap.size,hkn,HS.out.good,?_,rfl,?_⟩⟩
      .rw[HE.out];exact HE0.out
      .rw[HE.out]
       exact aY.far_row (aY.new _ _ _) I _
     .
      have hgood:cB (f k 2) (f k 3) (f k 4)=true/\bz f z k 28<=1099511627776:=by
       cases hx:cB (f k 2) (f k 3) (f k 4)
       .exact absurd (.inl hx) hbad
       .exact⟨rfl,I⟩
      have hro:=iD.2 ⟨HS.out.right,hgood.2⟩
      have HDN:=aH (fun W=>OQ D (bz f z k) (f k 0) (f k 2) (f k 3) (f k 4) W HS.out.u r0 r4 hro hgood.1)
      have Lw:=aH (fun F W hF=>EV F (bz f z k) (f k 0) (f k 2) (f k 3) (f k 4) W HS.out.u.bd hF r0 r4 hro hgood.1)
      have HZ1:Hid (bz f z (k+1)=dZ (bz f z k) (f k 0).toNat (f k 2) (f k 3) (f k 4)):=aH (by rw[bz,sD,if_pos hop])
      have Sw:Hid (bd f z (k+1)=bd f z k++[uP (bz f z k) (f k)]):=aH (by rw[bd,if_pos hop])
      have Nb:Hid (uP (bz f z k) (f k)=[.int .i64 (f k 0),.int .i64 (f k 2),.int .i64 (f k 3),.int .i64 (f k 4),.int .i64 (dC (bz f z k) (f k 2) (f k 3) (f k 4)),.int .i64 (dV (bz f z k) (f k 2) (f k 3) (f k 4))]):=aH rfl
      have No:Hid (rT (bz f z (k+1))/\∀j,j<k+1->gR (bz f z j) (f j)=0):=aH (by
       have he:gR (bz f z k) (f k)=0:=by
        unfold gR
        rw[if_neg I,if_neg I]
        split
        .rfl
        .first|rfl|rw[if_neg hbad]
       refine⟨by rw[bz];exact wV HS.out.right HS.out.u.bd he,fun j hj=>?_⟩
       rcases Nat.lt_or_ge j k with h|h
       .exact HS.out.good j h
       .obtain rfl:j=k:=I
        exact he)
      clear hop ho r0 r4 rg hbad hgood hro
      generalize dC (bz f z k) (f k 2) (f k 3) (f k 4)=co at*
      generalize dV (bz f z k) (f k 2) (f k 3) (f k 4)=va at*
      generalize dZ (bz f z k) (f k 0).toNat (f k 2) (f k 3) (f k 4)=z' at*
      generalize f k 0=x0 at*
      generalize f k 1=x1 at*
      generalize f k 2=x2 at*
      generalize f k 3=x3 at*
      generalize f k 4=x4 at*
      have HLn:Hid ((bd f z (k+1)).length=(bd f z k).length+1):=aH (by rw[Sw.out];simp)
      generalize hdn:(bd f z k).length=dn at*
      clear hdn
      go_wp2_with (with_reducible refine lL 25 w 25 D J Hd.out underlying25 J Oa.out ?_)
      with_reducible refine(Uz.out _).mono ?_
      rintro e w1 ⟨rfl,Gs⟩
      have Hc:=aH (Hd.out.below Gs Hd.out.lt)
      have Kn:=aH (Me.out.below Gs Me.out.lt)
      have Ph:=aH (HO0.out.below Gs)
      have Hj:=aH (Kz.out.below Gs Kz.out.lt)
      have Hq:=aH (Nr.out.trans (Gs.mono Nr.out.size))
      have hlr:=Hj.out.lt
      have k0:=Hj.out.cell 0
      have k2:=Hj.out.cell 2
      have k3:=Hj.out.cell 3
      have k4:=Hj.out.cell 4
      simp only[List.getElem?_toArray,List.getElem?_cons_zero,List.getElem?_cons_succ]at k0 k2 k3 k4
      clear Gs
      go_wp2_with (with_reducible refine lL 25 w 25 D J Hc.out underlying25 J Oa.out ?_)
      with_reducible refine(HDN.out _).mono ?_
      rintro e w2 ⟨F,rfl,hF,Gt⟩
      have HF:=aH hF
      have HIF:Hid ((prog.info? 25).map (·.size)=some F.size):=by show _=_;rw[BF,hF.size]
      have HFz:=aH hF.size
      have Of:=aH hF.one
      have Hf:=aH (Hc.out.below Gt Hc.out.lt)
      have Jc:=(Hj.out.below Gt Hj.out.lt).far_row (show wr.heap.size≠w by omega) F
      have Hy:=aH Jc
      have Na:=aH ((Kn.out.below Gt Kn.out.lt).far_row (show w.heap.size+1≠w by omega) F)
      have Ht:=aH (aL (Hq.out.trans (Gt.mono Hq.out.size)) (Nat.le_refl _) F)
      have Nn:Hid (cU (w2.setRow w F) (w,2) 159 6 A1 dn c1 (bd f z k)):=aH ((Ph.out.below Gt).kept (S:=cI w) (jD w2 w F) (fun a ha he=>by have:=(Ph.out.lt a ha).1;unfold cI at he;omega))
      have HC2:=aH (aY.setRow Hf.out F)
      have l0:=Jc.cell 0
      simp only[List.getElem?_toArray,List.getElem?_cons_zero,List.getElem?_cons_succ]at l0
      have Jn:=Jc.lt
      clear Gt hF Jc k0 k2 k3 k4
      go_wp2_with (first
       |(with_reducible refine fK 25 w F 25 D J J Hf.out HIF.out (by rw[HDz.out,HFz.out]) Of.out ?_)
       |(with_reducible refine lL 25 w 25 F J HC2.out underlying25 J HIF.out ?_))
      generalize hw3:w2.setRow w.heap.size F=w3 at*
      clear hw3
      with_reducible refine(Lw.out F _ HF.out).mono ?_
      rintro e w4 ⟨y,rfl,Lh⟩
      have Zp:=Hy.out.below Lh Hy.out.lt
      have HC4:=aH (HC2.out.below Lh HC2.out.lt)
      have Uq:=aH (Na.out.below Lh Na.out.lt)
      have Ug:=aH (Nn.out.below Lh)
      have Se:=aH (Ht.out.trans (Lh.mono Ht.out.size))
      have k0:=Zp.cell 0
      have k2:=Zp.cell 2
      have k3:=Zp.cell 3
      have k4:=Zp.cell 4
      simp only[List.getElem?_toArray,List.getElem?_cons_zero,List.getElem?_cons_succ]at k0 k2 k3 k4
      have hl4:=Zp.lt
      have hl5:=Uq.out.lt
      clear Lh Zp l0
      go_wp2_with (refine qJ (.tmp 70) (.tmp 77) rfl rfl underlying41 HDI.out HDZ.out Lo.out HDY.out rfl aJ aJ (B:=w+2) (A:=A1) (n:=dn) (c:=c1) (rows:=bd f z k) rfl ?own (g:=w4+1) (c':=1) rfl (ys:=uP (bz f z k) (f k)) rfl ?cells ?ones ?small ?base ?_)
      case own=>exact(Ug.out.below (by go_grown))
      case cells=>
       intro j hj
       rw[Nb.out]
       rcases(by omega:j=0\/j=1\/j=2\/j=3\/j=4\/j=5)with rfl|rfl|rfl|rfl|rfl|rfl
       all_goals(go_simp;done)
      case ones=>
       intro u hu
       rw[Nb.out]at hu
       simp only[List.mem_cons,List.not_mem_nil,or_false]at hu
       rcases hu with rfl|rfl|rfl|rfl|rfl|rfl<;>rfl
      case small=>omega
      case base=>simp;omega
      intro g9 cap9 w9 Wy Ls hat9
      have Hr:¬iI A1 w:=fun⟨a,ha,hq⟩=>by have:=(HS.out.own.lt a ha).1;omega
      have Lj:¬iI A1 (w,1):=fun⟨a,ha,hq⟩=>by have:=(HS.out.own.lt a ha).1;omega
      have Py:Hid (UJ w f z (k+1) (some ⟨g9,0,none⟩) cap9 F w9):=aH (by
       refine⟨(Ls.block _ ((HC4.out.alloc _).alloc _).lt Hr).trans ((HC4.out.alloc _).alloc _),by rw[HZ1.out];exact HF.out,(Ls.block _ ((Uq.out.alloc _).alloc _).lt Lj).trans ((Uq.out.alloc _).alloc _),by rw[HLn.out,Sw.out];exact Wy,?_,No.out.1,No.out.2⟩
       exact((Se.out.alloc Se.out.size _).alloc (by have:=Se.out.size;simp;omega) _).trans (Ls.below (by have:=Se.out.size;simp;omega) (fun b hb ⟨a,ha,hq⟩=>by have:=(HS.out.own.lt a ha).1;omega)))
      clear Wy Ls hat9 Hr Lj
      go_wp2
      go_roundw
      case rel=>exact⟨k+1,I,aG,aH ⟨F,_,cap9,by rw[HLn.out],Py.out⟩⟩
      case measure=>simp [intOf];omega
   .
    have HE:Hid (gR (bz f z k) (f k)=kX (f k 0) (f k 1)):=aH (TS ho)
    have HE0:Hid (kX (f k 0) (f k 1)≠0):=aH ho
    have Uz:=aH (fun W=>LZ D (bz f z k) (f k 0) (f k 1) (f k 2) (f k 3) (f k 4) W HS.out.u ho)
    clear ho
    generalize kX (f k 0) (f k 1)=e0 at*
    generalize f k 0=x0 at*
    generalize f k 1=x1 at*
    generalize f k 2=x2 at*
    generalize f k 3=x3 at*
    generalize f k 4=x4 at*
    go_wp2_with (with_reducible refine lL 25 w 25 D J Hd.out underlying25 J Oa.out ?_)
    with_reducible refine(Uz.out _).mono ?_
    rintro e w1 ⟨rfl,Gs⟩
    have Og:=aH (Me.out.below Gs Me.out.lt)
    have Mh:=aH (Nr.out.trans (Gs.mono Nr.out.size))
    clear Gs
    go_wp2_with fail
    with_reducible refine(wF e0 _ (HG.out.below Mh.out)).mono ?_
    rintro e w9 ⟨rfl,Ia⟩
    have Uy:=aH (Og.out.below Ia Og.out.lt)
    have Ir:=aH (Mh.out.trans (Ia.mono Mh.out.size))
    have Pg:=Uy.out.lt
    clear Ia
    go_wp2_with (with_reducible refine fK 25 (w,1) (32:Nat) 25 (32:Nat) J J (Uy.out.alloc _) J J J ?_)
    (try simp only[Exit.inBlock,Exit.then])
    rw[<-HQ.out]
    with_reducible refine bodyPost_ret (kR results119 _ _ (w,1) 25 (32:Nat) _ (.slice none 0 0) (.iface 188 w9) J J J (aY.setRow (Uy.out.alloc _) _) underlying25 J J) J ?_
    refine⟨aL (Ir.out.alloc Ir.out.size _) I _,.inl ⟨k,w9.heap.size,hkn,HS.out.good,?_,rfl,?_⟩⟩
    .rw[HE.out];exact HE0.out
    .rw[HE.out]
     exact aY.far_row (aY.new _ _ _) I _
  .obtain rfl:k=n:=I
   have q1:¬(k:Int)<k:=I
   have Vu:=HS.out.u.bd 27 I
   have Qx:=HS.out.right.2.2.2.1
   have c27:=(HS.out.rcd.cell 27).trans (HS.out.u.get 27 I)
   have f27:=HS.out.rcd.frozen 27
   have hUN:cH (D.setIfInBounds 27 [bz f z k 27+1]) 32 (dW (bz f z k)):=(HS.out.u.set_ (k:=27) (v:=bz f z k 27+1) I).congr (fun i hi=>by unfold dW;by_cases e:i=27<;>simp [e])
   obtain⟨D2,hD2⟩:∃D2,D2=D.setIfInBounds 27 [bz f z k 27+1]:=⟨_,rfl⟩
   rw[<-hD2]at hUN
   have Pw:=aH hUN
   have La:Hid ((prog.info? 25).map (·.size)=some D2.size):=by show _=_;rw[BF,hUN.size]
   have Oo:=aH hUN.size
   have Hf:Hid (aY (wr.setCell (w.heap.size,27) [bz f z k 27+1]) w 25 D2):=aH (by rw[hD2];exact HS.out.rcd.set_ 27 _)
   have Na:=aH (aY.far HS.out.res (p:=⟨w.heap.size,27,none⟩) (show w.heap.size+1≠w by omega) [bz f z k 27+1])
   have Nn:=aH (HS.out.own.kept (bP wr w 27 [bz f z k 27+1]) (fun a ha he=>by have:=(HS.out.own.lt a ha).1;have he':a.block=w:=he;omega))
   have Ht:Hid (Below w w (wr.setCell (w.heap.size,27) [bz f z k 27+1])):=aH (hW.setCell (p:=⟨w.heap.size,27,none⟩) (Nat.le_refl _) _)
   have u1:(bz f z k 27+1)%18446744073709551616=bz f z k 27+1:=I
   have u2:IntKind.u64.wrap (bz f z k 27+1)=bz f z k 27+1:=IntWalk.u64_in _ I
   clear hUN hD2
   generalize bz f z k 27=v27 at*
   generalize hdn:(bd f z k).length=dn at*
   go_wp2_with (first
    |(with_reducible refine lL 25 w 25 D2 J Hf.out underlying25 J La.out ?_)
    |(with_reducible refine fK 25 (w,1) D2 25 (32:Nat) J J Na.out La.out (by rw[Oo.out];kernel_rfl) Pw.out.one ?_))
   (try simp only[Exit.inBlock,Exit.then])
   rw[<-HQ.out]
   with_reducible refine bodyPost_ret (kR results119 _ _ (w,1) 25 D2 _ (.slice A1 dn c1) .nilIface J J J (aY.setRow Na.out _) underlying25 J La.out) J ?_
   refine⟨aL Ht.out I _,.inr ⟨HS.out.good,D2,A1,c1,by rw[hdn],Pw.out,?_⟩⟩
   rw[hdn]
   exact(Nn.out.kept (jD _ _ _) (fun a ha he=>by have:=(Nn.out.lt a ha).1;have he':a.block=w+1:=he;omega)).mono I
def kT(z:Nat->Int):Array Value:=jM 32 fun i=>.int .u64 (z i)
theorem xA{z:Nat->Int}(hb:∀i,i<32->0<=z i/\z i<18446744073709551616):cH (kT z) 32 z:=⟨dJ,fun i hi=>cW hi,hb⟩
theorem zQ(z:Nat->Int):(kT z).size=32:=dJ
theorem vU(z:Nat->Int):(prog.info? 25).map (·.size)=some (kT z).size:=by rw[zQ];kernel_rfl
theorem SZ(z:Nat->Int):(kT z).all (·.oneCell')=true:=qH fun _ _=>rfl
theorem WM(t:Nat)(θ:cQ)(A D:Value):(kE t θ A D).extract 9 (9+32)=kT θ.r:=by
 rw[kE,pS I]
 refine jJ fun i hi=>?_
 unfold zI
 rw[iN I,iN I,iN I,iN I,iN I,iN I,iN I,iN I,iN I,iP I,show 9+i-9=i by omega]
theorem sW{w:World}{gw t:Nat}{θ:cQ}{A D:Value}(h:aY w gw 46 (kE t θ A D)):w.rangeAt gw 9 (kT θ.r).toList:=by
 rw[<-WM t θ A D]
 exact World.rangeAt_of_block (t:=46) (fr:=(0,0)) h 9 32
theorem FD{w:World}{gw t o n:Nat}{θ:cQ}{A D:Value}(h:aY w gw 46 (kE t θ A D))(hn:o+n<=49):w.there gw o n:=h.there (by rw[sL];exact hn)
theorem Bb(t:Nat)(θ:cQ)(A D:Value)(z:Nat->Int):fF (kE t θ A D) 9 (kT z).toList=kE t {θ with r:=z} A D:=by
 refine qS I fun j hj=>?_
 unfold zI
 by_cases h:9<=j/\j<9+32
 .rw[iP h,iN I,iN I,iN I,iN I,iN I,iN I,iN I,iN I,iN I,iP I]
 rw[iN h]
 by_cases h9:j<9
 .rcases(by omega:j=0\/j=1\/j=2\/j=3\/j=4\/j=5\/j=6\/j=7\/j=8)with rfl|rfl|rfl|rfl|rfl|rfl|rfl|rfl|rfl<;>rfl
 have h41:¬j<41:=I
 simp only[h41,if_false]
theorem LE(t:Nat)(θ:cQ)(A D:Value)(x y:Int):fF (kE t θ A D) 46 [.int .i64 x,.int .i64 y]=kE t {θ with o1:=x,o2:=y} A D:=by
 show(((kE t θ A D).setIfInBounds 46 x).setIfInBounds 47 y)=_
 have e1:(kE t θ A D).setIfInBounds 46 x=kE t {θ with o1:=x} A D:=dP fun j hj=>by
  by_cases e:j=46
  .subst e;rfl
  rw[iN e]
  unfold zI
  simp only[e,if_false]
 have e2:(kE t {θ with o1:=x} A D).setIfInBounds 47 y=kE t {θ with o1:=x,o2:=y} A D:=dP fun j hj=>by
  by_cases e:j=47
  .subst e;rfl
  rw[iN e]
  unfold zI
  simp only[e,if_false]
 rw[e1,e2]
theorem TU(C:Array Value)(z:Nat->Int)(t:Nat)(h:cH C 32 z)(hr:eE z)(ht:t<4):
 ∃er,∀w,Calls prog 120 #[.agg C,t] w fun e w'=>e=.returned (.tuple #[.agg #[(nV z t),(nW z t)],(nL z t),er])/\Below w w w':=by
 obtain⟨b1,b2⟩:=h.bd (18+t) I
 obtain⟨c1,c2⟩:=h.bd (22+t) I
 obtain⟨x,hx⟩:=Int.eq_ofNat_of_zero_le b1
 obtain⟨⟨⟨_,_,Xz,_⟩,hall,_⟩⟩:=hr,trivial
 obtain⟨⟨a1,a2,a3⟩,_⟩:=hall t ht
 cases hf:yI (z (18+t))with
 |true=>
  have hq:fU ((x/4294967296:Nat):Int) ((x%4294967296:Nat):Int)=true:=by
   have:=hf
   unfold yI at this
   rw[hx]at this
   rw[show((x/4294967296:Nat):Int)=(x:Int)/4294967296 by omega,show((x%4294967296:Nat):Int)=(x:Int)%4294967296 by omega]
   exact this
  refine⟨.nilIface,fun w=>?_⟩
  refine(xC C z t x (x/4294967296) (x%4294967296) (z (22+t)) (z (22+t)) w h ht hx rfl rfl rfl hq (.inl ⟨I,rfl⟩)).mono ?_
  rintro e w' ⟨rfl,hb⟩
  refine⟨?_,hb⟩
  unfold nV nW nL
  rw[iP hf,iP hf,hx,show((x/4294967296:Nat):Int)=(x:Int)/4294967296 by omega,show((x%4294967296:Nat):Int)=(x:Int)%4294967296 by omega]
 |false=>
  have h0:z (18+t)=0:=by
   rcases a1 with a1|a1
   .rw[hf]at a1;cases a1
   exact a1
  have Im:x=0:=I
  have hw:=a3.1 h0
  refine⟨gS 8,fun w=>?_⟩
  refine(MU C z t x 0 0 w h ht hx (by rw[Im]) (by rw[Im]) aJ).mono ?_
  rintro e w' ⟨rfl,hb⟩
  refine⟨?_,hb⟩
  unfold nV nW nL
  rw[iN (by rw[hf];simp),iN (by rw[hf];simp),hw]
theorem AE{w:World}{A:Option Addr}{n c:Nat}{f:Nat->Nat->Int}{B:Nat}{e:TypeId}(h:cU w B e 5 A n c (eH f n))(wf:∀i j,i<n->j<LG.length->(Lit.int (LG.getD j .i64) (f i j)).wf=true):PQ LG w A n c f:=
 FI.slf (K:=LG) h.slr f (fun i hi=>AB f hi) wf
theorem CG{f:Nat->Nat->Int}{n:Nat}(h:jL f n):∀i j,i<n->j<LG.length->(Lit.int (LG.getD j .i64) (f i j)).wf=true:=by
 intro i j hi hj
 obtain⟨h1,h2,h3,h4,h5,h6,h7,h8,h9⟩:=h i hi
 have hj5:j<5:=hj
 rcases(by omega:j=0\/j=1\/j=2\/j=3\/j=4)with rfl|rfl|rfl|rfl|rfl
 all_goals
  show(Lit.int .i64 _).wf=true
  show(decide (-9223372036854775808<=_)&&decide (_<=9223372036854775807))=true
  rw[Bool.and_eq_true]
  exact⟨decide_eq_true I,decide_eq_true I⟩
def Df(F:Array Value)(m:Nat)(v:Value):Prop:=∃A c,v=.tuple #[.agg F,.slice A m c,.nilIface]
def Ex(B:Nat)(F:Array Value)(rows:List (List Value))(v:Value)(w':World):Prop:=∃A c,v=.tuple #[.agg F,.slice A rows.length c,.nilIface]/\cU w' B 159 6 A rows.length c rows
def RM(n:Nat)(v:Value):Prop:=∃A c,v=.slice A n c
def Ck(i:Nat)(v:Value):Value:=match v with|.tuple vs=>vs.getD i undef|_=>undef
theorem WJ(C:Array Value)(z:Nat->Int)(A:Option Addr)(n c:Nat)(f:Nat->Nat->Int)(w:World)(h:cH C 32 z)(hr:eE z)(hs:PQ LG w A n c f)(ha:jL f n)(hn:n<=4)(hc:z 28+n<=1099511627776)(hg:mR w):
 Calls prog 119 #[.agg C,.slice A n c] w fun e w'=>∃A' c',e=.returned (.tuple #[.agg (kT (dW (bz f z n))),.slice A' (bd f z n).length c',.nilIface])/\cU w' w 159 6 A' (bd f z n).length c' (bd f z n)/\Below w w w':=by
 obtain⟨h1,h2,h3,h4,h5⟩:=tZ hr h.bd ha hc n (Nat.le_refl _)
 refine(Ca C z A n c f w h hr hs I hg).mono ?_
 rintro e w' ⟨hb,h⟩
 rcases h with⟨k,g,hk,_,hne,_⟩|⟨_,D,A',c',rfl,hD,ho⟩
 .exact absurd (h5 k hk) hne
 have e:=hD.ext (xA (sZ h1 h2))
 subst e
 exact⟨A',c',rfl,ho,hb⟩
section
variable{w0 w:World}{tag:Nat->Nat}{t:Nat}{θ:cQ}{gw:Nat}{A:Option Addr}{ca:Nat}{D:Option Addr}{cd:Nat}{m:Nat->Int}{gm:Nat}{s:cN}{gs:Nat}
theorem Ba(h:WS w0 w tag t θ gw A ca D cd m gm s gs)(d:θ.does≠8)(hd:θ.does<=21):Calls prog 95 #[(gw,0)] w fun e w'=>e=.returned (.tuple #[])/\w=w':=by
 have c1:=h.c1 rfl
 have q1:¬(θ.does:Int)=8:=I
 clear h
 go_enter func95,ntmps95
 go_wp2
 exact bodyPost_end (v:=.tuple #[]) (by simp [results,results95,go_sem]) rfl ⟨rfl,rfl⟩
theorem Ae(h:WS w0 w tag t θ gw A ca D cd m gm s gs)(d:θ.does=8)(ht:t<4)(hr:eE θ.r)(hb:∀i,i<32->0<=θ.r i/\θ.r i<18446744073709551616)(ha:jL θ.asks θ.na)(hn:θ.na<=4)(hc:θ.r 28+θ.na<=1099511627776)(Qx:θ.r 27+1<=1099511627776)(hg:mR w):
 Calls prog 95 #[(gw,0)] w fun e w'=>e=.returned (.tuple #[])/\iZ w0 tag t gw gm gs ⟨m,s,θ.all t,false⟩ w':=by
 obtain⟨x1,x2,x3,x4,x5⟩:=tZ hr hb ha hc θ.na (Nat.le_refl _)
 have hzr:eE (dW (bz θ.asks θ.r θ.na)):=rK x1 I (by rw[x3];exact Qx)
 have hzb:=sZ x1 x2
 have Rf:=aH (fun(W:World) (hW:PQ LG W A θ.na ca θ.asks) (hG:mR W)=>WJ (kT θ.r) θ.r A θ.na ca θ.asks W (xA hb) hr hW ha hn hc hG)
 obtain⟨er,han⟩:=TU (kT (dW (bz θ.asks θ.r θ.na))) _ t (xA hzb) hzr ht
 have Lw:=aH han
 clear han
 have eall:θ.all t={θ with r:=dW (bz θ.asks θ.r θ.na),deeds:=bd θ.asks θ.r θ.na,o1:=nV (dW (bz θ.asks θ.r θ.na)) t,o2:=nW (dW (bz θ.asks θ.r θ.na)) t,wn:=nL (dW (bz θ.asks θ.r θ.na)) t}:=iP d
 rw[eall]
 clear eall x1 x2 x3 x4 x5 hzr hzb
 have HSF:=aH (AE h.wk.asks (CG ha))
 have H:=aH h
 have HG:=aH hg
 have HD:=aH d
 have hlt:=h.lt
 have c1:w.cell? (gw,1)=(8:Int):=h.c1 d
 have Wi:w.cell? (gw,41)=some (.slice A θ.na ca):=h.c 41 I
 have HOD:=aH h.wk.deeds
 clear h hr hb ha hc Qx hg d
 generalize hz:dW (bz θ.asks θ.r θ.na)=z at*
 generalize hdd:bd θ.asks θ.r θ.na=dd at*
 clear hz hdd
 have hB:∃B:Nat,B=w:=⟨_,rfl⟩
 obtain⟨B,Wx⟩:=hB
 have Li:=aH Wx
 clear Wx
 go_enter func95,ntmps95
 go_wp2
 refine hJ 21 (cI gw) [17,20] J J ?_
 intro anc HA
 iterate 5
  refine aV ?_;constructor
  .intro w9 Gq Gr
   go_simp
   first
   |exact aE
 first|(with_reducible refine aI (fun K hK=>?_))|(refine aI (fun K hK=>?_))
 refine .inl ⟨.agg (kT θ.r),cX,?_,hK _ _ _ _ ?_⟩
 .simp only[bW,cM]
  refine⟨?_,fun w9 Gq Gr=>?_⟩
  .first|rfl|(go_simp;done)
  refine aS ?_
  have Ia:=cA Gr.1 (by rw[HA.out];kernel_rfl)
  have HX:=aH (sW (H.below Ia).wk.blk)
  refine aW ?_
  refine eG 25 _ rfl gw 9 rfl (kT θ.r) _ HX underlying25 rfl (vU _) aE
 iterate 3
  clear hK K
  refine aN ?_
  first|(with_reducible refine aI (fun K hK=>?_))|(refine aI (fun K hK=>?_))
  refine .inl ?_
  apply Exists.intro
  refine⟨cX,?_,hK _ _ _ _ ?_⟩
  .simp only[bW,cM]
   refine⟨?_,fun w9 Gq Gr=>?_⟩
   .first|rfl|(go_simp;done)
   go_simp
   first
   |exact aE
 clear hK K
 refine aN ?_
 refine aV ?_;constructor
 .intro w9 Gq Gr
  refine aS ?_
  have q41:w9.cell? (gw,41)=some (.slice A θ.na ca):=(H.below (cA Gr.1 (by rw[HA.out];kernel_rfl))).c 41 I
  refine aW ?_
  go_simp
  first
  |exact aE
 refine bG (Df (kT z) dd.length) (fun _=>Ex B (kT z) dd) ⟨_,none,0,rfl⟩ ?_ ?_
 .intro w9 Gq Gr
  refine aS ?_
  have Ia:=cA Gr.1 (by rw[HA.out];kernel_rfl)
  have Vt:=HSF.below Ia
  have hG9:=HG.below Ia
  have Ie:B<=w9:=by rw[Li.out];exact Ia.size
  refine aW ?_
  go_simp
  go_at_call 119
  with_reducible refine(Rf.out w9 Vt hG9).mono ?_
  rintro e w' ⟨A',c',rfl,hO,hB'⟩
  exact⟨_,rfl,⟨⟨_,_,rfl⟩,⟨_,_,rfl,hO.mono Ie⟩⟩,aD.of_same hB'⟩
 refine bH (Df (kT z) dd.length) (fun us v _=>v=us 10) ⟨_,none,0,rfl⟩ ?_ ?_
 .rintro _ ⟨A4,c4,rfl⟩
  refine⟨aF,fun w9 Gq Gr=>?_⟩
  go_simp
  refine⟨⟨⟨_,_,rfl⟩,?_⟩,aD.refl _ _⟩
  unfold cV
  rw[iP (by rw[HA.out];kernel_rfl)]
  rfl
 first|(with_reducible refine aI (fun K hK=>?_))|(refine aI (fun K hK=>?_))
 refine .inl ?_
 apply Exists.intro
 refine⟨cX,?_,hK _ _ _ _ ?_⟩
 .simp only[bW,cM]
  rintro _ ⟨A5,c5,rfl⟩
  rintro _ ⟨A4,c4,rfl⟩
  refine⟨?_,fun w9 Gq Gr=>?_⟩
  .first|rfl|(go_simp;done)
  go_simp
  first
  |exact aE
 clear hK K
 refine aN ?_
 first|(with_reducible refine aI (fun K hK=>?_))|(refine aI (fun K hK=>?_))
 refine .inr (.inr ⟨(RM dd.length),(fun us v _=>v=Ck 1 (us 10)),⟨_,none,0,rfl⟩,?_,hK _ _ _ _ ?_⟩)
 .simp only[bW,cM]
  rintro _ ⟨A5,c5,rfl⟩
  rintro _ ⟨A4,c4,rfl⟩
  refine⟨?_,fun w9 Gq Gr=>?_⟩
  .first|rfl|(go_simp;done)
  refine aS ?_
  obtain⟨Ru,hmet⟩:=Gr
  simp only[BX]at hmet
  obtain⟨Yy,k0,k1,hq⟩:=hmet.2.1 (by rw[HA.out];kernel_rfl)
  unfold cV at hq
  rw[iP (by rw[HA.out];kernel_rfl)]at hq
  clear hmet k0 k1
  have HQ:=aH hq
  clear hq
  refine aW ?_
  go_simp
  refine⟨⟨⟨_,_,rfl⟩,?_⟩,aD.refl _ _⟩
  unfold cV
  rw[iP (by rw[HA.out];kernel_rfl)]
  exact congrArg (Ck 1) HQ
 iterate 3
  clear hK K
  refine aN ?_
  first|(with_reducible refine aI (fun K hK=>?_))|(refine aI (fun K hK=>?_))
  refine .inl ?_
  apply Exists.intro
  refine⟨cX,?_,hK _ _ _ _ ?_⟩
  .simp only[bW,cM]
   rintro _ ⟨A6,c6,rfl⟩
   rintro _ ⟨A5,c5,rfl⟩
   rintro _ ⟨A4,c4,rfl⟩
   refine⟨?_,fun w9 Gq Gr=>?_⟩
   .first|rfl|(go_simp;done)
   go_simp
   first
   |exact aE
 clear hK K
 refine aN ?_
 first|(with_reducible refine aI (fun K hK=>?_))|(refine aI (fun K hK=>?_))
 refine .inl ⟨undef,(fun us w'=>aY w' gw 46 (kE t {θ with r:=z} (.slice A θ.na ca) (.slice D θ.deeds.length cd))),?_,hK _ _ _ _ ?_⟩
 .simp only[bW,cM]
  rintro _ ⟨A6,c6,rfl⟩
  rintro _ ⟨A5,c5,rfl⟩
  rintro _ ⟨A4,c4,rfl⟩
  refine⟨?_,fun w9 Gq Gr=>?_⟩
  .first|rfl|(go_simp;done)
  refine aS ?_
  have Ia:=cA Gr.1 (by rw[HA.out];kernel_rfl)
  have HX:=aH (H.below Ia)
  have HY:Hid (w9.there gw 9 (kT z).size):=aH (FD HX.wk.blk (by rw[zQ];omega))
  refine aW ?_
  refine dA 25 _ _ rfl gw 9 (kT z) rfl rfl HY (vU _) (SZ _) ?_
  refine⟨⟨rfl,?_⟩,(cE (S:=cI gw) (.inl rfl) 9 _).mono fun b hb=>⟨aJ,hb⟩⟩
  have hx:=aY.setCells (vs:=(kT z).toList) (o:=9) HX.wk.blk
  rw[Bb]at hx
  exact hx
 iterate 2
  clear hK K
  refine aN ?_
  first|(with_reducible refine aI (fun K hK=>?_))|(refine aI (fun K hK=>?_))
  refine .inl ?_
  apply Exists.intro
  refine⟨cX,?_,hK _ _ _ _ ?_⟩
  .simp only[bW,cM]
   rintro _ ⟨A6,c6,rfl⟩
   rintro _ ⟨A5,c5,rfl⟩
   rintro _ ⟨A4,c4,rfl⟩
   refine⟨?_,fun w9 Gq Gr=>?_⟩
   .first|rfl|(go_simp;done)
   go_simp
   first
   |exact aE
 clear hK K
 refine aN ?_
 refine bF undef (fun us w'=>aY w' gw 46 (kE t {θ with r:=z} (.slice A θ.na ca) (us 13))) ?_ ?_
 .rintro _ ⟨A6,c6,rfl⟩
  rintro _ ⟨A5,c5,rfl⟩
  rintro _ ⟨A4,c4,rfl⟩
  refine⟨aF,fun w9 Gq Gr=>?_⟩
  refine aS ?_
  obtain⟨Ru,hmet⟩:=Gr
  simp only[BX]at hmet
  obtain⟨Yy,Sj,My,Gs⟩:=hmet.2.2.2.2.2.1 (by rw[HA.out];kernel_rfl)
  have HX:=aH (Gs.below (cA My (by rw[HA.out];kernel_rfl)) Gs.lt)
  clear hmet Ru Sj My Gs
  have q42:w9.cell? (gw,42)=some (.slice D θ.deeds.length cd):=mS HX 42 I
  have f42:=HX.frozen 42
  refine aW ?_
  go_simp
  refine⟨⟨rfl,?_⟩,(bP _ gw 42 _).mono fun b hb=>by first|exact hb|exact⟨aJ,hb⟩⟩
  unfold cV
  rw[iP (by rw[HA.out];kernel_rfl)]
  have hx:=HX.set_ 42 (.slice A6 dd.length c6)
  rw[OW]at hx
  exact hx
 refine kS ?_
 simp only[cM]
 rintro _ ⟨A6,c6,rfl⟩ _ ⟨A5,c5,rfl⟩ _ ⟨A4,c4,rfl⟩ w9 Gq hmet
 refine aQ ?_
 refine aS ?_
 simp only[BX]at hmet
 obtain⟨wa,ka,kb,A',c',hv,hO⟩:=hmet.1 trivial
 obtain⟨wb,kc,kd,h13⟩:=hmet.2.2.1 trivial
 obtain⟨wc,ke,kf,Wz⟩:=hmet.2.2.2.1 trivial
 unfold cV at h13 Wz
 rw[iP (by rw[HA.out];kernel_rfl)]at h13 Wz
 have hv':=hv
 have h13':Value.slice A6 dd.length c6=.slice A4 dd.length c4:=h13
 have Yd:aY wc gw 46 (kE t {θ with r:=z} (.slice A θ.na ca) (.slice A6 dd.length c6)):=Wz
 cases hv'
 cases h13'
 have Td:=Yd.below (cA kf (by rw[HA.out];kernel_rfl)) Yd.lt
 have hO2:cU w9 B 159 6 A6 dd.length c6 dd:=hO.kept kb fun a ha e=>by
  have:=(hO.lt a ha).1
  have e':a.block=gw:=e.2
  have hbd:=Li.out
  omega
 have Qu:=cO w tag (30+t)
 have H1:Hid (WS w0 w9 (cG w tag (30+t)) t {θ with r:=z,deeds:=dd} gw A ca A6 c6 m gm s gs):=aH (by
  have Lj:∀b,cI gw b->tag b=10+t:=fun b hb=>by rw[show b=gw from hb];exact H.wk.tg
  refine⟨⟨Td,H.wk.asks.keptT Gq H.wk.tA (fun b hb=>by rw[Lj b hb];omega),hO2.mono (Nat.zero_le _),(Qu gw hlt).trans H.wk.tg,H.wk.asks.tagT Qu H.wk.tA,fun b hb=>?_⟩,H.ram.kept Gq Qu (fun b hb=>by rw[Lj b hb];omega),H.st.kept Gq Qu (fun b hb=>by rw[Lj b hb];omega),?_⟩
  .obtain⟨a,ha,rfl⟩:=hb
   have:=(hO2.lt a ha).1
   exact dT _ _ _ (by have:=Li.out;omega)
  exact(H.k.trans (Gq.mono fun b hb=>.inr (.inr (.inl (Lj b hb))))).retag (fun b hb=>Qu b (Nat.lt_of_lt_of_le hb H.k.size)))
 have HT:Hid (bI w0 tag (cG w tag (30+t))):=aH (fun b hb=>Qu b (Nat.lt_of_lt_of_le hb H.k.size))
 clear hmet hv hO h13 Wz Yd Td hO2 Qu HOD Li HG HSF Rf ka kb kc kd ke kf c1 Wi wa wb wc
 obtain⟨w1,rfl⟩:=aO w9
 generalize cG w tag (30+t)=Ha at*
 clear H Gq hlt
 have hlt:=H1.lt
 have c0:w1.cell? (gw,0)=t:=H1.c 0 I
 refine aW ?_
 go_wp2
 refine bK 21 (cI gw) [17,20] J J ?_
 iterate 5
  refine aR ?_;constructor
  .intro w9 Gq Gw
   go_simp
   first
   |exact aE
 first|(with_reducible refine aC (fun K hK=>?_))|(refine aC (fun K hK=>?_))
 refine .inl ⟨.agg (kT z),cX,?_,hK _ _ _ _ ?_⟩
 .simp only[bJ,bM]
  refine⟨?_,fun w9 Gq Gw=>?_⟩
  .first|rfl|(go_simp;done)
  refine aS ?_
  have Ia:=cA Gw.1 J
  have HX:=aH (sW (H1.below Ia).wk.blk)
  refine aW ?_
  refine eG 25 _ rfl gw 9 rfl (kT z) _ HX underlying25 rfl (vU _) aE
 iterate 3
  clear hK K
  refine aN ?_
  first|(with_reducible refine aC (fun K hK=>?_))|(refine aC (fun K hK=>?_))
  refine .inl ?_
  apply Exists.intro
  refine⟨cX,?_,hK _ _ _ _ ?_⟩
  .simp only[bJ,bM]
   refine⟨?_,fun w9 Gq Gw=>?_⟩
   .first|rfl|(go_simp;done)
   go_simp
   first
   |exact aE
 clear hK K
 refine aN ?_
 refine aR ?_;constructor
 .intro w9 Gq Gw
  refine aS ?_
  have q0:w9.cell? (gw,0)=t:=(H1.below (cA Gw.1 J)).c 0 I
  refine aW ?_
  go_simp
  first
  |exact aE
 first|(with_reducible refine aC (fun K hK=>?_))|(refine aC (fun K hK=>?_))
 refine .inl ?_
 apply Exists.intro
 refine⟨cX,?_,hK _ _ _ _ ?_⟩
 .simp only[bJ,bM]
  refine⟨?_,fun w9 Gq Gw=>?_⟩
  .first|rfl|(go_simp;done)
  go_simp
  first
  |exact aE
  |(go_at_call 120;exact bS (Lw.out _))
 iterate 6
  clear hK K
  refine aN ?_
  first|(with_reducible refine aC (fun K hK=>?_))|(refine aC (fun K hK=>?_))
  refine .inl ?_
  apply Exists.intro
  refine⟨cX,?_,hK _ _ _ _ ?_⟩
  .simp only[bJ,bM]
   refine⟨?_,fun w9 Gq Gw=>?_⟩
   .first|rfl|(go_simp;done)
   go_simp
   first
   |exact aE
 clear hK K
 refine aN ?_
 first|(with_reducible refine aC (fun K hK=>?_))|(refine aC (fun K hK=>?_))
 refine .inl ⟨undef,(fun _ w'=>aY w' gw 46 (kE t {θ with r:=z,deeds:=dd,o1:=nV z t,o2:=nW z t} (.slice A θ.na ca) (.slice A6 dd.length c6))),?_,hK _ _ _ _ ?_⟩
 .simp only[bJ,bM]
  refine⟨?_,fun w9 Gq Gw=>?_⟩
  .first|rfl|(go_simp;done)
  refine aS ?_
  have Ia:=cA Gw.1 J
  have HX:=aH (H1.below Ia)
  have HY:Hid (w9.there gw 46 2):=aH (FD HX.wk.blk I)
  refine aW ?_
  refine dA 44 _ _ rfl gw 46 #[(nV z t),(nW z t)] rfl rfl HY J J ?_
  refine⟨⟨rfl,?_⟩,(cE (S:=cI gw) (.inl rfl) 46 _).mono fun b hb=>⟨aJ,hb⟩⟩
  have hx:=aY.setCells (vs:=[.int .i64 (nV z t),.int .i64 (nW z t)]) (o:=46) HX.wk.blk
  rw[LE]at hx
  exact hx
 iterate 2
  clear hK K
  refine aN ?_
  first|(with_reducible refine aC (fun K hK=>?_))|(refine aC (fun K hK=>?_))
  refine .inl ?_
  apply Exists.intro
  refine⟨cX,?_,hK _ _ _ _ ?_⟩
  .simp only[bJ,bM]
   refine⟨?_,fun w9 Gq Gw=>?_⟩
   .first|rfl|(go_simp;done)
   go_simp
   first
   |exact aE
 clear hK K
 refine aN ?_
 refine bA undef (fun _ w'=>aY w' gw 46 (kE t {θ with r:=z,deeds:=dd,o1:=nV z t,o2:=nW z t,wn:=nL z t} (.slice A θ.na ca) (.slice A6 dd.length c6))) ?_ ?_
 .intro w9 Gq Gw
  refine aS ?_
  obtain⟨Yy,Sj,My,Gs⟩:=Gw.2.2.2.1 J
  have HX:=aH (Gs.below (cA My J) Gs.lt)
  clear Gw Sj My Gs
  have q48:w9.cell? (gw,48)=θ.wn:=mS HX 48 I
  have f48:=HX.frozen 48
  refine aW ?_
  go_simp
  refine⟨⟨rfl,?_⟩,(bP _ gw 48 _).mono fun b hb=>by first|exact hb|exact⟨aJ,hb⟩⟩
  have hx:=HX.set_ 48 (nL z t)
  rw[RB]at hx
  exact hx
 refine aZ ?_
 rintro w9 Gq hmet
 refine aQ ?_
 refine aS ?_
 obtain⟨wc,ke,kf,Wz⟩:=hmet.1 rfl
 have Td:=Wz.below (cA kf J) Wz.lt
 have HF:Hid (iZ w0 tag t gw gm gs ⟨m,s,{θ with r:=z,deeds:=dd,o1:=nV z t,o2:=nW z t,wn:=nL z t},false⟩ w9):=aH (by
  have Lj:∀b,cI gw b->Ha b=10+t:=fun b hb=>by rw[show b=gw from hb];exact H1.wk.tg
  refine WS.outT (tag:=Ha) (A:=A) (ca:=ca) (D:=A6) (cd:=c6) ⟨⟨Td,H1.wk.asks.keptT Gq H1.wk.tA (fun b hb=>by rw[Lj b hb];omega),H1.wk.deeds.keptT Gq H1.wk.tD (fun b hb=>by rw[Lj b hb];omega),H1.wk.tg,H1.wk.tA,H1.wk.tD⟩,H1.ram.kept Gq (bI.refl _ _) (fun b hb=>by rw[Lj b hb];omega),H1.st.kept Gq (bI.refl _ _) (fun b hb=>by rw[Lj b hb];omega),H1.k.trans (Gq.mono fun b hb=>.inr (.inr (.inl (Lj b hb))))⟩ HT false)
 clear hmet Gq ke kf Wz Td H1
 refine aW ?_
 go_wp2
 exact bodyPost_end (v:=.tuple #[]) (by simp [results,results95,go_sem]) rfl ⟨rfl,HF.out⟩
end
end
end Go.Proofs.YtplpimkgihnmhaaGreatDoor
