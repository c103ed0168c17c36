/-
  Part of a proof: BatA StW. For all values.
-/
import Derived.Test.YtplpimkgihnmhaaGreatDoorA04
import Derived.Test.YtplpimkgihnmhaaGreatDoorA20
set_option maxRecDepth 100000
set_option maxHeartbeats 4000000
set_option linter.all false
namespace Go.Proofs.YtplpimkgihnmhaaGreatDoor
open Go.Proofs.Tryz Go.RowKit
section
attribute [local go_sem↓] Go.wp_at_zero Go.wp_at_succ
abbrev LG:List IntKind:=[.i64,.i64,.i64,.i64,.i64]
theorem QF:(prog.info? 181).map (fun i=>(i.zero,i.size,i.bytes))=some (some (.agg #[(0:Int),(0:Int),(0:Int),(0:Int),(0:Int)]),5,40):=J
theorem MY:∃i0,prog.info? 181=some i0/\i0.zero=some (.agg #[(0:Int),(0:Int),(0:Int),(0:Int),(0:Int)])/\i0.size=5/\i0.bytes=40:=by
 have h:=QF
 cases hq:prog.info? 181 with
 |none=>simp [hq]at h
 |some i=>simp [hq]at h;exact⟨i,rfl,h.1,h.2.1,h.2.2⟩
def CK(v:Value):Prop:=∃g,v=.slice (some ⟨g,0,none⟩) 1 1
def DM(t:TypeId)(ys:List Value)(v:Value)(w':World):Prop:=∃g,v=.slice (some ⟨g,0,none⟩) 1 1/\aY w' g t ys.toArray
def DN(n:Nat)(v:Value):Prop:=∃A c,v=.slice A n c
def nQ(g:Nat):Nat->Prop:=fun k=>k=g
theorem aY.kept{w w':World}{g k:Nat}{t:TypeId}{cs:Array Value}(h:aY w k t cs)(hk:aD (nQ g) w w')(hne:k≠g):aY w' k t cs:=(hk.block k h.lt hne).trans h
theorem qC{w w':World}{g i:Nat}(h:aD (nQ g) w w')(u:Value):aD (nQ g) w (w'.setCell (g,i) u):=h.setCell (p:=⟨g,i,none⟩) (.inl rfl) u
theorem yT{w w':World}{g:Nat}(h:aD (nQ g) w w')(o:Nat)(vs:List Value):aD (nQ g) w (w'.setCells g o vs):=h.trans (cE (S:=nQ g) (.inl rfl) o vs)
theorem QX:(prog.info? 118).map (·.size)=some 8:=J
theorem zY:(prog.info? 120).map (·.size)=some 9:=J
theorem LH(a:Int)(w:World):Calls prog 60 #[a] w fun e w'=>e=.returned (decide (0<=a/\a<72))/\w=w':=by
 by_cases h0:0<=a
 iterate 2
  .go_enter func60,ntmps60
   go_wp2
   go_ret
   exact⟨dF (by simp;omega),rfl⟩
theorem PA(g a:Nat)(s:cN)(w:World)(hb:aY w g 123 (nI s))(ha:a<72):
 Calls prog 26 #[(g,0),a] w fun e w'=>e=.returned (.tuple #[[s.now a],.nilIface])/\w=w':=by
 have hr:=LH a
 rw[decide_eq_true I]at hr
 have ea:a/8*8+a%8=a:=I
 have hc:w.cell? (g,a/8*8+a%8)=[s.now a]:=by rw[ea,hb.cell,KT s ha]
 have b1:(a:Int)<72:=I
 generalize s.now a=v at*
 have EA:=aH ea
 clear hb ea
 go_enter func26,ntmps26
 go_wp2_with (go_at_call 60;refine(hr _).mono ?_;rintro e w1 ⟨rfl,rfl⟩)
 go_ret2
 exact⟨rfl,rfl⟩
theorem PN(g a:Nat)(v:Int)(s:cN)(w:World)(hb:aY w g 123 (nI s))(ha:a<72):
 Calls prog 18 #[(g,0),a,[v]] w fun e w'=>e=.returned .nilIface/\w'=w.setCell (g,a) [v]:=by
 have hr:=LH a
 rw[decide_eq_true I]at hr
 have ea:a/8*8+a%8=a:=I
 have hc:w.cell? (g,a/8*8+a%8)=[s.now a]:=by rw[ea,hb.cell,KT s ha]
 have hf:w.frozen? ⟨g,a/8*8+a%8,none⟩=false:=hb.frozen _
 have b1:(a:Int)<72:=I
 generalize s.now a=v0 at*
 have EA:=aH ea
 clear hb ea
 go_enter func18,ntmps18
 go_wp2_with (go_at_call 60;refine(hr _).mono ?_;rintro e w1 ⟨rfl,rfl⟩)
 go_ret
 exact⟨rfl,by rw[EA.out]⟩
theorem KL(g t l:Nat)(s:cN)(w:World)(hb:aY w g 123 (nI s))(ht:t<4)(hl:l<9)(hfl:s.fl<=1000000000):
 Calls prog 97 #[(g,0),t,l] w fun e w'=>e=.returned .nilIface/\aY w' g 123 (nI (s.flush t l))/\aD (nQ g) w w':=by
 have hc:w.cell? (g,144+t*9+l)=(s.want t l):=by rw[hb.cell,UO s ht hl]
 have hf:w.frozen? ⟨g,144+t*9+l,none⟩=false:=hb.frozen _
 have Hk:w.cell? (g,180)=s.fl:=by rw[hb.cell,Ac s]
 have Ja:w.frozen? ⟨g,180,none⟩=false:=hb.frozen _
 have HB:=aH hb
 clear hb
 have d1:decide ((t:Int)<0)=false:=by simp
 have d2:decide ((4:Int)<=t)=false:=by simp;omega
 have d3:decide ((l:Int)<0)=false:=by simp
 have d4:decide ((9:Int)<=l)=false:=by simp;omega
 have t4:(t:Int)<4:=I
 have l9:(l:Int)<9:=I
 go_enter func97,ntmps97
 go_wp2
 go_ret
 refine⟨rfl,?_,qC (qC (aD.refl _ _) _) _⟩
 have h:=(HB.set_ (144+t*9+l) true).set_ 180 ((s.fl+1:Nat):Int)
 rw[NU s ht hl]at h
 simpa using h
theorem Bt:zeroCells123=nI cN.new:=J
theorem Ft(w:World):Calls prog 16 #[] w fun e w'=>e=.returned w/\w'=w.alloc (.cells (nI cN.new) 123):=by
 go_enter func16,ntmps16
 go_wp2
 go_ret
 exact⟨rfl,by rw[Bt]⟩
theorem MF{w:World}{g:Nat}{s:cN}(hb:aY w g 123 (nI s)){l:Nat}(hl:l<9):w.rangeAt g (l*8) (sF s.now (l*8)).toList:=by
 rw[<-BM s hl]
 exact World.rangeAt_of_block (t:=123) (fr:=(0,0)) hb (l*8) 8
theorem GR{w:World}{g:Nat}{s:cN}(hb:aY w g 123 (nI s)){t:Nat}(ht:t<4):w.rangeAt g (144+t*9) (xR s t).toList:=by
 rw[<-PM s ht]
 exact World.rangeAt_of_block (t:=123) (fr:=(0,0)) hb (144+t*9) 9
theorem zT(f:Nat->Int)(o:Nat):(prog.info? 118).map (·.size)=some (sF f o).size:=by rw[QX,xY]
theorem CX{w:World}{g:Nat}{s:cN}(hb:aY w g 123 (nI s)){o n:Nat}(h:o+n<=182):w.there g o n:=hb.there (by rw[SR];exact h)
end
end Go.Proofs.YtplpimkgihnmhaaGreatDoor
