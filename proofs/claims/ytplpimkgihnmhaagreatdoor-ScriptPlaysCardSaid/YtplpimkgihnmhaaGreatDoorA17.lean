/-
  Parts of a proof. For all values.
-/
import Derived.Test.YtplpimkgihnmhaaGreatDoorA02
import Derived.Test.YtplpimkgihnmhaaGreatDoorA16
set_option maxRecDepth 100000
set_option maxHeartbeats 4000000
set_option linter.all false
namespace Go.Proofs.YtplpimkgihnmhaaGreatDoor
open Go.Proofs.Tryz Go.RowKit
variable{w w':World}{g:Nat}
section
attribute [local go_sem↓] Go.wp_at_zero Go.wp_at_succ
abbrev LG:List IntKind:=[.i64,.i64,.i64,.i64,.i64]
theorem QF:(prog.info? 181).map (fun i=>(i.zero,i.size,i.bytes))=some (some (.agg #[(0:Int),(0:Int),(0:Int),(0:Int),(0:Int)]),5,40):=J
theorem MY:∃Z,prog.info? 181=some Z/\Z.zero=some (.agg #[(0:Int),(0:Int),(0:Int),(0:Int),(0:Int)])/\Z.size=5/\Z.bytes=40:=by
 have h:=QF;cases hq:prog.info? 181 with
 |none=>simp [hq]at h
 |some i=>simp [hq]at h;exact⟨i,rfl,h.1,h.2.1,h.2.2⟩
def CK(v:Value):Prop:=∃g,v=.slice (some ⟨g,0,none⟩) 1 1
def DM(t:TypeId)(ys:List Value)(v:Value)(w':World):Prop:=∃g,v=.slice (some ⟨g,0,none⟩) 1 1/\aY w' g t ys.toArray
def DN(n:Nat)(v:Value):Prop:=∃A c,v=.slice A n c
def aBP(r:List Value):Prop:=∃x0 x1 x2 x3 x4 x5:Int,r=[.int .i64 x0,.int .i64 x1,.int .i64 x2,.int .i64 x3,.int .i64 x4,.int .i64 x5]
theorem pB(A L:Option Addr)(n c c':Nat)(rows:List (List Value))(w:World)(h:FI 6 w A n c rows)(K:FI 6 w L n c' rows)(W:∀r∈rows,aBP r):
 Calls prog 35 #[.slice A n c,.slice L n c'] w fun e w'=>e=.returned true/\Below w w w':=by
 have H:=aH h;have G:=aH K;have F:=aH W;have y:=h.cap;have E:=h.cap63;have D:=h.len;clear h K W
 go_enter func35,ntmps35
 go_wp2
 go_loopw [5] (fun i wr=>∃k:Nat,k<=n/\i=.int .i64 k/\Below w w wr) (fun i _=>n-(intOf i).toNat)
 case atStart=>exact⟨0,I,rfl,Below.refl _ _⟩
 case round=>
  obtain⟨k,d,rfl,V⟩:=hrel;have T:=V.size;by_cases z:k<n
  .obtain⟨b,off,rfl,hblt,hcell⟩:=H.at_ I;obtain⟨U,Y,rfl,X,Z⟩:=G.at_ I;have C:(k:Int)<n:=I;obtain⟨r,W⟩:∃r,rows[k]? =some r:=⟨rows[k]'I,List.getElem?_eq_getElem _⟩;obtain⟨R,Q,P,O,N,M,rfl⟩:=F.out r (List.mem_of_getElem? W);have x:wr.cell? (b,off+k*6)=R:=(V.cell (p:=⟨b,off+k*6,none⟩) hblt).trans (by simpa using hcell k _ W 0 _ rfl);have v:wr.cell? (b,off+k*6+1)=Q:=(V.cell (p:=⟨b,off+k*6+1,none⟩) hblt).trans (by simpa using hcell k _ W 1 _ rfl);have u:wr.cell? (b,off+k*6+2)=P:=(V.cell (p:=⟨b,off+k*6+2,none⟩) hblt).trans (by simpa using hcell k _ W 2 _ rfl);have t:wr.cell? (b,off+k*6+3)=O:=(V.cell (p:=⟨b,off+k*6+3,none⟩) hblt).trans (by simpa using hcell k _ W 3 _ rfl);have s:wr.cell? (b,off+k*6+4)=N:=(V.cell (p:=⟨b,off+k*6+4,none⟩) hblt).trans (by simpa using hcell k _ W 4 _ rfl);have q:wr.cell? (b,off+k*6+5)=M:=(V.cell (p:=⟨b,off+k*6+5,none⟩) hblt).trans (by simpa using hcell k _ W 5 _ rfl);have o:wr.cell? (U,Y+k*6)=R:=(V.cell (p:=⟨U,Y+k*6,none⟩) X).trans (by simpa using Z k _ W 0 _ rfl);have m:wr.cell? (U,Y+k*6+1)=Q:=(V.cell (p:=⟨U,Y+k*6+1,none⟩) X).trans (by simpa using Z k _ W 1 _ rfl);have l:wr.cell? (U,Y+k*6+2)=P:=(V.cell (p:=⟨U,Y+k*6+2,none⟩) X).trans (by simpa using Z k _ W 2 _ rfl);have j:wr.cell? (U,Y+k*6+3)=O:=(V.cell (p:=⟨U,Y+k*6+3,none⟩) X).trans (by simpa using Z k _ W 3 _ rfl);have g:wr.cell? (U,Y+k*6+4)=N:=(V.cell (p:=⟨U,Y+k*6+4,none⟩) X).trans (by simpa using Z k _ W 4 _ rfl);have f:wr.cell? (U,Y+k*6+5)=M:=(V.cell (p:=⟨U,Y+k*6+5,none⟩) X).trans (by simpa using Z k _ W 5 _ rfl);clear hcell Z W;have B:b<wr:=I;have S:U<wr:=I;clear D;go_wp2;refine aA 9 ?_
   iterate 9
    first
    |(refine Kf ?_;constructor
      .intro w9 hw9 hc9 hf9;go_simp
       first
       |exact aE)
    |refine aU ?_
   refine bZ ?_;intro w9 hw9 hc9 hf9;simp only[List.drop_succ_cons,List.drop_zero,List.drop];go_wp2;go_roundw
   case rel=>exact⟨k+1,I,aG,V.trans (hw9.same.mono T)⟩
   case measure=>simp [intOf];omega
  obtain rfl:k=n:=I;have C:¬(k:Int)<k:=I;go_wp2;go_ret;exact⟨rfl,V⟩
def nQ(g:Nat):Nat->Prop:=fun k=>k=g
theorem aY.kept{k:Nat}{t:TypeId}{cs:Array Value}(h:aY w k t cs)(Y:aD (nQ g) w w')(Z:k≠g):aY w' k t cs:=(Y.block k h.lt Z).trans h
theorem qC{i:Nat}(h:aD (nQ g) w w')(u:Value):aD (nQ g) w (w'.setCell (g,i) u):=h.setCell (p:=⟨g,i,none⟩) (.inl rfl) u
theorem yT(h:aD (nQ g) w w')(o:Nat)(vs:List Value):aD (nQ g) w (w'.setCells g o vs):=h.trans (cE (S:=nQ g) (.inl rfl) o vs)
theorem QX:(prog.info? 118).map (·.size)=some 8:=J
theorem zY:(prog.info? 120).map (·.size)=some 9:=J
theorem aCP:(prog.info? 121).map (·.size)=some 36:=J
theorem LH(a:Int)(w:World):Calls prog 60 #[a] w fun e w'=>e=.returned (decide (0<=a/\a<72))/\w=w':=by
 by_cases Z:0<=a
 iterate 2
  .go_enter func60,ntmps60
   go_wp2;go_ret;exact⟨dF (by simp;omega),rfl⟩
theorem PA(g a:Nat)(s:cN)(w:World)(X:aY w g 123 (nI s))(W:a<72):
 Calls prog 26 #[(g,0),a] w fun e w'=>e=.returned (.tuple #[[s.now a],.nilIface])/\w=w':=by
 have Y:=LH a;rw[decide_eq_true I]at Y;have Z:a/8*8+a%8=a:=I;have V:w.cell? (g,a/8*8+a%8)=[s.now a]:=by rw[Z,X.cell,KT s W]
 have U:(a:Int)<72:=I;generalize s.now a=v at*;have T:=aH Z;clear X Z
 go_enter func26,ntmps26
 go_wp2_with (go_at_call 60;refine(Y _).mono ?_;rintro e S ⟨rfl,rfl⟩)
 go_ret2
 exact⟨rfl,rfl⟩
theorem PN(g a:Nat)(v:Int)(s:cN)(w:World)(Y:aY w g 123 (nI s))(V:a<72):
 Calls prog 18 #[(g,0),a,[v]] w fun e w'=>e=.returned .nilIface/\w'=w.setCell (g,a) [v]:=by
 have X:=LH a;rw[decide_eq_true I]at X;have Z:a/8*8+a%8=a:=I;have U:w.cell? (g,a/8*8+a%8)=[s.now a]:=by rw[Z,Y.cell,KT s V]
 have T:w.frozen? ⟨g,a/8*8+a%8,none⟩=false:=Y.frozen _;have S:(a:Int)<72:=I;generalize s.now a=Q at*;have W:=aH Z;clear Y Z
 go_enter func18,ntmps18
 go_wp2_with (go_at_call 60;refine(X _).mono ?_;rintro e R ⟨rfl,rfl⟩)
 go_ret;exact⟨rfl,by rw[W.out]⟩
theorem KL(g t l:Nat)(s:cN)(w:World)(Z:aY w g 123 (nI s))(Y:t<4)(X:l<9)(T:s.fl<=1000000000):
 Calls prog 97 #[(g,0),t,l] w fun e w'=>e=.returned .nilIface/\aY w' g 123 (nI (s.flush t l))/\aD (nQ g) w w':=by
 have S:w.cell? (g,144+t*9+l)=(s.want t l):=by rw[Z.cell,UO s Y X]
 have R:w.frozen? ⟨g,144+t*9+l,none⟩=false:=Z.frozen _;have W:w.cell? (g,180)=s.fl:=by rw[Z.cell,Ac s]
 have V:w.frozen? ⟨g,180,none⟩=false:=Z.frozen _;have U:=aH Z;clear Z;have Q:decide ((t:Int)<0)=false:=by simp
 have P:decide ((4:Int)<=t)=false:=by simp;omega
 have O:decide ((l:Int)<0)=false:=by simp
 have N:decide ((9:Int)<=l)=false:=by simp;omega
 have M:(t:Int)<4:=I;have L:(l:Int)<9:=I
 go_enter func97,ntmps97
 go_wp2;go_ret;refine⟨rfl,?_,qC (qC (aD.refl _ _) _) _⟩;have h:=(U.set_ (144+t*9+l) true).set_ 180 ((s.fl+1:Nat):Int);rw[NU s Y X]at h;simpa using h
theorem Bt:zeroCells123=nI cN.new:=J
theorem Ft(w:World):Calls prog 16 #[] w fun e w'=>e=.returned w/\w'=w.alloc (.cells (nI cN.new) 123):=by
 go_enter func16,ntmps16
 go_wp2;go_ret;exact⟨rfl,by rw[Bt]⟩
theorem Pm(g:Nat)(l:Int)(w:World)(X:¬(0<=l/\l<9)):
 Calls prog 100 #[(g,0),l] w fun e w'=>e=.returned (.iface 53 (2:Int))/\w=w':=by
 by_cases Y:l<0
 .go_enter func100,ntmps100
  go_wp2;go_ret;exact⟨rfl,rfl⟩
 have Z:9<=l:=I
 go_enter func100,ntmps100
 go_wp2;go_ret;exact⟨rfl,rfl⟩
theorem MF{s:cN}(Z:aY w g 123 (nI s)){l:Nat}(Y:l<9):w.rangeAt g (l*8) (sF s.now (l*8)).toList:=by
 rw[<-BM s Y];exact World.rangeAt_of_block (t:=123) (fr:=(0,0)) Z (l*8) 8
theorem FN{s:cN}(Z:aY w g 123 (nI s)){l:Nat}(Y:l<9):w.rangeAt g (72+l*8) (sF s.good (l*8)).toList:=by
 rw[<-VR s Y];exact World.rangeAt_of_block (t:=123) (fr:=(0,0)) Z (72+l*8) 8
theorem GR{s:cN}(Z:aY w g 123 (nI s)){t:Nat}(Y:t<4):w.rangeAt g (144+t*9) (xR s t).toList:=by
 rw[<-PM s Y];exact World.rangeAt_of_block (t:=123) (fr:=(0,0)) Z (144+t*9) 9
theorem zT(f:Nat->Int)(o:Nat):(prog.info? 118).map (·.size)=some (sF f o).size:=by rw[QX,xY]
theorem CX{s:cN}(Z:aY w g 123 (nI s)){o n:Nat}(h:o+n<=182):w.there g o n:=Z.there (by rw[SR];exact h)
theorem QT(g l:Nat)(s:cN)(w:World)(W:aY w g 123 (nI s))(V:l<9):
 Calls prog 100 #[(g,0),l] w fun e w'=>e=.returned .nilIface/\aY w' g 123 (nI (s.land l))/\aD (nQ g) w w':=by
 have Y:=aH W;clear W;have U:decide ((l:Int)<0)=false:=by simp
 have T:decide ((9:Int)<=l)=false:=by simp;omega
 have S:(l:Int)<9:=I
 go_enter func100,ntmps100
 go_wp2_with fail;refine aA 11 ?_
 iterate 11
  first
  |(refine Kf ?_;constructor
    .intro w9 hw9 hc9 hf9
     first
     |(exact eG 118 _ rfl g (l*8) rfl (sF s.now (l*8)) _ (MF (Y.below hw9.same Y.lt) V) underlying118 rfl (zT _ _) aE)
     |(go_simp
       first
       |exact aE))
  |refine aU ?_
 refine bZ ?_;intro w9 hw9 hc9 hf9;simp only[List.drop_succ_cons,List.drop_zero];have Z:=aH (Y.below hw9.same Y.lt);have X:Hid (aD (nQ g) w w9):=aH (aD.of_same hw9.same);clear hw9
 go_wp2_with (refine wpList_store_mid rfl 118 _ _ rfl g (72+l*8) (sF s.now (l*8)) rfl rfl (CX Z (by rw[xY];omega)) (zT _ _) (OK _ _) ?_)
 go_ret;refine⟨rfl,?_,yT X _ _⟩;rw[<-QG s V];exact Z.setCells
