/-
  Part of a proof: ShMv ShLw. For all values.
-/
import Derived.Test.YtplpimkgihnmhaaGreatDoorA32
import Derived.Test.YtplpimkgihnmhaaGreatDoorA49
set_option maxRecDepth 100000
set_option maxHeartbeats 4000000
set_option linter.all false
namespace Go.Proofs.YtplpimkgihnmhaaGreatDoor
open Go.Proofs.Tryz Go.RowKit
section
attribute [local go_sem↓] Go.wp_at_zero Go.wp_at_succ
theorem aBo(w:World)(g Z Y:Nat)(X:Nat->Nat)(b:Nat):mT w g Z Y X b<100:=by
 unfold mT
 (repeat' split)<;>omega
section
variable{w w' w'':World}{tag:Nat->Nat}{Fp Fr F':pH}{p gm gs:Nat}{gw:Nat->Nat}{q qs go:Nat}{pt:Nat->Nat}
theorem Ev.prog(h:Ev w Fp Fr p gm gs gw q qs go pt w' tag)(U:DZ w' tag F' p gm gs gw w''):∃Z,(bI w' tag Z/\aD (fun b=>tag b≠0) w' w'')/\Ev w F' Fr p gm gs gw q qs go pt w'' Z:=by
 obtain⟨Z,Y,X,W⟩:=U;exact⟨Z,⟨Y,X.mono fun b e=>by unfold PT at e;omega⟩,h.t.trans Y h.b.size,h.b.trans (X.below h.b.size (fun b V e=>by have T:tag b=0:=h.t b V;unfold PT at e;omega)),W,h.rs.kept X Y (fun b e=>by unfold PT at e;omega)⟩
theorem Ev.err(h:Ev w Fp Fr p gm gs gw q qs go pt w' tag)(Z:mR w):mR w'/\tag 2=0:=⟨Z.below h.b,h.t _ Z.pos⟩
end
def Mvd(w:World)(F:pH)(pv rv:Value)(w':World):Prop:=∃p gm gs gw q qs go pt tag,pv=.pointer (some ⟨p,0,none⟩)/\rv=.pointer (some ⟨q,0,none⟩)/\Ev w F F p gm gs gw q qs go pt w' tag/\lM 1000000 F/\AR F/\dL F.hist
def mvB(k:Int)(n:Nat):Bool:=oJ k&&decide (n<=120)
theorem gV(k:Int)(A:Option Addr)(n c:Nat)(w:World)(Y:mvB k n=false)(X:Et w w):Calls prog 28 #[k,.slice A n c] w fun e w'=>e=.returned (.tuple #[.pointer none,.pointer none,false])/\Below w w w':=by
 have W:=aH (YB k X);by_cases T:n<=120
 .have hkb:oJ k=false:=by unfold mvB at Y;rw[decide_eq_true T,Bool.and_true]at Y;exact Y
  have S:=Fl k hkb;have V:¬120<(n:Int):=I;clear Y X hkb
  go_enter func28,ntmps28
  go_wp2_with fail
  with_reducible refine W.out.mono ?_
  rintro e R ⟨rfl,Z⟩;have U:=aH Z;clear Z;go_wp2
  go_ret3
  exact⟨rfl,U.out⟩
 have V:120<(n:Int):=I;clear Y X W
 go_enter func28,ntmps28
 go_wp2
 go_ret3
 exact⟨rfl,Below.refl _ _⟩
structure aAz (w:World) (F0:pH) (f:Nat->Nat->Int) (n p gm gs:Nat) (gw:Nat->Nat) (q qs go:Nat) (pt:Nat->Nat) (j:Nat) (wr:World) (tagr:Nat->Nat) (F:pH):Prop where
 eq:F=F0.play (bL f) j
 tw:Ev w F (F0.play (bL f) n) p gm gs gw q qs go pt wr tagr
 ok:lM (j*1001) F
 sb:AR F
 hi:dL F.hist
theorem aAz.next{w wr T w':World}{Y:Nat->Nat}{S F:pH}{f:Nat->Nat->Int}{n p W V:Nat}{U:Nat->Nat}{q R go:Nat}{Q:Nat->Nat}{j:Nat}(h:aAz w S f n p W V U q R go Q j wr Y F)(L:j<10000)(O:Below wr wr w')(N:DZ w' Y (F.move (bL f j)) p W V U T):∃Z M,aAz w S f n p W V U q R go Q (j+1) T Z M:=by
 obtain⟨Z,_,P⟩:=(h.tw.below O).prog N;have X:=EG h.ok (bL f j) I;exact⟨Z,_,by rw[h.eq];rfl,P,by rw[show(j+1)*1001=j*1001+1001 by omega];exact X,JM h.ok I h.sb _,h.hi.move _⟩
theorem fM(k:Int)(A:Option Addr)(n c:Nat)(f:Nat->Nat->Int)(w:World)(d:mvB k n=true)(hl:PQ Aj w A n c f)(hT:Et w w)(hE:mR w):
 Calls prog 28 #[k,.slice A n c] w fun e w'=>∃pv rv,e=.returned (.tuple #[pv,rv,true])/\Mvd w ((pH.new k).play (bL f) n) pv rv w':=by
 have B:oJ k=true:=by unfold mvB at d;rw[Bool.and_eq_true]at d;exact d.1
 have hn:n<=120:=by unfold mvB at d;rw[Bool.and_eq_true,decide_eq_true_eq]at d;exact d.2
 have L:1<=k/\k<=6:=by simpa [oJ]using B
 have HK:=aH (YB k hT);have hq:=Fe k B;have q1:¬120<(n:Int):=I;have HL:=aH hl;have HE:=aH hE;have x:=aH (fun W=>Cs k W B);have K:=aH (fun zs W (hL:PQ Aj W A n c f) (hA:∀b,iI A b->zs b<100)=>aCR zs k A n c f W L.1 L.2 hL hA I);have zz:=aH (Ci L.1 L.2);clear d hT B hl hE L
 go_enter func28,ntmps28
 go_wp2_with fail
 with_reducible refine HK.out.mono ?_
 rintro e w1 ⟨rfl,zr⟩;have z:=aH zr;clear zr HK;go_wp2_with fail
 with_reducible refine(x.out w1).mono ?_
 rintro e P ⟨p,u,s,o,rfl,hp⟩;have H:=aH (z.trans (hp.below.mono z.size));have zy:=aH hp.sys;have m:Hid (bI w (fun _=>0) (mT w1 p u s o)):=aH (fun b hb=>iP (Nat.lt_of_lt_of_le hb z.size));have zx:=aH (HL.below H);have zw:Hid (∀b,iI A b->mT w1 p u s o b<100):=aH (fun b _=>aBo _ _ _ _ _ b);clear hp x z;generalize mT w1 p u s o=D at*;have zv:=aH (K.out D P zx zw);clear K;go_wp2_with fail
 with_reducible refine zv.out.mono ?_
 rintro e N ⟨v,rfl,q,qs,go,pt,zq,rfl,E,zp⟩;have zu:Hid (∃X Fr,aAz w (pH.new k) f n p u s o q qs go pt 0 N X Fr):=aH ⟨zq,pH.new k,rfl,⟨m.trans E.t H.size,H.trans (E.k.below H.size (fun b hb e=>by have h1:D b=0:=m.out b hb;have e':100<=D b:=e;omega)),zy.kept E.k E.t (fun b e=>.inr e),zp⟩,by rw[Nat.zero_mul];exact zz,De k,fun r hr=>by cases hr⟩;clear E zp zv zx zw zy m H zz;go_wp2
 go_loopw [10] (fun i wr=>∃j:Nat,j<=n/\i=.int .i64 j/\Hid (∃X Fr,aAz w (pH.new k) f n p u s o q qs go pt j wr X Fr)) (fun i _=>n-(intOf i).toNat)
 case atStart=>exact⟨0,I,rfl,zu⟩
 case round=>
  clear zu;obtain⟨j,hj,rfl,zo⟩:=hrel;obtain⟨X,Fr,zn⟩:=zo.out;have V:=aH zn;clear zo zn;by_cases R:j<n
  .have q3:(j:Int)<n:=I;have G:=HL.below V.tw.b;obtain⟨b,Q,rfl,zk,Y⟩:=G.at_ I;have zj:=G.cap;have zm:=G.cap63;have x0:wr.cell? (b,Q+j*7)=(f j 0):=Y j 0 R aJ;have x1:wr.cell? (b,Q+j*7+1)=(f j 1):=Y j 1 R aJ;have x2:wr.cell? (b,Q+j*7+2)=(f j 2):=Y j 2 R aJ;have x3:wr.cell? (b,Q+j*7+3)=(f j 3):=Y j 3 R aJ;have x4:wr.cell? (b,Q+j*7+4)=(f j 4):=Y j 4 R aJ;have x5:wr.cell? (b,Q+j*7+5)=(f j 5):=Y j 5 R aJ;have x6:wr.cell? (b,Q+j*7+6)=[f j 6]:=Y j 6 R aJ;have O:=G.wf j 6 R aJ;have y:Below wr wr (wr.alloc (.cells #[(f j 0),(f j 1),(f j 2),(f j 3),(f j 4),(f j 5),[f j 6]] 150)):=(Below.refl _ _).alloc (Nat.le_refl _) _;have U:Hid (∀N,DZ (wr.alloc (.cells #[(f j 0),(f j 1),(f j 2),(f j 3),(f j 4),(f j 5),[f j 6]] 150)) X (Fr.move (bL f j)) p u s o N->∃X Fr,aAz w (pH.new k) f n p u s o q qs go pt (j+1) N X Fr):=aH (fun N M=>V.next I y M);have T:=aH (V.tw.ps.below y);have zt:=aH ((V.tw.below y).err HE);have Z:=aH (aY.new wr 150 #[(f j 0),(f j 1),(f j 2),(f j 3),(f j 4),(f j 5),[f j 6]]);clear Y G y
   go_upto_region 11 with(fail)
   show Code.wp _ _ _ _ (wr.alloc (.cells #[(f j 0),(f j 1),(f j 2),(f j 3),(f j 4),(f j 5),[f j 6]] 150));generalize wr.alloc (.cells #[(f j 0),(f j 1),(f j 2),(f j 3),(f j 4),(f j 5),[f j 6]] 150)=P at*;generalize wr.heap.size=C at*;have zi:=Z.lt;have m1:P.cell? (C,1)=(f j 1):=Z.cell 1;have m2:P.cell? (C,2)=(f j 2):=Z.cell 2;have m3:P.cell? (C,3)=(f j 3):=Z.cell 3;have m4:P.cell? (C,4)=(f j 4):=Z.cell 4;have m5:P.cell? (C,5)=(f j 5):=Z.cell 5;have m6:P.cell? (C,6)=[f j 6]:=Z.cell 6;clear x0 x1 x2 x3 x4 x5 x6 zk;by_cases g:f j 0=1
   .have m0:P.cell? (C,0)=(1:Int):=by rw[Z.cell 0,<-g];rfl
    have F:=aH (aBT T V.ok I (f j 1) (f j 2) (f j 3) (f j 4));have l:=aH (aBS Fr (bL f j) g);clear g O Z;go_wp2_with fail
    with_reducible refine F.out.mono ?_
    rintro e N ⟨rfl,M⟩;have S:=aH (U.out N (by rw[l.out];exact M));clear M F V T U;go_wp2;go_roundw
    case rel=>exact⟨j+1,I,aG,S⟩
    case measure=>simp [intOf];omega
   by_cases a:f j 0=2
   .have m0:P.cell? (C,0)=(2:Int):=by rw[Z.cell 0,<-a];rfl
    have F:=aH (aCm T V.ok I V.sb zt.out.1 zt.out.2 (f j 1) (f j 5));have l:=aH (aBb Fr (bL f j) a);clear g a O Z;go_wp2_with fail
    with_reducible refine F.out.mono ?_
    rintro e N ⟨rfl,M⟩;have S:=aH (U.out N (by rw[l.out];exact M));clear M F V T U;go_wp2;go_roundw
    case rel=>exact⟨j+1,I,aG,S⟩
    case measure=>simp [intOf];omega
   by_cases e3:f j 0=3
   .have m0:P.cell? (C,0)=(3:Int):=by rw[Z.cell 0,<-e3];rfl
    have F:=aH (aBn T (f j 5));have l:=aH (aAg Fr (bL f j) e3);clear g a e3 O Z;go_wp2_with fail
    with_reducible refine F.out.mono ?_
    rintro e N ⟨rfl,M⟩;have S:=aH (U.out N (by rw[l.out];exact M));clear M F V T U;go_wp2;go_roundw
    case rel=>exact⟨j+1,I,aG,S⟩
    case measure=>simp [intOf];omega
   by_cases e4:f j 0=4
   .have m0:P.cell? (C,0)=(4:Int):=by rw[Z.cell 0,<-e4];rfl
    have zl:=Mg O;have h:=aAX T V.ok I (f j 6).toNat I;rw[show(((f j 6).toNat:Nat):Int)=f j 6 by omega]at h;have F:=aH h;have l:=aH (aBH Fr (bL f j) e4);clear g a e3 e4 O Z h zl;go_wp2_with fail
    with_reducible refine F.out.mono ?_
    rintro e N ⟨rfl,M⟩;have S:=aH (U.out N (by rw[l.out];exact M));clear M F V T U;go_wp2;go_roundw
    case rel=>exact⟨j+1,I,aG,S⟩
    case measure=>simp [intOf];omega
   have m0:P.cell? (C,0)=(f j 0):=Z.cell 0;have S:=aH (U.out P (by rw[aBW Fr (bL f j) g a e3 e4];exact DZ.same T (Below.refl _ _)));clear O Z V T U;go_wp2;go_roundw
   case rel=>exact⟨j+1,I,aG,S⟩
   case measure=>simp [intOf];omega
  obtain rfl:j=n:=I;have q3:¬(j:Int)<j:=I;have HF:Hid (Mvd w ((pH.new k).play (bL f) j) (p,0) (q,0) wr):=aH ⟨p,u,s,o,q,qs,go,pt,X,rfl,rfl,by have:=V.tw;rw[V.eq]at this;exact this,by rw[<-V.eq];exact V.ok.mono I,by rw[<-V.eq];exact V.sb,by rw[<-V.eq];exact V.hi⟩;clear V;go_wp2
  go_ret3
  exact⟨_,_,rfl,HF.out⟩
theorem vQ{w Y:World}(h:Et w w)(X:Below w w Y):Et Y Y:=fun W Z=>h W (X.trans (Z.mono X.size))
