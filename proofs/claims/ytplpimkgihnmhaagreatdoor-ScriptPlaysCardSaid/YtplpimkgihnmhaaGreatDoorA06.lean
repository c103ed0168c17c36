/-
  Parts of a proof. For all values.
-/
import Derived.Test.YtplpimkgihnmhaaGreatDoorA05
set_option maxRecDepth 100000
set_option maxHeartbeats 4000000
set_option linter.all false
namespace Go.Proofs.YtplpimkgihnmhaaGreatDoor
open Go.Proofs.Tryz Go.RowKit
variable{z d:Nat->Int}{w w':World}{C:Array Value}{kind N:Int}{A:Option Addr}{xs:List Int}{G:Nat}
section
attribute [local go_sem↓] Go.wp_at_zero Go.wp_at_succ
def tW(z:Nat->Int)(i:Nat):Prop:=z (2*i)<=1000/\z (2*i+1)<=4294967295
def kQ(z:Nat->Int):Prop:=(∀i,i<8->tW z i)/\z 16=0/\cS z=true
def CD(z:Nat->Int)(w:World)(e:Ending)(w':World):Prop:=
 Below w.heap.size w w'/\∃D y b,e=.returned (.tuple #[.agg D,.bool b])/\eB D 16 y/\(b=true↔kQ z)/\(b=true->∀i,i<16->y i=z i)
theorem BG:(prog.info? 284).map (·.size)=some 16:=J
structure Dt (w W:World) (C R D:Array Value):Prop where
 words:aY W w.heap.size 252 C
 res:aY W (w.heap.size+1) 284 R
 tab:aY W (w.heap.size+2) 284 D
 below:Below w.heap.size w W
theorem Dt.put{W:World}{R D:Array Value}(h:Dt w W C R D)(i:Nat)(x y:Value):
 Dt w ((W.setCell ⟨w.heap.size+1+1,i,none⟩ x).setCell ⟨w.heap.size+1+1,i+1,none⟩ y).drew C R ((D.setIfInBounds i x).setIfInBounds (i+1) y):=
 ⟨(h.words.far (by simp;omega) _).far (by simp;omega) _,(h.res.far (by simp) _).far (by simp) _,(h.tab.set_ _ _).set_ _ _,((h.below.setCell (by show w.heap.size<=w+1+1;omega) _).setCell (by show w.heap.size<=w+1+1;omega) _).drew⟩
theorem uF(z:Nat->Int)(k i:Nat):eF (k+1) z i=if i=k*2+1 then z (2*k+1)else if i=k*2 then z (2*k)else eF k z i:=by
 unfold eF;by_cases Z:i=k*2+1
 .subst Z;rw[iP I,iP rfl,show k*2+1=2*k+1 by omega]
 rw[iN Z];by_cases Y:i=k*2
 .subst Y;rw[iP I,iP rfl,show k*2=2*k by omega]
 rw[iN Y];by_cases X:i<2*k
 .rw[iP X,iP I]
 rw[iN X,iN I]
theorem zN(C:Array Value)(z:Nat->Int)(w:World)(h:cH C 17 z):Calls prog 157 #[.agg C] w (CD z w):=by
 have E:=aH h;have Q:Hid (Dt w (((w.alloc (.cells C 252)).alloc (.cells (16:Int) 284)).alloc (.cells (16:Int) 284)) C (16:Int) (16:Int)):=aH
  ⟨((aY.new _ _ _).alloc _).alloc _,(aY.newAt _ _ _ (by simp)).alloc _,aY.newAt _ _ _ (by simp),by go_grown⟩
 have r:Hid (eB (16:Int) 16 (eF 0 z)):=aH ((show eB (16:Int) 16 (fun _=>0)from eB.zero 16).congr (fun i s=>by unfold eF;rw[iN I]));clear h
 go_enter func157,ntmps157
 go_wp2
 go_loopw [6] (fun i wr=>∃k:Nat,k<=8/\i=.int .i64 k/\Hid (∃D,Dt w wr C (16:Int) D/\eB D 16 (eF k z))/\Hid (∀j,j<k->tW z j)) (fun i _=>8-(intOf i).toNat)
 case atStart=>exact⟨0,I,rfl,aH ⟨_,Q.out,r.out⟩,aH fun j hj=>absurd hj I⟩
 case round=>
  obtain⟨k,hk,rfl,g,R⟩:=hrel;obtain⟨D,M,B⟩:=g.out;have Z:=aH M;have T:=aH B;have Y:Hid ((prog.info? 284).map (·.size)=some D.size):=by show _=_;rw[BG,B.size]
  by_cases u:k<8
  .have b1:(k:Int)<8:=I;have s0:wr.cell? (w.heap.size,2*k)=[z (2*k)]:=(M.words.cell (2*k)).trans (E.get _ I);have s1:wr.cell? (w.heap.size,2*k+1)=[z (2*k+1)]:=(M.words.cell (2*k+1)).trans (E.get _ I);have q:=E.bd (2*k) I;have o:=E.bd (2*k+1) I;clear M B g;generalize t:z (2*k)=x at s0 q;generalize hy:z (2*k+1)=y at s1 o;have F:=aH t;have n:=aH hy;clear t hy;by_cases c:x<=1000
   .have d1:decide (1000<x)=false:=by simp;omega
    by_cases a:y<=4294967295
    .have d2:decide (4294967295<y)=false:=by simp;omega
     have t0:wr.cell? ⟨w.heap.size+1+1,k*2,none⟩=some (.int .i64 (eF k z (k*2))):=(Z.tab.cell (k*2)).trans (T.get _ I);have t1:wr.cell? ⟨w.heap.size+1+1,k*2+1,none⟩=some (.int .i64 (eF k z (k*2+1))):=(Z.tab.cell (k*2+1)).trans (T.get _ I);have f0:wr.frozen? ⟨w.heap.size+1+1,k*2,none⟩=false:=Z.tab.frozen (k*2);have f1:wr.frozen? ⟨w.heap.size+1+1,k*2+1,none⟩=false:=Z.tab.frozen (k*2+1);go_wp2;clear Q r
     go_region
     apply_assumption
     go_wp2;go_roundw
     case rel=>exact⟨k+1,I,by go_num,aH ⟨_,Z.put (k*2) _ _,((T.set_ (k:=k*2) (v:=x) I).set_ (k:=k*2+1) (v:=y) I).congr (fun i s=>by rw[uF,F.out,n.out])⟩,aH fun j hj=>by
      rcases Nat.lt_or_ge j k with h|h
      .exact R.out j h
      obtain rfl:j=k:=I;exact⟨by rw[F.out];exact c,by rw[n.out];exact a⟩⟩
     case measure=>simp [intOf];omega
    have d2:decide (4294967295<y)=true:=by simp;omega
    go_wp2_with (first
     |(refine wpList_load_row rfl 284 _ rfl (w.heap.size+1+1) rfl 284 D (0,0) _ Z.tab underlying284 rfl Y.out ?_)
     |(refine wpList_store_row rfl 284 _ _ rfl (w.heap.size+1) D rfl rfl 284 (16:Int) Z.res Y.out (by rw[T.size];rfl) T.one ?_))
    refine bodyPost_ret (bR results157 _ _ (w.heap.size+1) 284 D _ _ rfl rfl (aY.setRow Z.res D) underlying284 rfl Y.out) rfl ⟨aL Z.below (by simp) _,D,_,false,rfl,T.out,Iff.intro (fun h=>Bool.noConfusion h) (fun h=>?_),fun h=>Bool.noConfusion h⟩;have m:=(h.1 k u).2;rw[n.out]at m;omega
   have d1:decide (1000<x)=true:=by simp;omega
   go_wp2_with (first
    |(refine wpList_load_row rfl 284 _ rfl (w.heap.size+1+1) rfl 284 D (0,0) _ Z.tab underlying284 rfl Y.out ?_)
    |(refine wpList_store_row rfl 284 _ _ rfl (w.heap.size+1) D rfl rfl 284 (16:Int) Z.res Y.out (by rw[T.size];rfl) T.one ?_))
   refine bodyPost_ret (bR results157 _ _ (w.heap.size+1) 284 D _ _ rfl rfl (aY.setRow Z.res D) underlying284 rfl Y.out) rfl ⟨aL Z.below (by simp) _,D,_,false,rfl,T.out,Iff.intro (fun h=>Bool.noConfusion h) (fun h=>?_),fun h=>Bool.noConfusion h⟩;have m:=(h.1 k u).1;rw[F.out]at m;omega
  obtain rfl:k=8:=I;have X:Hid (eB D 16 z):=aH (B.congr (fun i s=>by unfold eF;rw[iP I]));have P:wr.cell? (w.heap.size,16)=[z 16]:=(M.words.cell 16).trans (E.get _ I);have S:w.heap.size<wr:=M.words.lt;clear M B g Q r;generalize t:z 16=x at P;have F:=aH t;clear t;by_cases G:x=0
  .subst G;go_wp2;refine bK 9 (fun b=>b=w+1) [8] J J ?_
   iterate 8
    refine aC (fun K V=>?_)
    first
    |(refine .inl ?_
      apply Exists.intro;refine⟨cX,?_,V _ _ _ _ ?_⟩
      .simp only[bJ,bM];refine⟨?_,fun w9 hw9 _=>?_⟩
       .first|rfl|(go_simp;done)
       have l:=(hw9.cell (p:=⟨w.heap.size,16,none⟩) S (by show¬w.heap.size=w+1;omega)).trans P
       first
       |exact bT 284 _ rfl (w+1+1) rfl 284 D _ ((hw9.block (w+1+1) Z.tab.lt I).trans Z.tab) underlying284 rfl Y.out aE
       |(go_simp
         first
         |exact aE
         |(go_at_call 182;exact bS (AF D z _ X.out)))
      clear V K;refine aN ?_)
    |(refine .inr (.inl ⟨?_,V _ _ _ _ ?_⟩)
      .simp only[bM]
       first|rfl|(go_simp;done)
      clear V K;refine aN ?_)
   refine aC (fun K V=>?_);refine .inl ⟨undef,fun _ f=>aY f (w+1) 284 D,?_,V _ _ _ _ ?_⟩
   .simp only[bJ,bM];refine⟨?_,fun w9 hw9 L=>?_⟩
    .first|rfl|(go_simp;done)
    have U:aY w9 (w,1) 284 (16:Int):=(L.1.block _ Z.res.lt (fun h=>dN h J)).trans Z.res;exact dS 284 _ _ rfl (w,1) D rfl rfl 284 (16:Int) U Y.out (by rw[X.size];rfl) X.one ⟨⟨rfl,U.setRow D⟩,fD (.inl ⟨aJ,rfl⟩) _⟩
   clear V K;refine aZ ?_;intro w9 hw9 W;obtain⟨w0,d,A,H⟩:=W.1 rfl;have O:Hid (aY w9 (w,1) 284 D):=aH ((A.block _ H.lt (fun h=>dN h J)).trans H);have N:Hid (Below w w w9):=aH (Z.below.trans (hw9.below Z.below.size (fun b hb e=>by omega)));clear W H d A;go_wp2;refine bodyPost_ret (bR results157 _ _ (w,1) 284 D _ _ rfl rfl O.out underlying284 rfl Y.out) rfl ⟨N.out,D,z,_,rfl,X.out,?_,fun _ i s=>rfl⟩;unfold kQ;rw[F.out];exact⟨fun h=>⟨R.out,rfl,h⟩,fun h=>h.2.2⟩
  have d1:(x==0)=false:=by simpa using G
  go_wp2;refine bK 9 (fun b=>b=w+1) [8] J J ?_
  iterate 8
   refine aC (fun K V=>?_)
   first
   |(refine .inl ?_
     apply Exists.intro;refine⟨cX,?_,V _ _ _ _ ?_⟩
     .simp only[bJ,bM];refine⟨?_,fun w9 hw9 _=>?_⟩
      .first|rfl|(go_simp;done)
      have l:=(hw9.cell (p:=⟨w.heap.size,16,none⟩) S (by show¬w.heap.size=w+1;omega)).trans P
      first
      |exact bT 284 _ rfl (w+1+1) rfl 284 D _ ((hw9.block (w+1+1) Z.tab.lt I).trans Z.tab) underlying284 rfl Y.out aE
      |(go_simp
        first
        |exact aE
        |(go_at_call 182;exact bS (AF D z _ X.out)))
     clear V K;refine aN ?_)
   |(refine .inr (.inl ⟨?_,V _ _ _ _ ?_⟩)
     .simp only[bM]
      first|rfl|(go_simp;done)
     clear V K;refine aN ?_)
  refine aC (fun K V=>?_);refine .inl ⟨undef,fun _ f=>aY f (w+1) 284 D,?_,V _ _ _ _ ?_⟩
  .simp only[bJ,bM];refine⟨?_,fun w9 hw9 L=>?_⟩
   .first|rfl|(go_simp;done)
   have U:aY w9 (w,1) 284 (16:Int):=(L.1.block _ Z.res.lt (fun h=>dN h J)).trans Z.res;exact dS 284 _ _ rfl (w,1) D rfl rfl 284 (16:Int) U Y.out (by rw[X.size];rfl) X.one ⟨⟨rfl,U.setRow D⟩,fD (.inl ⟨aJ,rfl⟩) _⟩
  clear V K;refine aZ ?_;intro w9 hw9 W;obtain⟨w0,d,A,H⟩:=W.1 rfl;have O:Hid (aY w9 (w,1) 284 D):=aH ((A.block _ H.lt (fun h=>dN h J)).trans H);have N:Hid (Below w w w9):=aH (Z.below.trans (hw9.below Z.below.size (fun b hb e=>by omega)));clear W H d A;go_wp2;refine bodyPost_ret (bR results157 _ _ (w,1) 284 D _ _ rfl rfl O.out underlying284 rfl Y.out) rfl ⟨N.out,D,z,_,rfl,X.out,?_,fun _ i s=>rfl⟩;unfold kQ;rw[F.out];exact⟨fun h=>Bool.noConfusion h,fun h=>absurd h.2.1 G⟩
def lZ(xs:List Int)(k:Nat):Bool:=decide (k=0\/xs[(k-1)/2]?.getD 0<=xs[k]?.getD 0)
def iJ(xs:List Int):Bool:=(List.range xs.length).all (lZ xs)&&decide (xs.length<=6)
theorem DR{k:Nat}(Z:k<xs.length)(h:lZ xs k=false):iJ xs=false:=by
 unfold iJ;rw[Bool.and_eq_false_iff];left;rw[List.all_eq_false];exact⟨k,by simpa using Z,by simp [h]⟩
theorem AC(h:∀i,i<xs.length->lZ xs i=true):iJ xs=decide (xs.length<=6):=by
 unfold iJ;have:(List.range xs.length).all (lZ xs)=true:=by rw[List.all_eq_true];intro x Z;exact h x (by simpa using Z)
 rw[this,Bool.true_and]
theorem yO(A:Option Addr)(n c:Nat)(xs:List Int)(w:World)(h:fI w A n c xs):
 Calls prog 156 #[.slice A n c] w fun e w'=>e=.returned (.bool (iJ xs))/\Below w.heap.size w w':=by
 obtain⟨Z,P,M,W,V⟩:=h;have T:=aH Z;clear Z;have O:=aH V;clear V;have K:=aH W;clear W
 go_enter func156,ntmps156
 go_wp2
 go_loopw [6] (fun i wr=>∃k:Nat,k<=n/\i=.int .i64 k/\Below w w wr/\Hid (∀j,j<k->lZ xs j=true)) (fun i _=>n-(intOf i).toNat)
 case atStart=>exact⟨0,I,rfl,Below.refl _ _,fun j R=>absurd R I⟩
 case round=>
  obtain⟨k,D,rfl,X,Y⟩:=hrel;by_cases U:k<n
  .obtain⟨b,off,rfl,hblt,hcell⟩:=O.out I;have Q:=aH hcell;clear hcell;by_cases L:0<k
   .have hc1:wr.cell? (b,off+k)=(xs[k]?.getD 0):=(X.cell (p:=⟨b,off+k,none⟩) hblt).trans (Q.out k U);have N:wr.cell? (b,off+(k-1)/2)=(xs[(k-1)/2]?.getD 0):=(X.cell (p:=⟨b,off+(k-1)/2,none⟩) hblt).trans (Q.out _ I);have H:(k:Int)<n:=I;have G:((k:Int)-1)/2<n:=I;have F:0<=((k:Int)-1)/2:=I;have E:0<(k:Int):=I;go_wp2
    go_quiet (fail)
    go_wp2
    .have hlt:xs[k]?.getD 0<xs[(k-1)/2]?.getD 0:=by assumption
     go_ret;exact⟨dF (by rw[DR (by rw[T.out];exact U) (by simp [lZ];omega)]),cZ X _⟩
    have S:xs[(k-1)/2]?.getD 0<=xs[k]?.getD 0:=by assumption
    go_roundw
    case rel=>exact⟨k+1,I,aG,cZ X _,fun j R=>by
     rcases Nat.lt_or_ge j k with h|h
     .exact Y j h
     obtain rfl:j=k:=I;simp [lZ,S]⟩
    case measure=>simp [intOf];omega
   obtain rfl:k=0:=I;go_wp2
   go_quiet (fail)
   go_wp2;go_roundw
   case rel=>exact⟨1,I,rfl,cZ X _,fun j R=>by
    obtain rfl:j=0:=I;simp [lZ]⟩
   case measure=>simp [intOf];omega
  obtain rfl:k=n:=I;go_wp2;go_ret;exact⟨dF (by rw[AC (by rw[T.out];exact Y),T.out];simp;omega),X⟩
theorem pZ{k j:Nat}(Y:j=2*k+1\/j=2*k+2):lZ xs j=decide (xs[k]?.getD 0<=xs[j]?.getD 0):=by
 have e:(j-1)/2=k:=I;have Z:j≠0:=I;simp [lZ,e,Z]
theorem tB(h:∀k,k<xs.length->∀j,(j=2*k+1\/j=2*k+2)->j<xs.length->lZ xs j=true):iJ xs=decide (xs.length<=6):=
 AC fun i Z=>by
  by_cases Y:i=0
  .simp [lZ,Y]
  exact h ((i-1)/2) I i I Z
theorem uK(A:Option Addr)(n c:Nat)(xs:List Int)(w:World)(h:fI w A n c xs)(g:n<=60):
 Calls prog 193 #[.slice A n c] w fun e w'=>e=.returned (.bool (iJ xs))/\Below w.heap.size w w':=by
 obtain⟨S,C,v,P,O⟩:=h;have M:=aH S;clear S;have B:=aH O;clear O;have u:=aH P;clear P
 go_enter func193,ntmps193
 go_wp2
 go_loopw [8] (fun i wr=>∃k:Nat,k<=n/\i=.int .i64 k/\Below w w wr/\Hid (∀X,X<k->∀j,(j=2*X+1\/j=2*X+2)->j<n->lZ xs j=true)) (fun i _=>n-(intOf i).toNat)
 case atStart=>exact⟨0,I,rfl,Below.refl _ _,fun j V=>absurd V I⟩
 case round=>
  obtain⟨k,l,rfl,T,Y⟩:=hrel;by_cases H:k<n
  .obtain⟨b,off,rfl,hblt,hcell⟩:=B.out I;have L:=aH hcell;clear hcell;have z:wr.cell? (b,off+k)=(xs[k]?.getD 0):=(T.cell (p:=⟨b,off+k,none⟩) hblt).trans (L.out k H);have y:b<wr:=by have:=T.size;omega
   have W:=T.size;have E:k<60:=I;have t:IntKind.i64.wrap (2*(k:Int))=2*k:=IntWalk.i64_in _ I;have s:IntKind.i64.wrap (2*(k:Int)+1)=2*k+1:=IntWalk.i64_in _ I;have r:IntKind.i64.wrap (2*(k:Int)+2)=2*k+2:=IntWalk.i64_in _ I;have R:∀j,(j=2*k+1\/j=2*k+2)->j<n->xs[j]?.getD 0<xs[k]?.getD 0->iJ xs=false:=fun j V Z U=>
    DR (k:=j) (by rw[M.out];exact Z) (by rw[pZ V];simp;omega)
   have K:=aH R;clear R;by_cases G:2*k+1<n
   .have hc1:wr.cell? (b,off+(2*k+1))=(xs[2*k+1]?.getD 0):=(T.cell (p:=⟨b,off+(2*k+1),none⟩) hblt).trans (L.out _ G);have q:2*(k:Int)+1<n:=I;by_cases F:2*k+2<n
    .have hc2:wr.cell? (b,off+(2*k+2))=(xs[2*k+2]?.getD 0):=(T.cell (p:=⟨b,off+(2*k+2),none⟩) hblt).trans (L.out _ F);have o:2*(k:Int)+2<n:=I;go_wp2;refine wp_loop_rounds 3 ?_;rw[rounds_succ];go_wp2
     go_quiet (fail)
     go_wp2
     .have U:xs[2*k+1]?.getD 0<xs[k]?.getD 0:=by assumption
      go_ret;exact⟨dF (by rw[K.out _ (.inl rfl) G U]),(by repeat' (first|exact T|exact W|refine cZ ?_ _|refine Below.alloc ?_ ?_ _))⟩
     have Q:xs[k]?.getD 0<=xs[2*k+1]?.getD 0:=by assumption
     rw[rounds_succ];go_wp2
     go_quiet (fail)
     go_wp2
     .have U:xs[2*k+2]?.getD 0<xs[k]?.getD 0:=by assumption
      go_ret;exact⟨dF (by rw[K.out _ (.inr rfl) F U]),(by repeat' (first|exact T|exact W|refine cZ ?_ _|refine Below.alloc ?_ ?_ _))⟩
     have D:xs[k]?.getD 0<=xs[2*k+2]?.getD 0:=by assumption
     rw[rounds_succ];go_wp2;go_roundw
     case rel=>exact⟨k+1,I,aG,(by repeat' (first|exact T|exact W|refine cZ ?_ _|refine Below.alloc ?_ ?_ _)),fun X N j V Z=>by
      rcases Nat.lt_or_ge X k with h|h
      .exact Y X h j V Z
      obtain rfl:X=k:=I;rw[pZ V];rcases V with rfl|rfl<;>simpa⟩
     case measure=>simp [intOf];omega
    have x:decide (2*(k:Int)+2<n)=false:=by simp;omega
    go_wp2;refine wp_loop_rounds 3 ?_;rw[rounds_succ];go_wp2
    go_quiet (fail)
    go_wp2
    .have U:xs[2*k+1]?.getD 0<xs[k]?.getD 0:=by assumption
     go_ret;exact⟨dF (by rw[K.out _ (.inl rfl) G U]),(by repeat' (first|exact T|exact W|refine cZ ?_ _|refine Below.alloc ?_ ?_ _))⟩
    have Q:xs[k]?.getD 0<=xs[2*k+1]?.getD 0:=by assumption
    rw[rounds_succ];go_wp2
    go_quiet (fail)
    go_wp2;rw[rounds_succ];go_wp2;go_roundw
    case rel=>exact⟨k+1,I,aG,(by repeat' (first|exact T|exact W|refine cZ ?_ _|refine Below.alloc ?_ ?_ _)),fun X N j V Z=>by
     rcases Nat.lt_or_ge X k with h|h
     .exact Y X h j V Z
     obtain rfl:X=k:=I;rw[pZ V];rcases V with rfl|rfl
     .simpa
     exact absurd Z F⟩
    case measure=>simp [intOf];omega
   have m:decide (2*(k:Int)+1<n)=false:=by simp;omega
   have x:decide (2*(k:Int)+2<n)=false:=by simp;omega
   go_wp2;refine wp_loop_rounds 3 ?_
   iterate 2
    rw[rounds_succ];go_wp2
    go_quiet (fail)
    go_wp2
   rw[rounds_succ];go_wp2;go_roundw
   case rel=>exact⟨k+1,I,aG,(by repeat' (first|exact T|exact W|refine cZ ?_ _|refine Below.alloc ?_ ?_ _)),fun X N j V Z=>by
    rcases Nat.lt_or_ge X k with h|h
    .exact Y X h j V Z
    omega⟩
   case measure=>simp [intOf];omega
  obtain rfl:k=n:=I;go_wp2;go_ret;exact⟨dF (by rw[tB (by rw[M.out];exact Y),M.out];simp;omega),T⟩
theorem gT:(prog.info? 252).map (·.size)=some 17:=J
theorem GV(C:Array Value)(z:Nat->Int)(kind:Int)(w:World)(h:cH C 17 z)(P:kind=1\/kind=2\/kind=3):
 Calls prog 140 #[.int .i64 kind,.agg C] w fun e w'=>∃b,e=.returned (.bool b)/\(b=true↔gW z)/\Below w.heap.size w w':=by
 have O:=aH h;have V:Hid ((prog.info? 252).map (·.size)=some C.size):=by show _=_;rw[gT,h.size]
 have U:Hid (aY (w.alloc (.cells C 252)) w.heap.size 252 C):=aY.new _ _ _;have S:Calls prog 155 #[.agg C] (w.alloc (.cells C 252)) (AZ z (w.alloc (.cells C 252))):=vX C z _ h;clear h;rcases P with rfl|rfl|rfl
 all_goals
  go_enter func140,ntmps140
  go_wp2_with (refine wpList_load_row rfl 252 _ rfl w.heap.size rfl 252 C (0,0) _ U underlying252 rfl V ?_)
  refine S.mono ?_;rintro e R ⟨Q,Z⟩;have T:Below w.heap.size w R:=Below.trans (by go_grown) (Q.mono (by simp));rcases Z with⟨Y,A,c,rfl,X⟩|⟨W,rfl⟩
  .have HOK:=aH Y;clear Y X;go_wp2;go_ret;exact⟨_,rfl,Iff.intro (fun _=>HOK.out) (fun _=>rfl),T⟩
  .have HNO:=aH W;clear W;go_wp2;go_ret;exact⟨_,rfl,Iff.intro (fun h=>Bool.noConfusion h) (fun h=>absurd h HNO),T⟩
theorem GH(C:Array Value)(z:Nat->Int)(w:World)(h:cH C 17 z):
 Calls prog 140 #[.int .i64 4,.agg C] w fun e w'=>∃b,e=.returned (.bool b)/\(b=true↔gW z/\iJ (zW z (z 0).toNat)=true)/\Below w.heap.size w w':=by
 have P:=aH h;have V:Hid ((prog.info? 252).map (·.size)=some C.size):=by show _=_;rw[gT,h.size]
 have U:Hid (aY (w.alloc (.cells C 252)) w.heap.size 252 C):=aY.new _ _ _;have O:Calls prog 155 #[.agg C] (w.alloc (.cells C 252)) (AZ z (w.alloc (.cells C 252))):=vX C z _ h;clear h
 go_enter func140,ntmps140
 go_wp2_with (refine wpList_load_row rfl 252 _ rfl w.heap.size rfl 252 C (0,0) _ U underlying252 rfl V ?_)
 refine O.mono ?_;rintro e Q ⟨M,X⟩;have T:Below w.heap.size w Q:=Below.trans (by go_grown) (M.mono (by simp));rcases X with⟨Z,A,c,rfl,Y⟩|⟨W,rfl⟩
 .have HOK:=aH Z;have K:(z 0).toNat<=16:=by have:=Z.1;omega
  have N:Hid (fI Q A (z 0).toNat c (zW z (z 0).toNat)):=aH (fI.of_own Y (fun i=>by
   by_cases L:i<(z 0).toNat
   .rw[pA z _ i L];have H:=(Z.2 i I).1;have G:=(P.bd (i+1) I).1;omega
   rw[List.getElem?_eq_none (by rw[qT];omega)];decide))
  clear Z Y
  go_wp2_with (go_at_call 156;refine(yO A _ c _ _ N).mono ?_;rintro e F ⟨rfl,R⟩)
  go_ret;exact⟨_,rfl,Iff.intro (fun h=>⟨HOK.out,h⟩) (fun h=>h.2),T.trans (R.mono T.size)⟩
 have S:=aH W;clear W;go_wp2;go_ret;exact⟨_,rfl,Iff.intro (fun h=>Bool.noConfusion h) (fun h=>absurd h.1 S),T⟩
theorem EF(C:Array Value)(z:Nat->Int)(w:World)(h:cH C 17 z):
 Calls prog 140 #[.int .i64 5,.agg C] w fun e w'=>∃b,e=.returned (.bool b)/\(b=true↔kQ z)/\Below w.heap.size w w':=by
 have Y:Hid ((prog.info? 252).map (·.size)=some C.size):=by show _=_;rw[gT,h.size]
 have X:Hid (aY (w.alloc (.cells C 252)) w 252 C):=aY.new _ _ _;have P:Calls prog 157 #[.agg C] (w.alloc (.cells C 252)) (CD z (w.alloc (.cells C 252))):=zN C z _ h;clear h
 go_enter func140,ntmps140
 go_wp2_with (refine wpList_load_row rfl 252 _ rfl w rfl 252 C (0,0) _ X underlying252 rfl Y ?_)
 refine P.mono ?_;rintro e Q ⟨O,D,y,b,rfl,T,Z,S⟩;have W:Below w w Q:=Below.trans (by go_grown) (O.mono (by simp));have R:=aH T;have V:Hid ((prog.info? 284).map (·.size)=some D.size):=by show _=_;rw[BG,T.size]
 have U:=aH Z;clear Z S T
 go_wp2_with (refine wpList_store_row rfl 284 _ _ rfl Q D rfl rfl 284 (16:Int) (aY.new _ _ _) V (by rw[R.size];rfl) R.one ?_)
 go_ret;exact⟨_,rfl,U.out,aL (W.alloc W.size _) (W.size) _⟩
theorem GJ(C:Array Value)(kind:Int)(w:World)(h:kind<1\/6<kind):
 Calls prog 140 #[.int .i64 kind,.agg C] w fun e w'=>e=.returned (.bool false)/\Below w.heap.size w w':=by
 have Z:(kind==1)=false:=by simp;omega
 have Y:(kind==2)=false:=by simp;omega
 have X:(kind==3)=false:=by simp;omega
 have W:(kind==4)=false:=by simp;omega
 have V:(kind==5)=false:=by simp;omega
 have U:(kind==6)=false:=by simp;omega
 clear h
 go_enter func140,ntmps140
 go_wp2;go_ret;exact⟨rfl,by go_grown⟩
def qO(z:Nat->Int):Prop:=z 0<=4294967295/\∀i,i<17->z i=if i=0 then z 0 else 0
theorem Ak(w:World):(sizeOf 23).run prog w=.ok 1 w:=J
theorem DW(C:Array Value)(z:Nat->Int)(r:Bool)(w:World)(h:cH C 17 z)(X:r=true↔qO z):
 Calls prog 140 #[.int .i64 6,.agg C] w fun e w'=>e=.returned (.bool r)/\Below w.heap.size w w':=by
 have W:Hid ((prog.info? 252).map (·.size)=some C.size):=by show _=_;rw[gT,h.size]
 have V:Hid (aY (w.alloc (.cells C 252)) w 252 C):=aY.new _ _ _;have S:=h.get 0 I;obtain⟨n,Z⟩:=aP (z 0);have U:=((cH.zero 17).set_ (k:=0) (v:=n) (by rw[<-Z];exact h.bd 0 I));have e:(Array.replicate 17 (Value.int .u64 0)).setIfInBounds 0 (.int .u64 n)= #[.int .u64 n,.int .u64 0,.int .u64 0,.int .u64 0,.int .u64 0,.int .u64 0,.int .u64 0,.int .u64 0,.int .u64 0,.int .u64 0,.int .u64 0,.int .u64 0,.int .u64 0,.int .u64 0,.int .u64 0,.int .u64 0,.int .u64 0]:=rfl;rw[e]at U;obtain⟨b,T,Q⟩:∃b:Bool,(b=true↔∀i,i<17->z i=if i=0 then n else 0)/\∀w:World,(Op.equalIn 10000 252 (.agg C) (.agg #[[n],.int .u64 0,.int .u64 0,.int .u64 0,.int .u64 0,.int .u64 0,.int .u64 0,.int .u64 0,.int .u64 0,.int .u64 0,.int .u64 0,.int .u64 0,.int .u64 0,.int .u64 0,.int .u64 0,.int .u64 0,.int .u64 0])).run prog w=.ok b w:=
  ⟨_,decide_eq_true_iff,fun w=>uH w 9998 17 underlying252 underlying23 Ak h.get U.get⟩
 rw[Z]at S;clear U e;by_cases Y:n<=4294967295
 .have R:decide (n<=4294967295)=true:=by simpa using Y
  obtain rfl:r=b:=by
   rw[Bool.eq_iff_iff,X,T];unfold qO;rw[Z];exact⟨fun h=>h.2,fun h=>⟨Y,h⟩⟩
  clear h X T Z
  go_enter func140,ntmps140
  go_wp2_with (refine eM rfl 252 _ rfl w rfl 252 C (0,0) _ V underlying252 rfl W ?_)
  go_ret;exact⟨rfl,by go_grown⟩
 have R:decide (n<=4294967295)=false:=by simpa using Y
 obtain rfl:r=false:=by
  rw[Bool.eq_false_iff];intro P;have:=(X.1 P).1;rw[Z]at this;exact Y this
 clear h X T Z
 go_enter func140,ntmps140
 go_wp2;go_ret;exact⟨rfl,by go_grown⟩
end
section
def cK(kind:Int)(z:Nat->Int):Prop:=
 if kind=5 then kQ z else if kind=6 then qO z else if kind=4 then gW z/\iJ (zW z (z 0).toNat)=true else 1<=kind/\kind<=3/\gW z
def VU(z:Nat->Int):Prop:=∀i,i<17->0<=z i/\z i<18446744073709551616
def zL(z:Nat->Int):List Int:=zW z (z 0).toNat
end
section
attribute [local go_sem↓] Go.wp_at_zero Go.wp_at_succ
def jI(a k v:Int):Int:=if cB a k v=true then(a*65536+k)*4294967296+v else 0
def jN(b:Bool)(e:Int):Int:=if b=true then 0 else e
theorem KJ(x y:Int)(n p:Nat)(Y:x=((2^n*p:Nat):Int))(X:0<=y)(W:y<((2^n:Nat):Int))(V:x+y<18446744073709551616):bits .or .u64 x y=x+y:=by
 obtain⟨m,rfl⟩:=Int.eq_ofNat_of_zero_le X;have Z:m<2^n:=I;subst Y;rw[u64_or_nat _ _ I I,<-Nat.two_pow_add_eq_or_of_lt Z];simp
theorem Gf:(2:Nat)^48=281474976710656:=by decide
theorem Eu:(2:Nat)^32=4294967296:=by decide
theorem NJ(a k v:Int)(Y:1<=a)(X:a<=6)(Z:0<=k)(W:k<=1000)(V:0<=v)(U:v<=4294967295):
 bits .or .u64 (bits .or .u64 (a*281474976710656) (k*4294967296)) v=(a*65536+k)*4294967296+v:=by
 obtain⟨p,rfl⟩:=Int.eq_ofNat_of_zero_le (show 0<=a by omega);obtain⟨q,rfl⟩:=Int.eq_ofNat_of_zero_le Z;rw[KJ ((p:Int)*281474976710656) ((q:Int)*4294967296) 48 p (by rw[Gf];omega) I (by rw[Gf];omega) I];rw[KJ _ v 32 (p*65536+q) (by rw[Eu];omega) I (by rw[Eu];omega) I];omega
theorem EJ(a v:Int)(Z:1<=a)(Y:a<=5)(X:0<=v)(W:v<=4294967295):bits .or .u64 (a*4294967296) v=a*4294967296+v:=by
 obtain⟨p,rfl⟩:=Int.eq_ofNat_of_zero_le (show 0<=a by omega);rw[KJ _ v 32 p (by rw[Eu];omega) I (by rw[Eu];omega) I]
theorem yC{x y:Int}{e:Value}(h:x=y):Ending.returned (.tuple #[[x],e])=.returned (.tuple #[[y],e]):=by rw[h]
theorem JT(a k v:Int)(w:World):Calls prog 90 #[.agg #[a,k,v]] w fun e w'=>e=.returned (.tuple #[[jI a k v],gS (jN (cB a k v) 1)])/\Below w w w':=by
 cases hr:cB a k v with
 |false=>
  have Z:jI a k v=0:=by unfold jI;rw[iN (by rw[hr];simp)]
  have Y:gS (jN false 1)=.iface 53 (1:Int):=by simp [jN,gS]
  rw[Z,Y];clear Z Y;have W:=aH hr;clear hr
  go_enter func90,ntmps90
  go_wp2_with (go_at_call 74;refine(nG _ _ _ _).mono ?_;rintro e T ⟨rfl,X⟩;rw[W.out])
  go_ret2
  exact⟨rfl,Below.trans (by go_grown) (X.mono (by simp))⟩
 |true=>
  have Z:jI a k v=(a*65536+k)*4294967296+v:=by unfold jI;rw[iP hr]
  have Y:gS (jN true 1)=.nilIface:=by simp [jN,gS]
  rw[Z,Y];clear Z Y;have V:1<=a/\a<=6/\0<=k/\k<=1000/\0<=v/\v<=4294967295:=by simpa [cB]using hr
  obtain⟨S,R,Q,P,O,N⟩:=V;have W:=aH hr;clear hr
  go_enter func90,ntmps90
  go_wp2_with (go_at_call 74;refine(nG _ _ _ _).mono ?_;rintro e T ⟨rfl,X⟩;rw[W.out];obtain⟨M,L⟩:=cJ X;have U:=X.size;simp only[World.size_alloc]at U)
  go_ret2
  exact⟨yC (NJ a k v S R Q P O N),Below.trans (by go_grown) (X.mono (by simp))⟩
theorem CE(a k v:Int)(w:World):Calls prog 116 #[.agg #[a,k,v]] w fun e w'=>e=.returned (.tuple #[[jI a k v],(jN (cB a k v) 1)])/\Below w w w':=by
 cases hr:cB a k v with
 |false=>
  have Z:jI a k v=0:=by unfold jI;rw[iN (by rw[hr];simp)]
  have Y:jN false 1=1:=by simp [jN]
  rw[Z,Y];clear Z Y;have W:=aH hr;clear hr
  go_enter func116,ntmps116
  go_wp2_with (go_at_call 20;refine(eK _ _ _ _).mono ?_;rintro e T ⟨rfl,X⟩;rw[W.out])
  go_ret2
  exact⟨rfl,Below.trans (by go_grown) (X.mono (by simp))⟩
 |true=>
  have Z:jI a k v=(a*65536+k)*4294967296+v:=by unfold jI;rw[iP hr]
  have Y:jN true 1=0:=by simp [jN]
  rw[Z,Y];clear Z Y;have V:1<=a/\a<=6/\0<=k/\k<=1000/\0<=v/\v<=4294967295:=by simpa [cB]using hr
  obtain⟨S,R,Q,P,O,N⟩:=V;have W:=aH hr;clear hr
  go_enter func116,ntmps116
  go_wp2_with (go_at_call 20;refine(eK _ _ _ _).mono ?_;rintro e T ⟨rfl,X⟩;rw[W.out];obtain⟨M,L⟩:=cJ X;have U:=X.size;simp only[World.size_alloc]at U)
  go_ret2
  exact⟨rfl,Below.trans (by go_grown) (X.mono (by simp))⟩
def fU(a v:Int):Bool:=decide (1<=a/\a<=5/\0<=v/\v<=4294967295/\(a=1\/v=0))
def iV(a v:Int):Int:=if fU a v=true then a*4294967296+v else 0
theorem sX(a v:Int)(w:World):Calls prog 122 #[.agg #[a,v]] w fun e w'=>e=.returned (fU a v)/\Below w w w':=by
 go_enter func122,ntmps122
 go_wp2
 all_goals(go_ret;refine⟨dF ?_,by go_grown⟩;simp_all [fU];try omega)
theorem nK(a v:Int)(w:World):Calls prog 104 #[.agg #[a,v]] w fun e w'=>e=.returned (fU a v)/\Below w w w':=by
 go_enter func104,ntmps104
 go_wp2_with (go_at_call 55;refine(bQ _ _ _ _).mono ?_;rintro e w' ⟨rfl,rfl⟩)
 all_goals(go_ret;refine⟨dF ?_,by go_grown⟩;simp_all [fU,bV];try omega)
theorem FV(a v:Int)(w:World):Calls prog 144 #[.agg #[a,v]] w fun e w'=>e=.returned (.tuple #[[iV a v],gS (jN (fU a v) 1)])/\Below w w w':=by
 cases hr:fU a v with
 |false=>
  have Z:iV a v=0:=by unfold iV;rw[iN (by rw[hr];simp)]
  have Y:gS (jN false 1)=.iface 53 (1:Int):=by simp [jN,gS]
  rw[Z,Y];clear Z Y;have W:=aH hr;clear hr
  go_enter func144,ntmps144
  go_wp2_with (go_at_call 122;refine(sX _ _ _).mono ?_;rintro e T ⟨rfl,X⟩;rw[W.out])
  go_ret2
  exact⟨rfl,Below.trans (by go_grown) (X.mono (by simp))⟩
 |true=>
  have Z:iV a v=a*4294967296+v:=by unfold iV;rw[iP hr]
  have Y:gS (jN true 1)=.nilIface:=by simp [jN,gS]
  rw[Z,Y];clear Z Y;have V:1<=a/\a<=5/\0<=v/\v<=4294967295/\(a=1\/v=0):=by simpa [fU]using hr
  obtain⟨S,R,Q,P,_⟩:=V;have W:=aH hr;clear hr
  go_enter func144,ntmps144
  go_wp2_with (go_at_call 122;refine(sX _ _ _).mono ?_;rintro e T ⟨rfl,X⟩;rw[W.out];obtain⟨O,N⟩:=cJ X;have U:=X.size;simp only[World.size_alloc]at U)
  go_ret2
  exact⟨yC (EJ a v S R Q P),Below.trans (by go_grown) (X.mono (by simp))⟩
theorem rF(a v:Int)(w:World):Calls prog 86 #[.agg #[a,v]] w fun e w'=>e=.returned (.tuple #[[iV a v],(jN (fU a v) 1)])/\Below w w w':=by
 cases hr:fU a v with
 |false=>
  have Z:iV a v=0:=by unfold iV;rw[iN (by rw[hr];simp)]
  have Y:jN false 1=1:=by simp [jN]
  rw[Z,Y];clear Z Y;have W:=aH hr;clear hr
  go_enter func86,ntmps86
  go_wp2_with (go_at_call 104;refine(nK _ _ _).mono ?_;rintro e T ⟨rfl,X⟩;rw[W.out])
  go_ret2
  exact⟨rfl,Below.trans (by go_grown) (X.mono (by simp))⟩
 |true=>
  have Z:iV a v=a*4294967296+v:=by unfold iV;rw[iP hr]
  have Y:jN true 1=0:=by simp [jN]
  rw[Z,Y];clear Z Y;have V:1<=a/\a<=5/\0<=v/\v<=4294967295/\(a=1\/v=0):=by simpa [fU]using hr
  obtain⟨S,R,Q,P,_⟩:=V;have W:=aH hr;clear hr
  go_enter func86,ntmps86
  go_wp2_with (go_at_call 104;refine(nK _ _ _).mono ?_;rintro e T ⟨rfl,X⟩;rw[W.out];obtain⟨O,N⟩:=cJ X;have U:=X.size;simp only[World.size_alloc]at U)
  go_ret2
  exact⟨rfl,Below.trans (by go_grown) (X.mono (by simp))⟩
def qL(a n:Int):Bool:=decide (1<=n/\n<=64/\0<=a/\a<=64-n)
def JU(x:Nat)(a n:Int):Nat:=if qL a n=true then x/2^a.toNat%2^n.toNat else 0
theorem xG(a n:Int)(w:World):Calls prog 131 #[a,n] w fun e w'=>e=.returned (qL a n)/\Below w w w':=by
 go_enter func131,ntmps131
 go_wp2
 all_goals(go_ret;refine⟨dF ?_,by go_grown⟩;simp_all [qL];try omega)
theorem LA(j:Nat):1<=2^j:=Nat.one_le_two_pow
theorem QO(j:Nat)(w:World)(R:j<=64):Calls prog 132 #[j] w fun e w'=>e=.returned [((2^j-1:Nat):Int)]/\Below w w w':=by
 by_cases h:j=64
 .subst h
  go_enter func132,ntmps132
  go_wp2;go_ret;exact⟨gU aJ,by go_grown⟩
 have X:j<64:=I;have Z:=rX X;have Y:=LA j;have W:IntKind.u64.wrap ((2:Int)^j)=((2^j:Nat):Int):=by
  have V:(2:Int)^j=((2^j:Nat):Int):=by simp
  rw[V];generalize 2^j=q at Z;exact IntWalk.u64_in _ I
 have U:=aH W;clear W;have T:=aH Y;have S:=aH Z;clear Y Z
 go_enter func132,ntmps132
 go_wp2;go_ret;refine⟨gU ?_,by go_grown⟩;have Y:=T.out;have Z:=S.out;rw[U.out];generalize 2^j=q at Y Z;rw[IntWalk.u64_in _ I];omega
theorem SU(x a j:Nat)(Y:x<18446744073709551616)(X:j<=64):bits .and .u64 ((x:Int)/2^a) ((2^j-1:Nat):Int)=((x/2^a%2^j:Nat):Int):=by
 have e:(x:Int)/2^a=((x/2^a:Nat):Int):=by simp
 have Z:2^j-1<18446744073709551616:=by
  have W:2^j<=2^64:=Nat.pow_le_pow_right aJ X;have V:(2:Nat)^64=18446744073709551616:=by decide
  have U:=LA j;omega
 rw[e,u64_and_nat _ _ (Nat.lt_of_le_of_lt (Nat.div_le_self _ _) Y) Z,Nat.and_two_pow_sub_one_eq_mod]
theorem WK(x:Nat)(a n:Int)(w:World)(T:x<18446744073709551616):Calls prog 121 #[[x],a,n] w fun e w'=>e=.returned (.tuple #[[((JU x a n:Nat):Int)],gS (jN (qL a n) 2)])/\Below w w w':=by
 cases hr:qL a n with
 |false=>
  have Z:JU x a n=0:=by unfold JU;rw[iN (by rw[hr];simp)]
  have Y:gS (jN false 2)=.iface 53 (2:Int):=by simp [jN,gS]
  rw[Z,Y];clear Z Y;have W:=aH hr;clear hr
  go_enter func121,ntmps121
  go_wp2_with (go_at_call 131;refine(xG _ _ _).mono ?_;rintro e Q ⟨rfl,X⟩;rw[W.out])
  go_ret2
  exact⟨rfl,X⟩
 |true=>
  have Z:JU x a n=x/2^a.toNat%2^n.toNat:=by unfold JU;rw[iP hr]
  have Y:gS (jN true 2)=.nilIface:=by simp [jN,gS]
  rw[Z,Y];clear Z Y;have S:1<=n/\n<=64/\0<=a/\a<=64-n:=by simpa [qL]using hr
  obtain⟨O,N,P,M⟩:=S;obtain⟨i,rfl⟩:=Int.eq_ofNat_of_zero_le P;obtain⟨j,rfl⟩:=Int.eq_ofNat_of_zero_le (show 0<=n by omega);have V:j<=64:=I;have W:=aH hr;clear hr;have R:=aH T;clear T;have U:(i:Int)<64:=I
  go_enter func121,ntmps121
  go_wp2_with (go_at_call 131;refine(xG _ _ _).mono ?_;rintro e Q ⟨rfl,X⟩;rw[W.out])
  refine aA 7 ?_
  iterate 7
   first
   |(refine Kf ?_;constructor
     .intro w9 hw9 hc9 hf9;go_simp
      first
      |exact aE
      |(go_at_call 132;exact bS (QO j _ V)))
   |refine aU ?_
  refine bZ ?_;intro w9 hw9 hc9 hf9;go_wp2
  go_ret2
  exact⟨yC (by rw[SU x i j R.out V];simp),X.trans (hw9.same.mono X.size)⟩
theorem wT(x:Nat)(i j:Nat)(p:Nat)(w:World)(V:x<18446744073709551616)(R:1<=j/\i+j<=64)(U:x/2^i%2^j=p)(a n:Int)(T:a=i)(S:n=j):
 Calls prog 121 #[[x],a,n] w fun e w'=>e=.returned (.tuple #[[p],.nilIface])/\Below w w w':=by
 subst T S;have Z:qL i j=true:=by simp [qL];omega
 refine(WK x i j w V).mono fun e w' ⟨X,W⟩=>⟨?_,W⟩
 rw[X,Z];have Y:JU x i j=p:=by unfold JU;rw[iP Z];simpa using U
 rw[Y];simp [jN,gS]
def pF(p q:Int):Int:=if fU p q=true then p else 0
def pC(p q:Int):Int:=if fU p q=true then q else 0
theorem sN(x p q:Nat)(w:World)(F:x<18446744073709551616)(A:x/4294967296=p)(z:x%4294967296=q):
 Calls prog 99 #[[x]] w fun e w'=>e=.returned (.tuple #[.agg #[(pF p q),(pC p q)],gS (jN (fU p q) 3)])/\Below w w w':=by
 have y:(p:Int)<=4294967295:=I;have v:(q:Int)<=4294967295:=I;have U:(2:Nat)^32=4294967296:=by decide
 have E:∀w,_:=fun w=>wT x 32 32 p w F I (by rw[U,A];omega) 32 32 rfl rfl
 have D:∀w,_:=fun w=>wT x 0 32 q w F I (by rw[U,Nat.pow_zero,Nat.div_one,z]) 0 32 rfl rfl
 have C:=aH E;have B:=aH D;clear E D U F A z;cases hr:fU p q with
 |false=>
  have Q:pF p q=0:=by unfold pF;rw[iN (by rw[hr];simp)]
  have P:pC p q=0:=by unfold pC;rw[iN (by rw[hr];simp)]
  have O:gS (jN false 3)=.iface 53 (3:Int):=by simp [jN,gS]
  rw[Q,P,O];clear Q P O;have N:=aH hr;clear hr
  go_enter func99,ntmps99
  go_wp2_with (first
   |(go_at_call 121;(with_reducible refine(C.out _).mono ?_);rintro e L ⟨rfl,X⟩;have M:w.heap.size+1<=L:=(by have:=X.size;simpa using this);have T:=X.mono (show w.heap.size+1<=_ by simp))
   |(go_at_call 121;(with_reducible refine(B.out _).mono ?_);rintro e V ⟨rfl,W⟩;have u:w.heap.size+1<=V:=(by have:=W.size;omega);have S:=T.trans (W.mono M))
   |(go_at_call 122;refine(sX _ _ _).mono ?_;rintro e R ⟨rfl,Z⟩;rw[N.out];have t:V.heap.size+1<=R:=(by have:=Z.size;simpa using this);have Y:=S.trans (Below.trans (by go_grown) (Z.mono (show w.heap.size+1<=_ by simp;omega)));obtain⟨K,n⟩:=cJ Y;obtain⟨H,G⟩:=cJ Z;have s:V.heap.size<R:=I;have r:¬V.heap.size=w:=I;have o:Below w w R:=Below.trans (by go_grown) (Y.mono I)))
  refine bodyPost_ret (by simp [results,results99,go_sem,K];try rfl) rfl ?_;exact⟨rfl,by go_grown⟩
 |true=>
  have Q:pF p q=p:=by unfold pF;rw[iP hr]
  have P:pC p q=q:=by unfold pC;rw[iP hr]
  have O:gS (jN true 3)=.nilIface:=by simp [jN,gS]
  rw[Q,P,O];clear Q P O;have N:=aH hr;clear hr
  go_enter func99,ntmps99
  go_wp2_with (first
   |(go_at_call 121;(with_reducible refine(C.out _).mono ?_);rintro e L ⟨rfl,X⟩;have M:w.heap.size+1<=L:=(by have:=X.size;simpa using this);have T:=X.mono (show w.heap.size+1<=_ by simp))
   |(go_at_call 121;(with_reducible refine(B.out _).mono ?_);rintro e V ⟨rfl,W⟩;have u:w.heap.size+1<=V:=(by have:=W.size;omega);have S:=T.trans (W.mono M))
   |(go_at_call 122;refine(sX _ _ _).mono ?_;rintro e R ⟨rfl,Z⟩;rw[N.out];have t:V.heap.size+1<=R:=(by have:=Z.size;simpa using this);have Y:=S.trans (Below.trans (by go_grown) (Z.mono (show w.heap.size+1<=_ by simp;omega)));obtain⟨K,n⟩:=cJ Y;obtain⟨H,G⟩:=cJ Z;have s:V.heap.size<R:=I;have r:¬V.heap.size=w:=I;have o:Below w w R:=Below.trans (by go_grown) (Y.mono I)))
  refine bodyPost_ret (by simp [results,results99,go_sem,K];try rfl) rfl ?_;exact⟨rfl,by go_grown⟩
def KP(p k q y:Int):Int:=if cB p k q=true then y else 0
theorem aCi(x p k q:Nat)(w:World)(K:x<18446744073709551616)(c:x/65536/4294967296=p)(b:x/4294967296%65536=k)(o:x%4294967296=q):
 Calls prog 96 #[[x]] w fun e w'=>e=.returned (.tuple #[.agg #[(KP p k q p),(KP p k q k),(KP p k q q)],gS (jN (cB p k q) 3)])/\Below w w w':=by
 have n:(p:Int)<=65535:=I;have m:(k:Int)<=65535:=I;have l:(q:Int)<=4294967295:=I;have T:(2:Nat)^32=4294967296:=by decide
 have S:(2:Nat)^16=65536:=by decide
 have N:(2:Nat)^48=281474976710656:=by decide
 have z:∀w,_:=fun w=>wT x 48 16 p w K I (by rw[N,S];omega) 48 16 rfl rfl
 have v:∀w,_:=fun w=>wT x 32 16 k w K I (by rw[T,S];omega) 32 16 rfl rfl
 have u:∀w,_:=fun w=>wT x 0 32 q w K I (by rw[T,Nat.pow_zero,Nat.div_one,o]) 0 32 rfl rfl
 have t:=aH z;have s:=aH u;have r:=aH v;clear z u v T S N K c b o;cases hr:cB p k q with
 |false=>
  have M:∀y,KP p k q y=0:=fun y=>by unfold KP;rw[iN (by rw[hr];simp)]
  have L:gS (jN false 3)=.iface 53 (3:Int):=by simp [jN,gS]
  simp only[M,L];clear M L;have H:=aH hr;clear hr
  go_enter func96,ntmps96
  go_wp2_with (first
   |(go_at_call 121;(with_reducible refine(t.out _).mono ?_);rintro e E ⟨rfl,X⟩;have G:w.heap.size+1<=E:=(by have:=X.size;simpa using this);have R:=X.mono (show w.heap.size+1<=_ by simp))
   |(go_at_call 121;(with_reducible refine(r.out _).mono ?_);rintro e D ⟨rfl,W⟩;have F:w.heap.size+1<=D:=(by have:=W.size;omega);have Q:=R.trans (W.mono G))
   |(go_at_call 121;(with_reducible refine(s.out _).mono ?_);rintro e U ⟨rfl,V⟩;have j:w.heap.size+1<=U:=(by have:=V.size;omega);have P:=Q.trans (V.mono F))
   |(go_at_call 74;refine(nG _ _ _ _).mono ?_;rintro e O ⟨rfl,Z⟩;rw[H.out];have i:U.heap.size+1<=O:=(by have:=Z.size;simpa using this);have Y:=P.trans (Below.trans (by go_grown) (Z.mono (show w.heap.size+1<=_ by simp;omega)));obtain⟨C,d⟩:=cJ Y;obtain⟨B,A⟩:=cJ Z;have h:U.heap.size<O:=I;have g:¬U.heap.size=w:=I;have f:Below w w O:=Below.trans (by go_grown) (Y.mono I)))
  refine bodyPost_ret (by simp [results,results96,go_sem,C];try rfl) rfl ?_;exact⟨rfl,by go_grown⟩
 |true=>
  have M:∀y,KP p k q y=y:=fun y=>by unfold KP;rw[iP hr]
  have L:gS (jN true 3)=.nilIface:=by simp [jN,gS]
  simp only[M,L];clear M L;have H:=aH hr;clear hr
  go_enter func96,ntmps96
  go_wp2_with (first
   |(go_at_call 121;(with_reducible refine(t.out _).mono ?_);rintro e E ⟨rfl,X⟩;have G:w.heap.size+1<=E:=(by have:=X.size;simpa using this);have R:=X.mono (show w.heap.size+1<=_ by simp))
   |(go_at_call 121;(with_reducible refine(r.out _).mono ?_);rintro e D ⟨rfl,W⟩;have F:w.heap.size+1<=D:=(by have:=W.size;omega);have Q:=R.trans (W.mono G))
   |(go_at_call 121;(with_reducible refine(s.out _).mono ?_);rintro e U ⟨rfl,V⟩;have j:w.heap.size+1<=U:=(by have:=V.size;omega);have P:=Q.trans (V.mono F))
   |(go_at_call 74;refine(nG _ _ _ _).mono ?_;rintro e O ⟨rfl,Z⟩;rw[H.out];have i:U.heap.size+1<=O:=(by have:=Z.size;simpa using this);have Y:=P.trans (Below.trans (by go_grown) (Z.mono (show w.heap.size+1<=_ by simp;omega)));obtain⟨C,d⟩:=cJ Y;obtain⟨B,A⟩:=cJ Z;have h:U.heap.size<O:=I;have g:¬U.heap.size=w:=I;have f:Below w w O:=Below.trans (by go_grown) (Y.mono I)))
  refine bodyPost_ret (by simp [results,results96,go_sem,C];try rfl) rfl ?_;exact⟨rfl,by go_grown⟩
theorem vH(x p q:Nat)(w:World)(L:x<18446744073709551616)(K:x/4294967296=p)(H:x%4294967296=q):
 Calls prog 113 #[[x]] w fun e w'=>e=.returned (.tuple #[.agg #[(pF p q),(pC p q)],(jN (fU p q) 3)])/\Below w w w':=by
 have G:(x:Int)/4294967296=(p:Int):=I;have F:(x:Int)%4294967296=(q:Int):=I;have E:(p:Int)<=4294967295:=I;have D:(q:Int)<=4294967295:=I;clear K H;clear L;cases hr:fU p q with
 |false=>
  have W:pF p q=0:=by unfold pF;rw[iN (by rw[hr];simp)]
  have V:pC p q=0:=by unfold pC;rw[iN (by rw[hr];simp)]
  have U:jN false 3=3:=by simp [jN]
  simp only[W,V,U];clear W V U;have T:=aH hr;clear hr
  go_enter func113,ntmps113
  go_wp2_with (go_at_call 104;refine(nK _ _ _).mono ?_;rintro e X ⟨rfl,Z⟩;rw[T.out];have Y:Below (w,1) (w.alloc (.cells (2:Int) 44)) X:=Below.trans (by go_grown) (Z.mono (show w.heap.size+1<=_ by simp));obtain⟨R,M⟩:=cJ Y;obtain⟨Q,P⟩:=cJ Z;have S:=Z.size;simp only[World.size_alloc]at S;have O:w.heap.size+1<X:=I;have N:Below w w X:=Below.trans (by go_grown) (Y.mono I))
  refine bodyPost_ret (by simp [results,results113,go_sem,R];try rfl) rfl ?_;exact⟨rfl,by go_grown⟩
 |true=>
  have W:pF p q=p:=by unfold pF;rw[iP hr]
  have V:pC p q=q:=by unfold pC;rw[iP hr]
  have U:jN true 3=0:=by simp [jN]
  simp only[W,V,U];clear W V U;have T:=aH hr;clear hr
  go_enter func113,ntmps113
  go_wp2_with (go_at_call 104;refine(nK _ _ _).mono ?_;rintro e X ⟨rfl,Z⟩;rw[T.out];have Y:Below (w,1) (w.alloc (.cells (2:Int) 44)) X:=Below.trans (by go_grown) (Z.mono (show w.heap.size+1<=_ by simp));obtain⟨R,M⟩:=cJ Y;obtain⟨Q,P⟩:=cJ Z;have S:=Z.size;simp only[World.size_alloc]at S;have O:w.heap.size+1<X:=I;have N:Below w w X:=Below.trans (by go_grown) (Y.mono I))
  refine bodyPost_ret (by simp [results,results113,go_sem,R];try rfl) rfl ?_;exact⟨rfl,by go_grown⟩
theorem CS(x p k q:Nat)(w:World)(L:x<18446744073709551616)(K:x/65536/4294967296=p)(H:x/4294967296%65536=k)(G:x%4294967296=q):
 Calls prog 154 #[[x]] w fun e w'=>e=.returned (.tuple #[.agg #[(KP p k q p),(KP p k q k),(KP p k q q)],(jN (cB p k q) 3)])/\Below w w w':=by
 have F:(x:Int)/65536/4294967296=(p:Int):=I;have E:(x:Int)/4294967296%65536=(k:Int):=I;have D:(x:Int)%4294967296=(q:Int):=I;have C:(p:Int)<=65535:=I;have B:(k:Int)<=65535:=I;have A:(q:Int)<=4294967295:=I;clear K H G;clear L;cases hr:cB p k q with
 |false=>
  have W:∀y,KP p k q y=0:=fun y=>by unfold KP;rw[iN (by rw[hr];simp)]
  have V:True=True:=rfl;have U:jN false 3=3:=by simp [jN]
  simp only[W,V,U];clear W V U;have T:=aH hr;clear hr
  go_enter func154,ntmps154
  go_wp2_with (go_at_call 20;refine(eK _ _ _ _).mono ?_;rintro e X ⟨rfl,Z⟩;rw[T.out];have Y:Below (w,1) (w.alloc (.cells (3:Int) 39)) X:=Below.trans (by go_grown) (Z.mono (show w.heap.size+1<=_ by simp));obtain⟨R,M⟩:=cJ Y;obtain⟨Q,P⟩:=cJ Z;have S:=Z.size;simp only[World.size_alloc]at S;have O:w.heap.size+1<X:=I;have N:Below w w X:=Below.trans (by go_grown) (Y.mono I))
  refine bodyPost_ret (by simp [results,results154,go_sem,R];try rfl) rfl ?_;exact⟨rfl,by go_grown⟩
 |true=>
  have W:∀y,KP p k q y=y:=fun y=>by unfold KP;rw[iP hr]
  have V:True=True:=rfl;have U:jN true 3=0:=by simp [jN]
  simp only[W,V,U];clear W V U;have T:=aH hr;clear hr
  go_enter func154,ntmps154
  go_wp2_with (go_at_call 20;refine(eK _ _ _ _).mono ?_;rintro e X ⟨rfl,Z⟩;rw[T.out];have Y:Below (w,1) (w.alloc (.cells (3:Int) 39)) X:=Below.trans (by go_grown) (Z.mono (show w.heap.size+1<=_ by simp));obtain⟨R,M⟩:=cJ Y;obtain⟨Q,P⟩:=cJ Z;have S:=Z.size;simp only[World.size_alloc]at S;have O:w.heap.size+1<X:=I;have N:Below w w X:=Below.trans (by go_grown) (Y.mono I))
  refine bodyPost_ret (by simp [results,results154,go_sem,R];try rfl) rfl ?_;exact⟨rfl,by go_grown⟩
end
section
def yI(x:Int):Bool:=fU (x/4294967296) (x%4294967296)
def oz(z:Nat->Int):Nat->Int:=fun i=>z (1+i)
def dH(z:Nat->Int):Int:=if z 0<=4294967296 then z 0 else 4294967296
def FM(z:Nat->Int):Prop:=cK (dH z) (oz z)/\z 26<16/\z 28<=1099511627776/\z 27<=1099511627776
def BL(z:Nat->Int)(t:Nat):Prop:=(yI (z (18+t))=true\/z (18+t)=0)/\z (22+t)<=z 28/\(z (18+t)=0↔z (22+t)=0)
def pV(z:Nat->Int)(t:Nat):Prop:=BL z t/\∀u,u<t->z (22+t)≠0->z (22+u)≠z (22+t)
def eE(z:Nat->Int):Prop:=FM z/\(∀t,t<4->pV z t)/\z 29=0/\z 30=0/\z 31=0
end
section
attribute [local go_sem↓] Go.wp_at_zero Go.wp_at_succ
theorem tQ(A B:Option Addr)(n c m d:Nat)(z y:Nat->Int)(w:World)(h:qY w A n c z)(k:qY w B m d y):
 Calls prog 170 #[.slice A n c,.slice B m d] w fun e w'=>∃b,e=.returned (.bool b)/\(b=true↔n=m/\∀i,i<n->z i=y i)/\Below w.heap.size w w':=by
 have O:=h.cap63;have N:=k.cap63;have M:=h.cap;have L:=k.cap;have K:=aH h;have H:=aH k;clear h k
 go_enter func170,ntmps170
 go_wp2
 go_loopw [8] (fun i wr=>∃k:Nat,k<=n/\k<=m/\i=.int .i64 k/\Below w.heap.size w wr/\Hid (∀j,j<k->z j=y j)) (fun i _=>n-(intOf i).toNat)
 case atStart=>exact⟨0,I,I,rfl,Below.refl _ _,fun j P=>absurd P I⟩
 case round=>
  obtain⟨k,x,D,rfl,V,X⟩:=hrel;by_cases S:k<n
  .have b1:(k:Int)<n:=I;obtain⟨b,R,rfl,U,Y⟩:=K.at_ I;have G:=(V.cell (p:=⟨b,R+k,none⟩) U).trans (Y k S);clear Y;by_cases Q:k<m
   .have b2:(k:Int)<m:=I;have F:decide ((m:Int)<=k)=false:=by simp;omega
    obtain⟨C,T,rfl,W,Z⟩:=H.at_ I;have E:=(V.cell (p:=⟨C,T+k,none⟩) W).trans (Z k Q);clear Z;go_wp2
    go_quiet (fail)
    go_wp2
    .go_ret;refine⟨_,rfl,?_,cZ V _⟩;constructor
     .intro h;cases h
     intro h;have:=h.2 k S
     simp_all<;>omega
    go_roundw
    case rel=>exact⟨k+1,I,I,by go_num,cZ V _,aH fun j P=>by
     rcases Nat.lt_or_ge j k with h|h
     .exact X j h
     obtain rfl:j=k:=I
     simp_all<;>omega⟩
    case measure=>simp [intOf];omega
   have F:decide ((m:Int)<=k)=true:=by simp;omega
   go_wp2
   go_quiet (fail)
   go_wp2;go_ret;refine⟨_,rfl,?_,cZ V _⟩;constructor
   .intro h;cases h
   intro h;exact absurd h.1 I
  obtain rfl:k=n:=I;go_wp2;go_ret;refine⟨_,rfl,?_,V⟩;constructor
  .intro h;have h:=of_decide_eq_true h;exact⟨I,X.out⟩
  rintro⟨h,_⟩;exact decide_eq_true I
def tz(kind:Int):Array Value:= #[kind,.slice none 0 0,(0:Int),(0:Int),(0:Int),(0:Int),(0:Int),(0:Int),(0:Int),(0:Int),(0:Int),(0:Int),(0:Int),(0:Int),(0:Int),(0:Int),(0:Int),(0:Int),(0:Int)]
theorem sC(kind:Int)(w:World):(Instr.build 131 #[(0,kind)]).run prog w=.ok (.agg (tz kind)) w:=J
theorem BC(kind:Int):lD (tz kind) kind none 0 0 (fun _=>0) 0:=⟨rfl,rfl,rfl,fun i Z=>by
 match i,Z with
 |0,_|1,_|2,_|3,_|4,_|5,_|6,_|7,_|8,_|9,_|10,_|11,_|12,_|13,_|14,_|15,_=>rfl
 |i+16,h=>omega,rfl⟩
theorem jT:(prog.info? 131).map (·.size)=some 19:=J
theorem kM{n c:Nat}(h:lD C kind A n c d N):C.all (·.oneCell')=true:=by
 rw[Array.all_eq_true];intro i Z;have V:=h.size;have key:∀v,C[i]? =some v->v.oneCell'=true->C[i].oneCell'=true:=fun v e Y=>by
  rw[Array.getElem?_eq_getElem Z]at e;rw[Option.some.inj e];exact Y
 by_cases X:i=0
 .subst X;exact key _ h.kind_ rfl
 by_cases W:i=1
 .subst W;exact key _ h.list rfl
 by_cases U:i<18
 .have:=h.slot (i-2) I;rw[show 2+(i-2)=i by omega]at this;exact key _ this rfl
 obtain rfl:i=18:=I;exact key _ h.num rfl
theorem lD.setN{n c:Nat}(h:lD C kind A n c d N)(Z:Int):lD (C.setIfInBounds 18 Z) kind A n c d Z:=by
 have Y:=h.size;refine⟨by simp [Y],?_,?_,fun i X=>?_,?_⟩
 .rw[Array.getElem?_setIfInBounds,iN I];exact h.kind_
 .rw[Array.getElem?_setIfInBounds,iN I];exact h.list
 .rw[Array.getElem?_setIfInBounds,iN I];exact h.slot i X
 rw[Array.getElem?_setIfInBounds,iP rfl,iP I]
theorem lD.setL{n c:Nat}(h:lD C kind A n c d N)(Z:Option Addr)(Y c':Nat):lD (C.setIfInBounds 1 (.slice Z Y c')) kind Z Y c' d N:=by
 have X:=h.size;refine⟨by simp [X],?_,?_,fun i W=>?_,?_⟩
 .rw[Array.getElem?_setIfInBounds,iN I];exact h.kind_
 .rw[Array.getElem?_setIfInBounds,iP rfl,iP I]
 .rw[Array.getElem?_setIfInBounds,iN I];exact h.slot i W
 rw[Array.getElem?_setIfInBounds,iN I];exact h.num
theorem lD.setD{n c:Nat}(h:lD C kind A n c d N)(j:Nat)(X:j<16)(x:Int):lD (C.setIfInBounds (2+j) x) kind A n c (fun i=>if i=j then x else d i) N:=by
 have Z:=h.size;refine⟨by simp [Z],?_,?_,fun i Y=>?_,?_⟩
 .rw[Array.getElem?_setIfInBounds,iN I];exact h.kind_
 .rw[Array.getElem?_setIfInBounds,iN I];exact h.list
 .rw[Array.getElem?_setIfInBounds];by_cases e:i=j
  .subst e;rw[iP rfl,iP I,iP rfl]
  rw[iN I,iN e];exact h.slot i Y
 rw[Array.getElem?_setIfInBounds,iN I];exact h.num
theorem qY.blk_lt{n c:Nat}(h:qY w A n c z)(V:0<n):∀a,A=some a->a.block<w:=fun a X=>by
 obtain⟨b,W,Y,Z,_⟩:=h.at_ V;rw[X]at Y;cases Y;exact Z
theorem qY.set_far{n c:Nat}(h:qY w A n c z){p:Addr}(U:∀a,A=some a->a.block≠p.block)(u:Value):qY (w.setCell p u) A n c z:=
 ⟨h.cap,h.cap63,h.bd,fun X=>by
  obtain⟨b,Z,rfl,Y,W⟩:=h.at_ X;refine⟨b,Z,rfl,by simpa using Y,fun i V=>?_⟩;rw[World.cell?_setCell_far _ _ _ _ (show p.block≠b from fun e=>U _ rfl e.symm)];exact W i V⟩
theorem zD(h:∀i,i<17->z i<=4294967295):(∀i,i<17->(if i=0 then z 0 else 0)=z i)↔qO z:=
 ⟨fun Z=>⟨h 0 I,fun i Y=>(Z i Y).symm⟩,fun Z i Y=>(Z.2 i Y).symm⟩
theorem zR(W:∀i,i<17->0<=z i)(h:kQ z):∀i,i<17->z i<=4294967295:=fun i Y=>by
 obtain⟨Z,X,_⟩:=h;rcases Nat.lt_or_ge i 16 with h16|h16
 .have:=Z (i/2) I;unfold tW at this;rcases Nat.mod_two_eq_zero_or_one i with e|e
  .rw[show 2*(i/2)=i by omega]at this;omega
  rw[show 2*(i/2)+1=i by omega]at this;omega
 obtain rfl:i=16:=I;omega
theorem uE(h:∀i,i<17->z i<=4294967295)(W:∀i,i<17->0<=z i)(X:cS z=true):(∀i,i<17->eF 8 z i=z i)↔kQ z:=by
 constructor
 .intro h1;refine⟨fun i Y=>?_,?_,X⟩
  .have:=nB X Y;unfold tW;omega
  have:=h1 16 I;unfold eF at this;rw[iN I]at this;exact this.symm
 rintro⟨_,Z,_⟩ i Y;unfold eF;by_cases e:i<2*8
 .rw[iP e]
 obtain rfl:i=16:=I;rw[iN e,Z]
theorem lD.congr{n c:Nat}{Y:Nat->Int}(h:lD C kind A n c d N)(e:∀i,i<16->Y i=d i):lD C kind A n c Y N:=
 ⟨h.size,h.kind_,h.list,fun i Z=>by rw[e i Z];exact h.slot i Z,h.num⟩
theorem CV(Y:∀i,i<17->0<=z i)(h:gW z):∀i,i<17->z i<=4294967295:=fun i Z=>by
 rcases Nat.eq_zero_or_pos i with e|e
 .subst e;have:=h.1;omega
 have:=(h.2 (i-1) I).1;rw[Nat.sub_add_cancel e]at this;exact this
theorem xV{n:Nat}(h:∀i,i<17->z i<=4294967295)(Q:∀i,i<17->0<=z i)(T:(z 0).toNat=n)(P:n<=6):(∀i,i<17->iT n (zL z) i=z i)↔gW z:=by
 have W:z 0=n:=by have:=Q 0 I;omega
 have e:∀i,i≠0->i<=n->iT n (zL z) i=z i:=fun i Z V=>by
  unfold iT zL;rw[iN Z,iP V,T,pA _ _ _ I,Nat.sub_add_cancel I]
 have S:∀i,i≠0->¬i<=n->iT n (zL z) i=0:=fun i Z V=>by unfold iT;rw[iN Z,iN V]
 constructor
 .intro Z;refine⟨I,fun i R=>⟨h _ I,fun U=>?_⟩⟩;rw[T]at U;rw[<-Z (i+1) I,S _ I I]
 intro Z i R;by_cases Y:i=0
 .subst Y;rw[W];rfl
 by_cases X:i<=n
 .exact e i Y X
 rw[S i Y X];have:=(Z.2 (i-1) I).2 (by rw[T];omega);rw[Nat.sub_add_cancel I]at this;exact this.symm
theorem jX.lt'{B:Nat}{n c:Nat}(h:jX w B A n c xs)(V:0<n):∀a,A=some a->B<=a.block/\a.block<w:=fun a Y=>by
 obtain⟨g,Z,X,W,_⟩:=h.at_ V;rw[Y]at Z;cases Z;exact⟨X,W⟩
theorem fI.setRow{n c:Nat}(h:fI w A n c xs){g:Nat}(U:0<n->∀a,A=some a->a.block≠g)(cs:Array Value):fI (w.setRow g cs) A n c xs:=
 ⟨h.len,h.cap,h.cap63,h.bd,fun X=>by
  obtain⟨b,Z,rfl,Y,W⟩:=h.at_ X;refine⟨b,Z,rfl,by simpa [World.setRow]using Y,fun i V=>?_⟩;rw[<-W i V];exact World.cell?_of_block (setRow_other w g b cs (by have T:b≠g:=U X _ rfl;omega))⟩
def Fc(x:Value):Prop:=∃g,x=.slice (some ⟨g,0,none⟩) 1 1
def Gl(t:TypeId)(v:Int)(x:Value)(w:World):Prop:=∃g,x=.slice (some ⟨g,0,none⟩) 1 1/\aY w g t #[v]
theorem AA{S:Nat->Prop}{B:Nat}{n c:Nat}(h:jX w B A n c xs)(Z:aD S w w')(W:∀b,¬S b):jX w' B A n c xs:=
 World.ownsRow.kept (row:=none) h ⟨Z.os,Z.tape,Z.output,Z.size,fun k Y _=>Z.block k Y (W k)⟩ (by
  by_cases X:(Value.slice A n c).ownBlock=none
  .exact .inl X
  exact .inr X)
def Ew(n:Nat)(x:Value):Prop:=∃A c,x=.slice A n c
def El(B n:Nat)(xs:List Int)(x:Value)(w:World):Prop:=∃A c,x=.slice A n c/\jX w B A n c xs
def LO(x:Value):Prop:=∃g,x=.slice (some ⟨g,0,none⟩) 17 17
def XB(z:Nat->Int)(x:Value)(w:World):Prop:=∃g D,x=.slice (some ⟨g,0,none⟩) 17 17/\aY w g 23 D/\cH D 17 z
def pR(b:Bool)(T:Array Value->World->Prop)(w:World)(e:Ending)(w':World):Prop:=
 Below w w w'/\∃C,C.size=19/\C.all (·.oneCell')=true/\e=.returned (.tuple #[.agg C,b])/\(b=true->T C w')
theorem GZ(A:Option Addr)(c:Nat)(z:Nat->Int)(kind:Int)(w:World)(h:qY w A 17 c z)(O:kind<1\/6<kind):
 Calls prog 169 #[kind,.slice A 17 c] w (pR false (fun _ _=>True) w):=by
 have R:bV kind 1 6=false:=by simp [bV];omega
 have Q:=aH R;have W:=sC;have P:=aH (BC kind);have Y:Hid ((prog.info? 131).map (·.size)=some (tz kind).size):=jT;have V:=aH (kM P);clear h R
 go_enter func169,ntmps169
 go_wp2_with (refine wpList_store_row rfl 131 _ _ rfl (w,1) (tz kind) rfl rfl 131 (tz 0) ((aY.newAt _ _ _ (by simp))) Y rfl V ?_)
 refine(bQ _ _ _ _).mono ?_;rintro e S ⟨rfl,X⟩;rw[Q.out];have Z:aY S w 131 (tz 0):=by
  rw[<-X];exact(setRow_other _ _ _ _ I).trans ((aY.new _ _ _).alloc _)
 have U:aY S (w,1) 131 (tz kind):=by rw[<-X];exact aY.setRow (aY.newAt _ _ _ (by simp)) _
 have T:Below w.heap.size w S:=by rw[<-X];exact aL (by go_grown) I _
 clear X Q W
 go_wp2_with (first
  |(refine wpList_load_row rfl 131 _ rfl (w.heap.size+1) rfl 131 (tz kind) (0,0) _ U underlying131 rfl Y ?_)
  |(refine wpList_store_row rfl 131 _ _ rfl w.heap.size (tz kind) rfl rfl 131 (tz 0) Z Y rfl V ?_))
 refine bodyPost_ret (bR results169 _ _ w.heap.size 131 (tz kind) _ _ rfl rfl (aY.setRow Z (tz kind)) underlying131 rfl Y) rfl ⟨aL T (Nat.le_refl _) _,(tz kind),P.size,V.out,rfl,fun h=>Bool.noConfusion h⟩
theorem DI(A:Option Addr)(c:Nat)(z:Nat->Int)(b:Bool)(w:World)(h:qY w A 17 c z)(hb:b=true↔qO z):
 Calls prog 169 #[(6:Int),.slice A 17 c] w (pR b (fun C _=>lD C 6 none 0 0 (fun _=>0) (z 0)) w):=by
 have d1:bV 6 1 6=true:=by simp [bV]
 have HW:=aH d1;have d:=sC;have r:=aH (BC 6);have q:Hid ((prog.info? 131).map (·.size)=some (tz 6).size):=jT;have HO:=aH (kM r);have H:=aH h;have HB:=aH hb;clear h d1 hb
 go_enter func169,ntmps169
 go_wp2_with (refine wpList_store_row rfl 131 _ _ rfl (w,1) (tz 6) rfl rfl 131 (tz 0) ((aY.newAt _ _ _ (by simp))) q rfl HO ?_)
 refine(bQ _ _ _ _).mono ?_;rintro e u ⟨rfl,f⟩;rw[HW.out];have R:aY u w 131 (tz 0):=by
  rw[<-f];exact(setRow_other _ _ _ _ I).trans ((aY.new _ _ _).alloc _)
 have Y:aY u (w,1) 131 (tz 6):=by rw[<-f];exact aY.setRow (aY.newAt _ _ _ (by simp)) _
 have Q:Below w w u:=by rw[<-f];exact aL (by go_grown) I _
 clear f HW d;have zu:=Y.lt;have X:=aH (H.below Q);have HG:=aH (H.blk_lt I);go_wp2
 go_loop [19] (fun i=>∃k:Nat,k<=17/\i=.int .i64 k/\Hid (∀j,j<k->z j<=4294967295)) (fun i=>17-(intOf i).toNat)
 case atStart=>exact⟨0,I,rfl,aH fun j hj=>absurd hj I⟩
 case round=>
  obtain⟨k,hk,rfl,U⟩:=hrel;by_cases S:k<17
  .have q1:(k:Int)<17:=I;obtain⟨g,t,rfl,s,Z⟩:=X.at_ I;have m:=Z k S;have bd:=X.bd k S;clear Z;generalize L:z k=v at m bd;have G:=aH L;clear L;by_cases hM:v<=4294967295
   .have d2:decide (4294967295<v)=false:=by simp;omega
    go_wp2
    go_round
    case rel=>exact⟨k+1,I,aG,aH fun j hj=>by
     rcases Nat.lt_or_ge j k with h|h
     .exact U j h
     obtain rfl:j=k:=I;rw[G.out];exact hM⟩
    case measure=>simp [intOf];omega
   have d2:decide (4294967295<v)=true:=by simp;omega
   obtain rfl:b=false:=by
    rw[Bool.eq_false_iff];intro ht;have h9:=HB.out.1 ht;have zt:=G.out;have F:4294967295<z k:=I;exact absurd F (by unfold qO at h9;have a1:=h9.1;have a2:=h9.2 k S;split at a2<;>omega)
   go_wp2_with (first
    |(refine wpList_load_row rfl 131 _ rfl (w.heap.size+1) rfl 131 (tz 6) (0,0) _ Y underlying131 rfl q ?_)
    |(refine wpList_store_row rfl 131 _ _ rfl w.heap.size (tz 6) rfl rfl 131 (tz 0) R q rfl HO ?_))
   refine bodyPost_ret (bR results169 _ _ w.heap.size 131 (tz 6) _ _ rfl rfl (aY.setRow R (tz 6)) underlying131 rfl q) rfl ⟨aL Q (Nat.le_refl _) _,(tz 6),r.size,HO.out,rfl,fun h=>Bool.noConfusion h⟩
  obtain rfl:k=17:=I;have W:=aH U;clear U;obtain⟨g,t,rfl,s,Z⟩:=X.at_ I;have m:=Z 0 I;have bd:=X.bd 0 I;have hM:=W.out 0 I;have V:=(r.setN (z 0));simp only[Nat.add_zero]at m;clear Z;generalize L:z 0=v at m bd hM V;have G:=aH L;clear L;have hq:=Y.cell 18;rw[r.num]at hq;have hf:=Y.frozen 18;have l:=aH V;clear V;have N:Hid ((prog.info? 131).map (·.size)=some ((tz 6).setIfInBounds 18 (.int .i64 v)).size):=jT;have E:=aH (kM l);have B:=aH (Y.set_ 18 (.int .i64 v));have P:=aH (R.far (p:=⟨w.heap.size+1,18,none⟩) (by simp) (.int .i64 v));have y:=aH (Q.setCell (p:=⟨w.heap.size+1,18,none⟩) (by show w.heap.size<=w.heap.size+1;omega) (.int .i64 v));have zz:Hid (qY (u.setCell ⟨w.heap.size+1,18,none⟩ (.int .i64 v)) (some ⟨g,t,none⟩) 17 c z):=aH (X.set_far (fun a ha=>by have:=HG.out a ha;show a.block≠w.heap.size+1;omega) _);clear R Y Q;go_wp2_with fail;generalize u.setCell ⟨w.heap.size+1,18,none⟩ (.int .i64 v)=W2 at*;refine bK 5 bN [] J J ?_
  iterate 2
   refine aR ?_;constructor
   .intro w9 hw9 _;exact bT 131 _ rfl (w.heap.size+1) rfl 131 ((tz 6).setIfInBounds 18 (.int .i64 v)) _ (B.below hw9.same B.lt) underlying131 rfl N aE
  refine bC LO (XB (fun i=>if i=0 then v else 0)) ⟨_,0,rfl⟩ ?_ ?_
  .intro w9 hw9 _;go_simp;go_at_call 85;refine(uY _ none 0 0 (fun _=>0) v _ l I).mono ?_;rintro e zx ⟨g,D,rfl,zw,hu,hg,M⟩;exact⟨_,rfl,⟨⟨g,rfl⟩,⟨g,D,rfl,zw,hu⟩⟩,aD.of_same M⟩
  refine aC (fun K hK=>?_);refine .inl ?_;apply Exists.intro;refine⟨cX,?_,hK _ _ _ _ ?_⟩
  .simp only[bJ,bM];rintro _ ⟨g,rfl⟩;refine⟨rfl,fun w9 hw9 _=>?_⟩;go_simp;exact aE
  clear hK K;refine aN ?_;refine bB (.bool b) cX ?_ ?_
  .rintro _ ⟨g,rfl⟩;refine⟨rfl,fun w9 hw9 T=>?_⟩;obtain⟨w0,k0,k1,g',D,L,O,hu⟩:=(T.2.1 J).out;cases L;go_simp;go_at_call 170;refine(tQ _ _ 17 17 17 _ (fun i=>if i=0 then v else 0) z _ (by simpa using qY.of_blk (n:=17) (c:=17) (o:=0) (O.below k1 O.lt) hu I I I) (zz.below hw9.same)).mono ?_;rintro e zx ⟨b',rfl,zv,M⟩;obtain rfl:b'=b:=by
    rw[Bool.eq_iff_iff,zv,HB.out];rw[<-G.out];exact⟨fun h=>(zD W).1 h.2,fun h=>⟨rfl,(zD W).2 h⟩⟩
   exact⟨_,rfl,⟨rfl,trivial⟩,aD.of_same M⟩
  refine aZ ?_;rintro _ ⟨g9,rfl⟩ w9 hw9 T;clear T;have x:=aH (P.below hw9.same P.lt);have zy:=aH ((y.out).trans (hw9.same.mono (y.out).size));simp only[List.drop_succ_cons,List.drop_zero]
  go_wp2_with (refine wpList_store_row rfl 131 _ _ rfl w ((tz 6).setIfInBounds 18 v) rfl rfl 131 (tz 0) x N rfl E ?_)
  refine bodyPost_ret (bR results169 _ _ w 131 ((tz 6).setIfInBounds 18 v) _ _ rfl rfl (aY.setRow x ((tz 6).setIfInBounds 18 v)) underlying131 rfl N) rfl ⟨aL zy (Nat.le_refl _) _,((tz 6).setIfInBounds 18 v),l.size,E.out,rfl,fun _=>by rw[G.out];exact l⟩
theorem ED(A:Option Addr)(c:Nat)(z:Nat->Int)(b:Bool)(w:World)(h:qY w A 17 c z)(hb:b=true↔kQ z):
 Calls prog 169 #[(5:Int),.slice A 17 c] w (pR b (fun C _=>lD C 5 none 0 0 z 0) w):=by
 have d1:bV 5 1 6=true:=by simp [bV]
 have HW:=aH d1;have zu:=sC;have HT:=aH (BC 5);have HI:Hid ((prog.info? 131).map (·.size)=some (tz 5).size):=jT;have HO:=aH (kM HT);have H:=aH h;have HB:=aH hb;clear h d1 hb
 go_enter func169,ntmps169
 go_wp2_with (refine wpList_store_row rfl 131 _ _ rfl (w,1) (tz 5) rfl rfl 131 (tz 0) ((aY.newAt _ _ _ (by simp))) HI rfl HO ?_)
 refine(bQ _ _ _ _).mono ?_;rintro e W1 ⟨rfl,hW⟩;rw[HW.out];have M:aY W1 w 131 (tz 0):=by
  rw[<-hW];exact(setRow_other _ _ _ _ I).trans ((aY.new _ _ _).alloc _)
 have L:aY W1 (w,1) 131 (tz 5):=by rw[<-hW];exact aY.setRow (aY.newAt _ _ _ (by simp)) _
 have G:Below w w W1:=by rw[<-hW];exact aL (by go_grown) I _
 clear hW HW zu;have zi:=L.lt;have F:=aH (H.below G);have HG:=aH (H.blk_lt I);go_wp2
 go_loop [19] (fun i=>∃k:Nat,k<=17/\i=.int .i64 k/\Hid (∀j,j<k->z j<=4294967295)) (fun i=>17-(intOf i).toNat)
 case atStart=>exact⟨0,I,rfl,aH fun j hj=>absurd hj I⟩
 case round=>
  obtain⟨k,hk,rfl,S⟩:=hrel;by_cases O:k<17
  .have q1:(k:Int)<17:=I;obtain⟨g,zn,rfl,zx,Z⟩:=F.at_ I;have c0:=Z k O;have bd:=F.bd k O;clear Z;generalize hv:z k=v at c0 bd;have HV:=aH hv;clear hv;by_cases hM:v<=4294967295
   .have d2:decide (4294967295<v)=false:=by simp;omega
    go_wp2
    go_round
    case rel=>exact⟨k+1,I,aG,aH fun j hj=>by
     rcases Nat.lt_or_ge j k with h|h
     .exact S j h
     obtain rfl:j=k:=I;rw[HV.out];exact hM⟩
    case measure=>simp [intOf];omega
   have d2:decide (4294967295<v)=true:=by simp;omega
   obtain rfl:b=false:=by
    rw[Bool.eq_false_iff];intro ht;have h9:=HB.out.1 ht;have zh:=HV.out;have zz:4294967295<z k:=I;exact absurd zz (by have a1:=zR (fun i hi=>(H.bd i hi).1) h9 k O;omega)
   go_wp2_with (first
    |(refine wpList_load_row rfl 131 _ rfl (w.heap.size+1) rfl 131 (tz 5) (0,0) _ L underlying131 rfl HI ?_)
    |(refine wpList_store_row rfl 131 _ _ rfl w.heap.size (tz 5) rfl rfl 131 (tz 0) M HI rfl HO ?_))
   refine bodyPost_ret (bR results169 _ _ w.heap.size 131 (tz 5) _ _ rfl rfl (aY.setRow M (tz 5)) underlying131 rfl HI) rfl ⟨aL G (Nat.le_refl _) _,(tz 5),HT.size,HO.out,rfl,fun h=>Bool.noConfusion h⟩
  obtain rfl:k=17:=I;have Y:=aH S;clear S;have s:=aH M;have q:Hid (lD (tz 5) 5 none 0 0 (eF 0 z) 0):=aH (HT.congr fun i hi=>by unfold eF;rw[iN I]);have m:=aH L;have l:=aH G;clear M L G;go_wp2
  go_loopw [63] (fun i wr=>∃k:Nat,k<=8/\i=.int .i64 k/\Hid (∃C,aY wr (w,1) 131 C/\lD C 5 none 0 0 (eF k z) 0)/\Hid (aY wr w 131 (tz 0))/\Hid (Below w w wr)) (fun i _=>8-(intOf i).toNat)
  case atStart=>exact⟨0,I,rfl,aH ⟨_,m.out,q.out⟩,s,l⟩
  case round=>
   obtain⟨k,hk,rfl,hC,R,V⟩:=hrel;obtain⟨C,zw,zv⟩:=hC.out;clear hC;have X:=aH zw;have E:=aH zv;clear zw zv;have U:=aH (H.below V);by_cases ze:k<8
   .have q1:(k:Int)<8:=I;obtain⟨g,zn,rfl,zx,Z⟩:=U.at_ I;have c0:=Z (2*k) I;have c1:=Z (2*k+1) I;have zt:=U.bd (2*k) I;have zs:=U.bd (2*k+1) I;have m0:=Y.out (2*k) I;have m1:=Y.out (2*k+1) I;have zg:=U.cap63;have zf:=U.cap;have s0:wr.cell? ⟨w.heap.size+1,2+k*2,none⟩=some (.int .i64 (eF k z (2*k))):=by rw[Nat.mul_comm k 2];exact(X.cell _).trans (E.slot (2*k) I)
    have s1:wr.cell? ⟨w.heap.size+1,2+k*2+1,none⟩=some (.int .i64 (eF k z (2*k+1))):=by rw[Nat.mul_comm k 2,Nat.add_assoc];exact(X.cell _).trans (E.slot (2*k+1) I)
    have f0:=X.frozen (2+k*2);have f1:=X.frozen (2+k*2+1);have zj:=X.lt;have HK:Hid (∀i,eF (k+1) z i=if i=2*k+1 then z (2*k+1)else if i=2*k then z (2*k)else eF k z i):=aH fun i=>by
     rw[uF,Nat.mul_comm k 2]
    clear Z;generalize hx:z (2*k)=x at c0 zt m0 HK;generalize hy:z (2*k+1)=y at c1 zs m1 HK;have HX:=aH hx;have HY:=aH hy;clear hx hy s m q l F;go_wp2
    go_region
    apply_assumption
    go_wp2;go_roundw
    case rel=>exact⟨k+1,I,aG,aH ⟨_,(X.set_ (2+k*2) _).set_ (2+k*2+1) _,by
     have h5:=((E.setD (2*k) I x).setD (2*k+1) I y).congr (fun i hi=>HK.out i);rw[show 2+k*2=2+2*k by omega,show 2+2*k+1=2+(2*k+1) by omega];exact h5⟩,
     aH ((R.far (p:=⟨w+1,2+k*2,none⟩) (by simp) _).far (p:=⟨w+1,2+k*2+1,none⟩) (by simp) _),
     aH ((V.setCell (p:=⟨w+1,2+k*2,none⟩) (by show w.heap.size<=w+1;omega) _).setCell (p:=⟨w+1,2+k*2+1,none⟩) (by show w.heap.size<=w+1;omega) _).drew⟩
    case measure=>simp [intOf];omega
   obtain rfl:k=8:=I;have N:Hid (lD C 5 none 0 0 z 0):=aH (E.congr fun i hi=>by unfold eF;rw[iP I]);have T:Hid ((prog.info? 131).map (·.size)=some C.size):=by show _=_;rw[jT,N.size]
   have B:=aH (kM N);obtain⟨D,hD⟩:=aO (C.extract 2 18);have hI:eB D 16 z:=by
    have hs:=N.size;refine⟨by rw[hD];simp;omega,fun i hi=>?_,fun i hi=>by have:=Y.out i I;have:=H.bd i I;omega⟩;rw[hD,Array.getElem?_extract,iP I];exact N.slot i hi
   have HD:=aH hD;have zr:=aH hI;have zq:=aH hI.size;clear hD hI s m q l F;obtain⟨r,hr⟩:=aP (cS z);have HR:=aH hr;clear hr
   go_wp2_with (refine wpList_load_mid rfl 129 _ rfl (w.heap.size+1) 2 rfl D.toList _ ?hc underlying129 rfl ?hi ?_)
   case hc=>
    rw[HD.out];exact World.rangeAt_of_block (t:=131) (fr:=(0,0)) X 2 16
   case hi=>rw[BU,Array.length_toList,zq.out]
   refine(AX D z _ zr).mono ?_;rintro e W2 ⟨rfl,Q⟩;rw[HR.out];have f:=aH (X.below Q X.lt);have W:=aH (R.below Q R.lt);have d:=aH (V.trans (Q.mono V.size));have zp:=aH (U.below Q);clear Q;cases r
   .obtain rfl:b=false:=by
     rw[Bool.eq_false_iff];intro ht;have h9:=(HB.out.1 ht).2.2;rw[HR.out]at h9;cases h9
    go_wp2_with (first
     |(refine wpList_load_row rfl 131 _ rfl (w.heap.size+1) rfl 131 C (0,0) _ f underlying131 rfl T ?_)
     |(refine wpList_store_row rfl 131 _ _ rfl w.heap.size C rfl rfl 131 (tz 0) W T (by rw[N.size];rfl) B ?_))
    refine bodyPost_ret (bR results169 _ _ w.heap.size 131 C _ _ rfl rfl (aY.setRow W C) underlying131 rfl T) rfl ⟨aL d (Nat.le_refl _) _,C,N.size,B.out,rfl,fun h=>Bool.noConfusion h⟩
   go_wp2_with fail;refine aA 5 ?_
   iterate 2
    refine aR ?_;constructor
    .intro w9 hw9 _;exact bT 131 _ rfl (w,1) rfl 131 C _ (f.below hw9.same f.lt) underlying131 rfl T aE
   refine bC LO (XB (eF 8 z)) ⟨_,0,rfl⟩ ?_ ?_
   .intro w9 hw9 _;go_simp;go_at_call 85;refine(vC _ none 0 0 z 0 _ N (fun i hi=>by have:=Y.out i I;have:=H.bd i I;omega)).mono ?_;rintro e zm ⟨g,D,rfl,zl,hu,hg,a⟩;exact⟨_,rfl,⟨⟨g,rfl⟩,⟨g,D,rfl,zl,hu⟩⟩,aD.of_same a⟩
   refine aC (fun K hK=>?_);refine .inl ?_;apply Exists.intro;refine⟨cX,?_,hK _ _ _ _ ?_⟩
   .simp only[bJ,bM];rintro _ ⟨g,rfl⟩;refine⟨rfl,fun w9 hw9 _=>?_⟩;go_simp;exact aE
   clear hK K;refine aN ?_;refine bB (.bool b) cX ?_ ?_
   .rintro _ ⟨g,rfl⟩;refine⟨rfl,fun w9 hw9 P=>?_⟩;obtain⟨w0,k0,k1,g',D,hv,u,hu⟩:=(P.2.1 J).out;cases hv;go_simp;go_at_call 170;refine(tQ _ _ 17 17 17 _ (eF 8 z) z _ (by simpa using qY.of_blk (n:=17) (c:=17) (o:=0) (u.below k1 u.lt) hu I I I) (zp.below hw9.same)).mono ?_;rintro e zm ⟨b',rfl,zk,a⟩;obtain rfl:b'=b:=by
     rw[Bool.eq_iff_iff,zk,HB.out];exact⟨fun h=>(uE Y (fun i hi=>(H.bd i hi).1) HR).1 h.2,fun h=>⟨rfl,(uE Y (fun i hi=>(H.bd i hi).1) HR).2 h⟩⟩
    exact⟨_,rfl,⟨rfl,trivial⟩,aD.of_same a⟩
   refine aZ ?_;rintro _ ⟨g9,rfl⟩ w9 hw9 P;clear P;have zy:=aH (W.below hw9.same W.lt);have zo:=aH ((d.out).trans (hw9.same.mono (d.out).size));simp only[List.drop_succ_cons,List.drop_zero]
   go_wp2_with (refine wpList_store_row rfl 131 _ _ rfl w C rfl rfl 131 (tz 0) zy T (by rw[N.size];rfl) B ?_)
   refine bodyPost_ret (bR results169 _ _ w 131 C _ _ rfl rfl (aY.setRow zy C) underlying131 rfl T) rfl ⟨aL zo (Nat.le_refl _) _,C,N.size,B.out,rfl,fun _=>N.out⟩
theorem VA(A:Option Addr)(c:Nat)(z:Nat->Int)(kind:Int)(zh:kind=1\/kind=2\/kind=3\/kind=4)(b:Bool)(w:World)(h:qY w A 17 c z)(hb:b=true↔gW z/\(kind=4->iJ (zL z)=true)):
 Calls prog 169 #[kind,.slice A 17 c] w (pR b (fun C w'=>∃A c,lD C kind A (z 0).toNat c (fun _=>0) 0/\kC w' w A (z 0).toNat c (zL z)) w):=by
 obtain⟨e,zm⟩:∃e,(kind==4)=e:=⟨_,rfl⟩;have zs:=aH zm;clear zm;have e5:(kind==5)=false:=by simp;omega
 have e6:(kind==6)=false:=by simp;omega
 have zr:=aH zh;have d1:bV kind 1 6=true:=by simp [bV];omega
 have HW:=aH d1;have zg:=sC;have HT:=aH (BC kind);have HI:Hid ((prog.info? 131).map (·.size)=some (tz kind).size):=jT;have HO:=aH (kM HT);have H:=aH h;have HB:=aH hb;clear h d1 hb zh
 go_enter func169,ntmps169
 go_wp2_with (refine wpList_store_row rfl 131 _ _ rfl (w,1) (tz kind) rfl rfl 131 (tz 0) ((aY.newAt _ _ _ (by simp))) HI rfl HO ?_)
 refine(bQ _ _ _ _).mono ?_;rintro e W1 ⟨rfl,hW⟩;rw[HW.out];have B:aY W1 w 131 (tz 0):=by
  rw[<-hW];exact(setRow_other _ _ _ _ I).trans ((aY.new _ _ _).alloc _)
 have y:aY W1 (w,1) 131 (tz kind):=by rw[<-hW];exact aY.setRow (aY.newAt _ _ _ (by simp)) _
 have x:Below w w W1:=by rw[<-hW];exact aL (by go_grown) I _
 clear hW HW zg;have yz:=y.lt;have M:=aH (H.below x);have HG:=aH (H.blk_lt I);go_wp2
 go_loop [19] (fun i=>∃k:Nat,k<=17/\i=.int .i64 k/\Hid (∀j,j<k->z j<=4294967295)) (fun i=>17-(intOf i).toNat)
 case atStart=>exact⟨0,I,rfl,aH fun j hj=>absurd hj I⟩
 case round=>
  obtain⟨k,hk,rfl,F⟩:=hrel;by_cases E:k<17
  .have q1:(k:Int)<17:=I;obtain⟨g,yt,rfl,zl,X⟩:=M.at_ I;have c0:=X k E;have bd:=M.bd k E;clear X;generalize hv:z k=v at c0 bd;have HV:=aH hv;clear hv;by_cases hM:v<=4294967295
   .have d2:decide (4294967295<v)=false:=by simp;omega
    go_wp2
    go_round
    case rel=>exact⟨k+1,I,aG,aH fun j hj=>by
     rcases Nat.lt_or_ge j k with h|h
     .exact F j h
     obtain rfl:j=k:=I;rw[HV.out];exact hM⟩
    case measure=>simp [intOf];omega
   have d2:decide (4294967295<v)=true:=by simp;omega
   obtain rfl:b=false:=by
    rw[Bool.eq_false_iff];intro ht;have h9:=HB.out.1 ht;have yy:=HV.out;have zq:4294967295<z k:=I;exact absurd zq (by have a1:=CV (fun i hi=>(H.bd i hi).1) h9.1 k E;omega)
   go_wp2_with (first
    |(refine wpList_load_row rfl 131 _ rfl (w.heap.size+1) rfl 131 (tz kind) (0,0) _ y underlying131 rfl HI ?_)
    |(refine wpList_store_row rfl 131 _ _ rfl w.heap.size (tz kind) rfl rfl 131 (tz 0) B HI rfl HO ?_))
   refine bodyPost_ret (bR results169 _ _ w.heap.size 131 (tz kind) _ _ rfl rfl (aY.setRow B (tz kind)) underlying131 rfl HI) rfl ⟨aL x (Nat.le_refl _) _,(tz kind),HT.size,HO.out,rfl,fun h=>Bool.noConfusion h⟩
  obtain rfl:k=17:=I;have Q:=aH F;clear F;have L:=aH B;have u:=aH y;have t:=aH x;clear B y x;obtain⟨n0,zk⟩:=Int.eq_ofNat_of_zero_le (H.bd 0 I).1;have HN:=aH zk;clear zk;obtain⟨gA,oA,rfl,zl,X⟩:=M.at_ I;have c0:W1.cell? (gA,oA)=[n0]:=by rw[<-HN.out];exact X 0 I
  clear X;have yx:gA<w:=HG.out _ rfl;by_cases h6:n0<=6
  .have d6:decide (6<(n0:Int))=false:=by simp;omega
   go_wp2;clear c0
   go_loopw [37] (fun i wr=>∃k:Nat,k<=n0/\i=.int .i64 k/\Hid (∃C A' c',aY wr (w,1) 131 C/\lD C kind A' k c' (fun _=>0) 0/\jX wr (w,2) A' k c' (zW z k))/\Hid (aY wr w 131 (tz 0))/\Hid (Below w w wr)) (fun i _=>n0-(intOf i).toNat)
   case atStart=>exact⟨0,I,rfl,aH ⟨_,none,0,u.out,HT.out,jX.nil _ _⟩,L,t⟩
   case round=>
    obtain⟨k,hk,rfl,hC,T,W⟩:=hrel;obtain⟨C,A',c',zj,zi,S⟩:=hC.out;clear hC;have V:=aH zj;have Y:=aH zi;have s:=aH S;clear zj zi S;have P:=aH (H.below W);by_cases yr:k<n0
    .have q1:(k:Int)<n0:=I;have zy:gA<wr:=by have:=W.size;omega
     have c1:wr.cell? (gA,oA+(k+1))=[z (k+1)]:=by
      obtain⟨g2,o2,he,_,hc⟩:=P.at_ I;cases he;exact hc (k+1) I
     have l1:=(V.cell 1).trans Y.list;have f1:=V.frozen 1;have bd:=P.bd (k+1) I;have m1:=Q.out (k+1) I;have zz:=V.lt;have za:w.heap.size+2<=wr:=I;have yw:=P.cap63;have yv:=P.cap;have e0:(0:Int)<=(k:Int)+1:=I;have e1:(k:Int)+1<17:=I;have ew:IntKind.i64.wrap ((k:Int)+1)=((k+1:Nat):Int):=by rw[IntWalk.i64_in _ I];omega
     generalize hv:z (k+1)=v at c1 bd m1;have HV:=aH hv;have ev:IntKind.i64.wrap v=v:=IntWalk.i64_in _ I;clear hv L u t M;go_wp2;refine bK 11 (fun b=>w+2<=b) [9] J J ?_
     iterate 8
      refine aR ?_;constructor
      .intro w9 hw9 _;have l9:=(hw9.cell (p:=⟨w+1,1,none⟩) zz (by show¬(w.heap.size+2<=w+1);omega)).trans l1;have c9:=(hw9.cell (p:=⟨gA,oA+(k+1),none⟩) zy (by show¬(w+2<=gA);omega)).trans c1;go_simp;exact aE
     refine bC Fc (Gl 3 v) ⟨_,0,rfl⟩ ?_ ?_
     .intro w9 hw9 _;go_simp;exact⟨⟨⟨_,rfl⟩,_,rfl,by simpa only[ev]using aY.new w9 3 #[(IntKind.i64.wrap v)]⟩,aD.of_same ((Below.refl _ _).alloc (Nat.le_refl _) _)⟩
     refine bD (Ew (k+1)) (El (w,2) (k+1) (zW z (k+1))) ⟨_,none,0,rfl⟩ ?_ ?_
     .rintro _ ⟨g,rfl⟩;refine⟨rfl,fun w9 hw9 Z=>?_⟩;obtain⟨w0,k0,k1,g',hv,R⟩:=Z.2.1 J;cases hv;have yu:=hw9.size;refine xW (.tmp 41) (.tmp 48) rfl (A:=A') (n:=k) (c:=c') rfl (AA s Z.1 (fun b h=>dN h J)) rfl ((k1.cell (p:=⟨g,0,none⟩) R.lt (fun h=>dN h J)).trans (R.cell 0)) I I ?_;intro g' ys w' ho hb;refine⟨⟨⟨_,_,rfl⟩,_,_,rfl,?_⟩,(aD.of_below hb).mono fun b h=>⟨rfl,h⟩⟩;rw[EW,HV.out];exact ho
     refine aC (fun K hK=>?_);refine .inl ?_;apply Exists.intro;refine⟨cX,?_,hK _ _ _ _ ?_⟩
     .simp only[bJ,bM];rintro _ ⟨A2,c2,rfl⟩ _ ⟨g2,rfl⟩;refine⟨rfl,fun w9 hw9 _=>?_⟩;go_simp;exact aE
     clear hK K;refine aN ?_;refine aZ ?_;rintro _ ⟨A2,c2,rfl⟩ _ ⟨g2,rfl⟩ w9 hw9 Z;obtain⟨w0,k0,k1,A8,c8,ze,S⟩:=Z.2.1 rfl;cases ze;have zf:=aH (AA S k1 (fun b h=>dN h J));have q:aY w9 (w,1) 131 C:=(hw9.block _ zz (by show¬(w.heap.size+2<=w+1);omega)).trans V;have zp:Hid (aY w9 w 131 (tz 0)):=aH ((hw9.block _ T.lt (by show¬(w.heap.size+2<=w);omega)).trans T);have zx:=aH (W.trans (hw9.below W.size (fun b hb h=>by omega)));have l9:=(q.cell 1).trans Y.list;have f9:=q.frozen 1;have m:=aH q;clear Z S k0 k1 q l1 f1 c1 ew ev;go_wp2;go_roundw
     case rel=>exact⟨k+1,I,aG,aH ⟨_,A2,c2,m.set_ 1 _,Y.setL A2 (k+1) c2,zf.far (p:=⟨w+1,1,none⟩) (by show w.heap.size+1<w+2;omega) _⟩,
      aH (zp.far (p:=⟨w+1,1,none⟩) (by simp) _),aH (zx.setCell (p:=⟨w+1,1,none⟩) (by show w.heap.size<=w+1;omega) _)⟩
     case measure=>simp [intOf];omega
    obtain rfl:k=n0:=I;have zw:Hid (zW z k=zL z):=aH (by unfold zL;rw[HN.out];rfl);have zv:Hid ((z 0).toNat=k):=aH (by rw[HN.out];rfl);have zu:Hid (fI wr A' k c' (zL z)):=aH (by
     have h5:=s.out;rw[zw.out]at h5;exact fI.of_own h5 (fun i=>by
      rw[<-zw.out];by_cases hi:i<k
      .rw[pA z _ i hi];have a1:=Q.out (i+1) I;have a2:=H.bd (i+1) I;omega
      rw[List.getElem?_eq_none (by rw[qT];omega)];decide))
    have O:Hid ((prog.info? 131).map (·.size)=some C.size):=by show _=_;rw[jT,Y.size]
    have l:=aH (kM Y);have l1:=(V.cell 1).trans Y.list;clear L u t M;cases e
    case' false=>
     have e4:=zs.out;have f:=V;have U:=T;have d:=W;have zo:=P;have G:=zu;have zn:Hid (kind=4->iJ (zL z)=true):=aH (fun h=>by simp [h]at e4);clear l1
    case' true=>
     have e4:=zs.out;obtain⟨r,hr⟩:=aP (iJ (zL z));have HR:=aH hr;clear hr;go_wp2_with fail;refine(uK A' k c' (zL z) _ zu I).mono ?_;rintro e W2 ⟨rfl,N⟩;rw[HR.out];have f:=aH (V.below N V.lt);have U:=aH (T.below N T.lt);have d:=aH (W.trans (N.mono W.size));have zo:=aH (P.below N);have G:=aH (zu.below N);clear N l1;cases r
     case' false=>
      obtain rfl:b=false:=by
       rw[Bool.eq_false_iff];intro ht;have h9:=(HB.out.1 ht).2 (by simpa using e4);rw[HR.out]at h9;cases h9
      go_wp2_with (first
       |(refine wpList_load_row rfl 131 _ rfl (w.heap.size+1) rfl 131 C (0,0) _ f underlying131 rfl O ?_)
       |(refine wpList_store_row rfl 131 _ _ rfl w.heap.size C rfl rfl 131 (tz 0) U O (by rw[Y.size];rfl) l ?_))
      refine bodyPost_ret (bR results169 _ _ w.heap.size 131 C _ _ rfl rfl (aY.setRow U C) underlying131 rfl O) rfl ⟨aL d (Nat.le_refl _) _,C,Y.size,l.out,rfl,fun h=>Bool.noConfusion h⟩
     case' true=>have zn:Hid (kind=4->iJ (zL z)=true):=aH (fun _=>HR.out)
    all_goals
     go_wp2_with fail;refine bK 5 bN [] J J ?_
     iterate 2
      refine aR ?_;constructor
      .intro w9 hw9 _;exact bT 131 _ rfl (w.heap.size+1) rfl 131 C _ (f.below hw9.same f.lt) underlying131 rfl O aE
     refine bC LO (XB (iT k (zL z))) ⟨_,0,rfl⟩ ?_ ?_
     .intro w9 hw9 _;go_simp;go_at_call 85;refine(wN _ kind A' k c' (zL z) (fun _=>0) 0 _ Y (G.below hw9.same) I (fun i hi=>by rw[<-zw.out,pA z _ i hi];exact(H.bd (i+1) I).1) (by have:=zr.out;omega) (by have:=zr.out;omega)).mono ?_;rintro e zd ⟨g,D,rfl,zc,hu,hg,zt⟩;exact⟨_,rfl,⟨⟨g,rfl⟩,⟨g,D,rfl,zc,hu⟩⟩,aD.of_same zt⟩
     refine aC (fun K hK=>?_);refine .inl ?_;apply Exists.intro;refine⟨cX,?_,hK _ _ _ _ ?_⟩
     .simp only[bJ,bM];rintro _ ⟨g,rfl⟩;refine⟨rfl,fun w9 hw9 _=>?_⟩;go_simp;exact aE
     clear hK K;refine aN ?_;refine bB (.bool b) cX ?_ ?_
     .rintro _ ⟨g,rfl⟩;refine⟨rfl,fun w9 hw9 Z=>?_⟩;obtain⟨w0,k0,k1,g',D,hv,R,hu⟩:=(Z.2.1 J).out;cases hv;go_simp;go_at_call 170;refine(tQ _ _ 17 17 17 _ (iT k (zL z)) z _ (by simpa using qY.of_blk (n:=17) (c:=17) (o:=0) (R.below k1 R.lt) hu I I I) (zo.below hw9.same)).mono ?_;rintro e zd ⟨b',rfl,zb,zt⟩;obtain rfl:b'=b:=by
       rw[Bool.eq_iff_iff,zb,HB.out];exact⟨fun h=>⟨(xV Q (fun i hi=>(H.bd i hi).1) zv I).1 h.2,zn.out⟩,fun h=>⟨rfl,(xV Q (fun i hi=>(H.bd i hi).1) zv I).2 h.1⟩⟩
      exact⟨_,rfl,⟨rfl,trivial⟩,aD.of_same zt⟩
     refine aZ ?_;rintro _ ⟨g9,rfl⟩ w9 hw9 Z;clear Z;have m:=aH (U.below hw9.same U.lt);have zx:=aH ((d.out).trans (hw9.same.mono (d.out).size));simp only[List.drop_succ_cons,List.drop_zero]
     go_wp2_with (refine wpList_store_row rfl 131 _ _ rfl w.heap.size C rfl rfl 131 (tz 0) m O (by rw[Y.size];rfl) l ?_)
     refine bodyPost_ret (bR results169 _ _ w.heap.size 131 C _ _ rfl rfl (aY.setRow m C) underlying131 rfl O) rfl ⟨aL zx (Nat.le_refl _) _,C,Y.size,l.out,rfl,fun _=>by
      rw[zv.out];exact⟨A',c',Y.out,(G.below hw9.same).setRow (fun hn a ha=>by have:=s.lt' hn a ha;omega) _,fun hn a ha=>by have:=s.lt' hn a ha;omega⟩⟩
  have d6:decide (6<(n0:Int))=true:=by simp;omega
  obtain rfl:b=false:=by
   rw[Bool.eq_false_iff];intro ht;have h9:=((HB.out.1 ht).1).1;rw[HN.out]at h9;omega
  go_wp2_with (first
   |(refine wpList_load_row rfl 131 _ rfl (w.heap.size+1) rfl 131 (tz kind) (0,0) _ u underlying131 rfl HI ?_)
   |(refine wpList_store_row rfl 131 _ _ rfl w.heap.size (tz kind) rfl rfl 131 (tz 0) L HI rfl HO ?_))
  refine bodyPost_ret (bR results169 _ _ w.heap.size 131 (tz kind) _ _ rfl rfl (aY.setRow L (tz kind)) underlying131 rfl HI) rfl ⟨aL t (Nat.le_refl _) _,(tz kind),HT.size,HO.out,rfl,fun h=>Bool.noConfusion h⟩
end
section
def jE(kind:Int)(z:Nat->Int)(C:Array Value)(w:World):Prop:=
 if kind=5 then lD C 5 none 0 0 z 0 else if kind=6 then lD C 6 none 0 0 (fun _=>0) (z 0)else∃A c,lD C kind A (z 0).toNat c (fun _=>0) 0/\fI w A (z 0).toNat c (zL z)
theorem jE.below(h:jE kind z C w)(X:Below w w w'):jE kind z C w':=by
 unfold jE at h⊢;split
 .rename_i e;rwa [iP e]at h
 rename_i e;rw[iN e]at h;split
 .rename_i e6;rwa [iP e6]at h
 rename_i e6;rw[iN e6]at h;obtain⟨A,c,Z,Y⟩:=h;exact⟨A,c,Z,Y.below X⟩
theorem jE.size(h:jE kind z C w):C.size=19:=by
 unfold jE at h;split at h
 .exact lD.size h
 split at h
 .exact lD.size h
 obtain⟨A,c,Z,Y⟩:=h;exact Z.size
theorem jE.kind_(h:jE kind z C w):C[0]? =some (.int .i64 kind):=by
 unfold jE at h;split at h
 .rename_i e;rw[e];exact lD.kind_ h
 split at h
 .rename_i e;rw[e];exact lD.kind_ h
 obtain⟨A,c,Z,Y⟩:=h;exact Z.kind_
def iS(G:Nat)(kind:Int)(z:Nat->Int)(C:Array Value)(w:World):Prop:=
 if kind=5 then lD C 5 none 0 0 z 0 else if kind=6 then lD C 6 none 0 0 (fun _=>0) (z 0)else∃A c,lD C kind A (z 0).toNat c (fun _=>0) 0/\kC w G A (z 0).toNat c (zL z)
theorem iS.weak(h:iS G kind z C w):jE kind z C w:=by
 unfold iS at h;unfold jE;split
 .rename_i e;rwa [iP e]at h
 rename_i e;rw[iN e]at h;split
 .rename_i e6;rwa [iP e6]at h
 rename_i e6;rw[iN e6]at h;obtain⟨A,c,Z,Y⟩:=h;exact⟨A,c,Z,Y.sli⟩
theorem iS.keeps{S:Nat->Prop}(h:iS G kind z C w)(X:aD S w w')(W:∀b,G<=b->¬S b):iS G kind z C w':=by
 unfold iS at h⊢;split
 .rename_i e;rwa [iP e]at h
 rename_i e;rw[iN e]at h;split
 .rename_i e6;rwa [iP e6]at h
 rename_i e6;rw[iN e6]at h;obtain⟨A,c,Z,Y⟩:=h;exact⟨A,c,Z,Y.of_keeps X W⟩
theorem iS.mono{Z:Nat}(h:iS G kind z C w)(W:Z<=G):iS Z kind z C w:=by
 unfold iS at h⊢;split
 .rename_i e;rwa [iP e]at h
 rename_i e;rw[iN e]at h;split
 .rename_i e6;rwa [iP e6]at h
 rename_i e6;rw[iN e6]at h;obtain⟨A,c,Y,X⟩:=h;exact⟨A,c,Y,X.mono W⟩
theorem NS(A:Option Addr)(c:Nat)(z:Nat->Int)(kind:Int)(b:Bool)(w:World)(h:qY w A 17 c z)(Z:b=true↔cK kind z):
 Calls prog 169 #[kind,.slice A 17 c] w (pR b (iS w kind z) w):=by
 unfold cK at Z;by_cases Q:kind=5
 .subst Q;rw[iP rfl]at Z;exact(ED A c z b w h Z).mono fun e R ⟨X,C,W,V,U,T⟩=>⟨X,C,W,V,U,fun Y=>by unfold iS;rw[iP rfl];exact T Y⟩
 rw[iN Q]at Z;by_cases P:kind=6
 .subst P;rw[iP rfl]at Z;exact(DI A c z b w h Z).mono fun e R ⟨X,C,W,V,U,T⟩=>⟨X,C,W,V,U,fun Y=>by unfold iS;rw[iN aJ,iP rfl];exact T Y⟩
 rw[iN P]at Z;by_cases O:1<=kind/\kind<=4
 .have hb':b=true↔gW z/\(kind=4->iJ (zL z)=true):=by
   by_cases S:kind=4
   .rw[iP S]at Z;exact Z.trans ⟨fun h=>⟨h.1,fun _=>h.2⟩,fun h=>⟨h.1,h.2 S⟩⟩
   rw[iN S]at Z;exact Z.trans ⟨fun h=>⟨h.2.2,fun q=>absurd q S⟩,fun h=>⟨I,I,h.1⟩⟩
  exact(VA A c z kind I b w h hb').mono fun e R ⟨X,C,W,V,U,T⟩=>⟨X,C,W,V,U,fun Y=>by unfold iS;rw[iN Q,iN P];exact T Y⟩
 obtain rfl:b=false:=by
  rw[Bool.eq_false_iff];intro Y;have:=Z.1 Y;rw[iN I]at this;exact O ⟨this.1,I⟩
 exact(GZ A c z kind w h I).mono fun e R ⟨X,C,W,V,U,T⟩=>⟨X,C,W,V,U,fun Y=>Bool.noConfusion Y⟩
theorem jR(C:Array Value)(z:Nat->Int)(kind:Int)(r:Bool)(w:World)(h:cH C 17 z)(Z:r=true↔cK kind z):
 Calls prog 140 #[kind,.agg C] w fun e w'=>e=.returned r/\Below w w w':=by
 unfold cK at Z;have Y:∀{P:Prop} {e:Ending} {w':World},(r=true↔P)->(∃b,e=.returned (.bool b)/\(b=true↔P)/\Below w.heap.size w w')->e=.returned (.bool r)/\Below w.heap.size w w':=by
  rintro P e w' S ⟨b,rfl,R,Q⟩;obtain rfl:b=r:=by rw[Bool.eq_iff_iff,R,S]
  exact⟨rfl,Q⟩
 by_cases V:kind=5
 .subst V;rw[iP rfl]at Z;exact(EF C z w h).mono fun e w' X=>Y Z X
 rw[iN V]at Z;by_cases U:kind=6
 .subst U;rw[iP rfl]at Z;exact DW C z r w h Z
 rw[iN U]at Z;by_cases T:kind=4
 .subst T;rw[iP rfl]at Z;exact(GH C z w h).mono fun e w' X=>Y Z X
 rw[iN T]at Z;by_cases W:1<=kind/\kind<=3
 .have hr':=Z.trans ⟨fun h=>h.2.2,fun h=>⟨W.1,W.2,h⟩⟩;exact(GV C z kind w h I).mono fun e w' X=>Y hr' X
 obtain rfl:r=false:=by
  rw[Bool.eq_false_iff];intro O;have:=Z.1 O;exact W ⟨this.1,this.2.1⟩
 exact GJ C kind w I
theorem MJ(C:Array Value)(z:Nat->Int)(kind:Int)(w:World)(Y:∀i,i<17->0<=z i)(Z:cK kind z)(h:jE kind z C w):
 Calls prog 85 #[.agg C] w (oK z w):=by
 have X:∀{y:Nat->Int} {e:Ending} {W:World},(∀i,i<17->y i=z i)->oK y w e W->oK z w e W:=by
  rintro y e W M ⟨g,D,L,K,H,G,F⟩;exact⟨g,D,L,K,H.congr (fun i V=>(M i V).symm),G,F⟩
 unfold cK jE at*;by_cases R:kind=5
 .subst R;rw[iP rfl]at Z h;have T:=zR Y Z;exact(vC C none 0 0 z 0 w h (fun i V=>by have:=T i I;have:=Y i I;omega)).mono fun e W U=>X ((uE T Y Z.2.2).2 Z) U
 rw[iN R]at Z h;by_cases Q:kind=6
 .subst Q;rw[iP rfl]at Z h;have x:=Z.1;have O:=Y 0 I;exact(uY C none 0 0 (fun _=>0) (z 0) w h I).mono fun e W U=>X (fun i V=>(Z.2 i V).symm) U
 rw[iN Q]at Z h;obtain⟨A,c,E,B⟩:=h;have S:gW z:=by
  by_cases P:kind=4
  .rw[iP P]at Z;exact Z.1
  rw[iN P]at Z;exact Z.2.2
 have T:=CV Y S;have O:=S.1;have N:=Y 0 I;exact(wN C kind A (z 0).toNat c (zL z) (fun _=>0) 0 w E B I (fun i V=>by unfold zL;rw[pA _ _ _ V];exact Y (i+1) I) R Q).mono fun e W U=>X ((xV T Y rfl I).2 S) U
end
section
attribute [local go_sem↓] Go.wp_at_zero Go.wp_at_succ
theorem SW:(prog.info? 25).map (·.size)=some 32:=J
theorem Du(x:Int)(Z:0<=x)(Y:x<18446744073709551616):
 ∃(f:Bool) (cc vv:Int),yI x=f/\∀w:World,Calls prog 99 #[[x]] w fun e w'=>e=.returned (.tuple #[.agg #[cc,vv],gS (jN f 3)])/\Below w w w':=by
 obtain⟨n,rfl⟩:=Int.eq_ofNat_of_zero_le Z;refine⟨_,_,_,?_,fun w=>sN n (n/4294967296) (n%4294967296) w I rfl rfl⟩;unfold yI;rw[show(n:Int)/4294967296=((n/4294967296:Nat):Int) by omega,show(n:Int)%4294967296=((n%4294967296:Nat):Int) by omega]
theorem nC(C:Array Value)(z:Nat->Int)(r:Bool)(w:World)(h:cH C 32 z)(k:r=false)(p:Bool)(u:p=true↔cK (dH z) (oz z))(Q:p=false\/p=true/\16<=z 26\/p=true/\z 26<16/\1099511627776<z 28\/p=true/\z 26<16/\z 28<=1099511627776/\1099511627776<z 27):
 Calls prog 128 #[.agg C] w fun e w'=>e=.returned r/\Below w w w':=by
 obtain⟨D,B⟩:∃D,D=C.extract 1 18:=⟨_,rfl⟩;have T:cH D 17 (oz z):=by rw[B];exact h.cut 1 17 aJ
 have P:Hid ((prog.info? 25).map (·.size)=some C.size):=by show _=_;rw[SW,h.size]
 have U:∀W:World,Calls prog 141 #[.agg C] W fun e w'=>e=.returned (dH z)/\Below W W w':=fun W=>sH C z W h
 have A:∀W:World,Calls prog 142 #[.agg C] W fun e w'=>e=.returned (.agg D)/\Below W W w':=fun W=>oT C D z W h B
 have y:∀W:World,Calls prog 140 #[(dH z),.agg D] W fun e w'=>e=.returned p/\Below W W w':=fun W=>jR D (oz z) (dH z) p W T u
 have t:=aH U;have s:=aH A;have q:=aH y;have O:=h.bd 28 I;have N:=h.bd 27 I;have M:=h.bd 26 I;have j:=aH h;have Z:aY (w.alloc (.cells C 25)) w 25 C:=aY.new _ _ _;have L:=(Z.cell 28).trans (h.get 28 I);have H:=(Z.cell 27).trans (h.get 27 I);have G:=(Z.cell 26).trans (h.get 26 I);subst k;generalize Y:z 28=n at L O Q;generalize X:z 27=v at H N Q;generalize V:z 26=g at G M Q;have i:=aH Y;have f:=aH X;have d:=aH V;have S:=aH Z;have R:Below w w (w.alloc (.cells C 25)):=by go_grown
 have o:w<(w.alloc (.cells C 25)).heap.size:=by simp
 clear h Z B U A y Y X V T u;rcases Q with rfl|⟨rfl,x⟩|⟨rfl,x,l⟩|⟨rfl,x,l,c⟩
 all_goals
  try have F:¬g/16=0:=I
  try have F:g/16=0:=I
  try have E:decide (1099511627776<n)=true:=by simp;omega
  try have E:decide (1099511627776<n)=false:=by simp;omega
  try have m:decide (1099511627776<v)=true:=by simp;omega
  go_enter func128,ntmps128
  go_wp2_with fail;generalize w.alloc (.cells C 25)=b at*;refine bK 21 bN [] J J ?_
  iterate 21
   refine aC (fun K U=>?_)
   first
   |(refine .inl ?_
     apply Exists.intro;refine⟨cX,?_,U _ _ _ _ ?_⟩
     .simp only[bJ,bM];refine⟨?_,fun w9 hw9 _=>?_⟩
      .first|rfl|(go_simp;done)
      obtain⟨hc9,hf9⟩:=hw9.all
      first
      |(exact bT 25 _ rfl w rfl 25 C _ (S.out.below hw9.same S.out.lt) underlying25 rfl P.out ⟨⟨rfl,trivial⟩,aD.refl _ _⟩)
      |(go_simp
        first
        |exact⟨⟨rfl,trivial⟩,aD.refl _ _⟩
        |(go_at_call 141;exact bS (t.out _))|(go_at_call 142;exact bS (s.out _))|(go_at_call 140;exact bS (q.out _)))
     clear U K
     try simp only[Act.put,List.setIfInBounds_toArray,List.set_cons_zero,List.set_cons_succ])
   |(refine .inr (.inl ⟨?_,U _ _ _ _ ?_⟩)
     .simp only[bM]
      first|rfl|(go_simp;done)
     clear U K
     try simp only[Act.put,List.setIfInBounds_toArray,List.set_cons_zero,List.set_cons_succ])
  refine cP ?_;simp only[bM];intro w9 hw9 _;obtain⟨hc9,hf9⟩:=hw9.all;simp only[List.drop_succ_cons,List.drop_zero,List.drop_nil];go_wp2;go_ret;exact⟨rfl,R.trans (hw9.same.mono R.size)⟩
theorem AH(C:Array Value)(z:Nat->Int)(r:Bool)(w:World)(h:cH C 32 z)(hr:r=true↔eE z)(hd:FM z):
 Calls prog 128 #[.agg C] w fun e w'=>e=.returned r/\Below w w w':=by
 obtain⟨D,hD⟩:=aO (C.extract 1 18);have zm:cH D 17 (oz z):=by rw[hD];exact h.cut 1 17 aJ
 have yz:Hid ((prog.info? 25).map (·.size)=some C.size):=by show _=_;rw[SW,h.size]
 have hK:∀W:World,Calls prog 141 #[.agg C] W fun e w'=>e=.returned (dH z)/\Below W W w':=fun W=>sH C z W h
 have hO:∀W:World,Calls prog 142 #[.agg C] W fun e w'=>e=.returned (.agg D)/\Below W W w':=fun W=>oT C D z W h hD
 have hT:∀W:World,Calls prog 140 #[(dH z),.agg D] W fun e w'=>e=.returned true/\Below W W w':=fun W=>jR D (oz z) (dH z) true W zm ⟨fun _=>hd.1,fun _=>rfl⟩
 have HK:=aH hK;have HO:=aH hO;have HT:=aH hT;have yy:=h.bd 28 I;have yx:=h.bd 27 I;have yw:=h.bd 26 I;have HC:=aH h;have q:aY (w.alloc (.cells C 25)) w 25 C:=aY.new _ _ _;have zl:=(q.cell 28).trans (h.get 28 I);have zk:=(q.cell 27).trans (h.get 27 I);have zj:=(q.cell 26).trans (h.get 26 I);have yv:=hd.2.2.1;have yu:=hd.2.2.2;have yt:=hd.2.1;have c:=aH hr;have ys:=aH hd;clear hr hd;generalize zy:z 28=n at zl yy yv;generalize zx:z 27=v at zk yx yu;generalize zw:z 26=g at zj yw yt;have HN:=aH zy;have HV:=aH zx;have HG:=aH zw;have L:=aH q;have zv:Below w w (w.alloc (.cells C 25)):=by go_grown
 have b:w<(w.alloc (.cells C 25)).heap.size:=by simp
 clear h q hD hK hO hT zy zx zw zm;have yr:g/16=0:=I;have yq:decide (1099511627776<n)=false:=by simp;omega
 have yp:decide (1099511627776<v)=false:=by simp;omega
 go_enter func128,ntmps128
 go_wp2_with fail;generalize w.alloc (.cells C 25)=W0 at*;refine aA 21 ?_
 iterate 21
  first
  |(refine Kf ?_;constructor
    .intro w9 hw9 hc9 hf9
     first
     |(exact bT 25 _ rfl w rfl 25 C _ (L.below hw9.same L.lt) underlying25 rfl yz aE)
     |(go_simp
       first
       |exact aE
       |(go_at_call 141;exact bS (HK.out _))|(go_at_call 142;exact bS (HO.out _))|(go_at_call 140;exact bS (HT.out _))))
  |refine aU ?_
 refine bZ ?_;intro w9 hw9 hc9 hf9;simp only[List.drop_succ_cons,List.drop_zero,List.drop_nil];clear zj zk zl yr yp yq;have K:=aH (zv.trans (hw9.same.mono zv.size));have zu:=L.below hw9.same L.lt;clear hc9 hf9 hw9 L zv b;have L:=aH zu;have b:=zu.lt;clear zu;go_wp2
 go_loopw [35] (fun i wr=>∃k:Nat,k<=4/\i=.int .i64 k/\Below w9 w9 wr/\Hid (∀t,t<k->pV z t)) (fun i _=>4-(intOf i).toNat)
 case atStart=>exact⟨0,I,rfl,Below.refl _ _,aH fun t Q=>absurd Q I⟩
 case round=>
  obtain⟨k,hk,rfl,hb,H⟩:=hrel;have ye:w.heap.size<wr:=by have:=hb.size;omega
  have zt:=aH (L.below hb b);by_cases yf:k<4
  .have q1:(k:Int)<4:=I;have zi:=HC.bd (18+k) I;have yc:=HC.bd (22+k) I;have cx:wr.cell? (w.heap.size,18+k)=[z (18+k)]:=(zt.cell _).trans (HC.get _ I);have cy:wr.cell? (w.heap.size,22+k)=[z (22+k)]:=(zt.cell _).trans (HC.get _ I);obtain⟨f,cc,vv,zd,l⟩:=Du (z (18+k)) zi.1 zi.2;have zh:BL z k↔((f=true\/z (18+k)=0)/\z (22+k)<=n/\(z (18+k)=0↔z (22+k)=0)):=by
    unfold BL;rw[zd,HN.out]
   generalize zb:z (18+k)=x at*;generalize za:z (22+k)=y at*;have yb:=aH zb;have a:=aH za;have P:=aH zh;have yo:=aH l;have R:=yf;clear zb za zh l zd;have yn:IntKind.i64.wrap (18+(k:Int))=((18+k:Nat):Int):=by rw[IntWalk.i64_in _ I];omega
   have ym:IntKind.i64.wrap (22+(k:Int))=((22+k:Nat):Int):=by rw[IntWalk.i64_in _ I];omega
   have yl:((18+k:Nat):Int)<32:=I;have yk:((22+k:Nat):Int)<32:=I;generalize hs:18+k=s at*;generalize M:22+k=u at*;go_wp2
   go_quiet (fail)
   clear cx cy yn ym yl yk;have yd:=aH hs;have G:=aH M;clear hs M;go_wp2_with fail;refine(yo.out _).mono ?_;rintro e w1 ⟨rfl,zc⟩;have zs:=aH (hb.trans (((cZ (Below.refl _ wr) _).trans zc).mono hb.size));have yj:=zs.size;have zg:=aH K;have O:Hid (Below w w (w1.alloc (.cells #[cc,vv] 44))):=aH ((K.trans (zs.mono K.size)).alloc (by have:=K.size;omega) _);have zr:Hid (Below w9 w9 (w1.alloc (.cells #[cc,vv] 44))):=aH (zs.alloc yj _);clear hb zc;cases f
   .rw[show gS (jN false 3)=.iface 53 (3:Int) by simp [jN,gS]];by_cases X:x=0
    .have dx:(x==0)=true:=by simpa using X
     have zq:(x !=0)=false:=by simpa using X
     have U:=aH X;clear X;by_cases Z:y=0
     .have dy:(y==0)=true:=by simpa using Z
      have p:(y !=0)=false:=by simpa using Z
      have Y:=aH Z;have dc:decide (n<y)=false:=by simp;omega
      clear Z;go_wp2;clear O
      go_loopw [70] (fun j wq=>∃m:Nat,m<=k/\j=.int .i64 m/\Below w9 w9 wq/\Hid (∀u,u<m->y≠0->z (22+u)≠y)) (fun j _=>k-(intOf j).toNat)
      case atStart=>exact⟨0,I,rfl,zr.out,aH fun u M=>absurd M I⟩
      case round=>
       rename World=>wq
       obtain⟨m,hm,rfl,N,T⟩:=hrel;by_cases zn:m<k
       .have q2:(m:Int)<k:=I;go_wp2;go_roundw
        case rel=>exact⟨m+1,I,aG,N,aH fun u M h=>absurd Y h⟩
        case measure=>simp [intOf];omega
       obtain rfl:m=k:=I;go_wp2;go_roundw
       case rel=>exact⟨m+1,I,aG,N,aH fun t Q=>by
        rcases Nat.lt_or_ge t m with h1|h1
        .exact H t h1
        obtain rfl:t=m:=I;refine⟨P.out.2 (by have:=U.out;have:=Y.out;simp;first|omega|(have:=V.out;omega)),fun u M=>?_⟩;rw[G.out,a.out];exact T u M⟩
       case measure=>simp [intOf];omega
     have dy:(y==0)=false:=by simpa using Z
     have p:(y !=0)=true:=by simpa using Z
     have Y:=aH Z;clear Z;by_cases F:y<=n
     .have dc:decide (n<y)=false:=by simp;omega
      have V:=aH F;clear F;go_wp2;obtain rfl:r=false:=by
       rw[Bool.eq_false_iff];intro Q;obtain⟨S,E,B⟩:=P.out.1 ((c.out.1 Q).2.1 k R).1
       try simp at S
       have a1:=U.out
       first|omega|(have a2:=Y.out;first|omega|(have a3:=V.out;omega))
      go_ret;exact⟨rfl,O.out⟩
     have dc:decide (n<y)=true:=by simp;omega
     have V:=aH F;clear F;go_wp2;obtain rfl:r=false:=by
      rw[Bool.eq_false_iff];intro Q;obtain⟨S,E,B⟩:=P.out.1 ((c.out.1 Q).2.1 k R).1
      try simp at S
      have a1:=U.out
      first|omega|(have a2:=Y.out;first|omega|(have a3:=V.out;omega))
     go_ret;exact⟨rfl,O.out⟩
    have dx:(x==0)=false:=by simpa using X
    have zq:(x !=0)=true:=by simpa using X
    have U:=aH X;clear X;go_wp2;obtain rfl:r=false:=by
     rw[Bool.eq_false_iff];intro Q;obtain⟨S,E,B⟩:=P.out.1 ((c.out.1 Q).2.1 k R).1
     try simp at S
     have a1:=U.out
     first|omega|(have a2:=Y.out;first|omega|(have a3:=V.out;omega))
    go_ret;exact⟨rfl,O.out⟩
   rw[show gS (jN true 3)=.nilIface by simp [jN,gS]];by_cases X:x=0
   .have dx:(x==0)=true:=by simpa using X
    have zq:(x !=0)=false:=by simpa using X
    have U:=aH X;clear X;by_cases Z:y=0
    .have dy:(y==0)=true:=by simpa using Z
     have p:(y !=0)=false:=by simpa using Z
     have Y:=aH Z;have dc:decide (n<y)=false:=by simp;omega
     clear Z;go_wp2;clear O
     go_loopw [70] (fun j wq=>∃m:Nat,m<=k/\j=.int .i64 m/\Below w9 w9 wq/\Hid (∀u,u<m->y≠0->z (22+u)≠y)) (fun j _=>k-(intOf j).toNat)
     case atStart=>exact⟨0,I,rfl,zr.out,aH fun u M=>absurd M I⟩
     case round=>
      rename World=>wq
      obtain⟨m,hm,rfl,N,T⟩:=hrel;by_cases zn:m<k
      .have q2:(m:Int)<k:=I;go_wp2;go_roundw
       case rel=>exact⟨m+1,I,aG,N,aH fun u M h=>absurd Y h⟩
       case measure=>simp [intOf];omega
      obtain rfl:m=k:=I;go_wp2;go_roundw
      case rel=>exact⟨m+1,I,aG,N,aH fun t Q=>by
       rcases Nat.lt_or_ge t m with h1|h1
       .exact H t h1
       obtain rfl:t=m:=I;refine⟨P.out.2 (by have:=U.out;have:=Y.out;simp;first|omega|(have:=V.out;omega)),fun u M=>?_⟩;rw[G.out,a.out];exact T u M⟩
      case measure=>simp [intOf];omega
    have dy:(y==0)=false:=by simpa using Z
    have p:(y !=0)=true:=by simpa using Z
    have Y:=aH Z;clear Z;by_cases F:y<=n
    .have dc:decide (n<y)=false:=by simp;omega
     have V:=aH F;clear F;go_wp2;obtain rfl:r=false:=by
      rw[Bool.eq_false_iff];intro Q;obtain⟨S,E,B⟩:=P.out.1 ((c.out.1 Q).2.1 k R).1
      try simp at S
      have a1:=U.out
      first|omega|(have a2:=Y.out;first|omega|(have a3:=V.out;omega))
     go_ret;exact⟨rfl,O.out⟩
    have dc:decide (n<y)=true:=by simp;omega
    have V:=aH F;clear F;go_wp2;obtain rfl:r=false:=by
     rw[Bool.eq_false_iff];intro Q;obtain⟨S,E,B⟩:=P.out.1 ((c.out.1 Q).2.1 k R).1
     try simp at S
     have a1:=U.out
     first|omega|(have a2:=Y.out;first|omega|(have a3:=V.out;omega))
    go_ret;exact⟨rfl,O.out⟩
   have dx:(x==0)=false:=by simpa using X
   have zq:(x !=0)=true:=by simpa using X
   have U:=aH X;clear X;by_cases Z:y=0
   .have dy:(y==0)=true:=by simpa using Z
    have p:(y !=0)=false:=by simpa using Z
    have Y:=aH Z;have dc:decide (n<y)=false:=by simp;omega
    clear Z;go_wp2;obtain rfl:r=false:=by
     rw[Bool.eq_false_iff];intro Q;obtain⟨S,E,B⟩:=P.out.1 ((c.out.1 Q).2.1 k R).1
     try simp at S
     have a1:=U.out
     first|omega|(have a2:=Y.out;first|omega|(have a3:=V.out;omega))
    go_ret;exact⟨rfl,O.out⟩
   have dy:(y==0)=false:=by simpa using Z
   have p:(y !=0)=true:=by simpa using Z
   have Y:=aH Z;clear Z;by_cases F:y<=n
   .have dc:decide (n<y)=false:=by simp;omega
    have V:=aH F;clear F;go_wp2;clear O
    go_loopw [70] (fun j wq=>∃m:Nat,m<=k/\j=.int .i64 m/\Below w9 w9 wq/\Hid (∀u,u<m->y≠0->z (22+u)≠y)) (fun j _=>k-(intOf j).toNat)
    case atStart=>exact⟨0,I,rfl,zr.out,aH fun u M=>absurd M I⟩
    case round=>
     rename World=>wq
     obtain⟨m,hm,rfl,N,T⟩:=hrel;by_cases zn:m<k
     .have q2:(m:Int)<k:=I;have cz:wq.cell? (w.heap.size,22+m)=[z (22+m)]:=((L.below N b).cell _).trans (HC.get _ I);have f4:(m:Int)<4:=I;have em:IntKind.i64.wrap (22+(m:Int))=((22+m:Nat):Int):=by rw[IntWalk.i64_in _ I];omega
      generalize d:z (22+m)=v9 at cz;have o:=aH d;clear d;by_cases A:v9=y
      .have d9:(v9==y)=true:=by simpa using A
       have zp:=aH A;clear A;go_wp2;obtain rfl:r=false:=by
        rw[Bool.eq_false_iff];intro Q;have h9:=((c.out.1 Q).2.1 k R).2 m zn;rw[G.out,a.out,o.out]at h9;exact h9 Y zp
       go_ret;exact⟨rfl,zg.trans (N.mono zg.size)⟩
      have d9:(v9==y)=false:=by simpa using A
      have zp:=aH A;clear A;go_wp2;go_roundw
      case rel=>exact⟨m+1,I,aG,N,aH fun u M h=>by
       rcases Nat.lt_or_ge u m with h1|h1
       .exact T u h1 h
       obtain rfl:u=m:=I;rw[o.out];exact zp⟩
      case measure=>simp [intOf];omega
     obtain rfl:m=k:=I;go_wp2;go_roundw
     case rel=>exact⟨m+1,I,aG,N,aH fun t Q=>by
      rcases Nat.lt_or_ge t m with h1|h1
      .exact H t h1
      obtain rfl:t=m:=I;refine⟨P.out.2 (by have:=U.out;have:=Y.out;simp;first|omega|(have:=V.out;omega)),fun u M=>?_⟩;rw[G.out,a.out];exact T u M⟩
     case measure=>simp [intOf];omega
   have dc:decide (n<y)=true:=by simp;omega
   have V:=aH F;clear F;go_wp2;obtain rfl:r=false:=by
    rw[Bool.eq_false_iff];intro Q;obtain⟨S,E,B⟩:=P.out.1 ((c.out.1 Q).2.1 k R).1
    try simp at S
    have a1:=U.out
    first|omega|(have a2:=Y.out;first|omega|(have a3:=V.out;omega))
   go_ret;exact⟨rfl,O.out⟩
  obtain rfl:k=4:=I;have zf:=aH H;have ze:=aH hb;clear H hb;go_wp2
  go_loop [87] (fun i=>∃m:Nat,m<=3/\i=.int .i64 m/\Hid (∀u,u<m->z (29+u)=0)) (fun i=>3-(intOf i).toNat)
  case atStart=>exact⟨0,I,rfl,aH fun u M=>absurd M I⟩
  case round=>
   obtain⟨m,hm,rfl,zz⟩:=hrel;by_cases ya:m<3
   .have q3:(m:Int)<3:=I;have cz:wr.cell? (w.heap.size,29+m)=[z (29+m)]:=(zt.cell _).trans (HC.get _ I);generalize d:z (29+m)=v9 at cz;have o:=aH d;clear d;by_cases h0:v9=0
    .have d9:(v9 !=0)=false:=by simpa using h0
     have zo:=aH h0;clear h0;go_wp2
     go_round
     case rel=>exact⟨m+1,I,aG,aH fun u M=>by
      rcases Nat.lt_or_ge u m with h1|h1
      .exact zz u h1
      obtain rfl:u=m:=I;rw[o.out];exact zo⟩
     case measure=>simp [intOf];omega
    have d9:(v9 !=0)=true:=by simpa using h0
    have zo:=aH h0;clear h0;go_wp2;obtain rfl:r=false:=by
     rw[Bool.eq_false_iff];intro Q;obtain⟨_,_,yi,yh,yg⟩:=c.out.1 Q;have h9:=o.out;have h8:=zo.out;have:m=0\/m=1\/m=2:=I;rcases this with rfl|rfl|rfl
     .exact h8 (h9.symm.trans yi)
     .exact h8 (h9.symm.trans yh)
     exact h8 (h9.symm.trans yg)
    go_ret;exact⟨rfl,K.trans (ze.mono K.size)⟩
   obtain rfl:m=3:=I;go_wp2;obtain rfl:r=true:=c.out.2 ⟨ys.out,zf.out,zz.out 0 I,zz.out 1 I,zz.out 2 I⟩;go_ret;exact⟨rfl,K.trans (ze.mono K.size)⟩
theorem lP(C:Array Value)(z:Nat->Int)(r:Bool)(w:World)(h:cH C 32 z)(W:r=true↔eE z):
 Calls prog 128 #[.agg C] w fun e w'=>e=.returned r/\Below w w w':=by
 have X:¬FM z->r=false:=fun V=>by
  rw[Bool.eq_false_iff];intro U;exact V (W.1 U).1
 by_cases Y:cK (dH z) (oz z)
 .by_cases h2:z 26<16
  .by_cases h3:z 28<=1099511627776
   .by_cases h4:z 27<=1099511627776
    .exact AH C z r w h W ⟨Y,h2,h3,h4⟩
    exact nC C z r w h (X fun Z=>h4 Z.2.2.2) true (by simp [Y]) (by simp;omega)
   exact nC C z r w h (X fun Z=>h3 Z.2.2.1) true (by simp [Y]) (by simp;omega)
  exact nC C z r w h (X fun Z=>h2 Z.2.1) true (by simp [Y]) (by simp;omega)
 exact nC C z r w h (X fun Z=>Y Z.1) false (by simp [Y]) (.inl rfl)
