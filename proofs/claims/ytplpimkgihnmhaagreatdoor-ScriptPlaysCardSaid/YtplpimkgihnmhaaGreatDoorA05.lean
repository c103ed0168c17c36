/-
  Parts of a proof. For all values.
-/
import Derived.Test.YtplpimkgihnmhaaGreatDoorA04
set_option maxRecDepth 100000
set_option maxHeartbeats 16000000
set_option linter.all false
namespace Go.Proofs.YtplpimkgihnmhaaGreatDoor
open Go.Proofs.Tryz Go.RowKit
variable{C:Array Value}{w:World}{z:Nat->Int}{v k a:Int}{ts:TypeId}{i:Nat}{P:Program}{o:Oper}
section
attribute [local go_sem↓] Go.wp_at_zero Go.wp_at_succ
def AS(key n:Nat):List Int:=(List.range n).map fun k=>(dR key k:Int)
theorem OD(key n:Nat):AS key (n+1)=AS key n++[(dR key n:Int)]:=by
 unfold AS;rw[List.range_succ,List.map_append];rfl
theorem wP(key n j:Nat)(Z:j<n):(AS key n)[j]?.getD 0=dR key j:=by
 unfold AS;rw[List.getElem?_map,List.getElem?_range Z];rfl
theorem XH(key n:Nat):nJ (AS key n):=fun i=>by
 rcases Nat.lt_or_ge i n with h|h
 .rw[wP key n i h];have:=mY key i;omega
 rw[List.getElem?_eq_none (by simp [AS];omega)];decide
theorem yQ(key i:Nat)(Z:i<8):∃j,j<8/\dR key j=i:=by
 refine⟨(i+8-key*5%8)%8,Nat.mod_lt _ aJ,?_⟩;unfold dR;omega
theorem LQ(key:Nat)(w:World)(L:key<=1000):
 Calls prog 203 #[key] w fun e w'=>∃A c,e=.returned (.slice A 8 c)/\kC w' w A 8 c (AS key 8)/\Below w w w':=by
 have S:(key:Int)<=1000:=I
 go_enter func203,ntmps203
 go_wp2
 go_loopw [3,5] (fun s i wr=>∃k:Nat,k<=8/\i=.int .i64 k/\Below w w wr/\Hid (∃A c,s=.slice A k c/\jX wr w A k c (AS key k))) (fun _ i _=>8-(intOf i).toNat)
 case atStart=>exact⟨0,I,rfl,Below.refl _ _,aH ⟨none,0,rfl,jX.nil _ _⟩⟩
 case round=>
  obtain⟨k,R,rfl,V,X⟩:=hrel;obtain⟨A,c,rfl,Z⟩:=X.out;have T:=aH Z;clear Z X;have W:=V.size;by_cases Q:k<8
  .have b1:(k:Int)<8:=I;have P:((key:Int)*5%8+k)%8=((dR key k:Nat):Int):=by unfold dR;omega
   go_wp2_with (at_builtin;refine dM rfl (.tmp 8) (.tmp 15) rfl (B:=w) (v:=((dR key k:Nat):Int)) rfl (T.alloc _) rfl ((aY.new _ _ _).cell 0) I (by simp;omega) ?_;intro O N M Y U)
   go_roundw
   case rel=>exact⟨k+1,I,aG,(V.alloc W _).trans U,aH ⟨_,_,rfl,by rw[OD];exact Y⟩⟩
   case measure=>simp [intOf];omega
  obtain rfl:k=8:=I;go_wp2;go_ret;exact⟨A,c,rfl,T.slo (XH key 8),V⟩
theorem rP(C:Array Value)(z:Nat->Int)(w:World)(h:eB C 16 z):
 Calls prog 204 #[.agg C] w fun e w'=>e=.returned (eV z 8)/\Below w w w':=by
 have H:=aH h;clear h;have T:Hid (aY (w.alloc (.cells C 129)) w 129 C):=aY.new _ _ _
 go_enter func204,ntmps204
 go_wp2
 go_loopw [3,5] (fun n i wr=>∃k:Nat,k<=8/\i=.int .i64 k/\n=.int .i64 (eV z k)/\Below (w,1) (w.alloc (.cells C 129)) wr) (fun _ i _=>8-(intOf i).toNat)
 case atStart=>exact⟨0,I,rfl,rfl,Below.refl _ _⟩
 case round=>
  obtain⟨k,O,rfl,rfl,U⟩:=hrel;by_cases P:k<8
  .have b1:(k:Int)<8:=I;have S:wr.cell? (w.heap.size,k*2)=(z (2*k)):=(U.cell (p:=⟨w.heap.size,k*2,none⟩) (by simp)).trans (by rw[Nat.mul_comm,T.cell,H.get _ I]);have W:=lU z k;have Q:=sQ z k;have V:=aH W;clear W;generalize N:z (2*k)=y at*;by_cases Z:y=0
   .have R:(y !=0)=false:=by simpa using Z
    have Y:eV z (k+1)=eV z k:=by rw[V.out,iN (by simpa using Z)];omega
    have X:=aH Y;clear Y Z;go_wp2;go_roundw
    case rel=>exact⟨k+1,I,aG,by rw[X.out],U⟩
    case measure=>simp [intOf];omega
   have R:(y !=0)=true:=by simpa using Z
   have Y:eV z (k+1)=eV z k+1:=by rw[V.out,iP (by simpa using Z)]
   have X:=aH Y;clear Y Z;go_wp2;go_roundw
   case rel=>exact⟨k+1,I,aG,by rw[X.out],U⟩
   case measure=>simp [intOf];omega
  obtain rfl:k=8:=I;go_wp2;go_ret;exact⟨rfl,Below.trans (by go_grown) (U.mono I)⟩
theorem pD(h:eB C 16 z)(k:Nat)(W:k<8)(w:World):(Instr.index 129 (.agg C) k).run prog w=.ok (.agg #[(z (2*k)),(z (2*k+1))]) w:=by
 have Z:=h.pair (2*k) I;have V:(k:Int)<8:=I;have Y:∀w,(sizeOf 127).run prog w=.ok 2 w:=fun w=>by kernel_rfl
 have X:∀w,(isAgg 127).run prog w=.ok true w:=fun w=>by kernel_rfl
 simp [Instr.index,asIntOf,run_underlying underlying129,part,X,Y];rw[iP W,Nat.mul_comm k 2,Z]
theorem PB{key j:Nat}(W:j<8)(U:i<8)(V:z (2*i)=key)(Z:∀Y,Y<j->gL z key Y=false)(h:dR key j=i):kF z key=i:=by
 have X:gL z key j=true:=by unfold gL;rw[h];simp [V]
 unfold kF;rw[mC W X Z];show(dR key j:Int)=i;rw[h]
theorem JH{key j:Nat}(X:j<8)(Z:∀Y,Y<j->gL z key Y=false)(W:gL z key j=true)(h:dR key j≠i):kF z key≠i:=by
 unfold kF;rw[mC X W Z];simp only[ne_eq];omega
theorem NY{key:Nat}(V:i<8)(U:z (2*i)=key)(Z:∀Y,Y<8->gL z key Y=false):False:=by
 obtain⟨j,X,W⟩:=yQ key i V;have:=Z j X;unfold gL at this;rw[W]at this;simp [U]at this
theorem AX(C:Array Value)(z:Nat->Int)(w:World)(h:eB C 16 z):
 Calls prog 192 #[.agg C] w fun e w'=>e=.returned (cS z)/\Below w w w':=by
 have H:=aH h;have hs:=h.size;have hi:(prog.info? 129).map (·.size)=some C.size:=by rw[hs];kernel_rfl
 have HI:=aH hi;clear hi hs h;have HU:Hid (prog.underlying 129=_):=underlying129;have K:Hid (aY (w.alloc (.cells C 129)) w 129 C):=aY.new _ _ _
 go_enter func192,ntmps192
 go_wp2_with (refine wpList_load_row rfl 129 _ rfl w rfl 129 C (0,0) _ ?_ HU rfl ?_ ?_;(exact K);(exact HI))
 go_loopw [8] (fun i wr=>∃k:Nat,k<=8/\i=.int .i64 k/\Below (w,1) (w.alloc (.cells C 129)) wr/\Hid (∀j,j<k->iL z j=true)) (fun i _=>8-(intOf i).toNat)
 case atStart=>exact⟨0,I,rfl,Below.refl _ _,fun j f=>absurd f I⟩
 case round=>
  obtain⟨k,hk,rfl,D,X⟩:=hrel
  rename World=>w5
  have zn:w.heap.size+1<=w5:=by have:=D.size;simpa using this
  by_cases Q:k<8
  .have b1:(k:Int)<8:=I;have zz:=pD H k Q;have zy:=H.bd (2*k) I;have B:Hid (iL z k=decide (0<=z (2*k)/\z (2*k)<=1000/\0<=z (2*k+1)/\z (2*k+1)<=4294967295/\(z (2*k)=0->z (2*k+1)=0)/\(z (2*k)≠0->kF z (z (2*k)).toNat=k))):=rfl;have A:Hid (iL z k=false->cS z=false):=fun h=>AD Q h
   obtain⟨y,hy⟩:=aP (z (2*k));have HY:=aH hy;rw[hy]at B zz zy;clear hy;generalize hv:z (2*k+1)=v at*;clear hv;by_cases hq:0<=y/\y<=1000/\0<=v/\v<=4294967295/\(y=0->v=0)
   .obtain⟨q1,q2,q3,q4,q5⟩:=hq;have zm:bV y 0 1000=true:=by simp [bV];omega
    have zl:bV v 0 4294967295=true:=by simp [bV];omega
    obtain⟨key,rfl⟩:=Int.eq_ofNat_of_zero_le q1;by_cases c:key=0
    .subst c;have zx:=q5 rfl;subst zx
     go_wp2_with (go_at_call 55;refine(bQ _ _ _ _).mono ?_;rintro e w' ⟨rfl,rfl⟩)
     go_roundw
     case rel=>exact⟨k+1,I,aG,D.alloc I _,aH fun j f=>by
      rcases Nat.lt_or_ge j k with h|h
      .exact X j h
      obtain rfl:j=k:=I;rw[B.out];simp⟩
     case measure=>simp [intOf];omega
    have zk:((key:Int)==0)=false:=by simp;omega
    have zw:key<=1000:=I;have hR:=LQ key;have x:=aH hR;clear hR
    go_wp2_with (first
     |(go_at_call 55;refine(bQ _ _ _ _).mono ?_;rintro e w' ⟨rfl,rfl⟩)
     |(go_at_call 203;refine(x.out _ zw).mono ?_;rintro e F ⟨A2,c2,rfl,L,Y⟩))
    have u:=HY.out;have t:=aH u;clear u;obtain⟨b,zq,rfl,d,W⟩:=L.sli.at_ I;have HC:=aH W;clear W;have zj:w5.heap.size+1<=F.heap.size:=by have:=Y.size;simpa using this
    have s:=Y.mono (show w.heap.size+1<=_ by simp;omega);have N:Below (w,1) w5 (w5.alloc (.cells #[key,v] 127)):=(Below.refl _ _).alloc I _;have S:=D.trans (N.trans s);have q:F.cell? w5=key:=(Y.cell (p:=⟨w5.heap.size,0,none⟩) (by simp)).trans ((aY.new w5 127 #[key,v]).cell 0);clear L Y s N
    go_loopw [39] (fun jv wr=>∃j:Nat,j<=8/\jv=.int .i64 j/\Below F F wr/\Hid (∀T,T<j->gL z key T=false)) (fun jv _=>8-(intOf jv).toNat)
    case atStart=>exact⟨0,I,rfl,Below.refl _ _,fun j f=>absurd f I⟩
    case round=>
     obtain⟨j,f,rfl,Z,R⟩:=hrel;by_cases P:j<8
     .have b2:(j:Int)<8:=I;have zi:=mY key j;have c1:=(Z.cell (p:=⟨b,zq+j,none⟩) d).trans (by rw[HC.out j P,wP key 8 j P]);have c2:wr.cell? w5=key:=(Z.cell (p:=⟨w5.heap.size,0,none⟩) (by show w5.heap.size<F;omega)).trans q;have c3:wr.cell? (w.heap.size,dR key j*2)=(z (2*dR key j)):=(Z.cell (p:=⟨w.heap.size,dR key j*2,none⟩) (by show w.heap.size<F;omega)).trans ((S.cell (p:=⟨w.heap.size,dR key j*2,none⟩) (by simp)).trans (by rw[Nat.mul_comm,K.cell,H.get _ I]));have HH:Hid (gL z key j=decide (z (2*dR key j)=key\/z (2*dR key j)=0)):=rfl;have zv:Hid (dR key j=k->kF z key=k):=fun hh=>PB P Q t R hh
      have zu:Hid (gL z key j=true->dR key j≠k->kF z key≠k):=fun h1 h2=>JH P R h1 h2
      have s1:w.heap.size<wr:=by have:=Z.size;omega
      have s2:w5.heap.size<wr:=by have:=Z.size;omega
      generalize hr:dR key j=r at*;have HR:=aH hr;clear hr;have zh:(r:Int)<8:=I;by_cases V:r=k
      .have d1:((r:Int)==k)=true:=by simp [V]
       have o:=zv.out V;have zt:=aH o;clear o V;go_wp2;go_roundw
       case rel=>exact⟨k+1,I,aG,S.trans (Z.mono I),aH fun T zp=>by
        rcases Nat.lt_or_ge T k with h|h
        .exact X T h
        obtain rfl:T=k:=I;rw[B.out];have:=zt.out;simp [this];omega⟩
       case measure=>simp [intOf];omega
      have d1:((r:Int)==k)=false:=by simp;omega
      generalize zo:z (2*r)=O at*;clear zo;by_cases a:O=key\/O=0
      .have hne:kF z key≠k:=zu.out (by rw[HH.out];simpa using a) V;have n:cS z=false:=A.out (by rw[B.out];simp [c,hne]);have HF:=aH n;clear n hne V;have zs:=aH a;clear a;by_cases U:O=0
       .have d2:(O==0)=true:=by simpa using U
        clear U;go_wp2;refine aA 14 ?_
        iterate 14
         first
         |(refine Kf ?_;constructor
           .intro w9 hw9 hc9 hf9;go_simp
            first
            |exact aE)
         |refine aU ?_
        refine bZ ?_;intro w9 hw9 hc9 hf9;go_wp2
        apply_assumption
        go_wp2;go_ret;exact⟨dF (by rw[HF.out]),Below.trans (by go_grown) ((S.trans ((Z.trans (hw9.same.mono Z.size)).mono I)).mono I)⟩
       have d2:(O==0)=false:=by simpa using U
       have d3:O=key:=by rcases zs.out with h|h
                         .exact h
                         exact absurd h U
       have d4:(O==(key:Int))=true:=by simpa using d3
       clear U d3;go_wp2;refine aA 14 ?_
       iterate 14
        first
        |(refine Kf ?_;constructor
          .intro w9 hw9 hc9 hf9;go_simp
           first
           |exact aE)
        |refine aU ?_
       refine bZ ?_;intro w9 hw9 hc9 hf9;go_wp2
       apply_assumption
       go_wp2;go_ret;exact⟨dF (by rw[HF.out]),Below.trans (by go_grown) ((S.trans ((Z.trans (hw9.same.mono Z.size)).mono I)).mono I)⟩
      have M:gL z key j=false:=by rw[HH.out];simpa using a
      have m:=aH M;have d2:(O==0)=false:=by simp;omega
      have d4:(O==(key:Int))=false:=by simp;omega
      clear M a;go_wp2;refine aA 14 ?_
      iterate 14
       first
       |(refine Kf ?_;constructor
         .intro w9 hw9 hc9 hf9;go_simp
          first
          |exact aE)
       |refine aU ?_
      refine bZ ?_;intro w9 hw9 hc9 hf9;go_wp2
      apply_assumption
      go_wp2;go_roundw
      case rel=>exact⟨j+1,I,aG,Z.trans (hw9.same.mono Z.size),aH fun T zp=>by
       rcases Nat.lt_or_ge T j with h|h
       .exact R T h
       obtain rfl:T=j:=I;exact m⟩
      case measure=>simp [intOf];omega
     exfalso;obtain rfl:j=8:=I;exact NY Q t R
   have n:cS z=false:=A.out (by rw[B.out];simp only[decide_eq_false_iff_not];intro h;exact hq ⟨h.1,h.2.1,h.2.2.1,h.2.2.2.1,h.2.2.2.2.1⟩);have HF:=aH n;clear n;have HQ:=aH hq;clear hq
   go_wp2_with (go_at_call 55;refine(bQ _ _ _ _).mono ?_;rintro e w' ⟨rfl,rfl⟩)
   all_goals first
    |(go_ret
      exact⟨dF (by rw[HF.out]),Below.trans (by go_grown) ((D.alloc I _).mono I)⟩)
    |(exfalso
      apply HQ;simp only[bV,decide_eq_true_eq,decide_eq_false_iff_not,Bool.not_eq_true',Bool.not_eq_false',beq_iff_eq,bne_iff_ne,beq_eq_false_iff_ne,bne_eq_false_iff_eq,ne_eq]at*;omega)
  obtain rfl:k=8:=I;have g:=aH (K.below D (by simp));have zr:=sQ z 8;obtain⟨l,hl⟩:=aP (eV z 8);rw[hl]at zr;have HL:=aH hl;clear hl
  go_wp2_with (first
   |(refine wpList_load_row rfl 129 _ rfl w rfl 129 C (0,0) _ ?_ HU rfl ?_ ?_;(exact g);(exact HI))
   |(go_at_call 204;refine(rP C z _ H).mono ?_;rintro e F ⟨rfl,Y⟩;rw[HL.out]))
  go_ret;have G:=X.out;exact⟨dF (by
   by_cases E:l<=6
   .rw[rU (by rw[HL.out];exact E) G];simpa using E
   have e:cS z=false:=by
    unfold cS;rw[Bool.and_eq_false_iff];left;rw[HL.out];simp;omega
   rw[e];simpa using E),Below.trans (by go_grown) ((D.trans (Y.mono I)).mono I)⟩
theorem bT{a:Act}{T:Value->World->Prop}(ty:TypeId)(x:Operand)(Z:o.op=.load ty x)(g:Nat)(Y:a.eval x=.pointer (some ⟨g,0,none⟩))
 (t:TypeId) (cs:Array Value) (d:TypeDesc) (X:aY w g t cs) (W:P.underlying ty=some d) (V:(match d with|.struct _|.array _ _=>true|_=>false)=true) (U:(P.info? ty).map (·.size)=some cs.size)
 (S:T (.agg cs) w):eQ P o a w T:=by
 refine sA (u:=.agg cs) ?_ S;unfold execOp;simp only[Z,Y,Instr.loadAt,Instr.sureAddr,Sem.run_bind,Sem.run_pure,Result.andThen_ok,run_loadVar_row w g t ty cs (0,0) d X W V U]
theorem eB.congr{n:Nat}{z':Nat->Int}(h:eB C n z)(e:∀i,i<n->z' i=z i):eB C n z':=
 ⟨h.size,fun i Z=>by rw[e i Z];exact h.get i Z,fun i Z=>by rw[e i Z];exact h.bd i Z⟩
theorem eB.set_{n k:Nat}(h:eB C n z)(X: -9223372036854775808<=v/\v<=9223372036854775807):eB (C.setIfInBounds k v) n (fun i=>if i=k then v else z i):=
 ⟨by simp [h.size],fun i Y=>by
  rw[Array.getElem?_setIfInBounds];by_cases Z:k=i
  .subst Z;rw[iP rfl,iP (by rw[h.size];exact Y),iP rfl]
  .rw[iN Z,iN (fun e=>Z e.symm)];exact h.get i Y,fun i Y=>by
  by_cases Z:i=k
  .rw[iP Z];exact X
  rw[iN Z];exact h.bd i Y⟩
theorem eB.zero(n:Nat):eB (Array.replicate n (0:Int)) n (fun _=>0):=
 ⟨by simp,fun i Z=>by simp [Z],fun _ _=>by decide⟩
theorem eB.ext{D:Array Value}{n:Nat}(h:eB C n z)(k:eB D n z):C=D:=by
 apply Array.ext_getElem?;intro i;by_cases Z:i<n
 .rw[h.get i Z,k.get i Z]
 rw[Array.getElem?_eq_none (by rw[h.size];omega),Array.getElem?_eq_none (by rw[k.size];omega)]
theorem tL:(prog.info? 284).map (·.size)=some 16:=J
structure fZ (w:World) (g:Nat) (t:TypeId) (z:Nat->Int):Prop where
 ex:∃C,aY w g t C/\eB C 16 z
section
variable{w w':World}{g:Nat}{t:TypeId}{z:Nat->Int}
theorem fZ.mk'(h:aY w g t C)(k:eB C 16 z):fZ w g t z:=⟨C,h,k⟩
theorem fZ.lt(h:fZ w g t z):g<w:=by obtain⟨C,Z,_⟩:=h.ex;exact Z.lt
theorem fZ.cell(h:fZ w g t z)(X:i<16):w.cell? (g,i)=(z i):=by
 obtain⟨C,Z,Y⟩:=h.ex;rw[Z.cell];exact Y.get i X
theorem fZ.key(h:fZ w g t z)(Z:i<8):w.cell? (g,i*2)=(z (2*i)):=by rw[Nat.mul_comm];exact h.cell I
theorem fZ.val(h:fZ w g t z)(Z:i<8):w.cell? (g,i*2+1)=(z (2*i+1)):=by rw[Nat.mul_comm];exact h.cell I
theorem fZ.frozen(h:fZ w g t z)(i:Nat):w.frozen? ⟨g,i,none⟩=false:=by obtain⟨C,Z,_⟩:=h.ex;exact Z.frozen i
theorem fZ.below{B:Nat}(h:fZ w g t z)(X:Below B w w')(W:g<B):fZ w' g t z:=by obtain⟨C,Z,Y⟩:=h.ex;exact⟨C,Z.below X W,Y⟩
theorem fZ.alloc(h:fZ w g t z)(o:Obj):fZ (w.alloc o) g t z:=by obtain⟨C,Z,Y⟩:=h.ex;exact⟨C,Z.alloc o,Y⟩
theorem fZ.setS(h:fZ w g t z)(i:Nat){k v:Int}(V: -9223372036854775808<=k/\k<=9223372036854775807)(U: -9223372036854775808<=v/\v<=9223372036854775807):
 fZ ((w.setCell (g,i*2) k).setCell (g,i*2+1) v) g t (setS z i k v):=by
 obtain⟨C,X,W⟩:=h.ex;refine⟨_,(X.set_ _ _).set_ _ _,((W.set_ V).set_ U).congr (fun j _=>?_)⟩;unfold Proofs.YtplpimkgihnmhaaGreatDoor.setS;by_cases Z:j=i*2+1
 .subst Z;rw[iN I,iP I,iP rfl]
 by_cases Y:j=i*2
 .subst Y;rw[iP I,iN Z,iP rfl]
 rw[iN I,iN I,iN Z,iN Y]
end
theorem JK(C D:Array Value)(z:Nat->Int)(i m:Nat)(w:World)(h:eB C 16 z)(b:vI z i m)(f:eB D 16 (iX z i m)):
 Calls prog 185 #[.agg C,i] w fun e w'=>e=.returned (.agg D)/\Below w w w':=by
 have n:=aH b;have zn:=b.hi;have H:=aH h;have X:=aH f.size;have h1:=f.one;have HD:=aH f;have d:=b.m6;clear h b f;have zp:(i:Int)<8:=I;have c:Hid (((i:Int)+1)%8=((kk i 0:Nat):Int)):=by show _=_;unfold kk;omega
 have zm:Hid (fZ (w.alloc (.cells C 284)) w 284 z):=aH (fZ.mk' (aY.new _ _ _) H);have k0:C[i*2]? =some (.int .i64 (z (2*i))):=by rw[Nat.mul_comm];exact H.get _ I
 have k1:C[i*2+1]? =some (.int .i64 (z (2*i+1))):=by rw[Nat.mul_comm];exact H.get _ I
 go_enter func185,ntmps185
 go_wp2;have N:fZ ((w.alloc (.cells ((C.setIfInBounds (i*2) (0:Int)).setIfInBounds (i*2+1) (0:Int)) 284)).alloc (.cells (16:Int) 284)) w 284 (setS z i 0 0):=by
  refine fZ.mk' ((aY.new _ _ _).alloc _) (((H.set_ aJ).set_ aJ).congr (fun x _=>?_));unfold setS;by_cases e1:x=i*2+1
  .subst e1;rw[iN I,iP I,iP rfl]
  by_cases e2:x=i*2
  .subst e2;rw[iP I,iN e1,iP rfl]
  rw[iN I,iN I,iN e1,iN e2]
 have a:=aH N;clear N
 go_loopw [5] (fun s wr=>∃j:Nat,j<=m/\s=.int .i64 ((kk i j:Nat):Int)/\Hid (fZ wr w 284 (iX z i j))/\Hid (aY wr (w,1) 284 (16:Int))/\Below w w wr) (fun s _=>8-((intOf s).toNat+7-i)%8)
 case atStart=>exact⟨0,I,jW c,a,aH (aY.newAt _ _ _ (by simp)),by go_grown⟩
 case round=>
  obtain⟨j,zg,rfl,V,A,hb⟩:=hrel;have zl:=V.lt;have zk:=A.lt;by_cases hj:j<m
  .have P:=vD i j;have M:(((kk i j:Nat):Int)+1)%8=((kk i (j+1):Nat):Int):=by unfold kk;omega
   have L:8-(kk i (j+1)+7-i)%8<8-(kk i j+7-i)%8:=by unfold kk;omega
   obtain⟨y1,y2,v1,v2⟩:=n.bd hj;have K:=n.run j I;obtain⟨p,u,O,_⟩:=n.step hj K;have Z:iX z i (j+1)=setS (setS (iX z i j) (kk i j) 0 0) p (iX z i j (2*kk i j)) (iX z i j (2*kk i j+1)):=by
    show rC (iX z i j) (kk i j)=_;unfold rC;rw[O,Int.toNat_natCast]
   have l:=V.key P;have c1:=V.val P;clear K;have zj:m<=6:=d;generalize hq:kk i j=q at*;generalize zq:iX z i j=T at*;generalize hy:T (2*q)=y at*;generalize hv:T (2*q+1)=v at*;have f0:=V.frozen (q*2);have f1:=V.frozen (q*2+1);have zi:(y !=0)=true:=by simp;omega
   have G:(q:Int)<8:=I;have zz:=aH O;have zy:=aH Z;have F:=aH M;have HQ:=aH hq;have zx:=aH L;clear O Z zq hy hv M hq L;have zw: -9223372036854775808<=y/\y<=9223372036854775807:=I;have zv: -9223372036854775808<=v/\v<=9223372036854775807:=I;have S:=aH ((V.setS q (k:=0) (v:=0) aJ aJ).alloc (.cells #[y,v] 282));have g:aY (((wr.setCell (w.heap.size,q*2) (0:Int)).setCell (w.heap.size,q*2+1) (0:Int)).alloc (.cells #[y,v] 282)) wr 282 #[y,v]:=aY.newAt _ _ _ (by simp);have zu:=aH (((A.far (p:=⟨w.heap.size,q*2,none⟩) (by simp) (0:Int)).far (p:=⟨w.heap.size,q*2+1,none⟩) (by simp) (0:Int)).alloc (.cells #[y,v] 282));have B:Below w w (((wr.setCell (w.heap.size,q*2) (0:Int)).setCell (w.heap.size,q*2+1) (0:Int)).alloc (.cells #[y,v] 282)):=by go_grown
   go_wp2;clear l c1 f0 f1 V A hb;generalize((wr.setCell (w.heap.size,q*2) (0:Int)).setCell (w.heap.size,q*2+1) (0:Int)).alloc (.cells #[y,v] 282)=W at*;have U:=S.lt;have zh:=g.lt;have s0:=g.cell 0;have s1:=g.cell 1;simp only[List.getElem?_toArray,List.getElem?_cons_zero,List.getElem?_cons_succ]at s0 s1;obtain⟨CU,t,r⟩:=S.ex;have zt:=aH t;have zs:=aH r;clear t r g;have zo:(p:Int)<8:=I;have Y:∀w9,Below W W w9->Calls prog 184 #[w,y] w9 fun e w'=>e=.returned p/\Below w9 w9 w':=fun w9 h9=>by
    rw[<-zz.out];exact VI CU _ w y w9 zs (zt.below h9 U) I y2
   have R:=aH Y;clear Y;have l:=S.key u;have c1:=S.val u;have f0:=S.frozen (p*2);have f1:=S.frozen (p*2+1);refine aA 5 ?_
   iterate 5
    first
    |(refine Kf ?_;constructor
      .intro w9 hw9 hc9 hf9;go_simp
       first
       |exact aE
       |(go_at_call 184;exact bS (R.out w9 hw9.same)))
    |refine aU ?_
   refine bZ ?_;intro w9 hw9 hc9 hf9;go_wp2;have Q:=hw9.same;refine⟨⟨j+1,I,jW F,aH ?_,aH (((zu.below Q I).far (by simp) _).far (by simp) _),((B.trans (Q.mono B.size)).setCell (by simp) _).setCell (by simp) _⟩,?_⟩
   .rw[zy.out];exact(S.below Q U).setS p zw zv
   have h1:=zx.out;have h2:=F.out;simp only[RowKit.intOf,Array.getD_eq_getD_getElem?]at*;simp [intOf];omega
  obtain rfl:j=m:=I;have l:=V.key (vD i j);rw[n.end_]at l;obtain⟨E,hE,o⟩:=V.ex;obtain rfl:E=D:=o.ext HD;have P:=vD i j;have zr:=aH hE;clear hE o;generalize kk i j=q at*;have G:(q:Int)<8:=I
  go_wp2_with (first
   |(refine wpList_load_row rfl 284 _ rfl w rfl 284 E (0,0) _ ?ha underlying284 rfl ?hb1 ?_)
   |(refine wpList_store_row rfl 284 _ _ rfl (w,1) E rfl rfl 284 (16:Int) ?hg ?hj ?ho h1 ?_))
  case ha=>exact zr
  case hb1=>rw[tL,X.out]
  case hg=>exact A
  case hj=>rw[tL,X.out]
  case ho=>rw[X.out];rfl
  refine bodyPost_ret (results_cell_row results185 _ _ (w.heap.size+1) 284 E (0,0) _ rfl (A.setRow E) underlying284 rfl (by rw[tL,X.out])) rfl ⟨rfl,aL hb (by omega) _⟩
theorem xQ(w:World):(Instr.makeSlice 91 (17:Int) (17:Int)).run prog w=.ok (.slice (some ⟨w.heap.size,0,none⟩) 17 17) (w.alloc (.cells (Array.replicate 17 (.int .u64 0)) 23)):=J
structure lD (C:Array Value) (kind:Int) (A:Option Addr) (n c:Nat) (d:Nat->Int) (N:Int):Prop where
 size:C.size=19
 kind_:C[0]? =some (.int .i64 kind)
 list:C[1]? =some (.slice A n c)
 slot:∀i,i<16->C[2+i]? =some (.int .i64 (d i))
 num:C[18]? =some (.int .i64 N)
def iT(n:Nat)(xs:List Int)(i:Nat):Int:=if i=0 then n else if i<=n then xs[i-1]?.getD 0 else 0
def IN(n k:Nat)(xs:List Int)(i:Nat):Int:=if i=0 then n else if i<=k then xs[i-1]?.getD 0 else 0
def oK(z:Nat->Int)(w:World)(e:Ending)(w':World):Prop:=
 ∃g D,e=.returned (.slice (some ⟨g,0,none⟩) 17 17)/\aY w' g 23 D/\cH D 17 z/\w<=g/\Below w w w'
theorem uY(C:Array Value)(A:Option Addr)(n c:Nat)(d:Nat->Int)(N:Int)(w:World)(h:lD C 6 A n c d N)(U:0<=N/\N<=9223372036854775807):
 Calls prog 85 #[.agg C] w (oK (fun i=>if i=0 then N else 0) w):=by
 have W:=h.kind_;have Z:=h.num;have Y:=xQ;have V:N%18446744073709551616=N:=I;have X:Hid (cH ((Array.replicate 17 (.int .u64 0)).setIfInBounds 0 [N]) 17 (fun i=>if i=0 then N else 0)):=aH ((cH.zero 17).set_ (k:=0) I);clear h
 go_enter func85,ntmps85
 go_wp2;go_ret;exact⟨w+1,_,rfl,aY.newAt _ _ _ (by simp),X.out,I,by go_grown⟩
theorem wN(C:Array Value)(kind:Int)(A:Option Addr)(n c:Nat)(xs:List Int)(d:Nat->Int)(N:Int)(w:World)(h:lD C kind A n c d N)(F:fI w A n c xs)(hn:n<=16)(E:∀i:Nat,i<n->0<=xs[i]?.getD 0)
 (B:kind≠5) (z:kind≠6):
 Calls prog 85 #[.agg C] w (oK (iT n xs) w):=by
 have j:=h.kind_;have g:=h.list;have y:=xQ;have f:(n:Int)%18446744073709551616=n:=I;have e:(kind==5)=false:=by simpa using B
 have a:(kind==6)=false:=by simpa using z
 have x:Hid (cH ((Array.replicate 17 (.int .u64 0)).setIfInBounds 0 [n]) 17 (IN n 0 xs)):=aH (((cH.zero 17).set_ (k:=0) (v:=n) I).congr (fun i l=>by
  unfold IN;by_cases Y:i=0
  .rw[iP Y,iP Y]
  rw[iN Y,iN Y,iN I]))
 have u:=aH E;have S:=aH F;clear h B z E F
 go_enter func85,ntmps85
 go_wp2
 go_loopw [20] (fun i wr=>∃k:Nat,k<=n/\i=.int .i64 k/\Hid (∃D,aY wr (w,1) 23 D/\cH D 17 (IN n k xs))/\Below w w wr) (fun i _=>n-(intOf i).toNat)
 case atStart=>exact⟨0,I,rfl,aH ⟨_,aY.newAt _ _ _ (by simp),x.out⟩,by go_grown⟩
 case round=>
  obtain⟨k,hk,rfl,K,H⟩:=hrel;by_cases T:k<n
  .have b1:(k:Int)<n:=I;obtain⟨D,X,W⟩:=K.out;clear K;obtain⟨b,V,rfl,U,Z⟩:=S.at_ I;have P:wr.cell? (b,V+k)=(xs[k]?.getD 0):=(H.cell (p:=⟨b,V+k,none⟩) U).trans (Z k T);have O:=S.bd k;have M:=u.out k T;have t:=S.cap;have s:=S.cap63;clear Z;have r:=X.cell (k+1);rw[W.get (k+1) I]at r;have hf:=X.frozen (k+1);have q:=aH X;have L:=aH W;generalize R:xs[k]?.getD 0=v at P O M;have o:=aH R;clear X W R;have m:v%18446744073709551616=v:=I;go_wp2;go_roundw
   case rel=>exact⟨k+1,I,aG,aH ⟨_,q.set_ (k+1) _,(L.set_ (k:=k+1) (v:=v) I).congr (fun i l=>by
    have R:=o.out;unfold IN;by_cases Y:i=k+1
    .subst Y;rw[iP rfl,iN I,iP I,Nat.add_sub_cancel,R]
    rw[iN Y];by_cases Q:i=0
    .rw[iP Q,iP Q]
    rw[iN Q,iN Q];by_cases G:i<=k
    .rw[iP G,iP I]
    rw[iN G,iN I])⟩,H.setCell (by show w.heap.size<=w+1;omega) _⟩
   case measure=>simp [intOf];omega
  obtain rfl:k=n:=I;go_wp2;go_ret;obtain⟨D,X,W⟩:=K.out;exact⟨w+1,D,rfl,X,W,I,H⟩
def eF(k:Nat)(d:Nat->Int)(i:Nat):Int:=if i<2*k then d i else 0
theorem BU:(prog.info? 129).map (·.size)=some 16:=J
theorem vC(C:Array Value)(A:Option Addr)(n c:Nat)(d:Nat->Int)(N:Int)(w:World)(h:lD C 5 A n c d N)(K:∀i,i<16->0<=d i/\d i<=9223372036854775807):
 Calls prog 85 #[.agg C] w (oK (eF 8 d) w):=by
 have k0:=h.kind_;have z:=xQ;obtain⟨D,U⟩:=aO (C.extract 2 18);have S:eB D 16 d:=by
  have hs:=h.size;refine⟨by rw[U];simp;omega,fun i hi=>?_,fun i hi=>by have:=K i hi;omega⟩;rw[U,Array.getElem?_extract,iP I];exact h.slot i hi
 have u:=aH S;have s:=aH S.size;have r:=aH U;have H:=aH K;have q:Hid (cH (Array.replicate 17 (.int .u64 0)) 17 (eF 0 d)):=aH ((cH.zero 17).congr (fun i hi=>by unfold eF;rw[iN I]));clear h K U S
 go_enter func85,ntmps85
 go_wp2_with (refine wpList_load_mid rfl 129 _ rfl w 2 rfl D.toList _ ?hc underlying129 rfl ?hi ?_)
 case hc=>
  rw[r.out];exact World.rangeAt_of_block (t:=131) (fr:=(0,0)) (((aY.new w 131 C).alloc _)) 2 16
 case hi=>rw[BU,Array.length_toList,s.out]
 go_wp2
 go_loopw [36] (fun i wr=>∃k:Nat,k<=8/\i=.int .i64 k/\Hid (∃E,aY wr (w,1) 23 E/\cH E 17 (eF k d))/\Below w w wr) (fun i _=>8-(intOf i).toNat)
 case atStart=>exact⟨0,I,rfl,aH ⟨_,aY.newAt _ _ _ (by simp),q.out⟩,by go_grown⟩
 case round=>
  obtain⟨k,hk,rfl,M,T⟩:=hrel;by_cases L:k<8
  .have b1:(k:Int)<8:=I;obtain⟨E,Z,Y⟩:=M.out;clear M;have X:=pD u k L;have o:=H.out (2*k) I;have m:=H.out (2*k+1) I;have R:Hid (∀i,eF (k+1) d i=if i=2*k+1 then d (2*k+1)else if i=2*k then d (2*k)else eF k d i):=aH fun i=>by
    unfold eF;by_cases G:i=2*k+1
    .subst G;rw[iP I,iP rfl]
    rw[iN G];by_cases F:i=2*k
    .subst F;rw[iP I,iP rfl]
    rw[iN F];by_cases B:i<2*k
    .rw[iP B,iP I]
    rw[iN B,iN I]
   generalize W:d (2*k)=x at o X R;generalize V:d (2*k+1)=y at m X R;have l:=aH W;have j:=aH V;clear W V;have g:x%18446744073709551616=x:=I;have f:y%18446744073709551616=y:=I;have e:=(Z.alloc (.cells #[x,y] 127)).cell (2*k);rw[Y.get (2*k) I]at e;have b:=(Z.alloc (.cells #[x,y] 127)).cell (2*k+1);rw[Y.get (2*k+1) I]at b;have f0:=(Z.alloc (.cells #[x,y] 127)).frozen (2*k);have f1:=(Z.alloc (.cells #[x,y] 127)).frozen (2*k+1);have a:=(aY.new wr 127 #[x,y]).cell 0;have s1:=(aY.new wr 127 #[x,y]).cell 1;simp only[List.getElem?_toArray,List.getElem?_cons_zero,List.getElem?_cons_succ]at a s1;have zz:w.heap.size+1≠wr:=by have:=Z.lt;omega
   have Q:=aH (Z.alloc (.cells #[x,y] 127));have P:=aH (T.alloc T.size (.cells #[x,y] 127));have O:=aH Y;clear Z Y T;go_wp2;generalize wr.alloc (.cells #[x,y] 127)=w5 at*;generalize wr.heap.size=gs at*
   go_region
   apply_assumption
   go_wp2;go_roundw
   case rel=>exact⟨k+1,I,aG,aH ⟨_,(Q.set_ (2*k) _).set_ (2*k+1) _,((O.set_ (k:=2*k) (v:=x) I).set_ (k:=2*k+1) (v:=y) I).congr (fun i hi=>R.out i)⟩,
    ((P.setCell (p:=⟨w+1,2*k,none⟩) (by show w.heap.size<=w+1;omega) _).setCell (p:=⟨w+1,2*k+1,none⟩) (by show w.heap.size<=w+1;omega) _).drew⟩
   case measure=>simp [intOf];omega
  obtain rfl:k=8:=I;go_wp2;go_ret;obtain⟨E,Z,Y⟩:=M.out;exact⟨w+1,E,rfl,Z,Y,I,T⟩
def oL(z:Nat->Int)(code val:Int)(w:World)(e:Ending)(w':World):Prop:=
 ∃D,eB D 16 z/\e=.returned (.tuple #[.agg D,.agg #[.int .i64 code,.int .i64 val]])/\Below w.heap.size w w'
theorem oL.det{Z val:Int}{w':World}{e:Ending}{D:Array Value}(h:oL z Z val w e w')(V:eB D 16 z):e=.returned (.tuple #[.agg D,.agg #[.int .i64 Z,.int .i64 val]])/\Below w.heap.size w w':=by
 obtain⟨E,X,Y,W⟩:=h;rw[X.ext V]at Y;exact⟨Y,W⟩
theorem bY{fn:Func}{p q:Tmp}{ty tz:TypeId}(h:fn.results= #[.cell p ty,.cell q tz])(Z:Array Value)(w:World)(g X:Nat)(t O:TypeId)(cs Y:Array Value)(d U:TypeDesc)
 (N:Z.getD p undef=.pointer (some ⟨g,0,none⟩)) (M:Z.getD q undef=.pointer (some ⟨X,0,none⟩)) (L:aY w g t cs) (T:aY w X O Y)
 (K:P.underlying ty=some d) (H:(match d with|.struct _|.array _ _=>true|_=>false)=true) (G:(P.info? ty).map (·.size)=some cs.size)
 (S:P.underlying tz=some U) (R:(match U with|.struct _|.array _ _=>true|_=>false)=true) (Q:(P.info? tz).map (·.size)=some Y.size):
 (results fn Z).run P w=.ok (.tuple #[.agg cs,.agg Y]) w:=by
 have W:Z[p]?.getD undef=.pointer (some ⟨g,0,none⟩):=by simpa using N
 have V:Z[q]?.getD undef=.pointer (some ⟨X,0,none⟩):=by simpa using M
 simp [results,h,W,V,asAddr,run_loadVar_row w g t ty cs (0,0) d L K H G,run_loadVar_row w X O tz Y (0,0) U T S R Q]
theorem dN{c:Bool}{p:Prop}(h:c=false/\p)(Z:c=true):False:=by rw[Z]at h;cases h.1
theorem fD{S:Nat->Prop}{g:Nat}(h:S g\/w.heap.size<=g)(cs:Array Value):aD S w (w.setRow g cs):=
 ⟨rfl,rfl,rfl,by simp [World.setRow],fun k Y Z=>setRow_other w g k cs (by
  rintro rfl;rcases h with h|h
  .exact Z h
  .omega)⟩
theorem dS{a:Act}{T:Value->World->Prop}(ty:TypeId)(x y:Operand)(X:o.op=.store ty x y)(g:Nat)(cells:Array Value)(W:a.eval x=.pointer (some ⟨g,0,none⟩))(V:a.eval y=.agg cells)
 (t:TypeId) (Z:Array Value) (U:aY w g t Z) (S:(P.info? ty).map (·.size)=some cells.size) (Y:Z.size=cells.size) (R:cells.all (·.oneCell')=true)
 (Q:T undef (w.setRow g cells)):eQ P o a w T:=by
 unfold eQ execOp;simp only[X,W,V,Instr.storeAt,Instr.sureAddr,Sem.run_bind,Sem.run_pure,Result.andThen_ok,run_storeVar_row w g t ty Z cells U S Y R];exact Q
theorem eM{ops:Array Oper}{Z:List Oper}{a:Act}{Q:Exit->Act->World->Prop}(X:Region.wanted o (yielded ops a.tmps)=true)(ty:TypeId)(x:Operand)(W:o.op=.load ty x)
 (g:Nat) (V:a.eval x=.pointer (some ⟨g,0,none⟩)) (t:TypeId) (cs:Array Value) (fr:Nat×Nat) (d:TypeDesc) (U:w.heap[g]? =some (.cells cs t fr))
 (T:P.underlying ty=some d) (S:(match d with|.struct _|.array _ _=>true|_=>false)=true) (R:(P.info? ty).map (·.size)=some cs.size)
 (h:wpList P ops Q Z (a.put o.dst (.agg cs)) w):wpList P ops Q (o::Z) a w:=
 wpList_step fun K Y=>by rw[if_pos X];exact wp_load_row ty x W g V t cs fr d U T S R (Y _ _ h)
theorem lK:(prog.info? 44).map (·.size)=some 2:=J
structure oD (w W:World) (ts:TypeId) (C:Array Value) (a k v:Int):Prop where
 tab:aY W w.heap.size ts C
 op:aY W (w.heap.size+1) 39 #[.int .i64 a,.int .i64 k,.int .i64 v]
 res:aY W (w.heap.size+2) ts #[.int .i64 0,.int .i64 0,.int .i64 0,.int .i64 0,.int .i64 0,.int .i64 0,.int .i64 0,.int .i64 0,.int .i64 0,.int .i64 0,.int .i64 0,.int .i64 0,.int .i64 0,.int .i64 0,.int .i64 0,.int .i64 0]
 ans:aY W (w.heap.size+3) 44 #[.int .i64 0,.int .i64 0]
 below:Below w.heap.size w W
theorem qP(w:World)(Z:TypeId)(C:Array Value)(a k v:Int):
 oD w ((((w.alloc (.cells C Z)).alloc (.cells #[.int .i64 a,.int .i64 k,.int .i64 v] 39)).alloc (.cells (16:Int) Z)).alloc (.cells (2:Int) 44)) Z C a k v:=
 ⟨(((aY.new _ _ _).alloc _).alloc _).alloc _,((aY.newAt _ _ _ (by simp)).alloc _).alloc _,(aY.newAt _ _ _ (by simp)).alloc _,aY.newAt _ _ _ (by simp),by go_grown⟩
theorem oD.on{W Y:World}(h:oD w W ts C a k v)(Z:Below W.heap.size W Y):oD w Y ts C a k v:=
 ⟨h.tab.below Z h.tab.lt,h.op.below Z h.op.lt,h.res.below Z h.res.lt,h.ans.below Z h.ans.lt,h.below.trans (Z.mono h.below.size)⟩
theorem oD.ops{W:World}(h:oD w W ts C a k v):
 (W.cell? ⟨w.heap.size+1,0,none⟩=some (.int .i64 a)/\W.cell? ⟨w.heap.size+1,1,none⟩=some (.int .i64 k)/\W.cell? ⟨w.heap.size+1,2,none⟩=some (.int .i64 v))/\
 (W.cell? ⟨w.heap.size+3,0,none⟩=some (.int .i64 0)/\W.cell? ⟨w.heap.size+3,1,none⟩=some (.int .i64 0)/\W.frozen? ⟨w.heap.size+3,0,none⟩=false/\W.frozen? ⟨w.heap.size+3,1,none⟩=false)/\w.heap.size+3<W.heap.size:=
 ⟨⟨h.op.cell 0,h.op.cell 1,h.op.cell 2⟩,⟨h.ans.cell 0,h.ans.cell 1,h.ans.frozen 0,h.ans.frozen 1⟩,h.ans.lt⟩
theorem oD.row{W:World}(h:oD w W ts C a k v)(D:Array Value):
 (((W.setRow (w.heap.size+2) D).cell? ⟨w.heap.size+3,0,none⟩=some (.int .i64 0)/\(W.setRow (w.heap.size+2) D).cell? ⟨w.heap.size+3,1,none⟩=some (.int .i64 0))/\
 ((W.setRow (w.heap.size+2) D).frozen? ⟨w.heap.size+3,0,none⟩=false/\(W.setRow (w.heap.size+2) D).frozen? ⟨w.heap.size+3,1,none⟩=false)):=by
 have Z:aY (W.setRow (w.heap.size+2) D) (w.heap.size+3) 44 (2:Int):=(setRow_other W _ _ D I).trans h.ans;exact⟨⟨Z.cell 0,Z.cell 1⟩,⟨Z.frozen 0,Z.frozen 1⟩⟩
theorem oD.fin{W:World}(h:oD w W ts C a k v)(D:Array Value)(c l:Int):
 aY (((W.setRow (w.heap.size+2) D).setCell ⟨w.heap.size+3,0,none⟩ (.int .i64 c)).setCell ⟨w.heap.size+3,1,none⟩ (.int .i64 l)) (w.heap.size+2) ts D/\
 aY (((W.setRow (w.heap.size+2) D).setCell ⟨w.heap.size+3,0,none⟩ (.int .i64 c)).setCell ⟨w.heap.size+3,1,none⟩ (.int .i64 l)) (w.heap.size+3) 44 #[.int .i64 c,.int .i64 l]/\
 Below w.heap.size w (((W.setRow (w.heap.size+2) D).setCell ⟨w.heap.size+3,0,none⟩ (.int .i64 c)).setCell ⟨w.heap.size+3,1,none⟩ (.int .i64 l)):=by
 have Z:aY (W.setRow (w.heap.size+2) D) (w.heap.size+3) 44 (2:Int):=(setRow_other W _ _ D I).trans h.ans;exact⟨((h.res.setRow D).far (by simp) _).far (by simp) _,(Z.set_ _ _).set_ _ _,((aL h.below I D).setCell (by show w.heap.size<=w.heap.size+3;omega) _).setCell (by show w.heap.size<=w.heap.size+3;omega) _⟩
theorem OT(C:Array Value)(z:Nat->Int)(k v:Int)(w:World)(h:eB C 16 z):
 Calls prog 159 #[.agg C,.agg #[(6:Int),k,v]] w (oL z 1 (eV z 8) w):=by
 have H:=aH h;have U:=h.size;have T:Hid ((prog.info? 284).map (·.size)=some C.size):=by show _=_;rw[U,tL]
 have F:Hid (C.size=16):=U;have E:=h.one;clear h U
 go_enter func159,ntmps159
 go_upto_region 1 with(fail)
 have S:=qP w 284 C 6 k v;generalize(((w.alloc (.cells C 284)).alloc (.cells #[(6:Int),k,v] 39)).alloc (.cells (16:Int) 284)).alloc (.cells (2:Int) 44)=W at*;have X:=aH S;obtain⟨⟨B,A,y⟩,⟨x,u,t,s⟩,r⟩:=S.ops;clear S;go_wp2;refine bK 5 (fun b=>b=w+2) [4] J J ?_
 iterate 4
  refine aR ?_;constructor
  .intro w9 hw9 _
   first
   |exact bT 284 _ rfl w rfl 284 C _ ((hw9.block w X.tab.lt I).trans X.tab) underlying284 rfl T aE
   |(go_simp
     first
     |exact aE
     |(go_at_call 183;exact bS (vP C z _ H)))
 refine aC (fun K L=>?_);refine .inl ⟨undef,fun _ q=>aY q (w+2) 284 C,?_,L _ _ _ _ ?_⟩
 .simp only[bJ,bM];refine⟨?_,fun w9 hw9 O=>?_⟩
  .first|rfl|(go_simp;done)
  have Y:aY w9 (w,2) 284 (16:Int):=(O.1.block _ X.res.lt (fun h=>dN h J)).trans X.res;exact dS 284 _ _ rfl (w,2) C rfl rfl 284 (16:Int) Y T (by rw[F.out];rfl) E ⟨⟨rfl,Y.setRow C⟩,fD (.inl ⟨aJ,rfl⟩) _⟩
 clear L K;refine aZ ?_;intro w9 hw9 V;obtain⟨m,p,G,N⟩:=V.1 rfl;have Y:aY w9 (w,2) 284 C:=(G.block _ N.lt (fun h=>dN h J)).trans N;have Z:aY w9 (w,3) 44 (2:Int):=(hw9.block _ X.ans.lt I).trans X.ans;have R:=X.below.trans (hw9.below X.below.size (fun b l e=>by omega));have M:=Z.lt;have D:=Z.cell 0;have c1:=Z.cell 1;simp only[List.getElem?_toArray,List.getElem?_cons_zero,List.getElem?_cons_succ]at D c1;have o:=Z.frozen 0;have n:=Z.frozen 1;have Q:=aH Y;have P:=aH Z;clear V N Y Z p G x u t s B A y;go_wp2;refine bodyPost_ret (bY results159 _ _ (w,2) (w,3) 284 44 C #[(1:Int),(eV z 8)] _ _ rfl rfl ((Q.far (by simp) _).far (by simp) _) ((P.set_ 0 _).set_ 1 _) underlying284 rfl T underlying44 rfl lK) rfl ⟨C,H.out,rfl,(R.setCell (by simp;omega) _).setCell (by simp;omega) _⟩
theorem oD.set_{W:World}(h:oD w W ts C a k v)(i:Nat)(x y:Int):
 oD w ((W.setCell ⟨w.heap.size,i*2,none⟩ (.int .i64 x)).setCell ⟨w.heap.size,i*2+1,none⟩ (.int .i64 y)) ts ((C.setIfInBounds (i*2) (.int .i64 x)).setIfInBounds (i*2+1) (.int .i64 y)) a k v:=
 ⟨(h.tab.set_ _ _).set_ _ _,(h.op.far (by simp) _).far (by simp) _,(h.res.far (by simp) _).far (by simp) _,(h.ans.far (by simp) _).far (by simp) _,(h.below.setCell (by simp) _).setCell (by simp) _⟩
theorem oD.setTab{W:World}(h:oD w W ts C a k v)(D:Array Value):oD w (W.setRow w.heap.size D) ts D a k v:=
 ⟨h.tab.setRow D,(setRow_other W _ _ D I).trans h.op,(setRow_other W _ _ D I).trans h.res,(setRow_other W _ _ D I).trans h.ans,aL h.below (Nat.le_refl _) D⟩
theorem oD.drewN{W:World}(h:oD w W ts C a k v)(n:Nat):oD w (W.drewN n) ts C a k v:=⟨h.tab.drewN n,h.op.drewN n,h.res.drewN n,h.ans.drewN n,cZ h.below n⟩
theorem vW(h:eB C 16 z)(i:Nat)(Y: -9223372036854775808<=k/\k<=9223372036854775807)(X: -9223372036854775808<=v/\v<=9223372036854775807):
 eB ((C.setIfInBounds (i*2) (.int .i64 k)).setIfInBounds (i*2+1) (.int .i64 v)) 16 (setS z i k v):=((h.set_ Y).set_ X).congr (fun j _=>by
 unfold setS;by_cases Z:j=i*2+1
 .subst Z;rw[if_neg I,if_pos I,if_pos rfl]
 .by_cases e2:j=i*2
  .subst e2;rw[if_pos I,if_neg Z,if_pos rfl]
  .rw[if_neg I,if_neg I,if_neg Z,if_neg e2])
theorem nX(h:cS z=true)(key:Nat):∃i:Nat,i<8/\kF z key=(i:Int)/\(z (2*i)=key\/z (2*i)=0):=by
 have U:∃x,x<8/\z (2*x)=0:=by
  by_cases Z:∀x,x<8->z (2*x)≠0
  .have:=oO h;rw[AG Z]at this;omega
  .simp only[Classical.not_forall,ne_eq,Classical.not_not]at Z;obtain⟨x,T,S⟩:=Z;exact⟨x,T,S⟩
 obtain⟨x,Y,X⟩:=U;obtain⟨d,R,Q⟩:=yQ key x Y;obtain⟨a,_,W,V⟩:=EP (z:=z) (key:=key) R (by rw[Q];exact X);refine⟨dR key a,mY _ _,W,?_⟩;unfold gL at V;simpa using V
theorem OP(C:Array Value)(z:Nat->Int)(a k v:Int)(w:World)(h:eB C 16 z)(Q:a≠6)(P:¬(a=1\/a=2\/a=5)\/k<1\/1000<k):
 Calls prog 159 #[.agg C,.agg #[.int .i64 a,.int .i64 k,.int .i64 v]] w (oL z 5 0 w):=by
 have H:=aH h;have X:=h.size;have Y:Hid ((prog.info? 284).map (·.size)=some C.size):=by show _=_;rw[X,tL]
 have V:Hid (C.size=16):=X;have O:=h.one;clear h X;have F:(a==6)=false:=by simpa using Q
 have N:=aH P;clear P Q
 go_enter func159,ntmps159
 go_upto_region 1 with(fail)
 have U:=qP w 284 C a k v;generalize(((w.alloc (.cells C 284)).alloc (.cells #[.int .i64 a,.int .i64 k,.int .i64 v] 39)).alloc (.cells (16:Int) 284)).alloc (.cells (2:Int) 44)=W at*;have Z:=aH U;obtain⟨⟨D,B,A⟩,⟨y,x,u,t⟩,G⟩:=U.ops;clear U
 go_wp2_with (first
  |(refine wpList_load_row rfl 284 _ rfl w.heap.size rfl 284 C (0,0) _ ?_ underlying284 rfl ?_ ?_;(exact Z.out.tab);(exact Y.out))
  |(refine wpList_store_row rfl 284 _ _ rfl (w.heap.size+2) C rfl rfl 284 (16:Int) ?_ ?_ ?_ O ?_;(exact Z.out.res);(exact Y.out);(rw[V.out];rfl);obtain⟨⟨s,c1⟩,r,q⟩:=Z.out.row C;obtain⟨T,S,R⟩:=Z.out.fin C 5 0;have M:=aH T;have L:=aH S;have K:=aH R;clear T S R)
  |(go_at_call 184;exfalso;have E:=N.out;simp only[bne_iff_ne,bne_eq_false_iff_eq,beq_iff_eq,beq_eq_false_iff_ne,ne_eq]at*;omega))
 all_goals exact bodyPost_ret (bY results159 _ _ (w.heap.size+2) (w.heap.size+3) 284 44 C #[.int .i64 5,.int .i64 0] _ _ rfl rfl M.out L.out underlying284 rfl Y.out underlying44 rfl lK) rfl ⟨C,H.out,rfl,K.out⟩
theorem oN{j:Int}{b:Bool}{R:Ending->World->Prop}(C:Array Value)(z:Nat->Int)(key i:Nat)(v y:Int)(w:World)(h:eB C 16 z)(zl:1<=key)(zr:key<=1000)(zk:i<8)(zx:kF z key=(i:Int))(hy:z (2*i)=y)(zj:(y==(key:Int))=b)
 (hc:(b=false/\(j=2\/j=5)/\R=oL z 4 0 w)\/
   (b=true/\j=5/\R=oL z 1 (z (2*i+1)) w)\/
   (b=false/\j=1/\R=oL z 3 0 w/\Hid (6<=eV z 8))\/
   (b=false/\j=1/\R=oL (setS z i key v) 1 0 w/\Hid (eV z 8<6/\-9223372036854775808<=v/\v<=9223372036854775807))\/
   (b=true/\j=1/\R=oL (setS z i key v) 1 0 w/\Hid (-9223372036854775808<=v/\v<=9223372036854775807))\/
   (b=true/\j=2/\∃m,R=oL (iX z i m) 1 (z (2*i+1)) w/\Hid (vI z i m/\∃D,eB D 16 (iX z i m)))):
 Calls prog 159 #[.agg C,.agg #[.int .i64 j,.int .i64 (key:Int),.int .i64 v]] w R:=by
 have q:Tg j:=rfl;have H:=aH h;have hI:=h.size;have U:Hid ((prog.info? 284).map (·.size)=some C.size):=by show _=_;rw[hI,tL]
 have A:Hid (C.size=16):=hI;have h1:=h.one;clear h hI;have zw:=aH zx;have HY:=aH hy;have zq:(i:Int)<8:=I;have zo:(1:Int)<=key:=I;have zn:(key:Int)<=1000:=I;clear zx hy;rcases hc with⟨rfl,hj,rfl⟩|⟨rfl,rfl,rfl⟩|⟨rfl,rfl,rfl,t⟩|⟨rfl,rfl,rfl,t⟩|⟨rfl,rfl,rfl,t⟩|⟨rfl,rfl,m,rfl,t⟩
 case' inl=>rcases hj with rfl|rfl
 all_goals
  go_enter func159,ntmps159
  go_upto_region 1 with(fail)
  have hL:=qP w 284 C q key v;generalize(((w.alloc (.cells C 284)).alloc (.cells #[.int .i64 q,.int .i64 (key:Int),.int .i64 v] 39)).alloc (.cells (16:Int) 284)).alloc (.cells (2:Int) 44)=W at*;have s:=aH hL;obtain⟨⟨o0,o1,o2⟩,_,zs⟩:=hL.ops;clear hL
  go_wp2_with (go_at_call 184;refine(TH C z w.heap.size key _ H.out s.out.tab zr).mono ?_;rintro e w1 ⟨rfl,c⟩;rw[zw.out])
  have x:=s.out.on c;have zv:=aH x;obtain⟨⟨p0,p1,p2⟩,_,a⟩:=x.ops;have y0:w1.cell? ⟨w.heap.size,i*2,none⟩=some (.int .i64 y):=by rw[x.tab.cell,Nat.mul_comm,H.out.get _ I,HY.out]
  clear x o0 o1 o2 zs s
  go_quiet (fail)
  have N:=zv.out.drewN nq;generalize w1.drewN nq=W2 at*;have X:=aH N;clear p0 p1 p2 y0 c;obtain⟨⟨p0,p1,p2⟩,_,zp⟩:=N.ops;have y0:W2.cell? ⟨w.heap.size,i*2,none⟩=some (.int .i64 y):=by rw[N.tab.cell,Nat.mul_comm,H.out.get _ I,HY.out]
  have y1:W2.cell? ⟨w.heap.size,i*2+1,none⟩=some (.int .i64 (z (2*i+1))):=by rw[N.tab.cell,Nat.mul_comm,H.out.get _ I]
  have k:W2.frozen? ⟨w.heap.size,i*2,none⟩=false:=N.tab.frozen _;have g:W2.frozen? ⟨w.heap.size,i*2+1,none⟩=false:=N.tab.frozen _;have zm:w.heap.size<W2.heap.size:=I;clear N a
 iterate 2
  .have h1':=h1
   go_wp2_with (first
    |(refine wpList_load_row rfl 284 _ rfl w.heap.size rfl 284 C (0,0) _ ?_ underlying284 rfl ?_ ?_;(exact X.out.tab);(exact U.out))
    |(refine wpList_store_row rfl 284 _ _ rfl (w.heap.size+2) C rfl rfl 284 (16:Int) ?_ ?_ ?_ h1 ?_;(exact X.out.res);(exact U.out);(rw[A.out];rfl);obtain⟨⟨c0,c1⟩,k,g⟩:=X.out.row C;obtain⟨Q,P,O⟩:=X.out.fin C 4 0;have M:=aH Q;have L:=aH P;have K:=aH O;clear Q P O))
   exact bodyPost_ret (bY results159 _ _ (w.heap.size+2) (w.heap.size+3) 284 44 C #[.int .i64 4,.int .i64 0] _ _ rfl rfl M.out L.out underlying284 rfl U.out underlying44 rfl lK) rfl ⟨C,H.out,rfl,K.out⟩
 .go_wp2_with (first
   |(refine wpList_load_row rfl 284 _ rfl w.heap.size rfl 284 C (0,0) _ ?_ underlying284 rfl ?_ ?_;(exact X.out.tab);(exact U.out))
   |(refine wpList_store_row rfl 284 _ _ rfl (w.heap.size+2) C rfl rfl 284 (16:Int) ?_ ?_ ?_ h1 ?_;(exact X.out.res);(exact U.out);(rw[A.out];rfl);obtain⟨⟨c0,c1⟩,k,g⟩:=X.out.row C;obtain⟨Q,P,O⟩:=X.out.fin C 1 (z (2*i+1));have M:=aH Q;have L:=aH P;have K:=aH O;clear Q P O))
  exact bodyPost_ret (bY results159 _ _ (w.heap.size+2) (w.heap.size+3) 284 44 C #[.int .i64 1,.int .i64 (z (2*i+1))] _ _ rfl rfl M.out L.out underlying284 rfl U.out underlying44 rfl lK) rfl ⟨C,H.out,rfl,K.out⟩
 .have r:=t.out;generalize hl:eV z 8=l at r;have G:=aH hl;clear hl
  go_wp2_with (first
   |(refine eM ?_ 284 _ rfl w.heap.size rfl 284 C (0,0) _ ?_ underlying284 rfl ?_ ?_;(first|rfl|(go_simp;done));(exact X.out.tab);(exact U.out))
   |(go_at_call 183;refine(vP C z _ H.out).mono ?_;rintro e B ⟨rfl,o⟩;rw[G.out];have V:=X.out.on o;have F:=aH V;obtain⟨⟨q0,q1,q2⟩,_,zz⟩:=V.ops;have x0:B.cell? ⟨w.heap.size,i*2,none⟩=some (.int .i64 y):=(by rw[V.tab.cell,Nat.mul_comm,H.out.get _ I,HY.out]);have x1:B.cell? ⟨w.heap.size,i*2+1,none⟩=some (.int .i64 (z (2*i+1))):=(by rw[V.tab.cell,Nat.mul_comm,H.out.get _ I]);have g0:B.frozen? ⟨w.heap.size,i*2,none⟩=false:=V.tab.frozen _;have g1:B.frozen? ⟨w.heap.size,i*2+1,none⟩=false:=V.tab.frozen _;have d:w.heap.size<B.heap.size:=I;clear V)
   |(refine wpList_load_row rfl 284 _ rfl w.heap.size rfl 284 C (0,0) _ ?_ underlying284 rfl ?_ ?_;(exact F.out.tab);(exact U.out))
   |(refine wpList_store_row rfl 284 _ _ rfl (w.heap.size+2) C rfl rfl 284 (16:Int) ?_ ?_ ?_ h1 ?_;(exact F.out.res);(exact U.out);(rw[A.out];rfl);obtain⟨⟨c0,c1⟩,k,g⟩:=F.out.row C;obtain⟨Q,P,O⟩:=F.out.fin C 3 0;have M:=aH Q;have L:=aH P;have K:=aH O;clear Q P O))
  exact bodyPost_ret (bY results159 _ _ (w.heap.size+2) (w.heap.size+3) 284 44 C #[.int .i64 3,.int .i64 0] _ _ rfl rfl M.out L.out underlying284 rfl U.out underlying44 rfl lK) rfl ⟨C,H.out,rfl,K.out⟩
 .have hv:=t.out.2;have r:=t.out.1;generalize hl:eV z 8=l at r;have G:=aH hl;clear hl;obtain⟨E,n⟩:∃E,E=(C.setIfInBounds (i*2) (.int .i64 (key:Int))).setIfInBounds (i*2+1) (.int .i64 v):=⟨_,rfl⟩;have Y:eB E 16 (setS z i key v):=by rw[n];exact vW H.out i I hv
  have HE:=aH Y;have p:=aH n;have Z:Hid ((prog.info? 284).map (·.size)=some E.size):=by show _=_;rw[Y.size,tL]
  have S:Hid (E.size=16):=Y.size;have f:=Y.one;clear Y n
  go_wp2_with (first
   |(refine eM ?_ 284 _ rfl w.heap.size rfl 284 C (0,0) _ ?_ underlying284 rfl ?_ ?_;(first|rfl|(go_simp;done));(exact X.out.tab);(exact U.out))
   |(go_at_call 183;refine(vP C z _ H.out).mono ?_;rintro e B ⟨rfl,o⟩;rw[G.out];have V:=X.out.on o;have F:=aH V;obtain⟨⟨q0,q1,q2⟩,_,zz⟩:=V.ops;have x0:B.cell? ⟨w.heap.size,i*2,none⟩=some (.int .i64 y):=(by rw[V.tab.cell,Nat.mul_comm,H.out.get _ I,HY.out]);have x1:B.cell? ⟨w.heap.size,i*2+1,none⟩=some (.int .i64 (z (2*i+1))):=(by rw[V.tab.cell,Nat.mul_comm,H.out.get _ I]);have g0:B.frozen? ⟨w.heap.size,i*2,none⟩=false:=V.tab.frozen _;have g1:B.frozen? ⟨w.heap.size,i*2+1,none⟩=false:=V.tab.frozen _;have d:w.heap.size<B.heap.size:=I;have T:=aH (V.set_ i (key:Int) v);rw[<-p.out]at T;clear V)
   |(refine wpList_load_row rfl 284 _ rfl w.heap.size rfl 284 E (0,0) _ ?_ underlying284 rfl ?_ ?_;(exact T.out.tab);(exact Z.out))
   |(refine wpList_store_row rfl 284 _ _ rfl (w.heap.size+2) E rfl rfl 284 (16:Int) ?_ ?_ ?_ f ?_;(exact T.out.res);(exact Z.out);(rw[S.out];rfl);obtain⟨⟨c0,c1⟩,k,g⟩:=T.out.row E;obtain⟨Q,P,O⟩:=T.out.fin E 1 0;have M:=aH Q;have L:=aH P;have K:=aH O;clear Q P O))
  exact bodyPost_ret (bY results159 _ _ (w.heap.size+2) (w.heap.size+3) 284 44 E #[.int .i64 1,.int .i64 0] _ _ rfl rfl M.out L.out underlying284 rfl Z.out underlying44 rfl lK) rfl ⟨E,HE.out,rfl,K.out⟩
 .have hv:=t.out;obtain⟨E,n⟩:∃E,E=(C.setIfInBounds (i*2) (.int .i64 (key:Int))).setIfInBounds (i*2+1) (.int .i64 v):=⟨_,rfl⟩;have Y:eB E 16 (setS z i key v):=by rw[n];exact vW H.out i I hv
  have HE:=aH Y;have p:=aH n;have Z:Hid ((prog.info? 284).map (·.size)=some E.size):=by show _=_;rw[Y.size,tL]
  have S:Hid (E.size=16):=Y.size;have f:=Y.one;clear Y n;have T:=aH (X.out.set_ i (key:Int) v);rw[<-p.out]at T
  go_wp2_with (first
   |(refine wpList_load_row rfl 284 _ rfl w.heap.size rfl 284 E (0,0) _ ?_ underlying284 rfl ?_ ?_;(exact T.out.tab);(exact Z.out))
   |(refine wpList_store_row rfl 284 _ _ rfl (w.heap.size+2) E rfl rfl 284 (16:Int) ?_ ?_ ?_ f ?_;(exact T.out.res);(exact Z.out);(rw[S.out];rfl);obtain⟨⟨c0,c1⟩,k,g⟩:=T.out.row E;obtain⟨Q,P,O⟩:=T.out.fin E 1 0;have M:=aH Q;have L:=aH P;have K:=aH O;clear Q P O))
  exact bodyPost_ret (bY results159 _ _ (w.heap.size+2) (w.heap.size+3) 284 44 E #[.int .i64 1,.int .i64 0] _ _ rfl rfl M.out L.out underlying284 rfl Z.out underlying44 rfl lK) rfl ⟨E,HE.out,rfl,K.out⟩
 .have hbe:=t.out.1;refine Exists.elim t.out.2 fun D hD=>?_
  have zu:=aH hbe;have HD:=aH hD;have Z:Hid ((prog.info? 284).map (·.size)=some D.size):=by show _=_;rw[hD.size,tL]
  have S:Hid (D.size=16):=hD.size;have f:=hD.one;clear hbe hD
  go_wp2_with (first
   |(refine wpList_load_row rfl 284 _ rfl w.heap.size rfl 284 C (0,0) _ ?_ underlying284 rfl ?_ ?_;(exact X.out.tab);(exact U.out))
   |(go_at_call 185;refine(JK C D z i m _ H.out zu.out HD.out).mono ?_;rintro e w5 ⟨rfl,zy⟩;have zt:=aH (X.out.on zy);have u:=aH ((X.out.on zy).setTab D))
   |(refine wpList_store_row rfl 284 _ _ rfl w.heap.size D rfl rfl 284 C ?_ ?_ ?_ f ?_;(exact zt.out.tab);(exact Z.out);(rw[A.out,S.out]))
   |(refine wpList_load_row rfl 284 _ rfl w.heap.size rfl 284 D (0,0) _ ?_ underlying284 rfl ?_ ?_;(exact u.out.tab);(exact Z.out))
   |(refine wpList_store_row rfl 284 _ _ rfl (w.heap.size+2) D rfl rfl 284 (16:Int) ?_ ?_ ?_ f ?_;(exact u.out.res);(exact Z.out);(rw[S.out];rfl);obtain⟨⟨c0,c1⟩,k,g⟩:=u.out.row D;obtain⟨Q,P,O⟩:=u.out.fin D 1 (z (2*i+1));have M:=aH Q;have L:=aH P;have K:=aH O;clear Q P O))
  exact bodyPost_ret (bY results159 _ _ (w.heap.size+2) (w.heap.size+3) 284 44 D #[.int .i64 1,.int .i64 (z (2*i+1))] _ _ rfl rfl M.out L.out underlying284 rfl Z.out underlying44 rfl lK) rfl ⟨D,HD.out,rfl,K.out⟩
def fJ(z:Nat->Int)(a k v:Int)(m:Nat):Nat->Int:=
 if(a=1\/a=2\/a=5)/\1<=k/\k<=1000 then
  (if a=1 then(if z (2*(kF z k.toNat).toNat)≠k/\6<=eV z 8 then z else setS z (kF z k.toNat).toNat k v)
   else if z (2*(kF z k.toNat).toNat)≠k then z else if a=2 then iX z (kF z k.toNat).toNat m else z)
 else z
def fV(z:Nat->Int)(a k:Int):Int:=
 if a=6 then 1 else if(a=1\/a=2\/a=5)/\1<=k/\k<=1000 then
  (if a=1 then(if z (2*(kF z k.toNat).toNat)≠k/\6<=eV z 8 then 3 else 1)
   else if z (2*(kF z k.toNat).toNat)≠k then 4 else 1)
 else 5
def fX(z:Nat->Int)(a k:Int):Int:=
 if a=6 then eV z 8 else if(a=2\/a=5)/\1<=k/\k<=1000 then
  (if z (2*(kF z k.toNat).toNat)≠k then 0 else z (2*(kF z k.toNat).toNat+1))
 else 0
def tG(z:Nat->Int)(a k:Int)(m:Nat):Prop:=a=2->1<=k->k<=1000->z (2*(kF z k.toNat).toNat)=k->vI z (kF z k.toNat).toNat m
theorem DG(h:cS z=true)(a k:Int):∃m,tG z a k m:=by
 by_cases Z:a=2/\1<=k/\k<=1000/\z (2*(kF z k.toNat).toNat)=k
 .obtain⟨i,hi,hat,_⟩:=nX h k.toNat;have e:(kF z k.toNat).toNat=i:=by rw[hat];rfl
  obtain⟨_,S,_,Y⟩:=Z;rw[e]at Y;obtain⟨m,X⟩:=JQ h hi I;exact⟨m,fun _ _ _ _=>by rw[e];exact X⟩
 .exact⟨0,fun W V U T=>absurd ⟨W,V,U,T⟩ Z⟩
theorem YE(C D:Array Value)(z:Nat->Int)(a k v:Int)(m:Nat)(w:World)(h:eB C 16 z)(H:cS z=true)(N: -9223372036854775808<=v/\v<=9223372036854775807)(G:tG z a k m)(O:eB D 16 (fJ z a k v m)):
 Calls prog 159 #[.agg C,.agg #[a,k,v]] w fun e w'=>e=.returned (.tuple #[.agg D,.agg #[(fV z a k),(fX z a k)]])/\Below w w w':=by
 suffices hs:Calls prog 159 #[.agg C,.agg #[a,k,v]] w (oL (fJ z a k v m) (fV z a k) (fX z a k) w)from hs.mono fun e w' L=>L.det O
 by_cases Q:a=6
 .subst Q;exact OT C z k v w h
 by_cases P:(a=1\/a=2\/a=5)/\1<=k/\k<=1000
 .obtain⟨ha,hk1,hk2⟩:=P;obtain⟨key,rfl⟩:=Int.eq_ofNat_of_zero_le (show(0:Int)<=k by omega);have T:1<=key:=I;have S:key<=1000:=I;obtain⟨i,R,Z,K⟩:=nX H key;have e:(kF z ((key:Nat):Int).toNat).toNat=i:=by rw[Int.toNat_natCast,Z];rfl
  have M:a=2->z (2*i)=key->vI z i m:=fun W X=>by have:=G W hk1 hk2 (by rw[e];exact X);rwa [e]at this
  by_cases Y:z (2*i)=key
  .have U:(z (2*i)==(key:Int))=true:=by simpa using Y
   rcases ha with rfl|rfl|rfl
   .have W:fJ z 1 key v m=setS z i key v:=by simp [fJ,hk1,hk2,Z,Y]
    have X:fV z 1 key=1:=by simp [fV,hk1,hk2,Z,Y]
    have V:fX z 1 key=0:=by simp [fX]
    rw[W,X,V];exact oN C z key i v _ w h T S R Z rfl U (.inr (.inr (.inr (.inr (.inl ⟨rfl,rfl,rfl,N⟩)))))
   .have hB:=M rfl Y;have W:fJ z 2 key v m=iX z i m:=by simp [fJ,hk1,hk2,Z,Y]
    have X:fV z 2 key=1:=by simp [fV,hk1,hk2,Z,Y]
    have V:fX z 2 key=z (2*i+1):=by simp [fX,hk1,hk2,Z,Y]
    rw[W]at O⊢;rw[X,V];exact oN C z key i v _ w h T S R Z rfl U (.inr (.inr (.inr (.inr (.inr ⟨rfl,rfl,m,rfl,hB,D,O⟩)))))
   have W:fJ z 5 key v m=z:=by simp [fJ,Z,Y]
   have X:fV z 5 key=1:=by simp [fV,hk1,hk2,Z,Y]
   have V:fX z 5 key=z (2*i+1):=by simp [fX,hk1,hk2,Z,Y]
   rw[W,X,V];exact oN C z key i v _ w h T S R Z rfl U (.inr (.inl ⟨rfl,rfl,rfl⟩))
  have U:(z (2*i)==(key:Int))=false:=by simpa using Y
  rcases ha with rfl|rfl|rfl
  .by_cases hl:6<=eV z 8
   .have W:fJ z 1 key v m=z:=by simp [fJ,Z,Y,hl]
    have X:fV z 1 key=3:=by simp [fV,hk1,hk2,Z,Y,hl]
    have V:fX z 1 key=0:=by simp [fX]
    rw[W,X,V];exact oN C z key i v _ w h T S R Z rfl U (.inr (.inr (.inl ⟨rfl,rfl,rfl,hl⟩)))
   have W:fJ z 1 key v m=setS z i key v:=by simp [fJ,hk1,hk2,Z,hl]
   have X:fV z 1 key=1:=by simp [fV,hk1,hk2,Z,hl]
   have V:fX z 1 key=0:=by simp [fX]
   rw[W,X,V];exact oN C z key i v _ w h T S R Z rfl U (.inr (.inr (.inr (.inl ⟨rfl,rfl,rfl,I,N⟩))))
  .have W:fJ z 2 key v m=z:=by simp [fJ,Z,Y]
   have X:fV z 2 key=4:=by simp [fV,hk1,hk2,Z,Y]
   have V:fX z 2 key=0:=by simp [fX,Z,Y]
   rw[W,X,V];exact oN C z key i v _ w h T S R Z rfl U (.inl ⟨rfl,.inl rfl,rfl⟩)
  have W:fJ z 5 key v m=z:=by simp [fJ,Z,Y]
  have X:fV z 5 key=4:=by simp [fV,hk1,hk2,Z,Y]
  have V:fX z 5 key=0:=by simp [fX,Z,Y]
  rw[W,X,V];exact oN C z key i v _ w h T S R Z rfl U (.inl ⟨rfl,.inr rfl,rfl⟩)
 have W:fJ z a k v m=z:=by simp only[fJ,iN P]
 have X:fV z a k=5:=by simp only[fV,iN P,iN Q]
 have V:fX z a k=0:=by simp only[fX,iN Q];rw[iN I]
 rw[W,X,V];exact OP C z a k v w h Q I
