/-
  Parts of a proof. For all values.
-/
import Derived.BigRegion
import Derived.Test.YtplpimkgihnmhaaGreatDoorA04
set_option maxRecDepth 100000
set_option maxHeartbeats 2000000
set_option linter.all false
namespace Go.Proofs.YtplpimkgihnmhaaGreatDoor
open Go.Proofs.Tryz Go.RowKit
variable{xs ys:List Int}{i:Nat}{w w':World}{v:Int}{A:Option Addr}
section
def gI(xs:List Int)(i:Nat):Int:=xs[i]?.getD 0
theorem kH{j:Nat}(Z:i<xs.length):gI (xs.set i v) j=if j=i then v else gI xs j:=by
 unfold gI;rw[List.getElem?_set];by_cases h:i=j
 .subst h;simp [Z]
 rw[iN h,iN (fun e=>h e.symm)]
theorem vO{n:Nat}(h:i<n):gI (xs.take n) i=gI xs i:=by
 unfold gI;rw[List.getElem?_take,iP h]
theorem tV(h:i<xs.length):gI (xs++ys) i=gI xs i:=by
 unfold gI;rw[List.getElem?_append_left h]
def eO(xs:List Int)(i:Nat):Nat:=if 2*i+2<xs.length/\gI xs (2*i+2)<gI xs (2*i+1)then 2*i+2 else 2*i+1
theorem kV(xs:List Int)(i:Nat):(eO xs i=2*i+2/\2*i+2<xs.length/\gI xs (2*i+2)<gI xs (2*i+1))\/(eO xs i=2*i+1/\¬(2*i+2<xs.length/\gI xs (2*i+2)<gI xs (2*i+1))):=by
 unfold eO;by_cases h:2*i+2<xs.length/\gI xs (2*i+2)<gI xs (2*i+1)
 .rw[iP h];exact .inl ⟨rfl,h.1,h.2⟩
 rw[iN h];exact .inr ⟨rfl,h⟩
def jU(xs:List Int)(i:Nat)(v:Int):List Int:=
 if h:eO xs i<xs.length/\gI xs (eO xs i)<v then jU (xs.set i (gI xs (eO xs i))) (eO xs i) v else xs.set i v
termination_by xs.length-i
decreasing_by
 have:=kV xs i;rw[List.length_set];omega
theorem oG(h:eO xs i<xs.length/\gI xs (eO xs i)<v):jU xs i v=jU (xs.set i (gI xs (eO xs i))) (eO xs i) v:=by
 rw[jU,dif_pos h]
theorem kW(h:¬(eO xs i<xs.length/\gI xs (eO xs i)<v)):jU xs i v=xs.set i v:=by
 rw[jU,dif_neg h]
theorem vY(i:Nat)(v:Int):jU [] i v=[]:=by rw[kW (by simp)];rfl
def jS(xs:List Int)(i:Nat):List Int:=
 if h:0<i/\gI xs i<gI xs ((i-1)/2)then jS ((xs.set i (gI xs ((i-1)/2))).set ((i-1)/2) (gI xs i)) ((i-1)/2)else xs
termination_by i
decreasing_by omega
theorem oH(h:0<i/\gI xs i<gI xs ((i-1)/2)):jS xs i=jS ((xs.set i (gI xs ((i-1)/2))).set ((i-1)/2) (gI xs i)) ((i-1)/2):=by
 rw[jS,dif_pos h]
theorem lW(h:¬(0<i/\gI xs i<gI xs ((i-1)/2))):jS xs i=xs:=by
 rw[jS,dif_neg h]
end
section
attribute [local go_sem↓] Go.wp_at_zero Go.wp_at_succ
structure jC (w:World) (g n:Nat) (xs:List Int):Prop where
 len:xs.length=n
 bd:nJ xs
 blk:∃cs,aY w g 3 cs/\∀i,i<n->cs[i]? =some (.int .i64 (gI xs i))
section
variable{w w':World}{g n:Nat}{xs:List Int}
theorem jC.lt(h:jC w g n xs):g<w:=by obtain⟨Y,Z,_⟩:=h.blk;exact Z.lt
theorem jC.cell(h:jC w g n xs)(X:i<n):w.cell? (g,i)=(gI xs i):=by
 obtain⟨W,Z,Y⟩:=h.blk;rw[Z.cell];exact Y i X
theorem jC.frozen(h:jC w g n xs)(i:Nat):w.frozen? ⟨g,i,none⟩=false:=by obtain⟨Y,Z,_⟩:=h.blk;exact Z.frozen i
theorem nJ.gI{xs:List Int}(h:nJ xs)(i:Nat): -9223372036854775808<=gI xs i/\gI xs i<=9223372036854775807:=h i
theorem nJ.set(h:nJ xs)(Z: -9223372036854775808<=v/\v<=9223372036854775807):nJ (xs.set i v):=fun j=>by
 rw[List.getElem?_set];split
 .split
  .exact Z
  decide
 exact h j
theorem nJ.take(h:nJ xs)(k:Nat):nJ (xs.take k):=fun j=>by
 rw[List.getElem?_take];split
 .exact h j
 decide
theorem jC.set(h:jC w g n xs)(S: -9223372036854775808<=v/\v<=9223372036854775807)(R:i<n):jC (w.setCell (g,i) v) g n (xs.set i v):=by
 obtain⟨X,U,W⟩:=h.blk;have V:=h.len;refine⟨by rw[List.length_set];exact V,h.bd.set S,_,U.set_ i _,fun j T=>?_⟩;rw[Array.getElem?_setIfInBounds,kH I];have Y:i<X.size:=by
  have:=W i R;rcases Nat.lt_or_ge i X.size with h|h
  .exact h
  rw[Array.getElem?_eq_none h]at this;cases this
 by_cases Z:i=j
 .subst Z;rw[iP rfl,iP Y,iP rfl]
 rw[iN Z,iN (fun e=>Z e.symm)];exact W j T
theorem jC.alloc(h:jC w g n xs)(o:Obj):jC (w.alloc o) g n xs:=by
 obtain⟨Z,Y,X⟩:=h.blk;exact⟨h.len,h.bd,Z,Y.alloc o,X⟩
theorem jC.drew(h:jC w g n xs):jC w.drew g n xs:=⟨h.len,h.bd,h.blk⟩
theorem jC.drewN(h:jC w g n xs)(k:Nat):jC (w.drewN k) g n xs:=⟨h.len,h.bd,h.blk⟩
theorem jC.take(h:jC w g n xs){k:Nat}(V:k<=n):jC w g k (xs.take k):=by
 obtain⟨Z,Y,X⟩:=h.blk;exact⟨by rw[List.length_take,h.len];omega,h.bd.take k,Z,Y,fun i W=>by rw[vO W];exact X i I⟩
theorem jC.slo(h:jC w g n xs){B c:Nat}(W:B<=g)(V:n<=c)(Z:c<=9223372036854775807):kC w B (some ⟨g,0,none⟩) n c xs:=
 ⟨⟨h.len,V,Z,h.bd,fun _=>⟨g,0,rfl,h.lt,fun i Y=>by rw[Nat.zero_add];exact h.cell Y⟩⟩,fun _ b X=>by cases X;exact W⟩
end
theorem jX.row{B:Nat}{n c:Nat}(h:jX w B A n c xs)(bd:nJ xs)(N:0<n):∃g,A=some ⟨g,0,none⟩/\B<=g/\jC w g n xs:=by
 have X:=h.len;rcases h.2 with⟨Y,S⟩|⟨g,W,Z,Y,V,U,R,Q,P,T⟩
 .omega
 simp only[Value.slice.injEq,true_and]at Y;obtain⟨rfl,rfl⟩:=Y;refine⟨g,rfl,V,X,bd,Z,U,fun i O=>?_⟩;have e:(Z.toList.take (n*1))[i]? =(xs.map (Value.int .i64))[i]? :=by rw[T]
 rw[List.getElem?_take,iP I,List.getElem?_map,List.getElem?_eq_getElem (l:=xs) I]at e;simpa [gI,List.getElem?_eq_getElem (show i<xs.length by omega)]using e
theorem aD.set_{g:Nat}(h:aD (fun b=>b=g) w w')(i:Nat)(u:Value):aD (fun b=>b=g) w (w'.setCell (g,i) u):=h.setCell (.inl rfl) u
theorem Bm(g n c:Nat)(xs:List Int)(w:World)(h:jC w g n xs)(j:0<n)(v:n<=100):
 Calls prog 189 #[.slice (some ⟨g,0,none⟩) n c] w fun e w'=>e=.returned (.slice (some ⟨g,0,none⟩) n c)/\jC w' g n (jS xs (n-1))/\aD (fun b=>b=g) w w':=by
 have H:=aH h;clear h
 go_enter func189,ntmps189
 go_wp2
 go_loopw [3] (fun i wr=>∃(k:Nat) (R:List Int),k<n/\i=.int .i64 k/\Hid (jC wr g n R)/\Hid (jS R k=jS xs (n-1))/\Hid (aD (fun b=>b=g) w wr)) (fun i _=>(intOf i).toNat)
 case atStart=>exact⟨n-1,xs,I,jW I,H,aH rfl,aH (aD.refl _ _)⟩
 case round=>
  obtain⟨k,R,G,rfl,X,F,V⟩:=hrel;have u:(k:Int)<n:=I;have U:=X.lt;by_cases E:0<k
  .have c1:=X.cell G;have T:=X.cell (i:=(k-1)/2) I;have t:((k:Int)-1)/2<n:=I;have s:0<=((k:Int)-1)/2:=I;have r:0<(k:Int):=I;have C:k≠(k-1)/2:=I;have S:=X.bd.gI k;have Q:=X.bd.gI ((k-1)/2);have B:Hid (gI R k<gI R ((k-1)/2)->jS R k=jS ((R.set k (gI R ((k-1)/2))).set ((k-1)/2) (gI R k)) ((k-1)/2)):=fun h=>oH ⟨E,h⟩
   have A:Hid (¬gI R k<gI R ((k-1)/2)->jS R k=R):=fun h=>lW (fun z=>h z.2)
   generalize P:gI R k=x at*;generalize O:gI R ((k-1)/2)=y at*;have P:=aH P;have O:=aH O;go_wp2
   go_quiet (fail)
   go_wp2
   .have hlt1:x<y:=by assumption
    have Z:=aH (X.drewN nq);have N:=aH (V.drewN nq);have D:g<(wr.drewN nq).heap.size:=U;clear c1 T U X V;generalize wr.drewN nq=W at*;have c1:=Z.cell G;have T:=Z.cell (i:=(k-1)/2) I;rw[P.out]at c1;rw[O.out]at T;have q:=Z.frozen k;have p:=Z.frozen ((k-1)/2);have M:=aH (B.out hlt1);have o:IntKind.i64.wrap ((k:Int)-1)=(k:Int)-1:=IntWalk.i64_in _ I;have m:IntKind.i64.wrap (((k:Int)-1).tdiv 2)=((k:Int)-1)/2:=by rw[Int.tdiv_eq_ediv_of_nonneg I];exact IntWalk.i64_in _ I
    have l:(((k:Int)-1)/2).toNat=(k-1)/2:=I
    go_region
    go_wp2;exact⟨⟨(k-1)/2,_,I,jW I,aH ((Z.set Q G).set S I).drew,aH (M.symm.trans F),aH ((N.set_ _ _).set_ _ _).drew⟩,by simp [intOf];omega⟩
   have L:y<=x:=by assumption
   have Y:=A.out L;go_ret;exact⟨rfl,by rw[<-F.out,Y];exact X.drewN _,V.drewN _⟩
  obtain rfl:k=0:=I;have Y:jS R 0=R:=lW (fun h=>absurd h.1 I);have K:=aH Y;clear Y;go_wp2
  go_quiet (fail)
  go_wp2;go_ret;exact⟨rfl,by rw[<-F.out,K.out];exact X.drewN _,V.drewN _⟩
theorem UH(A:Option Addr)(g n c:Nat)(xs:List Int)(v:Int)(w:World)(hA:0<n->A=some ⟨g,0,none⟩)(h:jC w g n (xs.set 0 v))(zv:n<=100):
 Calls prog 190 #[.slice A n c] w fun e w'=>e=.returned (.slice A n c)/\jC w' g n (jU xs 0 v)/\aD (fun b=>b=g) w w':=by
 have H:=aH h;have hl:xs.length=n:=by have:=h.len;simpa using this
 have HL:=aH hl;have HA:=aH hA;clear h hl hA
 go_enter func190,ntmps190
 go_wp2
 go_loopw [3] (fun i wr=>∃(k:Nat) (R:List Int),(k<n\/n=0/\k=0)/\i=.int .i64 k/\R.length=n/\Hid (jC wr g n (R.set k v))/\Hid (jU R k v=jU xs 0 v)/\Hid (aD (fun b=>b=g) w wr)) (fun i _=>n-(intOf i).toNat)
 case atStart=>exact⟨0,xs,I,rfl,HL.out,H,aH rfl,aH (aD.refl _ _)⟩
 case round=>
  obtain⟨k,R,hk,rfl,p,S,x,X⟩:=hrel;have V:=aH p;clear p;have zy:k<100:=I;have e1:IntKind.i64.wrap (2*(k:Int))=2*k:=IntWalk.i64_in _ I;have e2:IntKind.i64.wrap (2*(k:Int)+1)=2*k+1:=IntWalk.i64_in _ I;have e3:IntKind.i64.wrap (2*(k:Int)+1+1)=2*k+2:=by rw[show 2*(k:Int)+1+1=2*k+2 by omega];exact IntWalk.i64_in _ I
  have P:=S.lt;rcases Nat.lt_or_ge (2*k+1) n with p1|p1
  .obtain rfl:=HA.out I;have l:k<n:=I;have q0:(k:Int)<n:=I;have q1:2*(k:Int)+1<n:=I;have m:=S.cell l;have c1:=S.cell p1;have j:gI (R.set k v) k=v:=by rw[kH (by have:=V.out;omega),iP rfl]
   have f:gI (R.set k v) (2*k+1)=gI R (2*k+1):=by rw[kH (by have:=V.out;omega),iN I]
   have d:gI (R.set k v) (2*k+2)=gI R (2*k+2):=by rw[kH (by have:=V.out;omega),iN I]
   have Q:=kV R k;have M:eO R k<R.length/\gI R (eO R k)<v->jU R k v=jU (R.set k (gI R (eO R k))) (eO R k) v:=oG;have U:¬(eO R k<R.length/\gI R (eO R k)<v)->jU R k v=R.set k v:=kW;rw[V.out]at Q M U;rw[j]at m;rw[f]at c1;have y:=S.bd.gI (2*k+1);rw[f]at y;have D:=S.bd.gI k;rw[j]at D;clear j f;by_cases p2:2*k+2<n
   .have q2:2*(k:Int)+2<n:=I;have c2:=S.cell p2;rw[d]at c2;have t:=S.bd.gI (2*k+2);rw[d]at t;clear d;generalize F:gI R (2*k+1)=N at*;generalize o:gI R (2*k+2)=u at*;have a:=aH F;have zz:=aH o;have C:=aH M;have O:=aH U;clear M U F o;by_cases zw:u<N
    .have T:eO R k=2*k+2:=by rcases Q with h|h<;>omega
     have L:Hid (gI R (2*k+2)=u):=zz;have dm:decide ((n:Int)<=2*(k:Int)+2)=false:=by simp;omega
     have Z:=aH T;clear Q T;by_cases E:u<v
     .have hsS:=aH (C.out (by rw[Z.out,L.out];exact⟨I,E⟩));go_wp2
      go_quiet (fail)
      go_wp2
      rename Nat=>nq1
      go_quiet (fail)
      go_wp2;have Y:=aH ((S.drewN nq1).drewN nq);have K:=aH ((X.drewN nq1).drewN nq);have B:g<((wr.drewN nq1).drewN nq).heap.size:=P;have s:((wr.drewN nq1).drewN nq).cell? (g,k)=v:=m;have cm:((wr.drewN nq1).drewN nq).cell? (g,2*k+2)=u:=c2;have f1:=Y.frozen k;have f2:=Y.frozen (2*k+2);have r:k≠2*k+2:=I;clear P S X;generalize(wr.drewN nq1).drewN nq=W at*
      go_region
      go_wp2;refine⟨⟨2*k+2,R.set k u,.inl I,jW I,by rw[List.length_set];exact V,aH ?_,aH ?_,aH ((K.set_ _ _).set_ _ _).drew⟩,by simp [intOf];omega⟩
      .have h3:=(Y.set t (show k<n by omega)).set D (i:=2*k+2) I;rw[List.set_set]at h3;exact h3.drew
      have z:=hsS.out;rw[Z.out,L.out]at z;exact z.symm.trans x
     .have q:v<=u:=I;have G:=aH (O.out (by rw[Z.out,L.out];omega));go_wp2
      go_quiet (fail)
      go_wp2
      rename Nat=>nq1
      go_quiet (fail)
      go_wp2;go_ret;exact⟨rfl,by rw[<-x.out,G.out];exact(S.drewN nq1).drewN _,(X.drewN nq1).drewN _⟩
    have T:eO R k=2*k+1:=by rcases Q with h|h<;>omega
    have L:Hid (gI R (2*k+1)=N):=a;have dm:decide ((n:Int)<=2*(k:Int)+1)=false:=by simp;omega
    have Z:=aH T;have zx:N<=u:=I;clear Q T;by_cases E:N<v
    .have hsS:=aH (C.out (by rw[Z.out,L.out];exact⟨I,E⟩));go_wp2
     go_quiet (fail)
     go_wp2
     rename Nat=>nq1
     go_quiet (fail)
     go_wp2;have Y:=aH ((S.drewN nq1).drewN nq);have K:=aH ((X.drewN nq1).drewN nq);have B:g<((wr.drewN nq1).drewN nq).heap.size:=P;have s:((wr.drewN nq1).drewN nq).cell? (g,k)=v:=m;have cm:((wr.drewN nq1).drewN nq).cell? (g,2*k+1)=N:=c1;have f1:=Y.frozen k;have f2:=Y.frozen (2*k+1);have r:k≠2*k+1:=I;clear P S X;generalize(wr.drewN nq1).drewN nq=W at*
     go_region
     go_wp2;refine⟨⟨2*k+1,R.set k N,.inl I,jW I,by rw[List.length_set];exact V,aH ?_,aH ?_,aH ((K.set_ _ _).set_ _ _).drew⟩,by simp [intOf];omega⟩
     .have h3:=(Y.set y (show k<n by omega)).set D (i:=2*k+1) I;rw[List.set_set]at h3;exact h3.drew
     have z:=hsS.out;rw[Z.out,L.out]at z;exact z.symm.trans x
    have q:v<=N:=I;have G:=aH (O.out (by rw[Z.out,L.out];omega));go_wp2
    go_quiet (fail)
    go_wp2
    rename Nat=>nq1
    go_quiet (fail)
    go_wp2;go_ret;exact⟨rfl,by rw[<-x.out,G.out];exact(S.drewN nq1).drewN _,(X.drewN nq1).drewN _⟩
   have d2:decide (2*(k:Int)+2<n)=false:=by simp;omega
   have T:eO R k=2*k+1:=by rcases Q with h|h<;>omega
   generalize F:gI R (2*k+1)=N at*;have L:=aH F;have dm:decide ((n:Int)<=2*(k:Int)+1)=false:=by simp;omega
   have C:=aH M;have O:=aH U;have Z:=aH T;clear M U F Q T;by_cases E:N<v
   .have hsS:=aH (C.out (by rw[Z.out,L.out];exact⟨I,E⟩));go_wp2
    go_quiet (fail)
    go_wp2
    rename Nat=>nq1
    go_quiet (fail)
    go_wp2;have Y:=aH ((S.drewN nq1).drewN nq);have K:=aH ((X.drewN nq1).drewN nq);have B:g<((wr.drewN nq1).drewN nq).heap.size:=P;have s:((wr.drewN nq1).drewN nq).cell? (g,k)=v:=m;have cm:((wr.drewN nq1).drewN nq).cell? (g,2*k+1)=N:=c1;have f1:=Y.frozen k;have f2:=Y.frozen (2*k+1);have r:k≠2*k+1:=I;clear P S X;generalize(wr.drewN nq1).drewN nq=W at*
    go_region
    go_wp2;refine⟨⟨2*k+1,R.set k N,.inl I,jW I,by rw[List.length_set];exact V,aH ?_,aH ?_,aH ((K.set_ _ _).set_ _ _).drew⟩,by simp [intOf];omega⟩
    .have h3:=(Y.set y (show k<n by omega)).set D (i:=2*k+1) I;rw[List.set_set]at h3;exact h3.drew
    have z:=hsS.out;rw[Z.out,L.out]at z;exact z.symm.trans x
   have q:v<=N:=I;have G:=aH (O.out (by rw[Z.out,L.out];omega));go_wp2
   go_quiet (fail)
   go_wp2
   rename Nat=>nq1
   go_quiet (fail)
   go_wp2;go_ret;exact⟨rfl,by rw[<-x.out,G.out];exact(S.drewN nq1).drewN _,(X.drewN nq1).drewN _⟩
  have U:jU R k v=R.set k v:=kW (by rcases kV R k with h|h<;>(rw[V.out]at h;rw[V.out];omega))
  have O:=aH U;clear U;have d1:decide (2*(k:Int)+2<n)=false:=by simp;omega
  have d2:decide ((n:Int)<=2*(k:Int)+1)=true:=by simp;omega
  go_wp2
  go_quiet (fail)
  go_wp2
  rename Nat=>nq1
  go_quiet (fail)
  go_wp2;go_ret;exact⟨rfl,by rw[<-x.out,O.out];exact(S.drewN nq1).drewN _,(X.drewN nq1).drewN _⟩
def gD(xs:List Int)(a v:Int):List Int:=if a=1 then(if xs.length<6 then jS (xs++[v]) xs.length else xs)else if a=2 then jU (xs.take (xs.length-1)) 0 (gI xs (xs.length-1))else xs
def gM(xs:List Int)(a:Int):Int:=if a=1 then(if xs.length<6 then 1 else 3)else if a=2\/a=5 then(if xs.length=0 then 2 else 1)else if a=6 then 1 else 5
def gK(xs:List Int)(a:Int):Int:=if a=2\/a=5 then gI xs 0 else if a=6 then xs.length else 0
theorem mN(w:World)(p q:Addr)(u:Value):(w.setCell p u).frozen? q=w.frozen? q:=by simp
theorem iE{Z Y:World}{g:Nat}(X:Below w w Z)(V:aD (fun b=>b=g) Z Y)(U:w<=g):Below w w Y:=
 X.trans (V.below X.size (fun b W e=>by omega))
theorem SV(A:Option Addr)(n c:Nat)(xs:List Int)(k v:Int)(w:World)(h:fI w A n c xs)(hn:n<6)(l: -9223372036854775808<=v/\v<=9223372036854775807):
 Calls prog 164 #[.slice A n c,.agg #[(1:Int),k,v]] w (fQ (jS (xs++[v]) n) 1 0 w):=by
 have H:=aH h;clear h;have Q:=aH l;clear l;have d0:decide (6<=(n:Int))=false:=by simp;omega
 go_enter func164,ntmps164
 go_wp2_with (first
  |(go_at_call 186;refine(fR A n c xs w _ H I ?_).mono ?_;(go_grown);rintro e C ⟨A1,c1,rfl,X,P,hB⟩;obtain⟨o,m⟩:=cJ P;have j:=P.size;simp only[World.size_alloc]at j;replace X:=X.mono (B':=w+2) (by simp);have q1:w.heap.size+1<C:=I;have q0:w.heap.size<C:=I;have T:=aH X;clear X;have x:=o (w,1) 0 (by simp);have u:=o (w,1) 1 (by simp);have t:=m (w,1) 0 (by simp);have s:=m (w,1) 1 (by simp);simp [go_sem]at x u t s;have m1:¬w.heap.size+1=C:=I)
  |(at_builtin;refine dM rfl (.tmp 19) (.tmp 22) rfl (B:=w+2) rfl (T.alloc _) rfl ((aY.new _ _ _).cell 0) I (by simp;omega) ?_;intro O c2 K Y R;obtain⟨N,M⟩:=cJ R;have G:=R.size;simp only[World.size_alloc]at G;have F:Below w w K:=Below.trans (by go_grown) (R.mono (by simp));have i:=(N (w,1) 0 (by simp)).trans ((bX I).trans x);have g:=(N (w,1) 1 (by simp)).trans ((bX I).trans u);have f:=(M (w,1) 0 (by simp)).trans ((eP I).trans t);have d:=(M (w,1) 1 (by simp)).trans ((eP I).trans s);have V:=aH (Y.sli (nJ.app H.bd Q));obtain⟨g3,z,y,U⟩:=Y.row (nJ.app H.bd Q) I;cases z;have S:=aH U;clear U Y;have L:w.heap.size+1<K:=I;have q4:w.heap.size<K:=I;have m2:¬w.heap.size+1=K:=I)
  |(go_at_call 189;refine(Bm O (n+1) c2 _ _ S I I).mono ?_;rintro e w3 ⟨rfl,W,Z⟩;have E:=aH W;clear W;have r:=Z.size;have D:=iE F Z I;have b:=(Z.cell (p:=⟨w+1,0,none⟩) L (by show¬w+1=O;omega)).trans i;have a:=(Z.cell (p:=⟨w+1,1,none⟩) L (by show¬w+1=O;omega)).trans g;have z0:=(Z.frozen (p:=⟨w+1,0,none⟩) L (by show¬w+1=O;omega)).trans f;have z1:=(Z.frozen (p:=⟨w+1,1,none⟩) L (by show¬w+1=O;omega)).trans d;have q5:w.heap.size+1<w3:=I;have q:=aH Z;clear Z))
 all_goals(refine bodyPost_ret (by first|(simp [results,results164,go_sem,b,a];try rfl;done)) rfl ?_)
 refine dB (E.slo y V.cap V.cap63) D ?_ ?_ ?_ ?_ ?_ rfl rfl
 all_goals first|(show w.heap.size+1<w+2;omega)|(show w.heap.size<=w+1;omega)|skip
 simp
theorem MM(A:Option Addr)(n c:Nat)(xs:List Int)(k v:Int)(w:World)(h:fI w A n c xs)(hn:n<=60)(T:0<n):
 Calls prog 164 #[.slice A n c,.agg #[(2:Int),k,v]] w (fQ (jU (xs.take (n-1)) 0 (gI xs (n-1))) 1 (gI xs 0) w):=by
 have K:=aH h.len;have H:=aH h;clear h;have f:((n:Int)==0)=false:=by simp;omega
 have d:(0:Int)<=(n:Int)-1:=I;have b:(n:Int)-1<n:=I;have u:(n:Int)-1<=n:=I;have G:(1:Int)<=n:=I;have a:((n:Int)-1).toNat=n-1:=I
 go_enter func164,ntmps164
 go_wp2_with (first
  |(go_at_call 186;refine(fR A n c xs w _ H I ?_).mono ?_;(go_grown);rintro e N ⟨A1,c1,rfl,Z,R,l⟩;obtain⟨M,x⟩:=cJ R;have t:=R.size;simp only[World.size_alloc]at t;replace Z:=Z.mono (B':=w+2) (by simp);have Q:w.heap.size+1<N:=I;have q0:w.heap.size<N:=I;obtain⟨g,rfl,L,Y⟩:=Z.row H.bd T;have V:=aH Y;have x0:=Y.cell (i:=0) T;have x1:=Y.cell (i:=n-1) I;have fz:=Y.frozen 0;have F:=(Z.sli H.bd).cap;have U:=(Z.sli H.bd).cap63;have b2:(n:Int)-1<=c1:=I;have s:=Y.lt;have mg:¬w=g:=I;have r:¬w+1=g:=I;clear Y Z;have E:=M (w,1) 0 (by simp);have D:=M (w,1) 1 (by simp);have q:=M w 0 (by simp;omega);have C:=x (w,1) 0 (by simp);have B:=x (w,1) 1 (by simp);simp [go_sem]at E D q C B;have m1:¬w.heap.size+1=N:=I)
  |(go_at_call 190;refine(UH _ g (n-1) c1 (xs.take (n-1)) (gI xs (n-1)) _ (fun _=>rfl) ?_ I).mono ?_;(have z:=(V.set (H.bd (n-1)) T (v:=gI xs (n-1))).take (k:=n-1) I;rw[List.take_set]at z;exact z);rintro e j ⟨rfl,W,X⟩;have P:=aH W;clear W;have S:=X.size;simp only[World.size_setCell]at S;have O:=iE (l.setCell (show w<=g by omega) _) X I;have o:=(X.cell (p:=⟨w+1,0,none⟩) (by simpa using Q) (by show¬w+1=g;omega)).trans ((World.cell?_setCell_far _ _ _ _ (by show g≠w+1;omega)).trans E);have m:=(X.cell (p:=⟨w+1,1,none⟩) (by simpa using Q) (by show¬w+1=g;omega)).trans ((World.cell?_setCell_far _ _ _ _ (by show g≠w+1;omega)).trans D);have z0:=(X.frozen (p:=⟨w+1,0,none⟩) (by simpa using Q) (by show¬w+1=g;omega)).trans ((mN _ _ _ _).trans C);have z1:=(X.frozen (p:=⟨w+1,1,none⟩) (by simpa using Q) (by show¬w+1=g;omega)).trans ((mN _ _ _ _).trans B);have q5:w.heap.size+1<j:=I;have y:=aH X;clear X))
 all_goals(refine bodyPost_ret (by first|(simp [results,results164,go_sem,o,m];try rfl;done)) rfl ?_)
 refine dB (P.slo L I U) O ?_ ?_ ?_ ?_ rfl rfl rfl
 all_goals first|(show w.heap.size+1<w+2;omega)|(show w.heap.size<=w+1;omega)|skip
theorem MN(A:Option Addr)(n c:Nat)(xs:List Int)(a k v:Int)(w:World)(h:fI w A n c xs)(p:n<=60)(G:a=1->6<=n)(F:a=2->n=0):
 Calls prog 164 #[.slice A n c,.agg #[a,k,v]] w (fQ xs (gM xs a) (gK xs a) w):=by
 have V:=aH h.len;have H:=aH h;clear h;rcases Nat.eq_zero_or_pos n with hn0|hn0
 .subst hn0;obtain rfl:xs=[]:=List.eq_nil_of_length_eq_zero V;have x:¬a=1:=fun e=>absurd (G e) I
  clear G F
  go_enter func164,ntmps164
  go_wp2_with (go_at_call 186;refine(fR A 0 c [] w _ H I ?_).mono ?_;(go_grown);rintro e U ⟨y,c1,rfl,Z,W,L⟩;obtain⟨T,Q⟩:=cJ W;have P:=W.size;simp only[World.size_alloc]at P;replace Z:=Z.mono (B':=w+2) (by simp);have C:w.heap.size+1<U:=I;have B:w.heap.size<U:=I;have Y:=aH Z;clear Z;have S:=T (w,1) 0 (by simp);have R:=T (w,1) 1 (by simp);have O:=T w 0 (by simp;omega);have N:=Q (w,1) 0 (by simp);have M:=Q (w,1) 1 (by simp);simp [go_sem]at S R O N M;have z:¬w.heap.size+1=U:=I)
  all_goals(refine bodyPost_ret (by first|(simp [results,results164,go_sem,S,R];try rfl;done)) rfl ?_)
  all_goals try simp only[beq_iff_eq,beq_eq_false_iff_ne,bne_iff_ne,bne_eq_false_iff_eq,ne_eq]at*
  all_goals(refine dB (Y.slo H.bd) L ?_ ?_ ?_ ?_ rfl ?_ ?_)
  all_goals first|(show w.heap.size+1<w+2;omega)|(show w.heap.size<=w+1;omega)|skip
  all_goals(simp only[gM,gK,gI];(repeat' split)<;>first|rfl|(exfalso;omega)|(simp_all;done)|(simp_all;omega))
 have r:((n:Int)==0)=false:=by simp;omega
 have u:¬a=2:=fun e=>absurd (F e) I
 by_cases K:a=1
 .have h6:=G K;subst K;have q:decide (6<=(n:Int))=true:=by simp;omega
  clear G F
  go_enter func164,ntmps164
  go_wp2_with (go_at_call 186;refine(fR A n c xs w _ H I ?_).mono ?_;(go_grown);rintro e U ⟨y,c1,rfl,Z,W,L⟩;obtain⟨T,Q⟩:=cJ W;have P:=W.size;simp only[World.size_alloc]at P;replace Z:=Z.mono (B':=w+2) (by simp);have C:w.heap.size+1<U:=I;have B:w.heap.size<U:=I;obtain⟨g,rfl,D,X⟩:=Z.row H.bd hn0;have t:=X.cell (i:=0) hn0;have E:=X.lt;have Y:=aH Z;clear X Z;have S:=T (w,1) 0 (by simp);have R:=T (w,1) 1 (by simp);have O:=T w 0 (by simp;omega);have N:=Q (w,1) 0 (by simp);have M:=Q (w,1) 1 (by simp);simp [go_sem]at S R O N M;have z:¬w.heap.size+1=U:=I)
  all_goals(refine bodyPost_ret (by first|(simp [results,results164,go_sem,S,R];try rfl;done)) rfl ?_)
  all_goals try simp only[beq_iff_eq,beq_eq_false_iff_ne,bne_iff_ne,bne_eq_false_iff_eq,ne_eq]at*
  all_goals(refine dB (Y.slo H.bd) L ?_ ?_ ?_ ?_ rfl ?_ ?_)
  all_goals first|(show w.heap.size+1<w+2;omega)|(show w.heap.size<=w+1;omega)|skip
  all_goals(have s:=V.out;simp only[gM,gK];(repeat' split)<;>first|rfl|(exfalso;omega)|(simp_all;done)|(simp_all;omega))
 clear G F
 go_enter func164,ntmps164
 go_wp2_with (go_at_call 186;refine(fR A n c xs w _ H I ?_).mono ?_;(go_grown);rintro e U ⟨y,c1,rfl,Z,W,L⟩;obtain⟨T,Q⟩:=cJ W;have P:=W.size;simp only[World.size_alloc]at P;replace Z:=Z.mono (B':=w+2) (by simp);have C:w.heap.size+1<U:=I;have B:w.heap.size<U:=I;obtain⟨g,rfl,D,X⟩:=Z.row H.bd hn0;have t:=X.cell (i:=0) hn0;have E:=X.lt;have Y:=aH Z;clear X Z;have S:=T (w,1) 0 (by simp);have R:=T (w,1) 1 (by simp);have O:=T w 0 (by simp;omega);have N:=Q (w,1) 0 (by simp);have M:=Q (w,1) 1 (by simp);simp [go_sem]at S R O N M;have z:¬w.heap.size+1=U:=I)
 all_goals(refine bodyPost_ret (by first|(simp [results,results164,go_sem,S,R];try rfl;done)) rfl ?_)
 all_goals try simp only[beq_iff_eq,beq_eq_false_iff_ne,bne_iff_ne,bne_eq_false_iff_eq,ne_eq]at*
 all_goals(refine dB (Y.slo H.bd) L ?_ ?_ ?_ ?_ rfl ?_ ?_)
 all_goals first|(show w.heap.size+1<w+2;omega)|(show w.heap.size<=w+1;omega)|skip
 all_goals(have s:=V.out;simp only[gM,gK];(repeat' split)<;>first|rfl|(exfalso;omega)|(simp_all;done)|(simp_all;omega))
theorem SS(A:Option Addr)(n c:Nat)(xs:List Int)(a k v:Int)(w:World)(h:fI w A n c xs)(V:n<=60)(S: -9223372036854775808<=v/\v<=9223372036854775807):
 Calls prog 164 #[.slice A n c,.agg #[a,k,v]] w (fQ (gD xs a v) (gM xs a) (gK xs a) w):=by
 have Y:=h.len;by_cases U:a=1/\n<6
 .obtain⟨rfl,h6⟩:=U;have Z:gD xs 1 v=jS (xs++[v]) n:=by simp [gD,Y,h6]
  have X:gM xs 1=1:=by simp [gM,Y,h6]
  have W:gK xs 1=0:=by simp [gK]
  rw[Z,X,W];exact SV A n c xs k v w h h6 S
 by_cases T:a=2/\0<n
 .obtain⟨rfl,h0⟩:=T;have Z:gD xs 2 v=jU (xs.take (n-1)) 0 (gI xs (n-1)):=by simp [gD,Y]
  have X:gM xs 2=1:=by simp [gM,Y];omega
  have W:gK xs 2=gI xs 0:=by simp [gK]
  rw[Z,X,W];exact MM A n c xs k v w h V h0
 have Z:gD xs a v=xs:=by
  unfold gD;split
  .rw[iN I]
  split
  .obtain rfl:xs=[]:=List.eq_nil_of_length_eq_zero I;exact vY _ _
  rfl
 rw[Z];exact MN A n c xs a k v w h V I I
def qB(xs:List Int)(a v:Int):List Int:=if a=1 then(if xs.length<6 then xs++[v]else xs)else if a=2 then xs.tail else xs
def pN(xs:List Int)(a:Int):Int:=if a=1 then(if xs.length<6 then 1 else 3)else if a=2\/a=5 then(if xs.length=0 then 2 else 1)else if a=6 then 1 else 5
def pO(xs:List Int)(a:Int):Int:=if a=2\/a=5 then xs[0]?.getD 0 else if a=6 then xs.length else 0
theorem NF(A:Option Addr)(n c:Nat)(xs:List Int)(a k v:Int)(w:World)(h:fI w A n c xs)(j:n<=60)(hv: -9223372036854775808<=v/\v<=9223372036854775807):
 Calls prog 161 #[.slice A n c,.agg #[a,k,v]] w (fQ (qB xs a v) (pN xs a) (pO xs a) w):=by
 have zx:=h.cap63;have zw:=h.cap;have x:=h.len;have q:=aH h.bd;have HV:=aH hv;clear hv;rcases Nat.eq_zero_or_pos n with hn0|hn0
 .subst hn0;obtain rfl:xs=[]:=List.eq_nil_of_length_eq_zero x;have H:=aH h;clear h
  go_enter func161,ntmps161
  go_wp2_with (go_at_call 186;refine(fR A _ c [] w _ H j ?_).mono ?_;(go_grown);rintro e u ⟨y,c1,rfl,Z,X,E⟩;obtain⟨U,S⟩:=cJ X;have D:=X.size;simp only[World.size_alloc,World.size_drew]at D;replace Z:=Z.mono (B':=w+2) (by simp);have Q:=U (w,1) 0 (by simp);have P:=U (w,1) 1 (by simp);have M:=U w 2 (by simp;omega);have L:=S (w,1) 0 (by simp);have K:=S (w,1) 1 (by simp);simp [go_sem]at Q P M L K)
  focus
   go_region_held3 (fun t=>t.cell? (w.heap.size,2)=v) (go_keep) (first
   |(go_at_call 186;refine(fR A _ c [] w _ H j ?_).mono ?_;(go_grown);rintro e u ⟨y,c1,rfl,Z,X,E⟩;obtain⟨U,S⟩:=cJ X;have D:=X.size;simp only[World.size_alloc,World.size_drew]at D;replace Z:=Z.mono (B':=w+2) (by simp);have Q:=U (w,1) 0 (by simp);have P:=U (w,1) 1 (by simp);have M:=U w 2 (by simp;omega);have L:=S (w,1) 0 (by simp);have K:=S (w,1) 1 (by simp);simp [go_sem]at Q P M L K)
   |(refine lR rfl (.tmp 17) (.tmp 20) rfl (B:=w+2) (A:=y) (n:=0) (c:=c1) (xs:=[]) rfl ?_ (g:=u) (v:=v) (c':=1) rfl ?_ ?_ ?_ ?_;(exact Z.alloc _);(exact(aY.new _ _ _).cell 0);(omega);(first|omega|(simp;omega));intro g2 C s T W;obtain⟨Y,V⟩:=cJ W;have G:=W.size;(try simp only[World.size_alloc,World.size_drew]at G);have o:=(Y (w,1) 0 I).trans ((bX I).trans Q);have i:=(V (w,1) 0 I).trans ((eP I).trans L);have m:=(Y (w,1) 1 I).trans ((bX I).trans P);have f:=(V (w,1) 1 I).trans ((eP I).trans K);have d:=(Y w 2 I).trans ((bX I).trans M);have F:Below w w s:=Below.trans (by go_grown) (W.mono I);clear Y V U S)
   |(refine lR rfl (.tmp 17) (.tmp 20) rfl (B:=w+2) (A:=y) (n:=0) (c:=c1) (xs:=[]) rfl ?_ (g:=w+1+1) (v:=v) (c':=1) rfl ?_ ?_ ?_ ?_;(exact Z);(exact(U _ _ (by simp)).trans ((aY.newAt _ _ _ (by simp)).cell 0));(omega);(first|omega|(simp;omega));intro g2 C s T W;obtain⟨Y,V⟩:=cJ W;have G:=W.size;(try simp only[World.size_alloc,World.size_drew]at G);have o:=(Y (w,1) 0 I).trans Q;have i:=(V (w,1) 0 I).trans L;have m:=(Y (w,1) 1 I).trans P;have f:=(V (w,1) 1 I).trans K;have d:=(Y w 2 I).trans M;have F:Below w w s:=Below.trans (by go_grown) (W.mono I);clear Y V U S))
   all_goals go_wp2
  all_goals try(refine bodyPost_ret (by first|(simp [results,results161,go_sem,o,m];try rfl;done)|(simp [results,results161,go_sem,Q,P];try rfl;done)|(simp [results,results161,go_sem];try rfl;done)) rfl ?_)
  all_goals simp only[beq_iff_eq,beq_eq_false_iff_ne,ne_eq]at*
  all_goals first
   |(refine nZ T F ?_ ?_ ?_ ?_ ?_ ?_ ?_ ?_;(exact nJ.app q HV);(show w.heap.size+1<w+2;omega);(show w.heap.size+1<w+2;omega);(show w.heap.size<=w+1;omega);(show w.heap.size<=w+1;omega))
   |(refine nZ Z E q ?_ ?_ ?_ ?_ ?_ ?_ ?_;(show w.heap.size+1<w+2;omega);(show w.heap.size+1<w+2;omega);(show w.heap.size<=w+1;omega);(show w.heap.size<=w+1;omega))
   |(refine nZ Z E (nJ.tail q) ?_ ?_ ?_ ?_ ?_ ?_ ?_;(show w.heap.size+1<w+2;omega);(show w.heap.size+1<w+2;omega);(show w.heap.size<=w+1;omega);(show w.heap.size<=w+1;omega))
   |(refine ET ?_ ?_ ?_ ?_;(go_grown))
  all_goals(simp only[qB,pN,pO];(repeat' split)<;>first|rfl|(exfalso;omega)|(simp_all;done)|omega)
 obtain⟨b,N,rfl,R,z⟩:=h.at_ hn0;have H:=aH h;clear h;have O:=z 0 hn0;rw[Nat.add_zero]at O;obtain⟨x0,r⟩:=aP (xs[0]?.getD 0);rw[r]at O;have zz:=aH r;clear r;clear z;have hT:=aH (fI.tailIf H hn0)
 go_enter func161,ntmps161
 have zv:¬b=w+1:=I;have zu:¬w+1=b:=I;have d0:((n:Int)==0)=false:=by simp;omega
 have e1:(1:Int)<=n:=I;have e2:(n:Int)<=c:=I;have e3:((n:Int)-1).toNat=n-1:=I;have e4:((c:Int)-1).toNat=c-1:=I
 go_wp2_with (go_at_call 186;refine(fR _ _ c xs w _ H j ?_).mono ?_;(go_grown);rintro e u ⟨y,c1,rfl,Z,X,E⟩;obtain⟨U,S⟩:=cJ X;have D:=X.size;simp only[World.size_alloc,World.size_drew]at D;replace Z:=Z.mono (B':=w+2) (by simp);have Q:=U (w,1) 0 (by simp);have P:=U (w,1) 1 (by simp);have M:=U w 2 (by simp;omega);have rb:=(E.cell (p:=⟨b,N,none⟩) R).trans O;have L:=S (w,1) 0 (by simp);have K:=S (w,1) 1 (by simp);simp [go_sem]at Q P M L K)
 all_goals try((have l:(a==1)=true:=by assumption);clear l;go_region_held3 (fun t=>t.cell? (w.heap.size,2)=v) (go_keep) (first
  |(go_at_call 186;refine(fR _ _ c xs w _ H j ?_).mono ?_;(go_grown);rintro e u ⟨y,c1,rfl,Z,X,E⟩;obtain⟨U,S⟩:=cJ X;have D:=X.size;simp only[World.size_alloc,World.size_drew]at D;replace Z:=Z.mono (B':=w+2) (by simp);have Q:=U (w,1) 0 (by simp);have P:=U (w,1) 1 (by simp);have M:=U w 2 (by simp;omega);have rb:=(E.cell (p:=⟨b,N,none⟩) R).trans O;have L:=S (w,1) 0 (by simp);have K:=S (w,1) 1 (by simp);simp [go_sem]at Q P M L K)
  |(refine lR rfl (.tmp 17) (.tmp 20) rfl (B:=w+2) (A:=y) (n:=n) (c:=c1) (xs:=xs) rfl ?_ (g:=u) (v:=v) (c':=1) rfl ?_ ?_ ?_ ?_;(exact Z.alloc _);(exact(aY.new _ _ _).cell 0);(omega);(first|omega|(simp;omega));intro g2 C s T W;obtain⟨Y,V⟩:=cJ W;have G:=W.size;(try simp only[World.size_alloc,World.size_drew]at G);have o:=(Y (w,1) 0 I).trans ((bX I).trans Q);have i:=(V (w,1) 0 I).trans ((eP I).trans L);have m:=(Y (w,1) 1 I).trans ((bX I).trans P);have f:=(V (w,1) 1 I).trans ((eP I).trans K);have d:=(Y w 2 I).trans ((bX I).trans M);have F:Below w w s:=Below.trans (by go_grown) (W.mono I);clear Y V U S;have sb:=(F.cell (p:=⟨b,N,none⟩) R).trans O)
  |(refine lR rfl (.tmp 17) (.tmp 20) rfl (B:=w+2) (A:=y) (n:=n) (c:=c1) (xs:=xs) rfl ?_ (g:=w+1+1) (v:=v) (c':=1) rfl ?_ ?_ ?_ ?_;(exact Z);(exact(U _ _ (by simp)).trans ((aY.newAt _ _ _ (by simp)).cell 0));(omega);(first|omega|(simp;omega));intro g2 C s T W;obtain⟨Y,V⟩:=cJ W;have G:=W.size;(try simp only[World.size_alloc,World.size_drew]at G);have o:=(Y (w,1) 0 I).trans Q;have i:=(V (w,1) 0 I).trans L;have m:=(Y (w,1) 1 I).trans P;have f:=(V (w,1) 1 I).trans K;have d:=(Y w 2 I).trans M;have F:Below w w s:=Below.trans (by go_grown) (W.mono I);clear Y V U S;have sb:=(F.cell (p:=⟨b,N,none⟩) R).trans O)))
 all_goals try((have l:(a==5)=true:=by assumption);clear l;go_region_held3 (fun t=>t.cell? (b,N)=x0) (go_keep) (first
  |(go_at_call 186;refine(fR _ _ c xs w _ H j ?_).mono ?_;(go_grown);rintro e u ⟨y,c1,rfl,Z,X,E⟩;obtain⟨U,S⟩:=cJ X;have D:=X.size;simp only[World.size_alloc,World.size_drew]at D;replace Z:=Z.mono (B':=w+2) (by simp);have Q:=U (w,1) 0 (by simp);have P:=U (w,1) 1 (by simp);have M:=U w 2 (by simp;omega);have rb:=(E.cell (p:=⟨b,N,none⟩) R).trans O;have L:=S (w,1) 0 (by simp);have K:=S (w,1) 1 (by simp);simp [go_sem]at Q P M L K)))
 all_goals try((have l:(a==2)=true:=by assumption);clear l;by_cases zy:c=1<;>go_region_held3 (fun t=>t.cell? (b,N)=x0) (go_keep) (first
  |(go_at_call 186;refine(fR _ _ _ xs.tail w _ ?_ ?_ ?_).mono ?_;(first|exact hT.out|simpa [zy]using hT.out);(omega);(go_grown);rintro e u ⟨y,c1,rfl,Z,X,E⟩;obtain⟨U,S⟩:=cJ X;have D:=X.size;simp only[World.size_alloc,World.size_drew]at D;replace Z:=Z.mono (B':=w+2) (by simp);have Q:=U (w,1) 0 (by simp);have P:=U (w,1) 1 (by simp);have M:=U w 2 (by simp;omega);have rb:=(E.cell (p:=⟨b,N,none⟩) R).trans O;have L:=S (w,1) 0 (by simp);have K:=S (w,1) 1 (by simp);simp [go_sem]at Q P M L K)))
 all_goals try go_wp2
 all_goals try(refine bodyPost_ret (by first|(simp [results,results161,go_sem,o,m];try rfl;done)|(simp [results,results161,go_sem,Q,P];try rfl;done)|(simp [results,results161,go_sem];try rfl;done)) rfl ?_)
 all_goals simp only[beq_iff_eq,beq_eq_false_iff_ne,ne_eq]at*
 all_goals first
  |(refine nZ T F ?_ ?_ ?_ ?_ ?_ ?_ ?_ ?_;(exact nJ.app q HV);(show w.heap.size+1<w+2;omega);(show w.heap.size+1<w+2;omega);(show w.heap.size<=w+1;omega);(show w.heap.size<=w+1;omega))
  |(refine nZ Z E q ?_ ?_ ?_ ?_ ?_ ?_ ?_;(show w.heap.size+1<w+2;omega);(show w.heap.size+1<w+2;omega);(show w.heap.size<=w+1;omega);(show w.heap.size<=w+1;omega))
  |(refine nZ Z E (nJ.tail q) ?_ ?_ ?_ ?_ ?_ ?_ ?_;(show w.heap.size+1<w+2;omega);(show w.heap.size+1<w+2;omega);(show w.heap.size<=w+1;omega);(show w.heap.size<=w+1;omega))
  |(refine ET ?_ ?_ ?_ ?_;(go_grown))
 all_goals(have hx:=zz.out;subst x;simp only[qB,pN,pO];(repeat' split)<;>first|rfl|(exfalso;omega)|(simp_all;done)|(simp_all;omega))
theorem kC.takeCap{G:Nat}{n c:Nat}(h:kC w G A n c xs)(k:Nat)(Z:k<=n):kC w G A k c (xs.take k):=
 ⟨⟨by rw[List.length_take,h.sli.len];omega,by have:=h.sli.cap;omega,h.sli.cap63,(h.take k Z).sli.bd,(h.take k Z).sli.at_⟩,(h.take k Z).up⟩
def nR(xs:List Int)(a v:Int):List Int:=if a=1 then(if xs.length<6 then xs++[v]else xs)else if a=2 then xs.take (xs.length-1)else xs
def nP(xs:List Int)(a:Int):Int:=if a=1 then(if xs.length<6 then 1 else 3)else if a=6 then 1 else if a=2\/a=5 then(if xs.length=0 then 2 else 1)else 5
def nT(xs:List Int)(a:Int):Int:=if a=6 then xs.length else if a=2\/a=5 then xs[xs.length-1]?.getD 0 else 0
theorem NO(A:Option Addr)(n c:Nat)(xs:List Int)(a k v:Int)(w:World)(h:fI w A n c xs)(i:n<=60)(r: -9223372036854775808<=v/\v<=9223372036854775807)(x:0<n):
 Calls prog 162 #[.slice A n c,.agg #[a,k,v]] w (fQ (nR xs a v) (nP xs a) (nT xs a) w):=by
 have T:=aH h.len;obtain⟨x0,P⟩:=aP (xs[n-1]?.getD 0);have S:=aH P;clear P;have H:=aH h;clear h;have K:=aH r;clear r
 go_enter func162,ntmps162
 have f:(0:Int)<=(n:Int)-1:=I;have d:(n:Int)-1<n:=I;have q:(n:Int)-1<=n:=I;have u:(1:Int)<=n:=I;have b:((n:Int)-1).toNat=n-1:=I;have e2:IntKind.i64.wrap ((n:Int)-1)=n-1:=IntWalk.i64_in _ I
 go_wp2_with (first
  |(go_at_call 186;refine(fR A n c xs w _ H i ?_).mono ?_;(go_grown);rintro e z ⟨A1,c1,rfl,Z,O,y⟩;obtain⟨s,hf⟩:=cJ O;have p:=O.size;simp only[World.size_alloc]at p;replace Z:=Z.mono (B':=w+2) (by simp);have q1:w.heap.size+1<z:=I;have q0:w.heap.size<z:=I;obtain⟨g,rfl,m,l,N⟩:=Z.at_ x;have t:=(Z.sli H.bd).cap;have G:=(Z.sli H.bd).cap63;have F:=N (n-1) I;rw[S.out]at F;clear N;have Y:=aH Z;clear Z;have R:=s (w,1) 0 (by simp);have Q:=s (w,1) 1 (by simp);simp [go_sem]at R Q;have m1:¬w.heap.size+1=z:=I;have b2:(n:Int)-1<=c1:=I)
  |(at_builtin;refine dM rfl (.tmp 27) (.tmp 30) rfl (B:=w+2) rfl (Y.alloc _) rfl ((aY.new _ _ _).cell 0) I (by simp;omega) ?_;intro g2 c2 L W U;obtain⟨M,j⟩:=cJ U;have E:=U.size;simp only[World.size_alloc]at E;have V:Below w w L:=Below.trans (by go_grown) (U.mono (by simp));have D:=(M (w,1) 0 (by simp)).trans ((bX I).trans R);have C:=(M (w,1) 1 (by simp)).trans ((bX I).trans Q);have X:=aH (W.slo (nJ.app H.bd K));clear W;have q3:w.heap.size+1<L:=I;have q4:w.heap.size<L:=I;have m2:¬w.heap.size+1=L:=I))
 iterate 2
  rotate_right 1
  focus
   (first
    |(have o:(a==5)=true:=by assumption
      clear o;refine aA 7 ?_
      iterate 7
       first
       |(refine Kf ?_;constructor
         .intro w9 hw9 hc9 hf9;go_simp
          first
          |exact aE)
       |refine aU ?_
      refine bZ ?_;intro w9 hw9 hc9 hf9;have D:=(hc9 (w,1) 0 I).trans R;have C:=(hc9 (w,1) 1 I).trans Q;have V:Below w w w9:=y.trans (hw9.same.mono I);have X:=aH ((Y.slo H.bd).keeps hw9);go_wp2)
    |(skip
      refine aA 9 ?_
      iterate 9
       first
       |(refine Kf ?_;constructor
         .intro w9 hw9 hc9 hf9;go_simp
          first
          |exact aE)
       |refine aU ?_
      refine bZ ?_;intro w9 hw9 hc9 hf9;have D:=(hc9 (w,1) 0 I).trans R;have C:=(hc9 (w,1) 1 I).trans Q;have V:Below w w w9:=y.trans (hw9.same.mono I);have X:=aH (((Y.slo H.bd).takeCap (n-1) I).keeps hw9);go_wp2))
 all_goals(refine bodyPost_ret (by first|(simp [results,results162,go_sem,D,C];try rfl;done)|(simp [results,results162,go_sem,R,Q];try rfl;done)) rfl ?_)
 all_goals try simp only[beq_iff_eq,beq_eq_false_iff_ne,bne_iff_ne,bne_eq_false_iff_eq,ne_eq]at*
 all_goals(first
  |(refine dB X V ?_ ?_ ?_ ?_ ?_ ?_ ?_)
  |(refine dB (Y.slo H.bd) y ?_ ?_ ?_ ?_ ?_ ?_ ?_))
 all_goals first|(show w.heap.size+1<w+2;omega)|(show w.heap.size<=w+1;omega)|skip
 all_goals(have hx:=S.out;have hl:=T.out;simp only[nR,nP,nT];(repeat' split)<;>first|rfl|(exfalso;omega)|(simp_all;done)|(simp_all;omega))
theorem OE(A:Option Addr)(c:Nat)(a k v:Int)(w:World)(h:fI w A 0 c [])(K: -9223372036854775808<=v/\v<=9223372036854775807):
 Calls prog 162 #[.slice A 0 c,.agg #[a,k,v]] w (fQ (nR [] a v) (nP [] a) (nT [] a) w):=by
 have H:=aH h;clear h;have R:=aH K;clear K
 go_enter func162,ntmps162
 go_wp2_with (first
  |(go_at_call 186;refine(fR A 0 c [] w _ H I ?_).mono ?_;(go_grown);rintro e M ⟨r,c1,rfl,Z,U,D⟩;obtain⟨L,q⟩:=cJ U;have G:=U.size;simp only[World.size_alloc]at G;replace Z:=Z.mono (B':=w+2) (by simp);have z:w.heap.size+1<M:=I;have y:w.heap.size<M:=I;have Y:=aH Z;clear Z;have Q:=L (w,1) 0 (by simp);have P:=L (w,1) 1 (by simp);simp [go_sem]at Q P;have x:¬w.heap.size+1=M:=I)
  |(at_builtin;refine dM rfl (.tmp 27) (.tmp 30) rfl (B:=w+2) rfl (Y.alloc _) rfl ((aY.new _ _ _).cell 0) I (by simp;omega) ?_;intro p o S X V;obtain⟨T,C⟩:=cJ V;have O:=V.size;simp only[World.size_alloc]at O;have N:Below w w S:=Below.trans (by go_grown) (V.mono (by simp));have F:=(T (w,1) 0 (by simp)).trans ((bX I).trans Q);have E:=(T (w,1) 1 (by simp)).trans ((bX I).trans P);have W:=aH (X.slo (nJ.app H.bd R));clear X;have u:w.heap.size+1<S:=I;have t:w.heap.size<S:=I;have s:¬w.heap.size+1=S:=I))
 all_goals(refine bodyPost_ret (by first|(simp [results,results162,go_sem,F,E];try rfl;done)|(simp [results,results162,go_sem,Q,P];try rfl;done)) rfl ?_)
 all_goals try simp only[beq_iff_eq,beq_eq_false_iff_ne,bne_iff_ne,bne_eq_false_iff_eq,ne_eq]at*
 all_goals(first
  |(refine dB W N ?_ ?_ ?_ ?_ ?_ ?_ ?_)
  |(refine dB (Y.slo H.bd) D ?_ ?_ ?_ ?_ ?_ ?_ ?_))
 all_goals first|(show w.heap.size+1<w+2;omega)|(show w.heap.size<=w+1;omega)|skip
 all_goals(simp only[nR,nP,nT];(repeat' split)<;>first|rfl|(exfalso;omega)|(simp_all;done)|(simp_all;omega))
theorem NM(A:Option Addr)(n c:Nat)(xs:List Int)(a k v:Int)(w:World)(h:fI w A n c xs)(Y:n<=60)(Z: -9223372036854775808<=v/\v<=9223372036854775807):
 Calls prog 162 #[.slice A n c,.agg #[a,k,v]] w (fQ (nR xs a v) (nP xs a) (nT xs a) w):=by
 rcases Nat.eq_zero_or_pos n with hn0|hn0
 .subst hn0;obtain rfl:xs=[]:=List.eq_nil_of_length_eq_zero h.len;exact OE A c a k v w h Z
 exact NO A n c xs a k v w h Y Z hn0
theorem gX(c v:Int)(w:World):Calls prog 206 #[c,v] w fun e w'=>e=.returned (.agg #[c,v])/\Below w w w':=
 (eY c v w).mono fun _ _ ⟨Z,Y⟩=>⟨Z,by rw[Y];exact(Below.refl _ _).alloc (Nat.le_refl _) _⟩
def iA(xs:List Int)(a v:Int)(fr:Bool)(k:Nat):List Int:=if a=6 then xs else if a=1\/a=3 then(if xs.length<6 then(if fr then v::xs else xs++[v])else xs)else if a=5\/xs.length=0 then xs else xs.take k++xs.drop (k+1)
def gZ(xs:List Int)(a:Int):Int:=if a=6 then 1 else if a=1\/a=3 then(if xs.length<6 then 1 else 3)else if xs.length=0 then 2 else 1
def gY(xs:List Int)(a:Int)(k:Nat):Int:=if a=6 then xs.length else if a=1\/a=3 then 0 else if xs.length=0 then 0 else xs[k]?.getD 0
theorem RR(A:Option Addr)(n c:Nat)(xs:List Int)(a k v:Int)(fr:Bool)(out:Int)(p:Nat)(w:World)(h:fI w A n c xs)(hn:n<=60)(hv: -9223372036854775808<=v/\v<=9223372036854775807)(u:0<n)(hp:out=p)(zw:p<n):
 Calls prog 207 #[.slice A n c,.agg #[a,k,v],fr,out] w (fQ (iA xs a v fr p) (gZ xs a) (gY xs a p) w):=by
 subst hp;obtain⟨b,f,rfl,x,U⟩:=h.at_ u;have zq:=h.cap63;have zp:=h.cap;have E:=aH h.len;have D:=U p zw;obtain⟨x0,M⟩:=aP (xs[p]?.getD 0);rw[M]at D;have q:=aH M;clear M U;have H:=aH h;clear h;have C:=aH hv;clear hv
 go_enter func207,ntmps207
 have d0:((n:Int)==0)=false:=by simp;omega
 have zv:(p:Int)<n:=I
 go_wp2_with (first
  |(at_builtin;refine cY rfl (.const (.slice none 0 0)) (.tmp 11) rfl rfl rfl (H.below (by go_grown)) I ?_;intro A1 c1 L X F;obtain⟨hc,hf⟩:=cJ F;have hz:=F.size;simp only[World.size_alloc]at hz;have o:Below w w L:=Below.trans (by go_grown) (F.mono (by simp;omega));replace X:=X.mono (B':=w+2) (by simp);have q1:w.heap.size+1<L:=I;have q0:w.heap.size<L:=I;have m1:¬w.heap.size+1=L:=I;obtain⟨g,rfl,zn,zm,d⟩:=X.at_ u;have zu:=(X.sli H.bd).cap;have l:=(X.sli H.bd).cap63;clear d;have Y:=aH X;clear X;have rb:=(o.cell (p:=⟨b,f+p,none⟩) x).trans D;have z:=hc (w,1) 0 (by simp);have y:=hc (w,1) 1 (by simp);simp [go_sem]at z y)
  |(at_builtin;refine mQ rfl (.tmp 38) (.tmp 39) rfl rfl rfl (kC.one L 3 v C) (by simp) (by intro h;cases h) ((Y.sli H.bd).below (by go_grown)) I I ?_;intro A2 c2 R Z V;obtain⟨T,zz⟩:=cJ V;have O:=V.size;simp only[World.size_alloc]at O;have Q:Below w w R:=Below.trans (by go_grown) (V.mono (by simp;omega));have t:=(T (w,1) 0 (by simp;omega)).trans ((bX I).trans z);have s:=(T (w,1) 1 (by simp;omega)).trans ((bX I).trans y);replace Z:=Z.mono (B':=w+2) I;have W:=aH Z;clear Z;have q3:w.heap.size+1<R:=I;have q4:w.heap.size<R:=I;have m2:¬w.heap.size+1=R:=I)
  |(at_builtin;refine dM rfl (.tmp 42) (.tmp 45) rfl (B:=w+2) rfl (Y.alloc _) rfl ((aY.new _ _ _).cell 0) I (by simp;omega) ?_;intro g2 c2 R S V;obtain⟨T,zz⟩:=cJ V;have O:=V.size;simp only[World.size_alloc]at O;have Q:Below w w R:=Below.trans (by go_grown) (V.mono (by simp));have t:=(T (w,1) 0 (by simp)).trans ((bX I).trans z);have s:=(T (w,1) 1 (by simp)).trans ((bX I).trans y);have W:=aH (S.slo (nJ.app H.bd C));clear S;have q3:w.heap.size+1<R:=I;have q4:w.heap.size<R:=I;have m2:¬w.heap.size+1=R:=I)
  |(go_at_call 206;refine(eY _ _ _).mono ?_;rintro e R ⟨rfl,rfl⟩))
 rotate_right 1
 focus
  have e1:IntKind.i64.wrap ((p:Int)+1)=p+1:=IntWalk.i64_in _ I;have zt:b<L:=I;have zs:((c1:Int)-(p+1)).toNat=c1-(p+1):=I;have zr:((n:Int)-(p+1)).toNat=n-(p+1):=I;have zo:((p:Int)+1).toNat=p+1:=I;have b1:(p:Int)+1<=n:=I;have b2:(p:Int)+1<=c1:=I;have b3:(p:Int)<=c1:=I;have b4:(n:Int)<=c1:=I;have b5:(p:Int)<=n:=I;have N:fI L (some ⟨g,0,none⟩) n c1 xs:=Y.sli H.bd;have j:=aH (((Y.slo H.bd).take p I));have i:=aH (N.dropIf (p+1) I);have N:=aH N;refine aA 14 ?_
  iterate 14
   refine aC (fun K r=>?_)
   first
   |(refine .inl ?_
     apply Exists.intro;refine⟨cX,?_,r _ _ _ _ ?_⟩
     .simp only[bJ,bM]
      first
      |refine⟨rfl,fun w9 hw9 _=>?_⟩
      |(rintro _ ⟨A9,c9,rfl⟩;refine⟨rfl,fun w9 hw9 _=>?_⟩)
      obtain⟨hc9,hf9⟩:=hw9.all;go_simp
      first
      |exact aE
      |(go_at_call 206;exact bS (gX _ _ _))
     clear r K;refine aN ?_)
   |(refine .inr (.inr ⟨fun v=>∃A c,v=.slice A (n-1) c,fun v w'=>∃A c,v=.slice A (n-1) c/\kC w' (w+2) A (n-1) c (xs.take p++xs.drop (p+1)),⟨_,none,0,rfl⟩,?_,r _ _ _ _ ?_⟩)
     .simp only[bJ,bM];refine⟨rfl,fun w9 hw9 _=>?_⟩;refine rJ (.tmp 67) (.tmp 71) rfl (n:=p) (c:=p) (xs:=xs.take p) (ys:=xs.drop (p+1)) (m:=n-(p+1)) (G:=w+2) (A:=some ⟨g,0,none⟩) rfl ?_ (j.keeps hw9) ?_ ?_ (i.keeps hw9) ?_ ?_ ?_
      .simp [go_sem]
      .have:=hw9.size;omega
      .intro h;cases h
      .omega
      .omega
      intro A' c' w' Z zy;exact⟨⟨⟨A',c',by rw[show p+(n-(p+1))=n-1 by omega]⟩,⟨A',c',by rw[show p+(n-(p+1))=n-1 by omega],by rw[show n-1=p+(n-(p+1)) by omega];exact Z⟩⟩,aD.of_same zy⟩
     clear r K)
  refine aZ ?_;rintro _ ⟨A9,c9,rfl⟩ w9 hw9 P;obtain⟨w0,k0,k1,A8,c8,zx,Z⟩:=(P.1 rfl).out;cases zx;obtain⟨hc9,hf9⟩:=hw9.all;have t:=(hc9 (w,1) 0 I).trans z;have s:=(hc9 (w,1) 1 I).trans y;have Q:Below w w w9:=o.trans (hw9.same.mono I);have W:=aH (Z.below k1);clear P Z;go_wp2
 all_goals(refine bodyPost_ret (by first|(simp [results,results207,go_sem,t,s,m2,q3];try rfl;done)|(simp [results,results207,go_sem,t,s];try rfl;done)|(simp [results,results207,go_sem,z,y,m1,q1];try rfl;done)) rfl ?_)
 all_goals simp only[beq_iff_eq,beq_eq_false_iff_ne,ne_eq]at*
 all_goals(first
  |(refine dB W Q ?_ ?_ ?_ ?_ ?_ ?_ ?_)
  |(refine fQ.alloc (dB W Q ?_ ?_ ?_ ?_ ?_ ?_ ?_) _)
  |(refine fQ.alloc (dB (Y.slo H.bd) o ?_ ?_ ?_ ?_ ?_ ?_ ?_) _))
 all_goals first|(show w.heap.size+1<w+2;omega)|(show w.heap.size<=w+1;omega)|skip
 all_goals(have hx:=q.out;have hl:=E.out;simp only[iA,gZ,gY];(repeat' split)<;>first|rfl|(exfalso;omega)|(simp_all;done)|(simp_all;omega))
theorem UI(A:Option Addr)(c:Nat)(a k v:Int)(fr:Bool)(out:Int)(p:Nat)(w:World)(h:fI w A 0 c [])(y: -9223372036854775808<=v/\v<=9223372036854775807):
 Calls prog 207 #[.slice A 0 c,.agg #[a,k,v],fr,out] w (fQ (iA [] a v fr p) (gZ [] a) (gY [] a p) w):=by
 have x:=h.cap63;have H:=aH h;clear h;have P:=aH y;clear y
 go_enter func207,ntmps207
 go_wp2_with (first
  |(at_builtin;refine cY rfl (.const (.slice none 0 0)) (.tmp 11) rfl rfl rfl (H.below (by go_grown)) I ?_;intro m c1 N Z Q;obtain⟨z,l⟩:=cJ Q;have u:=Q.size;simp only[World.size_alloc]at u;have t:Below w w N:=Below.trans (by go_grown) (Q.mono (by simp;omega));replace Z:=Z.mono (B':=w+2) (by simp);have s:w.heap.size+1<N:=I;have n:w.heap.size<N:=I;have r:¬w.heap.size+1=N:=I;have K:=(Z.sli H.bd).cap63;have Y:=aH Z;clear Z;have M:=z (w,1) 0 (by simp);have L:=z (w,1) 1 (by simp);simp [go_sem]at M L)
  |(at_builtin;refine mQ rfl (.tmp 38) (.tmp 39) rfl rfl rfl (kC.one N 3 v P) (by simp) (by intro h;cases h) ((Y.sli H.bd).below (by go_grown)) I I ?_;intro j o S W X;obtain⟨U,E⟩:=cJ X;have R:=X.size;simp only[World.size_alloc]at R;have O:Below w w S:=Below.trans (by go_grown) (X.mono (by simp;omega));have G:=(U (w,1) 0 (by simp;omega)).trans ((bX I).trans M);have F:=(U (w,1) 1 (by simp;omega)).trans ((bX I).trans L);replace W:=W.mono (B':=w+2) I;have V:=aH W;clear W;have D:w.heap.size+1<S:=I;have q:w.heap.size<S:=I;have C:¬w.heap.size+1=S:=I)
  |(at_builtin;refine dM rfl (.tmp 42) (.tmp 45) rfl (B:=w+2) rfl (Y.alloc _) rfl ((aY.new _ _ _).cell 0) I (by simp;omega) ?_;intro i o S T X;obtain⟨U,E⟩:=cJ X;have R:=X.size;simp only[World.size_alloc]at R;have O:Below w w S:=Below.trans (by go_grown) (X.mono (by simp));have G:=(U (w,1) 0 (by simp)).trans ((bX I).trans M);have F:=(U (w,1) 1 (by simp)).trans ((bX I).trans L);have V:=aH (T.slo (nJ.app H.bd P));clear T;have D:w.heap.size+1<S:=I;have q:w.heap.size<S:=I;have C:¬w.heap.size+1=S:=I)
  |(go_at_call 206;refine(eY _ _ _).mono ?_;rintro e S ⟨rfl,rfl⟩))
 all_goals(refine bodyPost_ret (by first|(simp [results,results207,go_sem,G,F,C,D];try rfl;done)|(simp [results,results207,go_sem,G,F];try rfl;done)|(simp [results,results207,go_sem,M,L,r,s];try rfl;done)) rfl ?_)
 all_goals simp only[beq_iff_eq,beq_eq_false_iff_ne,ne_eq]at*
 all_goals(first
  |(refine fQ.alloc (dB V O ?_ ?_ ?_ ?_ ?_ ?_ ?_) _)
  |(refine fQ.alloc (dB (Y.slo H.bd) t ?_ ?_ ?_ ?_ ?_ ?_ ?_) _))
 all_goals first|(show w.heap.size+1<w+2;omega)|(show w.heap.size<=w+1;omega)|skip
 all_goals(simp only[iA,gZ,gY];(repeat' split)<;>first|rfl|(exfalso;omega)|(simp_all;done)|(simp_all;omega))
theorem mF(A:Option Addr)(n c:Nat)(xs:List Int)(a k v:Int)(fr:Bool)(out:Int)(p:Nat)(w:World)(h:fI w A n c xs)(X:n<=60)(Z: -9223372036854775808<=v/\v<=9223372036854775807)(Y:0<n->out=p/\p<n):
 Calls prog 207 #[.slice A n c,.agg #[a,k,v],fr,out] w (fQ (iA xs a v fr p) (gZ xs a) (gY xs a p) w):=by
 rcases Nat.eq_zero_or_pos n with hn0|hn0
 .subst hn0;obtain rfl:xs=[]:=List.eq_nil_of_length_eq_zero h.len;exact UI A c a k v fr out p w h Z
 exact RR A n c xs a k v fr out p w h X Z hn0 (Y hn0).1 (Y hn0).2
def AQ(A0:Option Addr)(n0:Nat)(ys:List Int)(code val:Int)(w:World)(e:Ending)(w':World):Prop:=
 ∃A n c,e=.returned (.tuple #[.slice A n c,.agg #[code,val]])/\fI w' A n c ys/\Below w w w'/\(0<n->(A=A0/\n=n0)\/∀b,A=some b->w<=b.block)
theorem fQ.weakJ{Z val:Int}{e:Ending}(h:fQ ys Z val w e w')(U:Option Addr)(T:Nat):AQ U T ys Z val w e w':=by
 obtain⟨A,n,c,X,Y,W⟩:=h;exact⟨A,n,c,X,Y.sli,W,fun V=>.inr (Y.up V)⟩
theorem xU{Z val Y X:Int}{n c:Nat}(h:fI w A n c ys)(W:Below w w w')(V:Y=Z)(U:X=val):AQ A n ys Z val w (.returned (.tuple #[.slice A n c,.agg #[Y,X]])) w':=
 ⟨A,n,c,by rw[V,U],h.below W,W,fun _=>.inl ⟨rfl,rfl⟩⟩
def VP(xs:List Int)(a:Int):Int:=if a=1\/a=2\/a=5\/a=6 then gZ xs a else 5
def VT(xs:List Int)(a v:Int)(p:Nat):List Int:=if a=1\/a=2\/a=5\/a=6 then iA xs a v false p else xs
def VS(xs:List Int)(a:Int)(p:Nat):Int:=if a=1\/a=2\/a=5\/a=6 then gY xs a p else 0
theorem AV(A:Option Addr)(n c:Nat)(xs:List Int)(a k v:Int)(w:World)(h:fI w A n c xs)(L:n<=60)(N: -9223372036854775808<=v/\v<=9223372036854775807):
 Calls prog 197 #[.slice A n c,.agg #[a,k,v]] w (AQ A n (VT xs a v 0) (VP xs a) (VS xs a 0) w):=by
 have H:=aH h;clear h;have Y:=aH N;clear N
 go_enter func197,ntmps197
 go_wp2_with (first
  |(go_at_call 55;refine(bQ _ _ _ _).mono ?_;rintro e F ⟨rfl,rfl⟩)
  |(go_at_call 206;refine(eY _ _ _).mono ?_;rintro e E ⟨rfl,rfl⟩)
  |(go_at_call 207;refine(mF A n c xs a k v false 0 0 _ (H.below (by go_grown)) L Y (fun h=>⟨rfl,h⟩)).mono ?_;rintro e Q ⟨D,C,c1,rfl,P,T⟩;obtain⟨O,B⟩:=cJ T;have M:=T.size;simp only[World.size_alloc]at M;have S:=O (w,1) 0 (by simp);have R:=O (w,1) 1 (by simp);simp [go_sem]at S R;have K:w.heap.size+1<Q:=I;have G:¬w.heap.size+1=Q:=I;have X:=aH P;clear P))
 all_goals(refine bodyPost_ret (by first|(simp [results,results197,go_sem,S,R];try rfl;done)|(simp [results,results197,go_sem];try rfl;done)) rfl ?_)
 all_goals simp only[beq_iff_eq,beq_eq_false_iff_ne,ne_eq,bV,decide_eq_true_eq,decide_eq_false_iff_not]at*
 all_goals first
  |(have Z:a=1\/a=2\/a=5\/a=6:=I
    have W:VT xs a v 0=iA xs a v false 0:=iP Z;have V:VP xs a=gZ xs a:=iP Z;have U:VS xs a 0=gY xs a 0:=iP Z;rw[W,V,U];exact(oY X (by go_grown) T (by simp) (by simp) (by simp) (by simp)).weakJ A n)
  |(have Z:¬(a=1\/a=2\/a=5\/a=6):=I
    have W:VT xs a v 0=xs:=iN Z;have V:VP xs a=5:=iN Z;have U:VS xs a 0=0:=iN Z;rw[W,V,U];exact xU H (by go_grown) rfl rfl)
theorem AM(A:Option Addr)(n c:Nat)(xs:List Int)(a k v:Int)(w:World)(h:fI w A n c xs)(L:n<=60)(N: -9223372036854775808<=v/\v<=9223372036854775807):
 Calls prog 198 #[.slice A n c,.agg #[a,k,v]] w (AQ A n (VT xs a v (n-1)) (VP xs a) (VS xs a (n-1)) w):=by
 have H:=aH h;clear h;have X:=aH N;clear N
 go_enter func198,ntmps198
 have Y:IntKind.i64.wrap ((n:Int)-1)=n-1:=IntWalk.i64_in _ I
 go_wp2_with (first
  |(go_at_call 55;refine(bQ _ _ _ _).mono ?_;rintro e F ⟨rfl,rfl⟩)
  |(go_at_call 206;refine(eY _ _ _).mono ?_;rintro e E ⟨rfl,rfl⟩)
  |(go_at_call 207;refine(mF A n c xs a k v false _ (n-1) _ (H.below (by go_grown)) L X (fun h=>⟨I,I⟩)).mono ?_;rintro e Q ⟨D,C,c1,rfl,P,T⟩;obtain⟨O,B⟩:=cJ T;have M:=T.size;simp only[World.size_alloc]at M;have S:=O (w,1) 0 (by simp);have R:=O (w,1) 1 (by simp);simp [go_sem]at S R;have K:w.heap.size+1<Q:=I;have G:¬w.heap.size+1=Q:=I;have W:=aH P;clear P))
 all_goals(refine bodyPost_ret (by first|(simp [results,results198,go_sem,S,R];try rfl;done)|(simp [results,results198,go_sem];try rfl;done)) rfl ?_)
 all_goals simp only[beq_iff_eq,beq_eq_false_iff_ne,ne_eq,bV,decide_eq_true_eq,decide_eq_false_iff_not]at*
 all_goals first
  |(have Z:a=1\/a=2\/a=5\/a=6:=I
    have Y:VT xs a v (n-1)=iA xs a v false (n-1):=iP Z;have V:VP xs a=gZ xs a:=iP Z;have U:VS xs a (n-1)=gY xs a (n-1):=iP Z;rw[Y,V,U];exact(oY W (by go_grown) T (by simp) (by simp) (by simp) (by simp)).weakJ A n)
  |(have Z:¬(a=1\/a=2\/a=5\/a=6):=I
    have Y:VT xs a v (n-1)=xs:=iN Z;have V:VP xs a=5:=iN Z;have U:VS xs a (n-1)=0:=iN Z;rw[Y,V,U];exact xU H (by go_grown) rfl rfl)
