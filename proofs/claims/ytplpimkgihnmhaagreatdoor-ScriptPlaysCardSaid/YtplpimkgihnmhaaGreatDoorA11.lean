/-
  Parts of a proof. For all values.
-/
import Derived.Test.YtplpimkgihnmhaaGreatDoorShelf
import Derived.Test.YtplpimkgihnmhaaGreatDoorA06
import Derived.Test.YtplpimkgihnmhaaGreatDoorA08
import Derived.Test.YtplpimkgihnmhaaGreatDoorA09
import Derived.Test.YtplpimkgihnmhaaGreatDoorA10
set_option maxRecDepth 100000
set_option maxHeartbeats 4000000
set_option linter.all false
namespace Go.Proofs.YtplpimkgihnmhaaGreatDoor
open Go.Proofs.Tryz Go.RowKit
variable{xs:List Int}{v a k kind:Int}{w:World}{z:Nat->Int}{B m i:Nat}{C:Array Value}{A:Option Addr}
section
theorem nO(b:Nat):∀(vs:List Value) (o:Nat) (w:World),(w.setCells b o vs).heap.size=w
 |[],_,_=>rfl
 |v::r,o,w=>(nO b r (o+1) _).trans (by simp [World.setCell])
theorem eD{B b:Nat}(hb:B<=b){a:World}:∀(vs:List Value) (o:Nat) (w:World),Below B a w->Below B a (w.setCells b o vs)
 |[],_,_,h=>h
 |v::r,o,w,h=>eD hb r (o+1) _ (h.setCell (p:=⟨b,o,none⟩) hb v)
theorem nJ.cons(h:nJ xs)(Z: -9223372036854775808<=v/\v<=9223372036854775807):nJ (v::xs):=fun i=>by
 cases i with
 |zero=>exact Z
 |succ i=>simpa using h i
theorem kC.of_cells{g n c:Nat}(V:B<=g)(Z:g<w)(U:xs.length=n)(T:n<=c)(Y:c<=9223372036854775807)(bd:nJ xs)
 (h:∀i,i<n->w.cell? (g,i)=(xs[i]?.getD 0)):kC w B (some ⟨g,0,none⟩) n c xs:=
 ⟨⟨U,T,Y,bd,fun _=>⟨g,0,rfl,Z,fun i X=>by rw[Nat.zero_add];exact h i X⟩⟩,fun _ b W=>by cases W;exact V⟩
theorem jX.parts{n c:Nat}(h:jX w B A n c xs):(A=none/\n=0/\c=0)\/∃g Z,A=some ⟨g,0,none⟩/\B<=g/\aY w g 3 Z/\n<=c/\c<=maxLen/\Z.size=c/\∀i,i<n->Z[i]? =some (.int .i64 (xs[i]?.getD 0)):=by
 have Q:=h.len;rcases h.2 with⟨Y,P⟩|⟨g,W,Z,Y,V,U,X,T,S,R⟩
 .cases Y;exact .inl ⟨rfl,rfl,rfl⟩
 cases Y;refine .inr ⟨g,Z,rfl,V,U,X,T,by simpa using S,fun i O=>?_⟩;have:(Z.toList.take (n*1))[i]? =(xs.map (Value.int .i64))[i]? :=by rw[R]
 rw[List.getElem?_take,iP I,List.getElem?_map,List.getElem?_eq_getElem (show i<xs.length by omega)]at this;rw[List.getElem?_eq_getElem (show i<xs.length by omega)];simpa using this
theorem IL{j:Nat}{v:Value}(h:(xs.map (Value.int .i64))[j]? =some v):j<xs.length/\v=.int .i64 (xs[j]?.getD 0):=by
 have Z:j<xs.length:=by simpa using(List.getElem?_eq_some_iff.1 h).1
 rw[List.getElem?_map,List.getElem?_eq_getElem Z]at h;refine⟨Z,?_⟩;rw[List.getElem?_eq_getElem Z];simpa using h.symm
theorem wZ:∀v∈xs.map (Value.int .i64),v.oneCell'=true:=fun v Z=>by obtain⟨x,_,rfl⟩:=List.mem_map.1 Z;rfl
def ST(w:World)(B m:Nat)(ys:List Int)(e:Ending)(w':World):Prop:=∃A1 c1,e=.returned (.slice A1 m c1)/\kC w' B A1 m c1 ys/\Below B w w'
theorem EY{W:World}{c1:Nat}{ys:List Int}{cs:Array Value}(Y:B<=w)(V:W=(w.drew.alloc (.cells cs 3)))(U:ys.length=m)(T:m<=c1)(Z:c1<=9223372036854775807)(bd:nJ ys)
 (h:∀i,i<m->cs[i]? =some (.int .i64 (ys[i]?.getD 0))):ST w B m ys (.returned (.slice (some ⟨w.heap.size,0,none⟩) m c1)) W:=by
 subst V;refine⟨_,_,rfl,kC.of_cells Y (by simp) U T Z bd fun i X=>?_,((Below.refl _ _).drew).alloc Y _⟩;have:=(aY.newAt w.drew 3 cs (n:=w) rfl).cell i;rw[this];exact h i X
theorem KN{n c g c':Nat}(h:jX w B A n c xs)(bd:nJ xs)(hv: -9223372036854775808<=v/\v<=9223372036854775807)(x:aY w g 3 #[v])(f:∀a,A=some a->g≠a.block)(hn:n<=60)(K:B<=w):
 Calls prog 187 #[.slice A n c,(0:Int),.slice (some ⟨g,0,none⟩) 1 c'] w (ST w B (n+1) (v::xs)):=by
 have C:=h.len;have T:∀(j:Nat) (u:Value),[Value.int .i64 v][j]? =some u->w.cell? (g,0+j)=u:=fun j u Y=>by
  cases j with
  |zero=>simp at Y;subst Y;rw[x.cell];rfl
  |succ j=>simp at Y
 have S:∀u∈[Value.int .i64 v],u.oneCell'=true:=fun u hu=>by simp at hu;subst hu;rfl
 have R:=nJ.cons bd hv;have W:(v::xs).length=n+1:=by simp [C]
 have Q:(v::xs)[0]?.getD 0=v:=rfl;have P:∀i,(v::xs)[i+1]?.getD 0=xs[i]?.getD 0:=fun i=>by simp
 have U:(xs.map (Value.int .i64)).length=n:=by simp [C]
 rcases h.parts with⟨rfl,rfl,rfl⟩|⟨b,zy,rfl,E,V,m,hm,l,D⟩
 .have hx:xs=[]:=List.eq_nil_of_length_eq_zero C;refine(Any2.slices_Insert_int_end_grow Tryz.lays21 none 0 0 g 0 1 c' [] [.int .i64 v] w I I I I rfl rfl (fun _=>rfl) (fun a ha=>by cases ha) T S).mono ?_;rintro e z ⟨rfl,k⟩;refine EY K k W (by have:=grownCap_ge w (0+1) 0 3;exact this) (by have:=grownCap_le_maxLen w (0+1) 0 3 (by unfold maxLen;omega);unfold maxLen at this;exact this) R fun i y=>?_
  obtain rfl:i=0:=I;rw[Array.getElem?_append_left (by simp)];rfl
 have L:=V.lt;have s:g≠b:=f _ rfl;have H:∀(j:Nat) (u:Value),(xs.map (Value.int .i64))[j]? =some u->w.cell? (b,0+j)=u:=fun j u Y=>by
  obtain⟨o,rfl⟩:=IL Y;rw[Nat.zero_add,V.cell,D j I]
 have O:=hm;unfold maxLen at O;have N:∀j,j<n+1->n+1<=c->(w.cell? (b,0+j)).isSome=true:=fun j Y hr=>by
  rw[Nat.zero_add,V.cell,Array.getElem?_eq_getElem I];rfl
 rcases Nat.eq_zero_or_pos n with rfl|hn0
 .have hx:xs=[]:=List.eq_nil_of_length_eq_zero C;by_cases Z:0+1<=c
  .refine(Any2.slices_Insert_int_end_room Tryz.lays21 b 0 0 c g 0 1 c' [.int .i64 v] w I Z O rfl (fun j Y=>by simpa using N j I Z) (fun j Y=>V.frozen _) T S).mono ?_;rintro e z ⟨rfl,rfl⟩;refine⟨_,_,rfl,kC.of_cells E (by simpa [World.setCells]using L) W Z O R fun i y=>?_,eD E _ _ _ (Below.refl _ _)⟩;obtain rfl:i=0:=I;have:=World.cell?_setCells_in b [.int .i64 v] 0 w (fun j Y=>N j (by simpa using Y) Z) 0 (by simp);simpa using this
  refine(Any2.slices_Insert_int_end_grow Tryz.lays21 (some ⟨b,0,none⟩) 0 c g 0 1 c' [] [.int .i64 v] w I I I I rfl rfl (fun h=>by cases h) (fun a ha j u Y=>by simp at Y) T S).mono ?_;rintro e z ⟨rfl,k⟩;refine EY K k W (by have:=grownCap_ge w (0+1) c 3;exact this) (by have:=grownCap_le_maxLen w (0+1) c 3 (by unfold maxLen;omega);unfold maxLen at this;exact this) R fun i y=>?_
  obtain rfl:i=0:=I;rw[Array.getElem?_append_left (by simp)];rfl
 by_cases Z:n+1<=c
 .refine(Any2.slices_Insert_int_shift Tryz.lays21 b 0 n c 0 g 0 1 c' (xs.map (Value.int .i64)) [.int .i64 v] w hn0 I Z O s U rfl H (fun j Y=>N j Y Z) (fun j Y=>V.frozen _) T wZ S 3 3 1 c (by simp [World.shape?,show w.heap[g]? =_ from x]) (by simp [World.shape?,show w.heap[b]? =_ from V,l]) I (x.frozen _) (x.frozen _)).mono ?_;rintro e z ⟨rfl,rfl⟩;have r:∀j,j<(xs.map (Value.int .i64)).length->(w.drew.cell? (b,1+j)).isSome=true:=fun j Y=>by
   have:=N (1+j) (by rw[U]at Y;omega) Z;rw[Nat.zero_add]at this;exact this
  refine⟨_,_,rfl,kC.of_cells E ?_ W Z O R fun i y=>?_,eD E _ _ _ (eD E _ _ _ (Below.refl _ _).drew)⟩
  .have:=(eD (B:=0) (Nat.zero_le b) [Value.int .i64 v] 0 _ (eD (Nat.zero_le b) (xs.map (Value.int .i64)) 1 w.drew (Below.refl 0 w).drew)).size;simpa using Nat.lt_of_lt_of_le L this
  cases i with
  |zero=>
   have:=World.cell?_setCells_in b [.int .i64 v] 0 (w.drew.setCells b 1 (xs.map (Value.int .i64))) (fun j Y=>World.isSome_setCells b _ _ _ _ (by
    have:=N j (by have:j<1:=Y
                  omega) Z
    exact this)) 0 (by simp)
   simpa [Q]using this
  |succ i=>
   have M:i<(xs.map (Value.int .i64)).length:=by rw[U];omega
   rw[World.cell?_setCells_out b [.int .i64 v] (0+0) _ ⟨b,i+1,none⟩ (fun _ _=>.inr (by simp))];have:=World.cell?_setCells_in b (xs.map (Value.int .i64)) 1 w.drew r i M;rw[Nat.add_comm]at this;rw[P];simp only[List.drop_zero,Nat.zero_add];rw[this,List.getElem_map,List.getElem?_eq_getElem (by simpa using M)];rfl
 refine(Any2.slices_Insert_int_grow Tryz.lays21 b 0 n c 0 g 0 1 c' (xs.map (Value.int .i64)) [.int .i64 v] w hn0 I m I I U rfl H T wZ S).mono ?_;rintro e z ⟨rfl,rfl⟩;have q:=grownCap_ge w (n+1) c 3;have G:=grownCap_le_maxLen w (n+1) c 3 (by unfold maxLen;omega);unfold maxLen at G;have F:(Value.int .i64 0).cells.size=1:=rfl;refine⟨_,_,rfl,kC.of_cells K ?_ W q G R fun i y=>?_,?_⟩
 .rw[nO];show w<(World.setCells _ _ _ _).heap.size;rw[nO];show w<(w.alloc _).heap.size;simp
 .generalize hX:((List.take 0 (xs.map (Value.int .i64))).toArray++Builtin.zeroCells (Value.int .i64 0).cells (n+1-0)++Builtin.zeroCells (Value.int .i64 0).cells (grownCap w (n+1) c (Tryz.lays21_ren.t 3)-(n+1)))=X;have zz:n+1<=X.size:=by rw[<-hX];simp [size_zeroCells,F]<;>omega
  have p:aY (w.alloc (.cells X (Tryz.lays21_ren.t 3))) w (Tryz.lays21_ren.t 3) X:=aY.new _ _ _;have d:∀j,j<n+1->((w.alloc (.cells X (Tryz.lays21_ren.t 3))).cell? (w.heap.size,j)).isSome=true:=fun j Y=>by
   rw[p.cell,Array.getElem?_eq_getElem I];rfl
  have r:∀j,j<(xs.map (Value.int .i64)).length->(((w.alloc (.cells X (Tryz.lays21_ren.t 3))).drew.setCells w 0 [.int .i64 v]).drew.cell? (w.heap.size,1+j)).isSome=true:=fun j Y=>by
   refine World.isSome_setCells w [.int .i64 v] 0 (w.alloc (.cells X (Tryz.lays21_ren.t 3))).drew ⟨w.heap.size,1+j,none⟩ ?_;exact d (1+j) (by rw[U]at Y;omega)
  cases i with
  |zero=>
   rw[World.cell?_setCells_out w _ _ _ ⟨w.heap.size,0,none⟩ (fun _ _=>.inl (by simp))];have:=World.cell?_setCells_in w [.int .i64 v] 0 (w.alloc (.cells X (Tryz.lays21_ren.t 3))).drew (fun j Y=>by
    have o:j<1:=Y;rw[Nat.zero_add];exact d j I) 0 (by simp)
   simpa [Q]using this
  |succ i=>
   have M:i<(xs.map (Value.int .i64)).length:=by rw[U];omega
   have:=World.cell?_setCells_in w (xs.map (Value.int .i64)) 1 _ r i M;rw[Nat.add_comm]at this;rw[P];simp only[List.drop_zero,Nat.zero_add];rw[this,List.getElem_map,List.getElem?_eq_getElem (by simpa using M)];rfl
 exact eD K _ _ _ (Below.drew (eD K _ _ _ ((Below.refl _ _).alloc K _).drew))
theorem YM{g n c:Nat}(h:jX w B (some ⟨g,0,none⟩) n c xs)(bd:nJ xs)(D:i<n):
 Calls prog 188 #[.slice (some ⟨g,0,none⟩) n c,i,((i+1:Nat):Int)] w fun e w'=>e=.returned (.slice (some ⟨g,0,none⟩) (n-1) c)/\kC w' B (some ⟨g,0,none⟩) (n-1) c (xs.take i++xs.drop (i+1))/\Below B w w':=by
 have E:=h.len;rcases h.parts with⟨L,_,_⟩|⟨b,K,H,O,Z,Q,P,G,V⟩
 .cases L
 cases H;unfold maxLen at P;have X:∀j,j<xs.length->w.cell? (g,0+j)=(xs.getD j 0):=fun j N=>by
  rw[Nat.zero_add,Z.cell,V j I,List.getD_eq_getElem?_getD]
 refine(Any.slices_Delete_int_cells Tryz.lays23 g 0 n c i (i+1) xs w I Q P I I X (fun j N=>Z.frozen _)).mono ?_;rintro e w' ⟨rfl,q,rfl⟩;have S:n-(i+1-i)=n-1:=I;rw[S];refine⟨rfl,?_,eD O _ _ _ (cZ (Below.refl _ _) _)⟩;have M:xs.take n=xs:=List.take_of_length_le I;rw[M];generalize U:xs.take i++xs.drop (i+1)=T;have W:T.length=n-1:=by rw[<-U];simp;omega
 have R:nJ T:=fun j=>by
  rw[<-U,List.getElem?_append];split
  .rw[List.getElem?_take];split
   .exact bd j
   decide
  rw[List.getElem?_drop];exact bd _
 refine kC.of_cells O ?_ W I P R fun j N=>?_
 .exact Nat.lt_of_lt_of_le Z.lt (eD (B:=0) (Nat.zero_le _) _ _ _ (cZ (Below.refl _ _) _)).size
 have Y:((T++List.replicate (i+1-i) 0).map (Value.int .i64)).length=n:=by simp [W];omega
 have:=World.cell?_setCells_in g ((T++List.replicate (i+1-i) 0).map (Value.int .i64)) 0 (w.drewN q) (fun k F=>by
  rw[Y]at F;have:=X k I;show(w.cell? _).isSome=true;rw[this];rfl) j (by rw[Y];omega)
 rw[Nat.zero_add]at this;rw[this,List.getElem_map,List.getElem_append_left I,List.getElem?_eq_getElem I];rfl
end
section
attribute [local go_sem↓] Go.wp_at_zero Go.wp_at_succ
def VV(xs:List Int)(a v:Int):List Int:=if a=1 then(if xs.length<6 then xs++[v]else xs)else if a=3 then(if xs.length<6 then v::xs else xs)else if a=2 then xs.take 0++xs.drop (0+1)else if a=4 then xs.take (xs.length-1)++xs.drop (xs.length-1+1)else xs
def VW(xs:List Int)(a:Int):Int:=if a=1\/a=3 then(if xs.length<6 then 1 else 3)else if a=2\/a=4\/a=5 then(if xs.length=0 then 2 else 1)else if a=6 then 1 else 5
def VX(xs:List Int)(a:Int):Int:=if a=2\/a=5 then xs[0]?.getD 0 else if a=4 then xs[xs.length-1]?.getD 0 else if a=6 then xs.length else 0
theorem jX.lt{n c:Nat}(h:jX w B A n c xs):∀a,A=some a->B<=a.block/\a.block<w:=fun a Z=>by
 subst Z;exact World.ownsRow.lt h a.block rfl
theorem DL{g n c:Nat}(i:Nat)(p q:Int)(h:jX w B (some ⟨g,0,none⟩) n c xs)(bd:nJ xs)(Z:i<n)(Y:p=i)(X:q=i+1):
 Calls prog 188 #[.slice (some ⟨g,0,none⟩) n c,p,q] w fun e w'=>e=.returned (.slice (some ⟨g,0,none⟩) (n-1) c)/\kC w' B (some ⟨g,0,none⟩) (n-1) c (xs.take i++xs.drop (i+1))/\Below B w w':=by
 subst Y;have e:q=((i+1:Nat):Int):=I;rw[e];exact YM h bd Z
theorem OV(A:Option Addr)(n c:Nat)(xs:List Int)(a k v:Int)(w:World)(h:fI w A n c xs)(d:n<=60)(b: -9223372036854775808<=v/\v<=9223372036854775807)(l:0<n):
 Calls prog 163 #[.slice A n c,.agg #[a,k,v]] w (fQ (VV xs a v) (VW xs a) (VX xs a) w):=by
 have L:=aH h.len;obtain⟨x0,D⟩:=aP (xs[n-1]?.getD 0);have K:=aH D;clear D;obtain⟨y0,C⟩:=aP (xs[0]?.getD 0);have G:=aH C;clear C;have F:Hid (nJ xs):=h.bd;have H:=aH h;clear h;have E:=aH b;clear b
 go_enter func163,ntmps163
 have b0:(0:Int)<=(n:Int)-1:=I;have b1:(n:Int)-1<n:=I;have zz:(n:Int)-1<=n:=I;have j:(1:Int)<=n:=I;have d0:((n:Int)==0)=false:=by simp;omega
 have e1:((n:Int)-1).toNat=n-1:=I;have e2:IntKind.i64.wrap ((n:Int)-1)=n-1:=IntWalk.i64_in _ I
 go_wp2_with (first
  |(go_at_call 186;refine(fR A n c xs w _ H d ?_).mono ?_;(go_grown);rintro e o ⟨A1,c1,rfl,V,z,m⟩;obtain⟨f,hf⟩:=cJ z;have hz:=z.size;simp only[World.size_alloc]at hz;replace V:=V.mono (B':=w+2) (by simp);have q1:w.heap.size+1<o:=I;have q0:w.heap.size<o:=I;obtain⟨g,rfl,zy,zx,P⟩:=V.at_ l;have i:=(V.sli H.bd).cap;have u:=(V.sli H.bd).cap63;have t:=P (n-1) I;rw[K.out]at t;have s:=P 0 I;rw[G.out]at s;clear P;have Y:=aH V;clear V;have N:=f (w,1) 0 (by simp);have M:=f (w,1) 1 (by simp);simp [go_sem]at N M;have m1:¬w.heap.size+1=o:=I;have b2:(n:Int)-1<=c1:=I)
  |(at_builtin;refine dM rfl (.tmp 23) (.tmp 26) rfl (B:=w+2) rfl (Y.alloc _) rfl ((aY.new _ _ _).cell 0) I (by simp;omega) ?_;intro g2 c2 T R Z;obtain⟨X,O⟩:=cJ Z;have S:=Z.size;simp only[World.size_alloc]at S;have Q:Below w w T:=Below.trans (by go_grown) (Z.mono (by simp));have y:=(X (w,1) 0 (by simp)).trans ((bX I).trans N);have x:=(X (w,1) 1 (by simp)).trans ((bX I).trans M);have U:=aH (R.slo (nJ.app H.bd E));clear R;have r:w.heap.size+1<T:=I;have q:w.heap.size<T:=I;have p:¬w.heap.size+1=T:=I)
  |(go_at_call 188;(with_reducible refine(DL (B:=w+2) 0 0 1 Y.out F.out ?_ ?_ ?_).mono ?_);(omega);(rfl);(rfl);rintro e T ⟨rfl,W,Z⟩;obtain⟨X,O⟩:=cJ Z;have S:=Z.size;have Q:Below w w T:=m.trans (Z.mono I);have y:=(X (w,1) 0 I).trans N;have x:=(X (w,1) 1 I).trans M;have t0:=(X w 0 I);have U:=aH W;clear W;have r:w.heap.size+1<T:=I;have q:w.heap.size<T:=I;have p:¬w.heap.size+1=T:=I)
  |(go_at_call 188;(with_reducible refine(DL (B:=w+2) (n-1) ((n:Int)-1) n Y.out F.out ?_ ?_ ?_).mono ?_);(omega);(omega);(omega);rintro e T ⟨rfl,W,Z⟩;obtain⟨X,O⟩:=cJ Z;have S:=Z.size;have Q:Below w w T:=m.trans (Z.mono I);have y:=(X (w,1) 0 I).trans N;have x:=(X (w,1) 1 I).trans M;have t0:=(X w 0 I);have U:=aH W;clear W;have r:w.heap.size+1<T:=I;have q:w.heap.size<T:=I;have p:¬w.heap.size+1=T:=I)
  |(go_at_call 187;refine(KN (B:=w+2) (xs:=xs) (v:=v) (Y.alloc _) H.bd E (aY.new _ _ _) (fun a ha=>by have:=(Y.lt a ha).2;omega) d (by simp;omega)).mono ?_;rintro e T ⟨A2,c2,rfl,W,Z⟩;obtain⟨X,O⟩:=cJ Z;have S:=Z.size;simp only[World.size_alloc]at S;have Q:Below w w T:=Below.trans (by go_grown) (Z.mono (by simp));have y:=(X (w,1) 0 (by simp)).trans ((bX I).trans N);have x:=(X (w,1) 1 (by simp)).trans ((bX I).trans M);have U:=aH W;clear W;have r:w.heap.size+1<T:=I;have q:w.heap.size<T:=I;have p:¬w.heap.size+1=T:=I))
 all_goals(refine bodyPost_ret (by first|(simp [results,results163,go_sem,y,x];try rfl;done)|(simp [results,results163,go_sem,N,M];try rfl;done)) rfl ?_)
 all_goals try simp only[beq_iff_eq,beq_eq_false_iff_ne,bne_iff_ne,bne_eq_false_iff_eq,ne_eq]at*
 all_goals(first
  |(refine dB U Q ?_ ?_ ?_ ?_ ?_ ?_ ?_)
  |(refine dB (Y.slo H.bd) m ?_ ?_ ?_ ?_ ?_ ?_ ?_))
 all_goals first|(show w.heap.size+1<w+2;omega)|(show w.heap.size<=w+1;omega)|skip
 all_goals(have hx:=K.out;have hy:=G.out;have hl:=L.out;simp only[VV,VW,VX];(repeat' split)<;>first|rfl|(exfalso;omega)|(simp_all;done)|(simp_all;omega))
theorem NL(A:Option Addr)(c:Nat)(a k v:Int)(w:World)(h:fI w A 0 c [])(D: -9223372036854775808<=v/\v<=9223372036854775807):
 Calls prog 163 #[.slice A 0 c,.agg #[a,k,v]] w (fQ (VV [] a v) (VW [] a) (VX [] a) w):=by
 have H:=aH h;clear h;have Q:=aH D;clear D
 go_enter func163,ntmps163
 go_wp2_with (first
  |(go_at_call 186;refine(fR A 0 c [] w _ H I ?_).mono ?_;(go_grown);rintro e L ⟨o,c1,rfl,X,O,u⟩;obtain⟨E,n⟩:=cJ O;have C:=O.size;simp only[World.size_alloc]at C;replace X:=X.mono (B':=w+2) (by simp);have r:w.heap.size+1<L:=I;have q:w.heap.size<L:=I;have Z:=aH X;clear X;have N:=E (w,1) 0 (by simp);have M:=E (w,1) 1 (by simp);simp [go_sem]at N M;have p:¬w.heap.size+1=L:=I)
  |(at_builtin;refine dM rfl (.tmp 23) (.tmp 26) rfl (B:=w+2) rfl (Z.alloc _) rfl ((aY.new _ _ _).cell 0) I (by simp;omega) ?_;intro m t T V Y;obtain⟨U,K⟩:=cJ Y;have R:=Y.size;simp only[World.size_alloc]at R;have P:Below w w T:=Below.trans (by go_grown) (Y.mono (by simp));have G:=(U (w,1) 0 (by simp)).trans ((bX I).trans N);have F:=(U (w,1) 1 (by simp)).trans ((bX I).trans M);have W:=aH (V.slo (nJ.app H.bd Q));clear V;have z:w.heap.size+1<T:=I;have y:w.heap.size<T:=I;have x:¬w.heap.size+1=T:=I)
  |(go_at_call 187;refine(KN (B:=w+2) (xs:=[]) (v:=v) (Z.alloc _) H.bd Q (aY.new _ _ _) (fun a s=>by have:=(Z.lt a s).2;omega) I (by simp;omega)).mono ?_;rintro e T ⟨l,t,rfl,S,Y⟩;obtain⟨U,K⟩:=cJ Y;have R:=Y.size;simp only[World.size_alloc]at R;have P:Below w w T:=Below.trans (by go_grown) (Y.mono (by simp));have G:=(U (w,1) 0 (by simp)).trans ((bX I).trans N);have F:=(U (w,1) 1 (by simp)).trans ((bX I).trans M);have W:=aH S;clear S;have z:w.heap.size+1<T:=I;have y:w.heap.size<T:=I;have x:¬w.heap.size+1=T:=I))
 all_goals(refine bodyPost_ret (by first|(simp [results,results163,go_sem,G,F];try rfl;done)|(simp [results,results163,go_sem,N,M];try rfl;done)) rfl ?_)
 all_goals try simp only[beq_iff_eq,beq_eq_false_iff_ne,bne_iff_ne,bne_eq_false_iff_eq,ne_eq]at*
 all_goals(first
  |(refine dB W P ?_ ?_ ?_ ?_ ?_ ?_ ?_)
  |(refine dB (Z.slo H.bd) u ?_ ?_ ?_ ?_ ?_ ?_ ?_))
 all_goals first|(show w.heap.size+1<w+2;omega)|(show w.heap.size<=w+1;omega)|skip
 all_goals(simp only[VV,VW,VX];(repeat' split)<;>first|rfl|(exfalso;omega)|(simp_all;done)|(simp_all;omega))
theorem NQ(A:Option Addr)(n c:Nat)(xs:List Int)(a k v:Int)(w:World)(h:fI w A n c xs)(Y:n<=60)(Z: -9223372036854775808<=v/\v<=9223372036854775807):
 Calls prog 163 #[.slice A n c,.agg #[a,k,v]] w (fQ (VV xs a v) (VW xs a) (VX xs a) w):=by
 rcases Nat.eq_zero_or_pos n with hn0|hn0
 .subst hn0;obtain rfl:xs=[]:=List.eq_nil_of_length_eq_zero h.len;exact NL A c a k v w h Z
 exact OV A n c xs a k v w h Y Z hn0
end
section
theorem yU{k:Nat}:lZ xs k=true↔k=0\/gI xs ((k-1)/2)<=gI xs k:=by
 unfold lZ gI;rw[decide_eq_true_iff]
theorem zV:iJ xs=true↔(∀k,k<xs.length->k=0\/gI xs ((k-1)/2)<=gI xs k)/\xs.length<=6:=by
 unfold iJ;rw[Bool.and_eq_true,List.all_eq_true,decide_eq_true_iff];constructor
 .rintro⟨h,Y⟩;exact⟨fun k Z=>yU.1 (h k (by simpa using Z)),Y⟩
 rintro⟨h,Y⟩;exact⟨fun k Z=>yU.2 (h k (by simpa using Z)),Y⟩
theorem wC:∀(i:Nat) (xs:List Int),(jS xs i).length=xs.length:=by
 intro i
 induction i using Nat.strongRecOn with
 |ind i ih=>
  intro xs;by_cases h:0<i/\gI xs i<gI xs ((i-1)/2)
  .rw[oH h,ih ((i-1)/2) I];simp
  .rw[lW h]
theorem MT:∀(i:Nat) (xs:List Int),i<xs.length->(∀k,k<xs.length->k=0\/k=i\/gI xs ((k-1)/2)<=gI xs k)->(∀k,k<xs.length->0<k->(k-1)/2=i->0<i->gI xs ((i-1)/2)<=gI xs k)->
 ∀k,k<xs.length->k=0\/gI (jS xs i) ((k-1)/2)<=gI (jS xs i) k:=by
 intro i
 induction i using Nat.strongRecOn with
 |ind i ih=>
  intro xs L Y K k T;by_cases h:0<i/\gI xs i<gI xs ((i-1)/2)
  .rw[oH h];have M:(i-1)/2<i:=I;have W:∀j,gI ((xs.set i (gI xs ((i-1)/2))).set ((i-1)/2) (gI xs i)) j=if j=(i-1)/2 then gI xs i else if j=i then gI xs ((i-1)/2)else gI xs j:=fun j=>by
    rw[kH (by simp;omega)];by_cases V:j=(i-1)/2
    .rw[iP V,iP V]
    rw[iN V,iN V,kH L]
   generalize X:(xs.set i (gI xs ((i-1)/2))).set ((i-1)/2) (gI xs i)=N at*;have E:N.length=xs.length:=by rw[<-X];simp
   refine ih ((i-1)/2) M N I (fun k T=>?_) (fun k T h0 S H=>?_) k I
   .have P:=Y k I;have U:=K k I;have D:=Y ((i-1)/2) I;rw[W,W];by_cases O:k=(i-1)/2
    .exact .inr (.inl O)
    by_cases F:k=0
    .exact .inl F
    right;right;rw[iN O];by_cases Z:k=i
    .rw[iP Z,iP (by rw[Z])];omega
    rw[iN Z];by_cases R:(k-1)/2=(i-1)/2
    .rw[iP R];rw[R]at P;omega
    rw[iN R];by_cases Q:(k-1)/2=i
    .rw[iP Q];exact U I Q h.1
    rw[iN Q];omega
   have P:=Y ((i-1)/2) I;have U:=Y k I;rw[W,W,iN I,iN I,iN I];by_cases Z:k=i
   .rw[iP Z];omega
   rw[iN Z];rw[S]at U;omega
  .rw[lW h];have:=Y k T;rcases this with e|e|e
   .exact .inl e
   .subst e;rcases Nat.eq_zero_or_pos k with h0|h0
    .exact .inl h0
    right;have:¬gI xs k<gI xs ((k-1)/2):=fun G=>h ⟨h0,G⟩
    omega
   exact .inr e
theorem UW:∀(i:Nat) (xs:List Int) (P:Int->Prop),i<xs.length->(∀k,k<xs.length->P (gI xs k))->∀k,k<xs.length->P (gI (jS xs i) k):=by
 intro i
 induction i using Nat.strongRecOn with
 |ind i ih=>
  intro xs P Y Z k X;by_cases h:0<i/\gI xs i<gI xs ((i-1)/2)
  .rw[oH h];refine ih ((i-1)/2) I _ P (by simp;omega) (fun j W=>?_) k (by simpa using X);simp only[List.length_set]at W;rw[kH (by simp;omega)];split
   .exact Z i Y
   rw[kH Y];split
   .exact Z _ I
   exact Z j W
  .rw[lW h];exact Z k X
theorem yA:∀(n:Nat) (xs:List Int) (i:Nat) (v:Int),xs.length-i<=n->(jU xs i v).length=xs.length:=by
 intro n
 induction n with
 |zero=>
  intro xs i v h;have:=kV xs i;rw[kW I];simp
 |succ n ih=>
  intro xs i v h;by_cases Z:eO xs i<xs.length/\gI xs (eO xs i)<v
  .rw[oG Z,ih _ _ _ (by have:=kV xs i;simp;omega)];simp
  .rw[kW Z];simp
theorem TB:∀(n:Nat) (xs:List Int) (i:Nat) (v:Int) (P:Int->Prop),xs.length-i<=n->i<xs.length->P v->(∀k,k<xs.length->P (gI xs k))->∀k,k<xs.length->P (gI (jU xs i v) k):=by
 intro n
 induction n with
 |zero=>intro xs i v P h Y;omega
 |succ n ih=>
  intro xs i v P h Y W X k V;by_cases Z:eO xs i<xs.length/\gI xs (eO xs i)<v
  .rw[oG Z];refine ih _ _ _ P (by have:=kV xs i;simp;omega) (by simp;exact Z.1) W (fun j U=>?_) k (by simpa using V);simp only[List.length_set]at U;rw[kH Y];split
   .exact X _ Z.1
   exact X j U
  .rw[kW Z,kH Y];split
   .exact W
   exact X k V
theorem ME:∀(n:Nat) (xs:List Int) (i:Nat) (v:Int),xs.length-i<=n->i<xs.length->(∀k,k<xs.length->k=0\/k=i\/(k-1)/2=i\/gI xs ((k-1)/2)<=gI xs k)->
 (0<i->gI xs ((i-1)/2)<=v)->(0<i->∀k,k<xs.length->0<k->(k-1)/2=i->gI xs ((i-1)/2)<=gI xs k)->
 ∀k,k<xs.length->k=0\/gI (jU xs i v) ((k-1)/2)<=gI (jU xs i v) k:=by
 intro n
 induction n with
 |zero=>intro xs i v h T;omega
 |succ n ih=>
  intro xs i v h T Q G F k M;have Z:=kV xs i;by_cases V:eO xs i<xs.length/\gI xs (eO xs i)<v
  .rw[oG V];generalize eO xs i=c at*;have Y:(c-1)/2=i/\i<c:=I;have X:∀j,j<xs.length->0<j->(j-1)/2=i->gI xs c<=gI xs j:=fun j L K H=>by
    have:j=2*i+1\/j=2*i+2:=I;rcases this with rfl|rfl
    .rcases Z with⟨rfl,a,b⟩|⟨rfl,a⟩<;>omega
    rcases Z with⟨rfl,a,b⟩|⟨rfl,a⟩<;>omega
   have W:∀j,gI (xs.set i (gI xs c)) j=if j=i then gI xs c else gI xs j:=fun j=>kH T
   have C:(xs.set i (gI xs c)).length=xs.length:=by simp
   generalize xs.set i (gI xs c)=D at*;refine ih D c v I I (fun j L=>?_) (fun K=>?_) (fun K j L E H=>?_) k I
   .rw[W,W];have R:=Q j I;by_cases P:j=0
    .exact .inl P
    by_cases U:j=c
    .exact .inr (.inl U)
    by_cases S:(j-1)/2=c
    .exact .inr (.inr (.inl S))
    right;right;right;by_cases O:j=i
    .rw[iN I,iP O,O];exact F I c V.1 I Y.1
    rw[iN O];by_cases N:(j-1)/2=i
    .rw[iP N];exact X j I I N
    rw[iN N];omega
   .rw[W,iP Y.1];omega
   rw[W,W,iP Y.1,iN I];have R:=Q j I;rw[H]at R;omega
  .rw[kW V,kH T,kH T];by_cases P:k=0
   .exact .inl P
   right;have R:=Q k M;by_cases U:k=i
   .rw[iP U,iN I];subst U;exact G I
   rw[iN U];by_cases S:(k-1)/2=i
   .rw[iP S];have:k=2*i+1\/k=2*i+2:=I;rcases Z with⟨a,b,c⟩|⟨a,b⟩
    .rw[a]at V;rcases this with rfl|rfl<;>omega
    rw[a]at V;rcases this with rfl|rfl
    .omega
    have:¬gI xs (2*i+2)<gI xs (2*i+1):=fun h=>b ⟨M,h⟩
    omega
   rw[iN S];omega
theorem KD(h:iJ xs=true)(U:xs.length<6):iJ (jS (xs++[v]) xs.length)=true:=by
 rw[zV]at h⊢;rw[wC];refine⟨fun k X=>MT xs.length (xs++[v]) (by simp) (fun j Y=>?_) (fun j Y W V=>?_) k X,by simp;omega⟩
 .simp only[List.length_append,List.length_cons,List.length_nil]at Y;rcases Nat.lt_or_ge j xs.length with Z|hge
  .rw[tV I,tV Z];have:=h.1 j Z;omega
  right;left;omega
 simp only[List.length_append,List.length_cons,List.length_nil]at Y;omega
theorem JF(h:iJ xs=true):iJ (jU (xs.take (xs.length-1)) 0 (gI xs (xs.length-1)))=true:=by
 rw[zV]at h⊢;rw[yA _ _ _ _ (Nat.le_refl _)];have Y:(xs.take (xs.length-1)).length=xs.length-1:=by simp
 by_cases W:xs.length-1=0
 .exact⟨fun k Z=>by omega,I⟩
 refine⟨fun k Z=>ME _ _ 0 _ (Nat.le_refl _) I (fun j X=>?_) (fun h=>absurd h I) (fun h=>absurd h I) k Z,I⟩;rw[vO I,vO I];have:=h.1 j I;omega
def pE(z:Nat->Int)(s:Nat):Prop:=z (2*s)=0\/∃d,d<8/\dR (z (2*s)).toNat d=s/\∀b,b<d->z (2*dR (z (2*s)).toNat b)≠0/\z (2*dR (z (2*s)).toNat b)≠z (2*s)
theorem xX{q a b:Nat}(Z:a<8)(Y:b<8)(h:dR q a=dR q b):a=b:=by unfold dR at h;omega
theorem BA{q d:Nat}(X:d<8):(kF z q=(dR q d:Nat))↔(gL z q d=true/\∀b,b<d->gL z q b=false):=by
 constructor
 .intro h;unfold kF at h;split at h
  .rename_i k hk;have W:=hk;rw[List.find?_range_eq_some]at hk;obtain⟨Y,Z,V⟩:=hk;simp at Z;have:k=d:=xX (q:=q) Z X I;subst this;exact⟨Y,fun b U=>by simpa using V b U⟩
  omega
 rintro⟨Y,Z⟩;unfold kF;rw[mC X Y Z]
theorem zZ{s:Nat}(S:0<=z (2*s))(R:s<8):pE z s↔(z (2*s)≠0->kF z (z (2*s)).toNat=s):=by
 have X:((z (2*s)).toNat:Int)=z (2*s):=I;constructor
 .rintro(h|⟨d,Y,Z,hall⟩) hne
  .exact absurd h hne
  have:(kF z (z (2*s)).toNat=(dR (z (2*s)).toNat d:Nat)):=(BA Y).2 ⟨by unfold gL;rw[Z];simp [X],fun b V=>by unfold gL;have:=hall b V;rw[X];simp [this.1,this.2]⟩;rw[Z]at this;exact this
 intro h;by_cases U:z (2*s)=0
 .exact .inl U
 have T:=h U;have W:∃d,d<8/\dR (z (2*s)).toNat d=s:=⟨(s+8-(z (2*s)).toNat*5%8)%8,I,by unfold dR;omega⟩;obtain⟨d,Y,Z⟩:=W;have:=(BA (z:=z) (q:=(z (2*s)).toNat) Y).1 (by rw[Z];exact T);refine .inr ⟨d,Y,Z,fun b V=>?_⟩;have:=this.2 b V;unfold gL at this;rw[X]at this;simp at this;exact⟨this.2,this.1⟩
theorem xT{q p:Nat}(K:p<8)(M:kF z q=(p:Nat))(s:Nat)(_:s<8)(U:s=p\/pE z s):pE (setS z p q v) s:=by
 have W:∃d,d<8/\dR q d=p:=⟨(p+8-q*5%8)%8,I,by unfold dR;omega⟩;obtain⟨d,T,X⟩:=W;obtain⟨S,R⟩:=(BA (z:=z) T).1 (by rw[X];exact M);have V:z (2*p)=q\/z (2*p)=0:=by unfold gL at S;rw[X]at S;simpa using S
 by_cases Z:s=p
 .subst Z;by_cases N:q=0
  .left;rw[dI,iP rfl,N];rfl
  right;refine⟨d,T,by rw[dI,iP rfl];exact X,fun b Q=>?_⟩;rw[dI z s q v s,iP rfl,Int.toNat_natCast,dI,iN (fun e=>by have:=xX I T (e.trans X.symm);omega)];have:=R b Q;unfold gL at this;simp at this;exact⟨this.2,this.1⟩
 have U:=U.resolve_left Z;unfold pE;rw[dI z p q v s,iN Z];rcases U with h|⟨L,P,O,Y⟩
 .exact .inl h
 refine .inr ⟨L,P,O,fun b Q=>?_⟩;rw[dI];have:=Y b Q;by_cases e:dR (z (2*s)).toNat b=p
 .rw[iP e];rw[e]at this;rcases V with h|h
  .rw[<-h];exact this
  exact absurd h this.1
 rw[iN e];exact this
theorem wD{k s:Nat}(T:pE z s)(S:∀d,d<8->z (2*s)≠0->dR (z (2*s)).toNat d=s->(∀b,b<d->z (2*dR (z (2*s)).toNat b)≠0)->∀b,b<d->dR (z (2*s)).toNat b≠k):pE (setS z k 0 0) s:=by
 unfold pE;rw[dI z k 0 0 s];by_cases Y:s=k
 .rw[iP Y];exact .inl rfl
 rw[iN Y];rcases T with h|⟨d,W,V,Z⟩
 .exact .inl h
 by_cases U:z (2*s)=0
 .exact .inl U
 refine .inr ⟨d,W,V,fun b X=>?_⟩;rw[dI,iN (S d W U V (fun b X=>(Z b X).1) b X)];exact Z b X
theorem LN{z z':Nat->Int}{k:Nat}(h:∀x,x≠k->(z' (2*x)=0↔z (2*x)=0)):∀n,eV z' n=eV z n+(if k<n then(if z' (2*k)≠0 then 1 else 0)-(if z (2*k)≠0 then 1 else 0)else 0)
 |0=>by simp [eV]
 |n+1=>by
  rw[lU,lU,LN h n];generalize eV z n=l;by_cases hk:n=k
  .subst hk;rw[iN (Nat.lt_irrefl n),iP (Nat.lt_succ_self n)];generalize(if z' (2*n)≠0 then(1:Int)else 0)=a;generalize(if z (2*n)≠0 then(1:Int)else 0)=b;omega
  .have:=h n hk;have e:(z' (2*n)≠0)↔(z (2*n)≠0):=by rw[Ne,Ne,this]
   have Y:(if z' (2*n)≠0 then(1:Int)else 0)=if z (2*n)≠0 then 1 else 0:=by simp only[e]
   rw[Y];generalize(if z (2*n)≠0 then(1:Int)else 0)=a;by_cases Z:k<n
   .rw[iP Z,iP (show k<n+1 by omega)];omega
   rw[iN Z,iN (show¬k<n+1 by omega)];omega
theorem qQ(z:Nat->Int)(k:Nat)(q v:Int)(Y:k<8):eV (setS z k q v) 8=eV z 8+((if q≠0 then 1 else 0)-(if z (2*k)≠0 then 1 else 0)):=by
 rw[LN (k:=k) (z:=z) (fun x Z=>by rw[dI,iN Z]) 8,iP Y,dI,iP rfl]
def WH(z:Nat->Int)(i:Nat):Prop:=0<=z (2*i)/\z (2*i)<=1000/\0<=z (2*i+1)/\z (2*i+1)<=4294967295/\(z (2*i)=0->z (2*i+1)=0)
theorem BO{s:Nat}(h:WH z s)(Z:0<=k/\k<=1000/\0<=v/\v<=4294967295/\(k=0->v=0)):WH (setS z i k v) s:=by
 unfold WH;rw[dI,sI];by_cases e:s=i
 .rw[iP e,iP e];exact Z
 rw[iN e,iN e];exact h
theorem mM:cS z=true↔eV z 8<=6/\∀s,s<8->WH z s/\pE z s:=by
 constructor
 .intro h;refine⟨oO h,fun s Y=>?_⟩;have Z:=nB h Y;have X:=qE h Y;unfold iL at X;simp only[decide_eq_true_eq]at X;exact⟨Z,(zZ Z.1 Y).2 X.2.2.2.2.2⟩
 rintro⟨W,h⟩;refine rU W fun s Y=>?_
 obtain⟨Z,V⟩:=h s Y;unfold iL;rw[decide_eq_true_iff];exact⟨Z.1,Z.2.1,Z.2.2.1,Z.2.2.2.1,Z.2.2.2.2,(zZ Z.1 Y).1 V⟩
theorem IK{q p:Nat}(h:cS z=true)(V:p<8)(X:kF z q=(p:Nat))(R:q<=1000)(U:0<q)(Q:0<=v/\v<=4294967295)(T:z (2*p)=0->eV z 8<6):cS (setS z p q v)=true:=by
 rw[mM]at h⊢;obtain⟨S,W⟩:=h;refine⟨?_,fun s Z=>⟨BO (W s Z).1 I,xT V X s Z (.inr (W s Z).2)⟩⟩;rw[qQ _ _ _ _ V];by_cases Y:z (2*p)=0
 .have:=T Y;simp only[Y];split<;>simp<;>omega
 rw[iP Y];split<;>omega
structure VK (z T:Nat->Int) (i m j:Nat):Prop where
 agree:xP T (setS z i 0 0) i j m
 len:eV T 8<=6
 bd:∀s,s<8->WH T s
 good:∀s,s<8->(∀x,j<=x->x<m->s≠kk i x)->pE T s
theorem VK.start(b:vI z i m):VK z (setS z i 0 0) i m 0:=by
 have V:=mM.1 b.right;have L:=b.m6;refine⟨fun _ _ _=>⟨rfl,rfl⟩,?_,fun s S=>BO (V.2 s S).1 I,fun s S Q=>?_⟩
 .rw[qQ _ _ _ _ b.hi];have:=V.1;simp only[ne_eq,not_true_eq_false,if_false];split<;>omega
 refine wD (V.2 s S).2 fun d N M Z W c K R=>?_
 have P:s≠i:=fun e=>by
  have:=xX I N (R.trans (e▸Z.symm));omega
 generalize(z (2*s)).toNat=q at*;have Y:∀x,x<d-c->z (2*kk i x)≠0\/kk i x=s:=fun x Q=>by
  have e:kk i x=dR q (c+1+x):=by unfold dR at R⊢;unfold kk;omega
  rcases Nat.lt_or_ge (c+1+x) d with h|h
  .left;rw[e];exact W _ h
  right;rw[e,show c+1+x=d by omega,Z]
 have U:kk i (d-c-1)=s:=by unfold dR at R Z;unfold kk;omega
 have O:d-c-1<m:=by
  rcases Nat.lt_or_ge (d-c-1) m with h|h
  .exact h
  exfalso;have X:=b.free;rw[dI]at X;have T:kk i m≠i:=by unfold kk;have:=b.hi;omega
  rw[iN T]at X;rcases Y m I with h1|h1
  .exact h1 X
  rw[h1]at X;exact M X
 exact Q (d-c-1) I O U.symm
theorem VK.step{T:Nat->Int}{j:Nat}(b:vI z i m)(Y:VK z T i m j)(C:j<m):VK z (rC T (kk i j)) i m (j+1):=by
 have u:=b.m6;have t:=b.hi;obtain⟨p,G,V,w⟩:=b.step C Y.agree;have U:kk i j≠i:=by unfold kk;omega
 have S:=vD i j;have y:T (2*kk i j)=z (2*kk i j):=by rw[(Y.agree j (Nat.le_refl _) I).1,dI,iN U]
 have L:T (2*kk i j)≠0:=by have:=b.occ j C;rw[dI,iN U]at this;rwa [y]
 have R:=Y.bd _ S;have X:T (2*kk i m)=0:=by rw[(Y.agree m I (Nat.le_refl _)).1];exact b.free
 obtain⟨q,B⟩:∃q:Nat,T (2*kk i j)=(q:Int):=⟨_,(Int.toNat_of_nonneg R.1).symm⟩;have K:rC T (kk i j)=setS (setS T (kk i j) 0 0) p q (T (2*kk i j+1)):=by
  unfold rC;rw[V,Int.toNat_natCast,B]
 have Z:kF (setS T (kk i j) 0 0) q=(p:Nat):=by rw[B,Int.toNat_natCast]at V;exact V
 have H:=R;unfold WH at H;refine⟨b.next C Y.agree,?_,fun s Q=>?_,fun s Q A=>?_⟩
 .rw[K,qQ _ _ _ _ G,qQ _ _ _ _ S];have:=Y.len;rw[iP L];simp only[ne_eq,not_true_eq_false,if_false];split<;>split<;>omega
 .rw[K];exact BO (BO (Y.bd s Q) I) I
 rw[K];by_cases D:s=p
 .exact xT G Z s Q (.inl D)
 refine xT G Z s Q (.inr ?_);by_cases N:s=kk i j
 .left;rw[N,dI,iP rfl]
 refine wD (Y.good s Q fun x F E e=>?_) fun d o v P O c n M=>?_
 .rcases Nat.eq_or_lt_of_le F with h|h
  .subst h;exact N e
  exact A x h E e
 generalize(T (2*s)).toNat=r at*;have W:kk i (j+(d-c))=s:=by unfold dR at M P;unfold kk at M⊢;omega
 rcases Nat.lt_or_ge (j+(d-c)) m with h|h
 .exact A _ I h W.symm
 rcases Nat.eq_or_lt_of_le h with h|h
 .rw[<-h]at W;rw[W]at X;exact v X
 have e:kk i m=dR r (c+(m-j)):=by unfold dR at M⊢;unfold kk at M⊢;omega
 exact O (c+(m-j)) I (by rw[<-e];exact X)
theorem VK.run(b:vI z i m):∀j,j<=m->VK z (iX z i j) i m j
 |0,_=>VK.start b
 |j+1,h=>VK.step b (VK.run b j I) I
theorem GL(b:vI z i m):cS (iX z i m)=true:=by
 have h:=VK.run b m (Nat.le_refl _);exact mM.2 ⟨h.len,fun s Z=>⟨h.bd s Z,h.good s Z fun x X Y=>absurd Y I⟩⟩
def lY(kind:Int)(xs:List Int)(a v:Int):List Int:=if kind=1 then qB xs a v else if kind=2 then nR xs a v else if kind=3 then VV xs a v else gD xs a v
def lC(kind:Int)(xs:List Int)(a:Int):Int:=if kind=1 then pN xs a else if kind=2 then nP xs a else if kind=3 then VW xs a else gM xs a
def lV(kind:Int)(xs:List Int)(a:Int):Int:=if kind=1 then pO xs a else if kind=2 then nT xs a else if kind=3 then VX xs a else gK xs a
def gQ(a k v:Int):Prop:=1<=a/\a<=6/\0<=k/\k<=1000/\0<=v/\v<=4294967295
def BQ(x:Int):Prop:=0<=x/\x<=4294967295
def wX(xs:List Int):Prop:=xs.length<=6/\∀i,i<xs.length->BQ (gI xs i)
def nA(c v:Int):Prop:=1<=c/\c<=5/\BQ v/\(c=1\/v=0)
theorem MD:gI (xs++[v]) xs.length=v:=by unfold gI;simp
theorem UA(h:xs.length<=i):gI xs i=0:=by unfold gI;rw[List.getElem?_eq_none h];rfl
theorem XN(xs:List Int)(i:Nat):gI xs.tail i=gI xs (i+1):=by unfold gI;rw[List.getElem?_tail]
theorem wX.num(h:wX xs)(i:Nat):BQ (gI xs i):=by
 rcases Nat.lt_or_ge i xs.length with hi|hi
 .exact h.2 i hi
 rw[UA hi];exact⟨aJ,aJ⟩
theorem wX.app(h:wX xs)(X:xs.length<6)(Y:BQ v):wX (xs++[v]):=
 ⟨by simp;omega,fun i Z=>by
  simp only[List.length_append,List.length_cons,List.length_nil]at Z;rcases Nat.lt_or_ge i xs.length with h1|h1
  .rw[tV h1];exact h.2 i h1
  obtain rfl:i=xs.length:=I;rw[MD];exact Y⟩
theorem wX.cons(h:wX xs)(X:xs.length<6)(Y:BQ v):wX (v::xs):=
 ⟨by simp;omega,fun i Z=>by
  cases i with
  |zero=>exact Y
  |succ i=>exact h.2 i (by simpa using Z)⟩
theorem wX.tail(h:wX xs):wX xs.tail:=⟨by simp;have:=h.1;omega,fun i Z=>by rw[XN];exact h.num _⟩
theorem wX.take(h:wX xs)(n:Nat):wX (xs.take n):=⟨by simp;have:=h.1;omega,fun i Z=>by rw[vO (by simp at Z;omega)];exact h.num _⟩
theorem wX.heap(h:wX xs)(a v:Int)(Y:BQ v):wX (gD xs a v):=by
 unfold gD;split
 .split
  .rename_i hn;have:=h.app hn Y;exact⟨by rw[wC];exact this.1,fun i Z=>by rw[wC]at Z;exact UW _ _ BQ (by simp) this.2 i Z⟩
  exact h
 split
 .have ht:=h.take (xs.length-1);refine⟨by rw[yA _ _ _ _ (Nat.le_refl _)];exact ht.1,fun i Z=>?_⟩;rw[yA _ _ _ _ (Nat.le_refl _)]at Z;exact TB _ _ _ _ BQ (Nat.le_refl _) I (h.num _) ht.2 i Z
 exact h
theorem UQ(xs:List Int):xs.take 0++xs.drop (0+1)=xs.tail:=by cases xs<;>rfl
theorem YF(xs:List Int):xs.take (xs.length-1)++xs.drop (xs.length-1+1)=xs.take (xs.length-1):=by rw[List.drop_eq_nil_of_le I,List.append_nil]
theorem LC(h:wX xs)(Y:gQ a k v):wX (lY kind xs a v):=by
 have Z:BQ v:=⟨Y.2.2.2.2.1,Y.2.2.2.2.2⟩;unfold lY qB nR VV;rw[UQ,YF]
 repeat' split
 all_goals first
  |exact h
  |exact h.tail
  |exact h.take _
  |exact h.app (by assumption) Z
  |exact h.cons (by assumption) Z
  |exact h.heap a v Z
theorem Em(h:wX xs):nA 1 xs.length:=⟨aJ,aJ,⟨I,by have:=h.1;omega⟩,.inl rfl⟩
theorem ZS(h:wX xs):nA (lC kind xs a) (lV kind xs a):=by
 have Y:=fun i=>h.num i
 have X:BQ xs.length:=⟨I,by have:=h.1;omega⟩;have W:BQ 0:=⟨aJ,aJ⟩;have Z:= @UA xs;unfold gI at Y Z;unfold lC lV pN pO nP nT VW VX gM gK gI nA;by_cases V:xs.length=0
 .have z0:=Z (i:=0) I;have U:=Z (i:=xs.length-1) I;simp only[V,z0]at*
  (repeat' split)<;>simp_all<;>omega
 repeat' split
 all_goals first
  |(exact⟨aJ,aJ,Y _,.inl rfl⟩)
  |(exact⟨aJ,aJ,X,.inl rfl⟩)
  |(exact⟨aJ,aJ,W,.inr rfl⟩)
  |(exfalso;omega)
def BW(kind:Int)(z:Nat->Int)(a k v:Int)(m:Nat):Nat->Int:=
 if kind=5 then eF 8 (fJ z a k v m)else if kind=6 then(fun i=>if i=0 then iU (z 0) a v else 0)else iT (lY kind (zL z) a v).length (lY kind (zL z) a v)
def IB(kind:Int)(z:Nat->Int)(a k v:Int):Int:=if kind=5 then fV z a k else if kind=6 then kZ (z 0) a v else lC kind (zL z) a
def JO(kind:Int)(z:Nat->Int)(a k v:Int):Int:=if kind=5 then fX z a k else if kind=6 then lI (z 0) a v else lV kind (zL z) a
theorem LT(Y:VU z)(h:gW z):wX (zL z):=by
 have X:=Y 0 I;refine⟨by unfold zL;rw[qT];have:=h.1;omega,fun i Z=>?_⟩;unfold zL at Z⊢;rw[qT]at Z;have:=h.1;unfold gI;rw[pA _ _ _ Z];exact⟨(Y (i+1) I).1,(h.2 i I).1⟩
theorem xS(h:wX xs):gW (iT xs.length xs)/\VU (iT xs.length xs)/\zL (iT xs.length xs)=xs:=by
 have W:∀i,i≠0->i<=xs.length->iT xs.length xs i=gI xs (i-1):=fun i V U=>by unfold iT gI;rw[iN V,iP U]
 have T:∀i,i≠0->¬i<=xs.length->iT xs.length xs i=0:=fun i V U=>by unfold iT;rw[iN V,iN U]
 have X:iT xs.length xs 0=xs.length:=rfl;have S:=h.1;refine⟨⟨by rw[X];omega,fun i Z=>?_⟩,fun i Z=>?_,?_⟩
 .rw[X,Int.toNat_natCast];unfold tY;by_cases Y:i+1<=xs.length
  .rw[W _ I Y];exact⟨(h.num _).2,fun h=>absurd h I⟩
  rw[T _ I Y];exact⟨I,fun _=>rfl⟩
 .by_cases hi0:i=0
  .subst hi0;rw[X];omega
  by_cases Y:i<=xs.length
  .rw[W _ hi0 Y];have:=h.num (i-1);unfold BQ at this;omega
  rw[T _ hi0 Y];omega
 unfold zL;rw[X,Int.toNat_natCast];apply List.ext_getElem?;intro i;by_cases Z:i<xs.length
 .have e1:=pA (iT xs.length xs) xs.length i Z;rw[W _ I I,Nat.add_sub_cancel]at e1;unfold gI at e1;rw[List.getElem?_eq_getElem (by rw[qT];exact Z),List.getElem?_eq_getElem Z]at*;simpa using e1
 rw[List.getElem?_eq_none (by rw[qT];omega),List.getElem?_eq_none I]
theorem vZ{z z':Nat->Int}(h:∀i,i<16->z' i=z i):∀n,n<=8->eV z' n=eV z n
 |0,_=>by simp [eV]
 |n+1,hn=>by rw[lU,lU,vZ h n I,h (2*n) I]
theorem BS{z':Nat->Int}(h:∀i,i<16->z' i=z i):cS z'=true↔cS z=true:=by
 have W:∀s,s<8->(pE z' s↔pE z s):=fun s Z=>by
  unfold pE;rw[h (2*s) I];have e:∀b,z' (2*dR (z (2*s)).toNat b)=z (2*dR (z (2*s)).toNat b):=fun b=>h _ (by have:=mY (z (2*s)).toNat b;omega)
  simp only[e]
 have V:∀s,s<8->(WH z' s↔WH z s):=fun s Z=>by
  unfold WH;rw[h (2*s) I,h (2*s+1) I]
 rw[mM,mM,vZ h 8 (Nat.le_refl _)];constructor
 .rintro⟨X,Y⟩;exact⟨X,fun s Z=>⟨(V s Z).1 (Y s Z).1,(W s Z).1 (Y s Z).2⟩⟩
 rintro⟨X,Y⟩;exact⟨X,fun s Z=>⟨(V s Z).2 (Y s Z).1,(W s Z).2 (Y s Z).2⟩⟩
theorem rV(h:cS z=true)(T:gQ a k v)(R:tG z a k m):cS (fJ z a k v m)=true:=by
 unfold fJ;split
 .rename_i U;obtain⟨U,Y,X⟩:=U;obtain⟨i,S,Z,W⟩:=nX h k.toNat;have e:(kF z k.toNat).toNat=i:=by rw[Z];rfl
  have V:((k.toNat:Nat):Int)=k:=I;rw[e];split
  .split
   .exact h
   rename_i hne;rw[V]at W;have:=IK (v:=v) h S Z I I ⟨T.2.2.2.2.1,T.2.2.2.2.2⟩ (fun Q=>by
    rcases Int.lt_or_le (eV z 8) 6 with h6|h6
    .exact h6
    exact absurd ⟨I,h6⟩ hne)
   rwa [V]at this
  split
  .exact h
  rename_i hz;split
  .rename_i h2;have:=R h2 Y X (by rw[e];omega);rw[e]at this;exact GL this
  exact h
 exact h
theorem wO{d:Nat->Int}(h:cS d=true):kQ (eF 8 d)/\VU (eF 8 d):=by
 have Z:∀i,i<16->eF 8 d i=d i:=fun i Y=>by unfold eF;rw[iP I]
 have X:∀i,16<=i->eF 8 d i=0:=fun i Y=>by unfold eF;rw[iN I]
 refine⟨⟨fun i Y=>?_,X 16 I,(BS Z).2 h⟩,fun i Y=>?_⟩
 .have:=nB h Y;unfold tW;rw[Z _ I,Z _ I];omega
 rcases Nat.lt_or_ge i 16 with h16|h16
 .rw[Z i h16];have:=nB h (k:=i/2) I;rcases Nat.mod_two_eq_zero_or_one i with e|e
  .rw[show 2*(i/2)=i by omega]at this;omega
  rw[show 2*(i/2)+1=i by omega]at this;omega
 rw[X i h16];omega
theorem WN(h:cS z=true):nA (fV z a k) (fX z a k):=by
 obtain⟨i,Y,Z,X⟩:=nX h k.toNat;have e:(kF z k.toNat).toNat=i:=by rw[Z];rfl
 have W:=nB h Y;have V:=sQ z 8;unfold fV fX;rw[e]
 repeat' split
 all_goals first
  |(exact⟨aJ,aJ,⟨I,I⟩,.inl rfl⟩)
  |(exact⟨aJ,aJ,⟨I,I⟩,.inr rfl⟩)
  |(exfalso;omega)
theorem EK{n:Int}(Z:BQ n)(Y:BQ v):BQ (iU n a v)/\nA (kZ n a v) (lI n a v):=by
 unfold BQ at*;unfold iU kZ lI nA BQ;constructor
 .repeat' split
  all_goals omega
 repeat' split
 all_goals omega
theorem IS(h:iJ xs=true):iJ (gD xs a v)=true:=by
 unfold gD;split
 .split
  .exact KD h (by assumption)
  exact h
 split
 .exact JF h
 exact h
theorem DC(U:VU z)(h:cK kind z)(Y:gQ a k v)(N:kind=5->tG z a k m):
 cK kind (BW kind z a k v m)/\VU (BW kind z a k v m)/\nA (IB kind z a k v) (JO kind z a k v):=by
 unfold cK BW IB JO at*;by_cases V:kind=5
 .simp only[iP V]at*;have:=rV h.2.2 Y (N V);exact⟨(wO this).1,(wO this).2,WN h.2.2⟩
 simp only[iN V]at*;by_cases S:kind=6
 .simp only[iP S]at*;have Q:=U 0 I;have:=EK (a:=a) (n:=z 0) (v:=v) ⟨Q.1,h.1⟩ ⟨Y.2.2.2.2.1,Y.2.2.2.2.2⟩;refine⟨⟨this.1.2,fun i O=>by simp⟩,fun i O=>?_,this.2⟩;have P:=this.1;unfold BQ at P;show 0<=(if i=0 then iU (z 0) a v else 0)/\(if i=0 then iU (z 0) a v else 0)<_;split<;>omega
 simp only[iN S]at*;by_cases R:kind=4
 .simp only[iP R]at*;have Z:=LT U h.1;obtain⟨X,W,T⟩:=xS (LC (kind:=kind) Z Y);refine⟨⟨X,?_⟩,W,ZS Z⟩;show iJ (zL _)=true;rw[T];have e:lY kind (zL z) a v=gD (zL z) a v:=by unfold lY;rw[iN I,iN I,iN I]
  rw[e];exact IS h.2
 simp only[iN R]at*;have Z:=LT U h.2.2;obtain⟨X,W,T⟩:=xS (LC (kind:=kind) Z Y);exact⟨⟨h.1,h.2.1,X⟩,W,ZS Z⟩
theorem SL(xs:List Int)(a v:Int):VT xs a v 0=qB xs a v/\VP xs a=pN xs a/\VS xs a 0=pO xs a:=by
 refine⟨?_,?_,?_⟩
 .simp only[VT,iA,qB]
  (repeat' split)<;>first|rfl|(exfalso;omega)|(simp_all;done)|skip
 .simp only[VP,gZ,pN]
  (repeat' split)<;>first|rfl|(exfalso;omega)|(simp_all;done)|skip
 simp only[VS,gY,pO]
 (repeat' split)<;>first|rfl|(exfalso;omega)|(simp_all;done)|skip
theorem UU(xs:List Int)(a v:Int):VT xs a v (xs.length-1)=nR xs a v/\VP xs a=nP xs a/\VS xs a (xs.length-1)=nT xs a:=by
 refine⟨?_,?_,?_⟩
 .simp only[VT,iA,nR]
  (repeat' split)<;>first|rfl|(exfalso;omega)|(simp_all;done)|skip
  .rename_i h1 h2 h3 h4 h5 h6;have:xs.length-1+1=xs.length:=I;rw[this,List.drop_length,List.append_nil]
  all_goals(have:xs=[]:=List.eq_nil_of_length_eq_zero I;subst this;simp)
 .simp only[VP,gZ,nP]
  (repeat' split)<;>first|rfl|(exfalso;omega)|(simp_all;done)|skip
 simp only[VS,gY,nT]
 (repeat' split)<;>first|rfl|(exfalso;omega)|(simp_all;done)|skip
theorem TE(xs:List Int)(a v:Int):CR xs a v=VV xs a v/\PI xs a=VW xs a/\DB xs a=VX xs a:=by
 have Z:decide (a=3)=true↔a=3:=by simp
 refine⟨?_,?_,?_⟩
 .simp only[CR,DH,iA,VV,Z]
  (repeat' split)<;>first|rfl|(exfalso;omega)|(simp_all;done)|skip
  all_goals(have:xs=[]:=List.eq_nil_of_length_eq_zero I;subst this;simp)
 .simp only[PI,gZ,VW]
  (repeat' split)<;>first|rfl|(exfalso;omega)|(simp_all;done)|skip
 simp only[DB,DH,gY,VX]
 (repeat' split)<;>first|rfl|(exfalso;omega)|(simp_all;done)|skip
theorem l1(xs:List Int)(a v:Int):lY 1 xs a v=qB xs a v/\lC 1 xs a=pN xs a/\lV 1 xs a=pO xs a:=⟨rfl,rfl,rfl⟩
theorem l2(xs:List Int)(a v:Int):lY 2 xs a v=nR xs a v/\lC 2 xs a=nP xs a/\lV 2 xs a=nT xs a:=⟨rfl,rfl,rfl⟩
theorem l3(xs:List Int)(a v:Int):lY 3 xs a v=VV xs a v/\lC 3 xs a=VW xs a/\lV 3 xs a=VX xs a:=⟨rfl,rfl,rfl⟩
theorem l4(xs:List Int)(a v:Int):lY 4 xs a v=gD xs a v/\lC 4 xs a=gM xs a/\lV 4 xs a=gK xs a:=⟨rfl,rfl,rfl⟩
section
variable(A:Option Addr)(n c:Nat)(xs:List Int)(a k v:Int)(w:World)
theorem Dr(h:fI w A n c xs)(T:n<=60)(S: -9223372036854775808<=v/\v<=9223372036854775807):
 Calls prog 197 #[.slice A n c,.agg #[a,k,v]] w (AQ A n (lY 1 xs a v) (lC 1 xs a) (lV 1 xs a) w):=by
 obtain⟨Z,Y,X⟩:=l1 xs a v;obtain⟨W,V,U⟩:=SL xs a v;rw[Z,Y,X,<-W,<-V,<-U];exact AV A n c xs a k v w h T S
theorem Cy(h:fI w A n c xs)(T:n<=60)(S: -9223372036854775808<=v/\v<=9223372036854775807):
 Calls prog 198 #[.slice A n c,.agg #[a,k,v]] w (AQ A n (lY 2 xs a v) (lC 2 xs a) (lV 2 xs a) w):=by
 obtain⟨Z,Y,X⟩:=l2 xs a v;obtain⟨W,V,U⟩:=UU xs a v;rw[Z,Y,X,<-W,<-V,<-U,h.len];exact AM A n c xs a k v w h T S
theorem Ea(h:fI w A n c xs)(T:n<=60)(S: -9223372036854775808<=v/\v<=9223372036854775807):
 Calls prog 199 #[.slice A n c,.agg #[a,k,v]] w (AQ A n (lY 3 xs a v) (lC 3 xs a) (lV 3 xs a) w):=by
 obtain⟨Z,Y,X⟩:=l3 xs a v;obtain⟨W,V,U⟩:=TE xs a v;rw[Z,Y,X,<-W,<-V,<-U];exact AO A n c xs a k v w h T S
theorem Cr(h:fI w A n c xs)(W:n<=60)(V: -9223372036854775808<=v/\v<=9223372036854775807):
 Calls prog 200 #[.slice A n c,.agg #[a,k,v]] w (AQ A n (lY 4 xs a v) (lC 4 xs a) (lV 4 xs a) w):=by
 obtain⟨Z,Y,X⟩:=l4 xs a v;rw[Z,Y,X];exact(FA A n c xs a k v w h W V).mono fun _ _ h=>h.weakJ A n
theorem Cx(h:fI w A n c xs)(W:n<=60)(V: -9223372036854775808<=v/\v<=9223372036854775807):
 Calls prog 161 #[.slice A n c,.agg #[a,k,v]] w (fQ (lY 1 xs a v) (lC 1 xs a) (lV 1 xs a) w):=by
 obtain⟨Z,Y,X⟩:=l1 xs a v;rw[Z,Y,X];exact(NF A n c xs a k v w h W V)
theorem Ed(h:fI w A n c xs)(W:n<=60)(V: -9223372036854775808<=v/\v<=9223372036854775807):
 Calls prog 162 #[.slice A n c,.agg #[a,k,v]] w (fQ (lY 2 xs a v) (lC 2 xs a) (lV 2 xs a) w):=by
 obtain⟨Z,Y,X⟩:=l2 xs a v;rw[Z,Y,X];exact(NM A n c xs a k v w h W V)
theorem Cm(h:fI w A n c xs)(W:n<=60)(V: -9223372036854775808<=v/\v<=9223372036854775807):
 Calls prog 163 #[.slice A n c,.agg #[a,k,v]] w (fQ (lY 3 xs a v) (lC 3 xs a) (lV 3 xs a) w):=by
 obtain⟨Z,Y,X⟩:=l3 xs a v;rw[Z,Y,X];exact(NQ A n c xs a k v w h W V)
theorem Eb(h:fI w A n c xs)(W:n<=60)(V: -9223372036854775808<=v/\v<=9223372036854775807):
 Calls prog 164 #[.slice A n c,.agg #[a,k,v]] w (fQ (lY 4 xs a v) (lC 4 xs a) (lV 4 xs a) w):=by
 obtain⟨Z,Y,X⟩:=l4 xs a v;rw[Z,Y,X];exact(SS A n c xs a k v w h W V)
end
end
section
attribute [local go_sem↓] Go.wp_at_zero Go.wp_at_succ
def rB(T:Array Value->World->Prop)(code val:Int)(w:World)(e:Ending)(w':World):Prop:=
 Below w w w'/\∃C,C.size=19/\C.all (·.oneCell')=true/\e=.returned (.tuple #[.agg C,.agg #[code,val]])/\T C w'
theorem jH(c x:Int):(#[Value.int .i64 c,Value.int .i64 x]:Array Value).all (·.oneCell')=true:=J
theorem eU:(prog.info? 44).map (·.size)=some 2:=J
theorem fI.farc{n c:Nat}(h:fI w A n c xs){p:Addr}(U:0<n->∀b,A=some b->b.block≠p.block)(u:Value):fI (w.setCell p u) A n c xs:=
 ⟨h.len,h.cap,h.cap63,h.bd,fun X=>by
  obtain⟨b,Z,rfl,Y,W⟩:=h.at_ X;refine⟨b,Z,rfl,by simpa using Y,fun i V=>?_⟩;rw[World.cell?_setCell_far _ _ _ _ (show p.block≠b from fun e=>U X _ rfl e.symm)];exact W i V⟩
theorem uG{S:Nat->Prop}{w':World}{n c:Nat}(h:fI w A n c xs)(W:aD S w w')(T:0<n->∀b,A=some b->¬S b.block):fI w' A n c xs:=
 ⟨h.len,h.cap,h.cap63,h.bd,fun X=>by
  obtain⟨b,Z,rfl,Y,V⟩:=h.at_ X;exact⟨b,Z,rfl,Nat.lt_of_lt_of_le Y W.size,fun i U=>(W.cell (p:=⟨b,Z+i,none⟩) Y (T X ⟨b,Z,none⟩ rfl)).trans (V i U)⟩⟩
structure mX (w W:World) (C:Array Value) (a k v c x:Int):Prop where
 thing:aY W w 131 C
 op:aY W (w,1) 39 #[a,k,v]
 res:aY W (w,2) 131 (tz 0)
 ans:aY W (w,3) 44 (2:Int)
 tmp:aY W (w,4) 44 #[c,x]
 below:Below w w W
theorem mX.mk_(w:World)(C:Array Value)(a k v:Int):
 mX w (((((w.alloc (.cells C 131)).alloc (.cells #[a,k,v] 39)).alloc (.cells (tz 0) 131)).alloc (.cells (2:Int) 44)).alloc (.cells (2:Int) 44)) C a k v 0 0:=
 ⟨((((aY.new _ _ _).alloc _).alloc _).alloc _).alloc _,((((aY.newAt _ _ _ (by simp))).alloc _).alloc _).alloc _,(((aY.newAt _ _ _ (by simp))).alloc _).alloc _,(aY.newAt _ _ _ (by simp)).alloc _,aY.newAt _ _ _ (by simp),by go_grown⟩
theorem mX.on{W Y:World}{c x:Int}(h:mX w W C a k v c x)(Z:Below W W Y):mX w Y C a k v c x:=
 ⟨h.thing.below Z h.thing.lt,h.op.below Z h.op.lt,h.res.below Z h.res.lt,h.ans.below Z h.ans.lt,h.tmp.below Z h.tmp.lt,h.below.trans (Z.mono h.below.size)⟩
theorem mX.answer{W:World}{c x:Int}(h:mX w W C a k v c x)(c' Z:Int):
 mX w ((W.setCell (w,4) c').setCell ((w,4),1) Z) C a k v c' Z:=
 ⟨(h.thing.far (by simp) _).far (by simp) _,(h.op.far (by simp) _).far (by simp) _,(h.res.far (by simp) _).far (by simp) _,(h.ans.far (by simp) _).far (by simp) _,(h.tmp.set_ 0 _).set_ 1 _,
   (h.below.setCell (by show w.heap.size<=w+4;omega) _).setCell (by show w.heap.size<=w+4;omega) _⟩
theorem mX.cell{W:World}{c x:Int}(h:mX w W C a k v c x)(i:Nat)(u:Value):mX w (W.setCell (w.heap.size,i) u) (C.setIfInBounds i u) a k v c x:=
 ⟨h.thing.set_ i u,h.op.far (by simp) _,h.res.far (by simp) _,h.ans.far (by simp) _,h.tmp.far (by simp) _,h.below.setCell (Nat.le_refl _) _⟩
theorem mX.answerRow{W:World}{c x:Int}(h:mX w W C a k v c x)(c' Z:Int):mX w (W.setRow (w,4) #[c',Z]) C a k v c' Z:=
 ⟨(setRow_other _ _ _ _ I).trans h.thing,(setRow_other _ _ _ _ I).trans h.op,(setRow_other _ _ _ _ I).trans h.res,(setRow_other _ _ _ _ I).trans h.ans,aY.setRow h.tmp _,aL h.below I _⟩
theorem eB.ex(y:Nat->Int)(n:Nat)(Y:∀i,i<n->-9223372036854775808<=y i/\y i<=9223372036854775807):∃D,eB D n y:=
 ⟨((List.range n).map fun i=>Value.int .i64 (y i)).toArray,by simp,fun i Z=>by simp [Z],Y⟩
theorem lD.setS{D:Array Value}{y d:Nat->Int}(h:lD C 5 none 0 0 d 0)(Z:eB D 16 y):lD (fF C 2 D.toList) 5 none 0 0 y 0:=by
 have Y:=h.size;have W:D.toList.length=16:=by rw[Array.length_toList,Z.size]
 refine⟨by rw[fA];exact Y,?_,?_,fun i X=>?_,?_⟩
 .rw[iB (.inl I)];exact h.kind_
 .rw[iB (.inl I)];exact h.list
 .rw[aAG I I,Array.getElem?_toList];exact Z.get i X
 rw[iB (.inr I)];exact h.num
theorem mX.cells{W:World}{c x:Int}(h:mX w W C a k v c x)(o:Nat)(vs:List Value):mX w (W.setCells w o vs) (fF C o vs) a k v c x:=
 ⟨h.thing.setCells,h.op.far_cells (by simp) _ _,h.res.far_cells (by simp) _ _,h.ans.far_cells (by simp) _ _,h.tmp.far_cells (by simp) _ _,vJ h.below (Nat.le_refl _) _ _⟩
theorem QE(C D:Array Value)(z:Nat->Int)(a k v:Int)(m:Nat)(w:World)(h:lD C 5 none 0 0 z 0)(n:∀i,i<16->-9223372036854775808<=z i/\z i<=9223372036854775807)(l:cS z=true)(j: -9223372036854775808<=v/\v<=9223372036854775807)(g:tG z a k m)(x:eB D 16 (fJ z a k v m)):
 Calls prog 191 #[.agg C,.agg #[a,k,v]] w
  (rB (fun D w'=>lD D 5 none 0 0 (fJ z a k v m) 0) (fV z a k) (fX z a k) w):=by
 have f:=h.kind_;obtain⟨E,y⟩:=aO (C.extract 2 18);have A:eB E 16 z:=by
  have hs:=h.size;refine⟨by rw[y];simp;omega,fun i hi=>?_,n⟩;rw[y,Array.getElem?_extract,iP I];exact h.slot i hi
 have H:=aH h;have d:=aH y;have HI:=aH A;have u:=aH A.size;have O:=aH x.size;have q:=aH x;have Q:Hid (∀W:World,Calls prog 201 #[.agg E,.agg #[a,k,v]] W fun e w'=>e=.returned (.tuple #[.agg D,.agg #[(fV z a k),(fX z a k)]])/\Below W W w'):=aH fun W=>SX E D z a k v m W A l j g x
 have N:=aH (mX.mk_ w C a k v);clear h y A x n l j g;generalize F:fV z a k=X at*;generalize B:fX z a k=V at*;have c:=aH F;have zz:=aH B;clear F B
 go_enter func191,ntmps191
 go_wp2_with (refine wpList_load_mid rfl 129 _ rfl w 2 rfl E.toList _ ?hc underlying129 rfl ?hi ?_)
 case hc=>
  rw[d.out];exact World.rangeAt_of_block (t:=131) (fr:=(0,0)) N.thing 2 16
 case hi=>rw[BU,Array.length_toList,u.out]
 go_wp2_with fail;refine(Q.out _).mono ?_;rintro e w1 ⟨rfl,G⟩;have U:=aH (N.on G);have T:=aH (H.setS q);have P:Hid ((prog.info? 131).map (·.size)=some (fF C 2 D.toList).size):=by show _=_;rw[jT,T.size]
 have M:=aH T.size;have R:=aH (kM T);have Z:=aH ((U.cells 2 D.toList).answerRow X V);clear G f
 go_wp2_with (first
  |(refine wpList_store_mid rfl 129 _ _ rfl w.heap.size 2 D rfl rfl (U.thing.there (by rw[O.out,H.size];decide)) (by rw[BU,O.out]) q.one ?_)
  |(refine wpList_store_row rfl 44 _ _ rfl (w.heap.size+4) #[.int .i64 X,.int .i64 V] rfl rfl 44 (2:Int) (U.cells 2 D.toList).tmp eU rfl (jH _ _) ?_))
 clear U;generalize(w1.setCells w.heap.size 2 D.toList).setRow (w.heap.size+4) #[.int .i64 X,.int .i64 V]=W3 at*;generalize fF C 2 D.toList=S at*;refine dQ 3 (fun b=>b=w.heap.size+2) [2] J J ?_;intro zx p;refine bA (.agg S) cX ?_ ?_
 .intro w9 hw9 _;exact bT 131 _ rfl w.heap.size rfl 131 S _ ((hw9.block _ Z.thing.lt (by show¬w.heap.size=w.heap.size+2;omega)).trans Z.thing) underlying131 rfl P aE
 refine bA (.agg #[.int .i64 X,.int .i64 V]) cX ?_ ?_
 .intro w9 hw9 _;exact bT 44 _ rfl (w.heap.size+4) rfl 44 #[.int .i64 X,.int .i64 V] _ ((hw9.block _ Z.tmp.lt (by show¬w.heap.size+4=w.heap.size+2;omega)).trans Z.tmp) underlying44 rfl eU aE
 refine bA undef (fun _ w'=>aY w' (w+2) 131 S) ?_ ?_
 .intro w9 hw9 Y;have L:aY w9 (w,2) 131 (tz 0):=(Y.1.block _ Z.res.lt (fun h=>dN h (by rw[p.out];kernel_rfl))).trans Z.res;exact dS 131 _ _ rfl (w,2) S rfl rfl 131 (tz 0) L P (by rw[M.out];rfl) R ⟨⟨rfl,L.setRow S⟩,fD (.inl ⟨aJ,rfl⟩) _⟩
 refine aZ ?_;intro w9 hw9 Y;have s:Hid (aY w9 (w,2) 131 S):=aH (by
  have h1:=Y.1 rfl;obtain⟨w0,k0,k1,o⟩:=h1;exact(k1.block _ o.lt (fun h=>dN h (by rw[p.out];kernel_rfl))).trans o)
 have K:Hid (aY w9 (w.heap.size+3) 44 (2:Int)):=aH ((hw9.block _ Z.ans.lt (by show¬w.heap.size+3=w.heap.size+2;omega)).trans Z.ans);have r:=aH (Z.below.trans (hw9.below Z.below.size (fun b hb e=>by omega)));have zy:=aH hw9;clear Y hw9;simp only[List.drop_succ_cons,List.drop_zero]
 go_wp2_with (refine wpList_store_row rfl 44 _ _ rfl (w.heap.size+3) #[.int .i64 X,.int .i64 V] rfl rfl 44 (2:Int) K eU rfl (jH _ _) ?_)
 have hR:aY (w9.setRow (w.heap.size+3) #[.int .i64 X,.int .i64 V]) (w.heap.size+2) 131 S:=(setRow_other _ _ _ _ I).trans s;have hA:aY (w9.setRow (w.heap.size+3) #[.int .i64 X,.int .i64 V]) (w.heap.size+3) 44 #[.int .i64 X,.int .i64 V]:=aY.setRow K _;refine bodyPost_ret (bY results191 _ _ (w.heap.size+2) (w.heap.size+3) 131 44 S #[.int .i64 X,.int .i64 V] _ _ rfl rfl hR hA underlying131 rfl P underlying44 rfl eU) rfl ⟨aL r I _,S,M.out,R.out,rfl,?_⟩;exact T
theorem UM(C:Array Value)(n a k v:Int)(w:World)(h:lD C 6 none 0 0 (fun _=>0) n)(f:0<=n)(B:n<=4294967295)(d:0<=v)(c:v<=4294967295):
 Calls prog 191 #[.agg C,.agg #[a,k,v]] w
  (rB (fun D w'=>lD D 6 none 0 0 (fun _=>0) (iU n a v)) (kZ n a v) (lI n a v) w):=by
 have s:=h.kind_;have N:=h.num;have H:=aH h;have Q:Hid (∀W:World,Calls prog 202 #[n,.agg #[a,k,v]] W fun e w'=>e=.returned (.tuple #[(iU n a v),.agg #[(kZ n a v),(lI n a v)]])/\Below W W w'):=aH fun W=>BB n a k v W f B d c
 have F:=aH (mX.mk_ w C a k v);clear h;generalize iU n a v=O at*;generalize kZ n a v=V at*;generalize lI n a v=U at*
 go_enter func191,ntmps191
 go_wp2_with fail;refine(Q.out _).mono ?_;rintro e x ⟨rfl,G⟩;have Y:=aH (F.on G);have r:=(Y.thing.cell 18).trans N;have q:=Y.thing.frozen 18;have z:=Y.tmp.cell 0;have y:=Y.tmp.cell 1;have p:=Y.tmp.frozen 0;have o:=Y.tmp.frozen 1;simp only[List.getElem?_toArray,List.getElem?_cons_zero,List.getElem?_cons_succ]at z y;have T:=aH (H.setN O);have P:Hid ((prog.info? 131).map (·.size)=some (C.setIfInBounds 18 O).size):=by show _=_;rw[jT,T.size]
 have M:=aH T.size;have R:=aH (kM T);have Z:Hid (mX w (((x.setCell ⟨w.heap.size,18,none⟩ (.int .i64 O)).setCell ⟨w.heap.size+1+1+1+1,0,none⟩ (.int .i64 V)).setCell ⟨w.heap.size+1+1+1+1,1,none⟩ (.int .i64 U)) (C.setIfInBounds 18 (.int .i64 O)) a k v V U):=aH ((Y.cell 18 (.int .i64 O)).answer V U);clear G s N;go_wp2_with fail;clear Y r q z y p o;generalize((x.setCell (w.heap.size,18) O).setCell (w.heap.size+1+1+1+1,0) V).setCell (w.heap.size+1+1+1+1,1) U=W3 at*;generalize C.setIfInBounds 18 O=S at*;refine dQ 3 (fun b=>b=w+2) [2] J J ?_;intro i u;refine bA (.agg S) cX ?_ ?_
 .intro w9 hw9 _;exact bT 131 _ rfl w.heap.size rfl 131 S _ ((hw9.block _ Z.thing.lt (by show¬w.heap.size=w.heap.size+2;omega)).trans Z.thing) underlying131 rfl P aE
 refine bA (.agg #[.int .i64 V,.int .i64 U]) cX ?_ ?_
 .intro w9 hw9 _;exact bT 44 _ rfl (w.heap.size+4) rfl 44 #[.int .i64 V,.int .i64 U] _ ((hw9.block _ Z.tmp.lt (by show¬w.heap.size+4=w.heap.size+2;omega)).trans Z.tmp) underlying44 rfl eU aE
 refine bA undef (fun _ w'=>aY w' (w+2) 131 S) ?_ ?_
 .intro w9 hw9 X;have L:aY w9 (w,2) 131 (tz 0):=(X.1.block _ Z.res.lt (fun h=>dN h (by rw[u.out];kernel_rfl))).trans Z.res;exact dS 131 _ _ rfl (w,2) S rfl rfl 131 (tz 0) L P (by rw[M.out];rfl) R ⟨⟨rfl,L.setRow S⟩,fD (.inl ⟨aJ,rfl⟩) _⟩
 refine aZ ?_;intro w9 hw9 X;have E:Hid (aY w9 (w,2) 131 S):=aH (by
  have B:=X.1 rfl;obtain⟨w0,k0,g,t⟩:=B;exact(g.block _ t.lt (fun h=>dN h (by rw[u.out];kernel_rfl))).trans t)
 have K:Hid (aY w9 (w,3) 44 (2:Int)):=aH ((hw9.block _ Z.ans.lt (by show¬w.heap.size+3=w+2;omega)).trans Z.ans);have A:=aH (Z.below.trans (hw9.below Z.below.size (fun b hb e=>by omega)));have m:=aH hw9;clear X hw9;simp only[List.drop_succ_cons,List.drop_zero]
 go_wp2_with (refine wpList_store_row rfl 44 _ _ rfl (w.heap.size+3) #[.int .i64 V,.int .i64 U] rfl rfl 44 (2:Int) K eU rfl (jH _ _) ?_)
 have l:aY (w9.setRow (w.heap.size+3) #[.int .i64 V,.int .i64 U]) (w.heap.size+2) 131 S:=(setRow_other _ _ _ _ I).trans E;have j:aY (w9.setRow (w.heap.size+3) #[.int .i64 V,.int .i64 U]) (w.heap.size+3) 44 #[.int .i64 V,.int .i64 U]:=aY.setRow K _;refine bodyPost_ret (bY results191 _ _ (w.heap.size+2) (w.heap.size+3) 131 44 S #[.int .i64 V,.int .i64 U] _ _ rfl rfl l j underlying131 rfl P underlying44 rfl eU) rfl ⟨aL A I _,S,M.out,R.out,rfl,?_⟩;exact T
end
section
theorem yB(C:Array Value)(z:Nat->Int)(kind a k v:Int)(m:Nat)(w:World)(y:VU z)(X:cK kind z)(V:gQ a k v)(Q:kind=5->tG z a k m)(h:jE kind z C w)(u:kind=5\/kind=6):
 Calls prog 191 #[.agg C,.agg #[a,k,v]] w (rB (jE kind (BW kind z a k v m)) (IB kind z a k v) (JO kind z a k v) w):=by
 have W:∀{T T':Array Value->World->Prop} {c x:Int} {e:Ending} {Y:World},(∀D Y,T D Y->T' D Y)->rB T c x w e Y->rB T' c x w e Y:=
  fun Z ⟨M,D,L,K,H,G⟩=>⟨M,D,L,K,H,Z _ _ G⟩
 have P: -9223372036854775808<=v/\v<=9223372036854775807:=by have:=V.2.2.2.2;omega
 unfold cK at X;unfold jE at h;unfold IB JO;by_cases R:kind=5
 .subst R;simp only[if_true]at X h⊢;have O:=rV X.2.2 V (Q rfl);have bd:∀{d:Nat->Int},cS d=true->∀i,i<16->-9223372036854775808<=d i/\d i<=9223372036854775807:=fun{d} F i S=>by
   have:=nB F (k:=i/2) I;rcases Nat.mod_two_eq_zero_or_one i with e|e
   .rw[show 2*(i/2)=i by omega]at this;omega
   rw[show 2*(i/2)+1=i by omega]at this;omega
  obtain⟨D,B⟩:=eB.ex (fJ z a k v m) 16 (bd O);refine(QE C D z a k v m w h (bd X.2.2) X.2.2 P (Q rfl) B).mono fun e Y U=>W (fun E Y Z=>?_) U
  unfold jE BW;simp only[if_true];exact⟨Z.size,Z.kind_,Z.list,fun i S=>by rw[show eF 8 (fJ z a k v m) i=fJ z a k v m i from iP I];exact Z.slot i S,Z.num⟩
 simp only[iN R]at X h⊢;by_cases A:kind=6
 .subst A;simp only[if_true]at X h⊢;have N:=y 0 I;refine(UM C (z 0) a k v w h N.1 X.1 V.2.2.2.2.1 V.2.2.2.2.2).mono fun e Y U=>W (fun E Y Z=>?_) U
  unfold jE BW;exact Z
 omega
end
section
open Go.Maps
attribute [local go_sem↓] Go.wp_at_zero Go.wp_at_succ
theorem eN:cB a k v=true↔gQ a k v:=by unfold cB gQ;rw[decide_eq_true_iff]
theorem jZ(a k v:Int)(w:World):Calls prog 158 #[.agg #[a,k,v]] w fun e w'=>e=.returned (cB a k v)/\Below w w w':=by
 go_enter func158,ntmps158
 go_wp2
 all_goals(go_ret;refine⟨dF ?_,by go_grown⟩;simp [cB];try omega)
theorem kP{P:Program}{fn:Func}{p q r:Tmp}{ty tz:TypeId}(h:fn.results= #[.cell p ty,.cell q tz,.tmp r])(Z:Array Value)(w:World)(g X:Nat)(t N:TypeId)(cs Y:Array Value)(d T:TypeDesc)(v:Value)
 (M:Z.getD p undef=.pointer (some ⟨g,0,none⟩)) (L:Z.getD q undef=.pointer (some ⟨X,0,none⟩)) (K:Z.getD r undef=v) (H:aY w g t cs) (S:aY w X N Y)
 (G:P.underlying ty=some d) (F:(match d with|.struct _|.array _ _=>true|_=>false)=true) (E:(P.info? ty).map (·.size)=some cs.size)
 (R:P.underlying tz=some T) (Q:(match T with|.struct _|.array _ _=>true|_=>false)=true) (O:(P.info? tz).map (·.size)=some Y.size):
 (results fn Z).run P w=.ok (.tuple #[.agg cs,.agg Y,v]) w:=by
 have W:Z[p]?.getD undef=.pointer (some ⟨g,0,none⟩):=by simpa using M
 have V:Z[q]?.getD undef=.pointer (some ⟨X,0,none⟩):=by simpa using L
 have U:Z[r]?.getD undef=v:=by simpa using K
 simp [results,h,W,V,U,asAddr,run_loadVar_row w g t ty cs (0,0) d H G F E,run_loadVar_row w X N tz Y (0,0) T S R Q O]
theorem FJ(A:Option Addr)(n c:Nat)(xs:List Int)(w:World)(B:fI w A n c xs)(g:n<=16)(z:∀i:Nat,i<n->0<=xs[i]?.getD 0)(D:Array Value)(L:cH D 17 (iT n xs)):
 Calls prog 165 #[.slice A n c] w fun e w'=>e=.returned (.agg D)/\Below w w w':=by
 have K:=aH L;have y:=aH z;have H:=aH B;have q:(n:Int)%18446744073709551616=n:=I;have x:0<=(n:Int):=I;have U:=aH L.size;clear z B L;have X:Hid (cH (((17:Nat):Array Value).setIfInBounds 0 (.int .u64 n)) 17 (IN n 0 xs)):=aH (((show cH (17:Nat) 17 (fun _=>0)from cH.zero 17).set_ (k:=0) (v:=n) I).congr (fun i hi=>by
  unfold IN;by_cases W:i=0
  .rw[iP W,iP W]
  rw[iN W,iN W,iN I]))
 go_enter func165,ntmps165
 go_wp2_with (refine wpList_store_row rfl 252 _ _ rfl (w.heap.size+1) (((17:Nat):Array Value).setIfInBounds 0 (.int .u64 n)) rfl ?hy 252 (17:Nat) ?hg ?hi rfl ?h1 ?_)
 case hy=>kernel_rfl
 case hg=>exact aY.newAt _ _ _ (by simp)
 case hi=>rw[gT,X.size]
 case h1=>exact X.one
 go_wp2
 go_loopw [12] (fun i wr=>∃k:Nat,k<=n/\i=.int .i64 k/\Hid (∃E,aY wr (w,1) 252 E/\cH E 17 (IN n k xs))/\Hid (aY wr w 252 (17:Nat))/\Below w w wr) (fun i _=>n-(intOf i).toNat)
 case atStart=>exact⟨0,I,rfl,aH ⟨_,aY.setRow (aY.newAt _ _ _ (by simp)) _,X.out⟩,aH ((setRow_other _ _ _ _ I).trans ((aY.new _ _ _).alloc _)),aL (by go_grown) I _⟩
 case round=>
  obtain⟨k,h,rfl,G,M,S⟩:=hrel;obtain⟨E,Y,F⟩:=G.out;clear G;have R:=aH F;have Z:=aH Y;clear F Y;have u:=S.size;by_cases V:k<n
  .obtain⟨b,off,rfl,hblt,hcell⟩:=H.at_ I;have t:=(S.cell (p:=⟨b,off+k,none⟩) hblt).trans (hcell k V);clear hcell;have Q:=H.bd k;have P:=y.out k V;have o:wr.cell? ⟨w.heap.size+1,k+1,none⟩=some (.int .u64 (IN n k xs (k+1))):=by rw[Z.cell,R.get (k+1) I]
   have m:=Z.frozen (k+1);have l:(k:Int)<n:=I;have j:(k:Int)+1<17:=I;generalize T:xs[k]?.getD 0=v at t Q P;have s:=aH T;clear T;have r:v%18446744073709551616=v:=I;go_wp2;go_roundw
   case rel=>exact⟨k+1,I,aG,aH ⟨_,Z.set_ (k+1) _,(R.set_ (k:=k+1) (v:=v) I).congr (fun i hi=>by
    have T:=s.out;unfold IN;by_cases W:i=k+1
    .subst W;rw[iP rfl,iN I,iP I,Nat.add_sub_cancel,T]
    rw[iN W];by_cases h1:i=0
    .rw[iP h1,iP h1]
    rw[iN h1,iN h1];by_cases C:i<=k
    .rw[iP C,iP I]
    rw[iN C,iN I])⟩,aH (M.far (by simp) _),S.setCell (by show w.heap.size<=w.heap.size+1;omega) _⟩
   case measure=>simp [intOf];omega
  obtain rfl:k=n:=I;have O:=R.ext K;subst O;have N:=K.one
  go_wp2_with (first
   |(refine wpList_load_row rfl 252 _ rfl (w.heap.size+1) rfl 252 E (0,0) _ Z underlying252 rfl (by rw[gT,U.out]) ?_)
   |(refine wpList_store_row rfl 252 _ _ rfl w.heap.size E rfl rfl 252 (17:Nat) M (by rw[gT,U.out]) (by rw[U.out];rfl) N ?_))
  refine bodyPost_ret (results_cell_row results165 _ _ w.heap.size 252 E (0,0) _ rfl (M.setRow E) underlying252 rfl (by rw[gT,U.out])) rfl ⟨rfl,aL S (Nat.le_refl _) _⟩
theorem iG{H:Type}{P:Program}(w:World){ops:Array Oper}{Z:List Oper}{o:Oper}{a:Act}{Q:Exit->Act->World->Prop}
 (N:o.guard=none) (m x v:Operand) (t:TypeId) (T:o.op=Op.insert t m x v)
 (k e:TypeId) (K:Keyed P k) (M:P.underlying t=some (.map k e)) (R:Value->Option (DataW H×List MemPlace)) (b n:Nat) (D:DataW H)
 (L:a.eval m=.map (some b)) (X:w.ownsMap P k R b n D) (G:n<maxLen) (key val:Value) (kl:Lit) (F:a.eval x=key) (E:a.eval v=val) (W:keyOf P k key=some kl)
 (d:DataW H) (ps:List MemPlace) (V:R val=some (d,ps))
 (C:∀w',w'.ownsMap P k R b (n+1) (D.put kl d)->w.grownBy w' (some b)->wpList P ops Q Z (a.put o.dst undef) w'):
 wpList P ops Q (o::Z) a w:=by
 refine wpList_plain N fun B U=>?_
 obtain⟨w',Y,S,O⟩:=X.update K M G W V;unfold Oper.wp;simp [execOp,T,L,F,E,Y,Result.andThen];exact U _ _ (C w' S O)
def Ad(v:Value):Option (DataW Unit×List MemPlace):=
 match v with
 |.func (.func f) a b=>if a.size=0/\b.size=0 then some (.lit (.int .i64 f),[])else none
 |.nilFunc=>some (.lit (.bool false),[])
 |_=>none
theorem YY{v:Value}{f:Nat}{ps:List MemPlace}(h:Ad v=some (.lit (.int .i64 f),ps)):v=.func (.func f) #[] #[]:=by
 unfold Ad at h;split at h
 .rename_i f' a b;by_cases e:a.size=0/\b.size=0
  .rw[iP e]at h;obtain⟨Z,Y⟩:=e;obtain rfl:=Array.eq_empty_of_size_eq_zero Z;obtain rfl:=Array.eq_empty_of_size_eq_zero Y;simp at h;have e:f'=f:=Int.ofNat.inj h.1;rw[e]
  rw[iN e]at h;cases h
 .simp at h
 cases h
theorem UP:Keyed prog 3:=int_keyed underlying3
theorem JW:(prog.info? 39).map (·.size)=some 3:=J
structure lS (w W:World) (C:Array Value) (a k v:Int):Prop where
 words:aY W w 252 C
 op:aY W (w,1) 39 #[a,k,v]
 res:aY W (w,2) 252 (17:Nat)
 ans:aY W (w,3) 44 (2:Int)
 below:Below w w W
theorem lS.mk_(w:World)(C:Array Value)(a k v:Int):
 lS w ((((w.alloc (.cells C 252)).alloc (.cells #[a,k,v] 39)).alloc (.cells (17:Nat) 252)).alloc (.cells (2:Int) 44)) C a k v:=
 ⟨(((aY.new _ _ _).alloc _).alloc _).alloc _,(((aY.newAt _ _ _ (by simp))).alloc _).alloc _,(((aY.newAt _ _ _ (by simp)))).alloc _,aY.newAt _ _ _ (by simp),by go_grown⟩
section
variable{w W W':World}{C:Array Value}{a k v:Int}
theorem lS.on(h:lS w W C a k v)(Z:Below W W W'):lS w W' C a k v:=
 ⟨h.words.below Z h.words.lt,h.op.below Z h.op.lt,h.res.below Z h.res.lt,h.ans.below Z h.ans.lt,h.below.trans (Z.mono h.below.size)⟩
theorem lS.lt(h:lS w W C a k v):w.heap.size+3<W:=h.ans.lt
theorem lS.alloc(h:lS w W C a k v)(o:Obj):lS w (W.alloc o) C a k v:=h.on (Below.alloc (Below.refl _ _) (Nat.le_refl _) o)
theorem lS.cell(h:lS w W C a k v){p:Addr}(Z:w+3<p.block)(u:Value):lS w (W.setCell p u) C a k v:=
 ⟨h.words.far I u,h.op.far I u,h.res.far I u,h.ans.far I u,h.below.setCell I u⟩
theorem lS.row(h:lS w W C a k v){g:Nat}(Z:w+3<g)(cs:Array Value):lS w (W.setRow g cs) C a k v:=
 ⟨(setRow_other _ _ _ _ I).trans h.words,(setRow_other _ _ _ _ I).trans h.op,(setRow_other _ _ _ _ I).trans h.res,(setRow_other _ _ _ _ I).trans h.ans,aL h.below I cs⟩
theorem aY.far_row{g Z:Nat}{t:TypeId}{cs:Array Value}(h:aY w g t cs)(Y:g≠Z)(r:Array Value):aY (w.setRow Z r) g t cs:=(setRow_other _ _ _ _ Y).trans h
theorem lS.drew(h:lS w W C a k v):lS w W.drew C a k v:=⟨h.words,h.op,h.res,h.ans,h.below.drew⟩
end
theorem oQ{b:Nat}{w':World}(Z:w.grownBy w' (some b))(X:B<=b)(W:B<=w):Below B w w':=
 ⟨Z.os,Z.tape,Z.output,Z.size,fun i Y=>Z.block i I (by simp;omega)⟩
theorem UG(C:Array Value)(z:Nat->Int)(kind a k v:Int)(w:World)(h:cH C 17 z)(V:cB a k v=false):
 Calls prog 143 #[kind,.agg C,.agg #[a,k,v]] w fun e w'=>e=.returned (.tuple #[.agg (17:Nat),.agg (2:Int),.iface 53 (1:Int)])/\Below w w w':=by
 have T:Hid ((prog.info? 252).map (·.size)=some C.size):=by show _=_;rw[gT,h.size]
 have S:=aH h;have Z:=aH (lS.mk_ w C a k v);have U:=aH V;clear h V
 go_enter func143,ntmps143
 go_wp2_with fail;refine(jZ a k v _).mono ?_;rintro e R ⟨rfl,W⟩;rw[U.out];have Y:=aH (Z.on W);clear W Z;have X:=Y;clear Y
 go_wp2_with (first
  |(refine wpList_store_row rfl 252 _ _ rfl (w.heap.size+2) (17:Nat) rfl rfl 252 (17:Nat) X.res gT rfl J ?_)
  |(refine wpList_store_row rfl 44 _ _ rfl (w.heap.size+3) (2:Int) rfl rfl 44 (2:Int) ((setRow_other _ _ _ _ I).trans X.ans) eU rfl (jH 0 0) ?_))
 refine bodyPost_ret (kP results143 _ _ (w.heap.size+2) (w.heap.size+3) 252 44 (17:Nat) (2:Int) _ _ (.iface 53 (.int .i64 1)) rfl rfl rfl ((setRow_other _ _ _ _ I).trans (aY.setRow X.res _)) (aY.setRow ((setRow_other _ _ _ _ I).trans X.ans) _) underlying252 rfl gT underlying44 rfl eU) rfl ⟨rfl,aL (aL X.below I _) I _⟩
theorem DX(C D:Array Value)(z:Nat->Int)(a k v:Int)(w:World)(h:cH C 17 z)(R:gQ a k v)(y:cK 6 z)(x:cH D 17 (fun i=>if i=0 then iU (z 0) a v else 0)):
 Calls prog 143 #[(6:Int),.agg C,.agg #[a,k,v]] w fun e w'=>e=.returned (.tuple #[.agg D,.agg #[(kZ (z 0) a v),(lI (z 0) a v)],.nilIface])/\Below w w w':=by
 have u:Hid ((prog.info? 252).map (·.size)=some C.size):=by show _=_;rw[gT,h.size]
 have HC:=aH h;have Q:=aH (lS.mk_ w C a k v);have t:=aH (eN.2 R);have HR:=aH y;have s:=aH x.size;have r:=aH x.one;have HD:=aH x;have P:Hid ((prog.info? 252).map (·.size)=some D.size):=by show _=_;rw[gT,x.size]
 have q:=h.bd 0 I;have O:z 0<=4294967295:=by
  unfold cK at y;rw[iN (by decide),iP rfl]at y;exact y.1
 have zz:0<=iU (z 0) a v/\iU (z 0) a v<=4294967295:=(EK (a:=a) (n:=z 0) (v:=v) ⟨q.1,O⟩ ⟨R.2.2.2.2.1,R.2.2.2.2.2⟩).1;have p:=h.get 0 I;have X:Hid (∀W:World,Calls prog 160 #[.int .i64 (z 0),.agg #[.int .i64 a,.int .i64 k,.int .i64 v]] W fun e w'=>e=.returned (.tuple #[.int .i64 (iU (z 0) a v),.agg #[.int .i64 (kZ (z 0) a v),.int .i64 (lI (z 0) a v)]])/\Below W.heap.size W w'):=aH fun W=>MW (z 0) a k v W q.1 O R.2.2.2.2.1 R.2.2.2.2.2
 clear h y R x;generalize iU (z 0) a v=V at*;generalize kZ (z 0) a v=U at*;generalize lI (z 0) a v=T at*;generalize A:z 0=c at p q O X;have zy:=aH A;clear A;have f:V%18446744073709551616=V:=I;have ez:IntKind.i64.wrap c=c:=IntWalk.i64_in _ I
 go_enter func143,ntmps143
 go_wp2_with fail;refine(jZ a k v _).mono ?_;rintro e w1 ⟨rfl,H⟩;rw[t.out];have S:=aH (Q.on H);clear H Q
 go_wp2_with (refine eM rfl 252 _ rfl w.heap.size rfl 252 C (0,0) _ S.words underlying252 rfl u.out ?_)
 refine(jR C z 6 true _ HC.out ⟨fun _=>HR.out,fun _=>rfl⟩).mono ?_;rintro e w2 ⟨rfl,F⟩;have o:=aH (S.on F);clear F S;have s0:=(o.words.cell 0).trans p;clear p
 go_wp2_with (refine wpList_load_row rfl 39 _ rfl (w.heap.size+1) rfl 39 #[.int .i64 a,.int .i64 k,.int .i64 v] (0,0) _ o.op underlying39 rfl JW ?_)
 refine(X.out _).mono ?_;rintro e g ⟨rfl,E⟩;have N:=aH (o.on E);clear E s0;have Y:=aH (N.alloc (.cells #[.int .i64 U,.int .i64 T] 44));have M:=aH (aY.new g 44 #[.int .i64 U,.int .i64 T]);have HG:=aH N.lt;have m:=HD.ext ((show cH (17:Nat) 17 (fun _=>0)from cH.zero 17).set_ (k:=0) (v:=V) I);go_wp2_with fail;generalize hG:g.heap.size=G at*;generalize g.alloc (.cells #[.int .i64 U,.int .i64 T] 44)=W3 at*;subst m;refine dQ 5 (fun b=>b=w.heap.size+2) [4] J J ?_;intro zx B;refine aR ?_;constructor
 .intro w9 hw9 _;go_simp
  first
  |exact aE
 refine bA (.int .u64 V) cX ?_ ?_
 .intro w9 hw9 _;go_simp
  first
  |exact aE
  |(rw[f];exact aE)
  |(refine⟨⟨?_,trivial⟩,aD.refl _ _⟩;exact congrArg _ f)
  |(refine⟨⟨?_,trivial⟩,aD.refl _ _⟩;exact congrArg _ (IntWalk.u64_in _ I))
 refine aR ?_;constructor
 .intro w9 hw9 _;go_simp
  first
  |exact aE
 refine bA (.agg #[.int .i64 U,.int .i64 T]) cX ?_ ?_
 .intro w9 hw9 _;exact bT 44 _ rfl G rfl 44 #[.int .i64 U,.int .i64 T] _ ((hw9.block _ M.lt (by show¬G=w.heap.size+2;have:=HG.out;omega)).trans M.out) underlying44 rfl eU aE
 refine bA undef (fun _ w'=>aY w' (w.heap.size+2) 252 (((17:Nat):Array Value).setIfInBounds 0 (.int .u64 V))) ?_ ?_
 .intro w9 hw9 Z;have L:aY w9 (w.heap.size+2) 252 (17:Nat):=(Z.1.block _ Y.res.lt (fun h=>dN h (by rw[B.out];kernel_rfl))).trans Y.res;refine dS 252 _ _ rfl (w.heap.size+2) (((17:Nat):Array Value).setIfInBounds 0 (.int .u64 V)) rfl ?_ 252 (17:Nat) L P.out (by rw[s.out];rfl) r.out ⟨⟨rfl,L.setRow (((17:Nat):Array Value).setIfInBounds 0 (.int .u64 V))⟩,fD (.inl ⟨by decide,rfl⟩) _⟩
  kernel_rfl
 refine aZ ?_;intro w9 hw9 Z;have l:Hid (aY w9 (w.heap.size+2) 252 (((17:Nat):Array Value).setIfInBounds 0 (.int .u64 V))):=aH (by
  have O:=Z.1 rfl;obtain⟨w0,k0,k1,d⟩:=O;exact(k1.block _ d.lt (fun h=>dN h (by rw[B.out];kernel_rfl))).trans d)
 have K:Hid (aY w9 (w.heap.size+3) 44 (2:Int)):=aH ((hw9.block _ Y.ans.lt (by show¬w.heap.size+3=w.heap.size+2;omega)).trans Y.ans);have j:=aH (Y.below.trans (hw9.below Y.below.size (fun b hb e=>by omega)));clear Z hw9;simp only[List.drop_succ_cons,List.drop_zero]
 go_wp2_with (refine wpList_store_row rfl 44 _ _ rfl (w.heap.size+3) #[.int .i64 U,.int .i64 T] rfl rfl 44 (2:Int) K.out eU rfl (jH _ _) ?_)
 have hR:aY (w9.setRow (w.heap.size+3) #[.int .i64 U,.int .i64 T]) (w.heap.size+2) 252 (((17:Nat):Array Value).setIfInBounds 0 (.int .u64 V)):=(setRow_other _ _ _ _ I).trans l.out;have hA:aY (w9.setRow (w.heap.size+3) #[.int .i64 U,.int .i64 T]) (w.heap.size+3) 44 #[.int .i64 U,.int .i64 T]:=aY.setRow K.out _;refine bodyPost_ret (kP results143 _ _ (w.heap.size+2) (w.heap.size+3) 252 44 (((17:Nat):Array Value).setIfInBounds 0 (.int .u64 V)) #[.int .i64 U,.int .i64 T] _ _ .nilIface rfl rfl rfl hR hA underlying252 rfl P.out underlying44 rfl eU) rfl ⟨rfl,aL j.out I _⟩
theorem Oy(C D:Array Value)(z:Nat->Int)(a k v:Int)(w:World)(h:cH C 17 z)(ho:gQ a k v)(hz:cK 5 z)(m:Nat)(hm:tG z a k m)(hD:cH D 17 (eF 8 (fJ z a k v m))):
 Calls prog 143 #[(5:Int),.agg C,.agg #[a,k,v]] w fun e w'=>e=.returned (.tuple #[.agg D,.agg #[(fV z a k),(fX z a k)],.nilIface])/\Below w w w':=by
 have c:Hid ((prog.info? 252).map (·.size)=some C.size):=by show _=_;rw[gT,h.size]
 have HC:=aH h;have zz:=aH (lS.mk_ w C a k v);have zi:=aH (eN.2 ho);have HR:=aH hz;have zh:=aH hD.size;have zg:=aH hD.one;have HD:=aH hD;have t:Hid ((prog.info? 252).map (·.size)=some D.size):=by show _=_;rw[gT,hD.size]
 have O:kQ z:=by
  unfold cK at hz
  rwa [iP rfl]at hz
 have hv: -9223372036854775808<=v/\v<=9223372036854775807:=by have:=ho.2.2.2.2;omega
 have s:=rV O.2.2 ho hm;have bd:∀i,i<16->0<=fJ z a k v m i/\fJ z a k v m i<=4294967295:=fun i f=>by
  have:=nB s (k:=i/2) I;rcases Nat.mod_two_eq_zero_or_one i with e|e
  .rw[show 2*(i/2)=i by omega]at this;omega
  rw[show 2*(i/2)+1=i by omega]at this;omega
 obtain⟨E,d⟩:=eB.ex (fJ z a k v m) 16 (fun i f=>by have:=bd i f;omega);have T:Hid (∀(S:Array Value) (W:World),eB S 16 z->Calls prog 159 #[.agg S,.agg #[a,k,v]] W fun e w'=>e=.returned (.tuple #[.agg E,.agg #[(fV z a k),(fX z a k)]])/\Below W W w'):=aH fun S W hS=>YE S E z a k v m W hS O.2.2 hv hm d
 have zf:=aH O;have zy:=aH bd;have HE:=aH d;have zx:Hid ((prog.info? 284).map (·.size)=some E.size):=by show _=_;rw[BG,d.size]
 have ze:=aH d.size;have zd:=aH d.one;clear h hz ho hD O bd d hm hv s;generalize fV z a k=V at*;generalize fX z a k=U at*;generalize fJ z a k v m=u at*
 go_enter func143,ntmps143
 go_wp2_with fail;refine(jZ a k v _).mono ?_;rintro e w1 ⟨rfl,zp⟩;rw[zi.out];have r:=aH (zz.on zp);clear zp zz
 go_wp2_with (refine eM rfl 252 _ rfl w rfl 252 C (0,0) _ r.words underlying252 rfl c ?_)
 refine(jR C z 5 true _ HC ⟨fun _=>HR.out,fun _=>rfl⟩).mono ?_;rintro e w2 ⟨rfl,zo⟩;have HB:=aH (r.on zo);clear zo r
 go_wp2_with (refine wpList_load_row rfl 252 _ rfl w rfl 252 C (0,0) _ HB.words underlying252 rfl c ?_)
 refine(zN C z _ HC).mono ?_;rintro e Q ⟨zn,S,y,b,rfl,hI,zm,s⟩;obtain rfl:b=true:=zm.2 zf;have HI:=aH (hI.congr (fun i f=>(s rfl i f).symm));have zw:Hid ((prog.info? 284).map (·.size)=some S.size):=by show _=_;rw[BG,hI.size]
 have zc:=aH hI.one;have zv:=aH hI.size;have N:=aH (HB.on zn);clear zn hI zm s HB;have o:=aH ((N.alloc (.cells (16:Int) 284)).row N.lt S);have M:=aH (aY.setRow (aY.new Q 284 (16:Int)) S)
 go_wp2_with (first
  |(refine wpList_store_row rfl 284 _ _ rfl Q S rfl rfl 284 (16:Int) (aY.new _ _ _) zw (by rw[zv.out];rfl) zc ?_)
  |(refine wpList_load_row rfl 284 _ rfl Q rfl 284 S (0,0) _ M underlying284 rfl zw ?_)
  |(refine wpList_load_row rfl 39 _ rfl (w.heap.size+1) rfl 39 #[.int .i64 a,.int .i64 k,.int .i64 v] (0,0) _ o.op underlying39 rfl JW ?_))
 refine(T.out S _ HI).mono ?_;rintro e Z ⟨rfl,L⟩;have yq:Q.heap.size<Z:=Nat.lt_of_lt_of_le (by simp) L.size;have n:=aH (o.on L);have R:=aH (M.below L M.lt);have zb:=N.lt;clear L o M N T;have zu:=aH ((((n.alloc (.cells (2:Int) 44)).row (g:=Q) zb E).row n.lt #[V,U]).alloc (.cells (17:Nat) 252));have H:=aH ((aY.far_row (aY.setRow (R.alloc (.cells (2:Int) 44)) E) (show Q.heap.size≠Z by omega) #[V,U]).alloc (.cells (17:Nat) 252));have B:=aH ((aY.setRow (aY.far_row (aY.new Z 44 (2:Int)) (show Z.heap.size≠Q by omega) E) #[V,U]).alloc (.cells (17:Nat) 252));have A:Hid (aY ((((Z.alloc (.cells (2:Int) 44)).setRow Q E).setRow Z #[V,U]).alloc (.cells (17:Nat) 252)) (Z,1) 252 (17:Nat)):=aH (aY.newAt _ _ _ (by simp [World.setRow]))
 go_wp2_with (first
  |(refine wpList_store_row rfl 284 _ _ rfl Q E rfl rfl 284 S (R.alloc _) zx (by rw[zv.out,ze.out]) zd ?_)
  |(refine wpList_store_row rfl 44 _ _ rfl Z #[V,U] rfl rfl 44 (2:Int) (aY.far_row (aY.new Z 44 (2:Int)) (show Z.heap.size≠Q by omega) E) eU rfl (jH _ _) ?_)
  |(refine wpList_load_row rfl 284 _ rfl Q rfl 284 E (0,0) _ H underlying284 rfl zx ?_))
 have yr:=HE;have HG:Hid (w.heap.size+3<Z):=aH I;clear H R n
 go_loopw [48] (fun i wr=>∃q:Nat,q<=8/\i=.int .i64 q/\Hid (∃F,aY wr (Z,1) 252 F/\cH F 17 (eF q u))/\Hid (lS w wr C a k v)/\Hid (aY wr Z 44 #[V,U])) (fun i _=>8-(intOf i).toNat)
 case atStart=>exact⟨0,I,rfl,aH ⟨_,A.out,(show cH (17:Nat) 17 (fun _=>0)from cH.zero 17).congr (fun i f=>by unfold eF;rw[iN I])⟩,zu,B⟩
 case round=>
  obtain⟨q,hq,rfl,l,o,K⟩:=hrel;clear zu B A;by_cases ys:q<8
  .have b1:(q:Int)<8:=I;obtain⟨F,P,j⟩:=l.out;clear l;have zt:=mJ HE q ys;have hx:=zy.out (2*q) I;have s:=zy.out (2*q+1) I;have HK:Hid (∀i,eF (q+1) u i=if i=2*q+1 then u (2*q+1)else if i=2*q then u (2*q)else eF q u i):=aH fun i=>by
    have:=uF u q i
    rwa [show q*2=2*q by omega]at this
   generalize zk:u (2*q)=x at hx zt HK;generalize zj:u (2*q+1)=y at s zt HK;have yp:=aH zk;have yo:=aH zj;clear zk zj;have yn:x%18446744073709551616=x:=I;have ym:y%18446744073709551616=y:=I;have q0:=(P.alloc (.cells #[x,y] 282)).cell (2*q);rw[j.get (2*q) I]at q0;have q1:=(P.alloc (.cells #[x,y] 282)).cell (2*q+1);rw[j.get (2*q+1) I]at q1;have f0:=(P.alloc (.cells #[x,y] 282)).frozen (2*q);have f1:=(P.alloc (.cells #[x,y] 282)).frozen (2*q+1);have s0:=(aY.new wr 282 #[x,y]).cell 0;have s1:=(aY.new wr 282 #[x,y]).cell 1;simp only[List.getElem?_toArray,List.getElem?_cons_zero,List.getElem?_cons_succ]at s0 s1;have yl:=P.lt;have yk:Z.heap.size+1≠wr:=I;have za:=aH (P.alloc (.cells #[x,y] 282));have yz:=aH (o.alloc (.cells #[x,y] 282));have yx:=aH (K.alloc (.cells #[x,y] 282));have yw:=aH j;clear P j o K;go_wp2;generalize wr.alloc (.cells #[.int .i64 x,.int .i64 y] 282)=w5 at*;generalize wr.heap.size=gs at*
   go_region
   apply_assumption
   go_wp2;go_roundw
   case rel=>exact⟨q+1,I,by go_num,aH ⟨_,((za.set_ (2*q) _).set_ (2*q+1) _).drew,((yw.set_ (k:=2*q) (v:=x) I).set_ (k:=2*q+1) (v:=y) I).congr (fun i f=>HK.out i)⟩,
    aH ((yz.cell (p:=⟨Z.heap.size+1,2*q,none⟩) (by have:=HG.out;show _<Z.heap.size+1;omega) _).cell (p:=⟨Z.heap.size+1,2*q+1,none⟩) (by have:=HG.out;show _<Z.heap.size+1;omega) _).drew,aH ((yx.far (p:=⟨Z.heap.size+1,2*q,none⟩) (by simp) _).far (p:=⟨Z.heap.size+1,2*q+1,none⟩) (by simp) _).drew⟩
   case measure=>simp [intOf];omega
  obtain rfl:q=8:=I;obtain⟨F,P,j⟩:=l.out;have yv:=HD.ext j;subst yv;have X:=o;have zs:=aH P;clear P j l;go_wp2_with fail;generalize hG:Z.heap.size=G at*;refine dQ 3 (fun b=>b=w+2) [2] J J ?_;intro yj zl;refine bA (.agg D) cX ?_ ?_
  .intro w9 hw9 _;exact bT 252 _ rfl (G+1) rfl 252 D _ ((hw9.block _ zs.lt (by show¬G+1=w+2;have:=HG.out;omega)).trans zs) underlying252 rfl t aE
  refine bA (.agg #[V,U]) cX ?_ ?_
  .intro w9 hw9 _;exact bT 44 _ rfl G rfl 44 #[V,U] _ ((hw9.block _ K.lt (by show¬G=w+2;have:=HG.out;omega)).trans K) underlying44 rfl eU aE
  refine bA undef (fun _ w'=>aY w' (w+2) 252 D) ?_ ?_
  .intro w9 hw9 Y;have zr:aY w9 (w,2) 252 (17:Nat):=(Y.1.block _ X.res.lt (fun h=>dN h (by rw[zl.out];kernel_rfl))).trans X.res;refine dS 252 _ _ rfl (w,2) D rfl ?_ 252 (17:Nat) zr t (by rw[zh.out];rfl) zg ⟨⟨rfl,zr.setRow D⟩,fD (.inl ⟨aJ,rfl⟩) _⟩
   kernel_rfl
  refine aZ ?_;intro w9 hw9 Y;have yu:Hid (aY w9 (w,2) 252 D):=aH (by
   have h1:=Y.1 rfl;obtain⟨w0,k0,k1,l⟩:=h1;exact(k1.block _ l.lt (fun h=>dN h (by rw[zl.out];kernel_rfl))).trans l)
  have zq:Hid (aY w9 (w,3) 44 (2:Int)):=aH ((hw9.block _ X.ans.lt (by show¬w.heap.size+3=w+2;omega)).trans X.ans);have yt:=aH (X.below.trans (hw9.below X.below.size (fun b hb e=>by omega)));clear Y hw9;simp only[List.drop_succ_cons,List.drop_zero]
  go_wp2_with (refine wpList_store_row rfl 44 _ _ rfl (w.heap.size+3) #[.int .i64 V,.int .i64 U] rfl rfl 44 (2:Int) zq eU rfl (jH _ _) ?_)
  have hR:aY (w9.setRow (w.heap.size+3) #[.int .i64 V,.int .i64 U]) (w.heap.size+2) 252 D:=(setRow_other _ _ _ _ I).trans yu;have hA:aY (w9.setRow (w.heap.size+3) #[.int .i64 V,.int .i64 U]) (w.heap.size+3) 44 #[.int .i64 V,.int .i64 U]:=aY.setRow zq _;refine bodyPost_ret (kP results143 _ _ (w.heap.size+2) (w.heap.size+3) 252 44 D #[.int .i64 V,.int .i64 U] _ _ .nilIface rfl rfl rfl hR hA underlying252 rfl t underlying44 rfl eU) rfl ⟨rfl,aL yt I _⟩
instance {h : Tg 1} : CoeDep (Tg 1) h Nat := ⟨161⟩
instance {h : Tg 2} : CoeDep (Tg 2) h Nat := ⟨162⟩
instance {h : Tg 3} : CoeDep (Tg 3) h Nat := ⟨163⟩
instance {h : Tg 4} : CoeDep (Tg 4) h Nat := ⟨164⟩
theorem ZE(j:Int)(hj:j=1\/j=2\/j=3\/j=4)(C D:Array Value)(z:Nat->Int)(a k v:Int)(w:World)(h:cH C 17 z)(ho:gQ a k v)(o:cK j z)(hD:cH D 17 (iT (lY j (zL z) a v).length (lY j (zL z) a v))):
 Calls prog 143 #[.int .i64 j,.agg C,.agg #[.int .i64 a,.int .i64 k,.int .i64 v]] w fun e w'=>e=.returned (.tuple #[.agg D,.agg #[.int .i64 (lC j (zL z) a),.int .i64 (lV j (zL z) a)],.nilIface])/\Below w.heap.size w w':=by
 have q:Tg j:=rfl;rcases hj with rfl|rfl|rfl|rfl
 all_goals
  have n:Hid ((prog.info? 252).map (·.size)=some C.size):=by show _=_;rw[gT,h.size]
  have HC:=aH h;have m:=aH (lS.mk_ w C a k v);have zl:=aH (eN.2 ho);have HR:=aH o;have zk:=aH hD.size;have zj:=aH hD.one;have HD:=aH hD;have l:Hid ((prog.info? 252).map (·.size)=some D.size):=by show _=_;rw[gT,hD.size]
  have hl:gW z:=by
   unfold cK at o;simp only[iN (show¬(q:Int)=5 by decide),iN (show¬(q:Int)=6 by decide)]at o
   first
   |exact o.1
   |(rw[iN (by decide)]at o;exact o.2.2)
  have g: -9223372036854775808<=v/\v<=9223372036854775807:=by have:=ho.2.2.2.2;omega
  have hw:VU z:=fun i hi=>h.bd i hi
  have V:=LT hw hl;have hy:=LC (kind:=q) V ho;have h0:=hl.1;have zi:=hw 0 I;have U:Hid (∀(A:Option Addr) (c:Nat) (W:World),fI W A (z 0).toNat c (zL z)->Calls prog q #[.slice A (z 0).toNat c,.agg #[.int .i64 a,.int .i64 k,.int .i64 v]] W (fQ (lY q (zL z) a v) (lC q (zL z) a) (lV q (zL z) a) W)):=by
   first
   |exact aH fun A c W p=>Cx A _ c _ a k v W p I g
   |exact aH fun A c W p=>Ed A _ c _ a k v W p I g
   |exact aH fun A c W p=>Cm A _ c _ a k v W p I g
   |exact aH fun A c W p=>Eb A _ c _ a k v W p I g
  have zh:=aH hl;have HY:=aH hy;have zg:=aH V;clear h o ho hD hl g hw hy h0 zi V;generalize lC q (zL z) a=P at*;generalize lV q (zL z) a=O at*;generalize lY q (zL z) a v=yy at*
  go_enter func143,ntmps143
  go_wp2_with fail;refine(jZ a k v _).mono ?_;rintro e w1 ⟨rfl,zt⟩;rw[zl.out];have B:=aH (m.on zt);clear zt m
  go_wp2_with (refine eM rfl 252 _ rfl w.heap.size rfl 252 C (0,0) _ B.words underlying252 rfl n ?_)
  refine(jR C z q true _ HC ⟨fun _=>HR.out,fun _=>rfl⟩).mono ?_;rintro e w2 ⟨rfl,zs⟩;have HB:=aH (B.on zs);clear zs B
  go_wp2_with (refine wpList_load_row rfl 252 _ rfl w.heap.size rfl 252 C (0,0) _ HB.words underlying252 rfl n ?_)
  refine(vX C z _ HC).mono ?_;rintro e M ⟨zr,zq⟩;have d:∃A c,e=.returned (.tuple #[.slice A (z 0).toNat c,.bool true])/\fI M A (z 0).toNat c (zL z):=by
   rcases zq with⟨_,A,c,he,hO⟩|⟨za,_⟩
   .refine⟨A,c,he,hO.sli (fun i=>?_)⟩;have:=zg.num i;unfold gI BQ zL at this;exact⟨by have:=this.1;omega,by have:=this.2;omega⟩
   exact absurd zh za
  clear zq;refine Exists.elim d (fun A L=>?_);refine Exists.elim L (fun c zo=>?_);obtain⟨rfl,hs⟩:=zo;clear d L;have HS:=aH hs;have zz:=aH (HB.on zr);clear hs zr HB;have yz:= @run_makeMap prog
  go_wp2_with (refine iG _ rfl _ _ _ 292 rfl 3 291 UP underlying292 Ad M.heap.size 0 (DataW.map []:DataW Unit) rfl (World.ownsMap_made M prog 3 Ad) (by unfold maxLen;omega) _ _ (.int .i64 1) rfl rfl rfl (.lit (.int .i64 161)) [] rfl ?_)
  intro m1 K T;have y:=((Below.refl M.heap.size M).alloc (Nat.le_refl _) (.map #[] 0)).trans (oQ T (Nat.le_refl _) (by simp))
  go_wp2_with (refine iG _ rfl _ _ _ 292 rfl 3 291 UP underlying292 Ad M.heap.size 1 ((DataW.map []:DataW Unit).put (.int .i64 1) (.lit (.int .i64 161))) rfl K (by unfold maxLen;omega) _ _ (.int .i64 2) rfl rfl rfl (.lit (.int .i64 162)) [] rfl ?_)
  intro m2 H S;have x:=y.trans (oQ S (Nat.le_refl _) y.size)
  go_wp2_with (refine iG _ rfl _ _ _ 292 rfl 3 291 UP underlying292 Ad M.heap.size 2 (((DataW.map []:DataW Unit).put (.int .i64 1) (.lit (.int .i64 161))).put (.int .i64 2) (.lit (.int .i64 162))) rfl H (by unfold maxLen;omega) _ _ (.int .i64 3) rfl rfl rfl (.lit (.int .i64 163)) [] rfl ?_)
  intro m3 F R;have t:=x.trans (oQ R (Nat.le_refl _) x.size)
  go_wp2_with (refine iG _ rfl _ _ _ 292 rfl 3 291 UP underlying292 Ad M.heap.size 3 ((((DataW.map []:DataW Unit).put (.int .i64 1) (.lit (.int .i64 161))).put (.int .i64 2) (.lit (.int .i64 162))).put (.int .i64 3) (.lit (.int .i64 163))) rfl F (by unfold maxLen;omega) _ _ (.int .i64 4) rfl rfl rfl (.lit (.int .i64 164)) [] rfl ?_)
  intro m4 E Q;have s:=t.trans (oQ Q (Nat.le_refl _) t.size);have V:∃ps,(Instr.lookup 292 (.map (some M.heap.size)) (.int .i64 q) false).run prog m4=.ok (.func (.func q) #[] #[]) m4/\(ps:List MemPlace)=ps:=by
   obtain⟨u,ps,Z,hu⟩:=E.lookup UP underlying292 (z:=.nilFunc) J (zd:=.lit (.bool false)) (zp:=[]) rfl (key:=.int .i64 q) (kl:=.int .i64 q) rfl;rw[YY (f:=q) (ps:=ps) (hu.trans J)]at Z;exact⟨ps,Z,rfl⟩
  obtain⟨_,Z,_⟩:=V;have N:=aH (zz.on s);have zy:=aH (HS.below s);clear K H F E T S R Q y x t s zz HS
  go_wp2_with (refine wpList_load_row rfl 39 _ rfl (w.heap.size+1) rfl 39 #[.int .i64 a,.int .i64 k,.int .i64 v] (0,0) _ N.op underlying39 rfl JW ?_)
  refine(U.out A c _ zy).mono ?_;rintro e w6 ⟨A',n',c',rfl,hO,zn⟩;have zf:=hO.sli.len;subst zf;have r:=aH (N.on zn);have ze:=aH N.lt;have X:=aH (r.alloc (.cells #[P,O] 44));have zx:=aH (aY.new w6 44 #[P,O]);have HG:=aH r.lt;have zw:=aH (hO.alloc (.cells #[P,O] 44));clear hO zn Z U zy N r;go_wp2_with fail;generalize hG:w6.heap.size=G at*;generalize w6.alloc (.cells #[P,O] 44)=W3 at*;refine dQ 4 (fun b=>b=w.heap.size+2) [3] J J ?_;intro yx zm;refine aR ?_;constructor
  .intro w9 hw9 _;go_simp
   first
   |exact aE
  refine bA (.agg D) cX ?_ ?_
  .intro w9 hw9 _;go_simp;go_at_call 165;exact bS (FJ A' _ c' yy _ (uG zw.sli hw9 (fun hn b hb e=>by have:=zw.up hn b hb;have:=ze.out;omega)) (by have:=HY.out.1;omega) (fun i hi=>(HY.num i).1) D HD)
  refine bA (.agg #[.int .i64 P,.int .i64 O]) cX ?_ ?_
  .intro w9 hw9 _;exact bT 44 _ rfl G rfl 44 #[.int .i64 P,.int .i64 O] _ ((hw9.block _ zx.lt (by show¬G=w.heap.size+2;have:=HG.out;omega)).trans zx) underlying44 rfl eU aE
  refine bA undef (fun _ w'=>aY w' (w.heap.size+2) 252 D) ?_ ?_
  .intro w9 hw9 Y;have zv:aY w9 (w.heap.size+2) 252 (17:Nat):=(Y.1.block _ X.res.lt (fun h=>dN h (by rw[zm.out];kernel_rfl))).trans X.res;refine dS 252 _ _ rfl (w.heap.size+2) D rfl ?_ 252 (17:Nat) zv l (by rw[zk.out];rfl) zj ⟨⟨rfl,zv.setRow D⟩,fD (.inl ⟨by decide,rfl⟩) _⟩
   kernel_rfl
  refine aZ ?_;intro w9 hw9 Y;have zc:Hid (aY w9 (w.heap.size+2) 252 D):=aH (by
   have h1:=Y.1 rfl;obtain⟨w0,k0,k1,hF⟩:=h1;exact(k1.block _ hF.lt (fun h=>dN h (by rw[zm.out];kernel_rfl))).trans hF)
  have zu:Hid (aY w9 (w.heap.size+3) 44 (2:Int)):=aH ((hw9.block _ X.ans.lt (by show¬w.heap.size+3=w.heap.size+2;omega)).trans X.ans);have zb:=aH (X.below.trans (hw9.below X.below.size (fun b hb e=>by omega)));clear Y hw9;simp only[List.drop_succ_cons,List.drop_zero]
  go_wp2_with (refine wpList_store_row rfl 44 _ _ rfl (w.heap.size+3) #[.int .i64 P,.int .i64 O] rfl rfl 44 (2:Int) zu eU rfl (jH _ _) ?_)
  have hR:aY (w9.setRow (w.heap.size+3) #[.int .i64 P,.int .i64 O]) (w.heap.size+2) 252 D:=(setRow_other _ _ _ _ I).trans zc;have hA:aY (w9.setRow (w.heap.size+3) #[.int .i64 P,.int .i64 O]) (w.heap.size+3) 44 #[.int .i64 P,.int .i64 O]:=aY.setRow zu _;refine bodyPost_ret (kP results143 _ _ (w.heap.size+2) (w.heap.size+3) 252 44 D #[.int .i64 P,.int .i64 O] _ _ .nilIface rfl rfl rfl hR hA underlying252 rfl l underlying44 rfl eU) rfl ⟨rfl,aL zb I _⟩
theorem NR(C D:Array Value)(z:Nat->Int)(kind a k v:Int)(m:Nat)(w:World)(h:cH C 17 z)(U:gQ a k v)(X:cK kind z)(R:kind=5->tG z a k m)(Z:cH D 17 (BW kind z a k v m)):
 Calls prog 143 #[kind,.agg C,.agg #[a,k,v]] w fun e w'=>e=.returned (.tuple #[.agg D,.agg #[(IB kind z a k v),(JO kind z a k v)],.nilIface])/\Below w w w':=by
 unfold BW at Z;unfold IB JO;by_cases W:kind=5
 .subst W;simp only[if_true]at Z⊢;exact Oy C D z a k v w h U X m (R rfl) Z
 simp only[iN W]at Z⊢;by_cases V:kind=6
 .subst V;simp only[if_true]at Z⊢;exact DX C D z a k v w h U X Z
 simp only[iN V]at Z⊢;have S:kind=1\/kind=2\/kind=3\/kind=4:=by
  have Y:=X;unfold cK at Y;simp only[iN W,iN V]at Y;by_cases T:kind=4
  .exact .inr (.inr (.inr T))
  rw[iN T]at Y;omega
 exact ZE kind S C D z a k v w h U X Z
