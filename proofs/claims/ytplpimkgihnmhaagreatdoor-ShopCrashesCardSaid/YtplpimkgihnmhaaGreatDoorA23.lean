/-
  Part of a proof: BatW ShA BatR. For all values.
-/
import Derived.Test.YtplpimkgihnmhaaGreatDoorA19
import Derived.Test.YtplpimkgihnmhaaGreatDoorA20
import Derived.Test.YtplpimkgihnmhaaGreatDoorA21
import Derived.Test.YtplpimkgihnmhaaGreatDoorA22
set_option maxRecDepth 100000
set_option maxHeartbeats 4000000
set_option linter.all false
namespace Go.Proofs.YtplpimkgihnmhaaGreatDoor
open Go.Proofs.Tryz Go.RowKit
variable{w:World}{z:Nat->Int}{P:Nat->Prop}{R:Array Value}
section
attribute [local go_sem↓] Go.wp_at_zero Go.wp_at_succ
theorem kR{P:Program}{fn:Func}{p q s:Tmp}{ty:TypeId}(h:fn.results= #[.cell p ty,.tmp q,.tmp s])(Z:Array Value)(w:World)(g:Nat)(t:TypeId)(cs:Array Value)(d:TypeDesc)(v u:Value)
 (V:Z.getD p undef=.pointer (some ⟨g,0,none⟩)) (U:Z.getD q undef=v) (T:Z.getD s undef=u) (S:aY w g t cs)
 (R:P.underlying ty=some d) (Q:(match d with|.struct _|.array _ _=>true|_=>false)=true) (O:(P.info? ty).map (·.size)=some cs.size):
 (results fn Z).run P w=.ok (.tuple #[.agg cs,v,u]) w:=by
 have Y:Z[p]?.getD undef=.pointer (some ⟨g,0,none⟩):=by simpa using V
 have X:Z[q]?.getD undef=v:=by simpa using U
 have W:Z[s]?.getD undef=u:=by simpa using T
 simp [results,h,Y,X,W,asAddr,run_loadVar_row w g t ty cs (0,0) d S R Q O]
theorem MP:(prog.info? 159).map (fun i=>(i.zero,i.size,i.bytes))=some (some (.agg #[(0:Int),(0:Int),(0:Int),(0:Int),(0:Int),(0:Int)]),6,48):=J
theorem JV:∃Z,prog.info? 159=some Z/\Z.zero=some (.agg #[(0:Int),(0:Int),(0:Int),(0:Int),(0:Int),(0:Int)])/\Z.size=6/\Z.bytes=48:=by
 have h:=MP;cases hq:prog.info? 159 with
 |none=>simp [hq]at h
 |some i=>simp [hq]at h;exact⟨i,rfl,h.1,h.2.1,h.2.2⟩
def kX(r0 r1:Int):Int:=if r0<0\/4<=r0 then 2 else if r1≠0/\r1≠1 then 1 else 0
theorem TS{r:Nat->Int}(h:kX (r 0) (r 1)≠0):gR z r=kX (r 0) (r 1):=by
 unfold kX at*;unfold gR;split
 .rfl
 rename_i h1;rw[iN h1]at h;split
 .rfl
 rename_i h2;rw[iN h2]at h;exact absurd rfl h
theorem DK{Z Y:Int}(h:kX Z Y=0):0<=Z/\Z<4/\(Y=0\/Y=1):=by
 unfold kX at h;split at h
 .omega
 split at h
 .omega
 omega
theorem LZ(C:Array Value)(z:Nat->Int)(t g a k v:Int)(w:World)(h:cH C 32 z)(Y:kX t g≠0):
 Calls prog 129 #[.agg C,.agg #[t,g,a,k,v]] w fun e w'=>e=.returned (.tuple #[false,.iface 53 (kX t g)])/\Below w w w':=by
 by_cases X:t<0\/4<=t
 .have Z:kX t g=2:=by unfold kX;rw[iP X]
  rw[Z];exact PC C t g a k v w I
 have Z:kX t g=1:=by
  unfold kX at Y⊢;rw[iN X]at Y⊢;split at Y
  .rename_i h2;rw[iP h2]
  exact absurd rfl Y
 rw[Z];unfold kX at Z;rw[iN X]at Z;split at Z
 .rename_i h2;exact OL C t g a k v w I I h2
 omega
theorem GU(C:Array Value)(z r:Nat->Int)(t g a k v:Int)(w:World)(h:cH C 32 z)(T:kX t g=0)(S:r 0=t)(R:r 1=g):
 Calls prog 129 #[.agg C,.agg #[t,g,a,k,v]] w fun e w'=>e=.returned (.tuple #[(vF z r),.nilIface])/\Below w w w':=by
 obtain⟨Y,X,U⟩:=DK T;have e:vF z r=(AT (z 26).toNat t !=g):=by
  have V:AT (z 26).toNat t=jA z t.toNat:=by
   unfold AT jA;rw[show((t.toNat:Nat):Int)=t by omega];by_cases Z:gO (z 26).toNat t=true
   .rw[iP ⟨Y,X,Z⟩,iP Z]
   rw[iN (fun h=>Z h.2.2),iN Z]
  unfold vF;rw[S,R,V];by_cases W:jA z t.toNat=g
  .simp [W]
  simp [W]
 rw[e];exact SP C z t g a k v w h Y X U
theorem VM(C:Array Value)(z:Nat->Int)(t a k v:Int)(w:World)(h:cH C 32 z)(Y:0<=t)(X:t<4)(W:rT z)(hb:cB a k v=false\/1099511627776<z 28):
 Calls prog 130 #[.agg C,t,.agg #[a,k,v]] w (rG 1 w):=by
 by_cases Z:eE z
 .rcases hb with hb|hb
  .exact VL C z t a k v w h ⟨Y,X⟩ Z hb
  have:=(iD.1 Z).2;omega
 exact MO C z t a k v w h ⟨Y,X⟩ Z
theorem OQ(C:Array Value)(z:Nat->Int)(t a k v:Int)(w:World)(h:cH C 32 z)(W:0<=t)(V:t<4)(Y:eE z)(X:cB a k v=true):
 Calls prog 130 #[.agg C,t,.agg #[a,k,v]] w fun e w'=>∃F,e=.returned (.tuple #[.agg F,.nilIface])/\cH F 32 (dZ z t.toNat a k v)/\Below w w w':=by
 have e:((t.toNat:Nat):Int)=t:=I;have Z:=QC C z t.toNat a k v (mO z a k) w h I Y (eN.1 X) (QD Y a k);rw[e]at Z;exact Z
theorem YD{Z Y:Int}(h:nA Z Y):∃x p q:Nat,iV Z Y=(x:Int)/\x/4294967296=p/\x%4294967296=q/\fU p q=true/\(p:Int)=Z/\(q:Int)=Y:=by
 obtain⟨W,V,⟨U,T⟩,S⟩:=h;have X:fU Z Y=true:=by simp [fU];omega
 have e:iV Z Y=Z*4294967296+Y:=by unfold iV;rw[iP X]
 refine⟨(Z*4294967296+Y).toNat,Z.toNat,Y.toNat,by rw[e];omega,I,I,?_,I,I⟩;rw[show((Z.toNat:Nat):Int)=Z by omega,show((Y.toNat:Nat):Int)=Y by omega];exact X
theorem EV(F:Array Value)(z:Nat->Int)(t a k v:Int)(w:World)(V:∀i,i<32->0<=z i/\z i<18446744073709551616)(h:cH F 32 (dZ z t.toNat a k v))(G:0<=t)(E:t<4)(U:eE z)(K:cB a k v=true):
 Calls prog 120 #[.agg F,.int .i64 t] w fun e w'=>∃y,e=.returned (.tuple #[.agg #[.int .i64 (dC z a k v),.int .i64 (dV z a k v)],.int .i64 y,.nilIface])/\Below w.heap.size w w':=by
 have e:((t.toNat:Nat):Int)=t:=I;obtain⟨_,_,R⟩:=zC U V (eN.1 K);obtain⟨x,p,q,Q,P,O,N,X,W⟩:=YD R;have T:=V 28 I;have S:=(iD.1 U).2;have Z:dZ z t.toNat a k v (18+t.toNat)=(x:Int):=by
  unfold dZ;rw[qR _ _ _ _ _ I,iP rfl];exact Q
 have Y:dZ z t.toNat a k v (22+t.toNat)=z 28+1:=by
  unfold dZ;rw[mB _ _ _ _ _ I I,iP rfl]
 have:=xC F (dZ z t.toNat a k v) t.toNat x p q (z 28+1) (z 28+1) w h I Z Y P O N (.inl ⟨I,rfl⟩);rw[e]at this;rw[X,W]at this;exact this.mono fun H w' ⟨M,L⟩=>⟨_,M,L⟩
def VE(f:Nat->Nat->Int)(z:Nat->Int)(n:Nat)(w:World)(e:Ending)(w':World):Prop:=
 Below w w w'/\((∃k g,k<n/\(∀j,j<k->gR (bz f z j) (f j)=0)/\gR (bz f z k) (f k)≠0/\e=.returned (.tuple #[.agg (32:Nat),.slice none 0 0,.iface 188 (g,0)])/\aY w' g 191 #[(gR (bz f z k) (f k)),k])\/
  ((∀j,j<n->gR (bz f z j) (f j)=0)/\∃D A c,e=.returned (.tuple #[.agg D,.slice A (bd f z n).length c,.nilIface])/\cH D 32 (dW (bz f z n))/\cU w' w 159 6 A (bd f z n).length c (bd f z n)))
structure UJ (w:World) (f:Nat->Nat->Int) (z:Nat->Int) (k:Nat) (A:Option Addr) (c:Nat) (D:Array Value) (wr:World):Prop where
 rcd:aY wr w 25 D
 u:cH D 32 (bz f z k)
 res:aY wr (w,1) 25 (32:Nat)
 own:cU wr (w,2) 159 6 A (bd f z k).length c (bd f z k)
 below:Below w w wr
 right:rT (bz f z k)
 good:∀j,j<k->gR (bz f z j) (f j)=0
def Fq(w:World)(f:Nat->Nat->Int)(z:Nat->Int)(k:Nat)(d:Value)(wr:World):Prop:=∃D A c,d=.slice A (bd f z k).length c/\UJ w f z k A c D wr
theorem TO(f:Nat->Nat->Int)(z:Nat->Int):∀k,(bd f z k).length<=k
 |0=>Nat.le_refl _
 |k+1=>by
  have:=TO f z k;unfold bd;split
  .simp;omega
  .omega
theorem BF:(prog.info? 25).map (·.size)=some 32:=J
theorem Ca(C:Array Value)(z:Nat->Int)(A:Option Addr)(n c:Nat)(f:Nat->Nat->Int)(w:World)(h:cH C 32 z)(hr:eE z)(hs:PQ LG w A n c f)(hn:n<=1000)(hg:mR w):
 Calls prog 119 #[.agg C,.slice A n c] w (VE f z n w):=by
 have HI:Hid ((prog.info? 25).map (·.size)=some C.size):=by show _=_;rw[BF,h.size]
 have zc:=aH (fun W=>lP C z true W h ⟨fun _=>hr,fun _=>rfl⟩);have HB:=aH ((aY.new w 25 C).alloc (.cells (32:Nat) 25));have HR:=aH (aY.newAt (w.alloc (.cells C 25)) 25 (32:Nat) (n:=w+1) (by simp));have yi:=aH h;have HZ:=aH hr;have zl:=aH hs;have HG:=aH hg;obtain⟨i0,yo,yn,ym,yl⟩:=JV;have yh:=aH yo;have yg:=aH yn;have yf:=aH ym;have ye:=aH yl;clear h hr hs hg yo yn ym yl
 go_enter func119,ntmps119
 generalize hQ:bodyPost prog Tryz.f119 (VE f z n w)=Q;have HQ:=aH hQ;clear hQ
 go_wp2_with (with_reducible refine lL 25 w 25 C J HB.out underlying25 J HI.out ?_)
 with_reducible refine(zc.out _).mono ?_
 rintro e w1 ⟨rfl,Z⟩;have yd:Hid (UJ w f z 0 none 0 C w1):=aH ⟨HB.out.below Z HB.out.lt,yi.out,HR.out.below Z HR.out.lt,cU.nil _ _ _ _,Below.trans (by go_grown) (Z.mono (by simp;omega)),(iD.1 HZ.out).1,fun j hj=>absurd hj I⟩;clear Z HB HR HI zc;go_wp2
 go_loopw [7,22] (fun d i wr=>∃k:Nat,k<=n/\i=.int .i64 k/\Hid (Fq w f z k d wr)) (fun _ i _=>n-(intOf i).toNat)
 case atStart=>exact⟨0,I,rfl,aH ⟨C,none,0,rfl,yd.out⟩⟩
 case round=>
  obtain⟨k,hk,rfl,yk⟩:=hrel;obtain⟨D,A1,c1,rfl,R⟩:=yk.out;have Y:=aH R;have s:Hid ((prog.info? 25).map (·.size)=some D.size):=by show _=_;rw[BF,R.u.size]
  have zb:=aH R.u.size;have hW:=R.below;have xo:=R.res.lt;have xn:=TO f z k;clear yk R;by_cases t:k<n
  .have q1:(k:Int)<n:=I;obtain⟨b,T,rfl,M,V⟩:=zl.out.at_ I;have xq:=zl.out.cap;have xp:=zl.out.cap63;have c0:wr.cell? (b,T+k*5)=(f k 0):=(hW.cell (p:=⟨b,T+k*5,none⟩) M).trans (V k 0 t aJ);have xm:wr.cell? (b,T+k*5+1)=(f k 1):=(hW.cell (p:=⟨b,T+k*5+1,none⟩) M).trans (V k 1 t aJ);have c2:wr.cell? (b,T+k*5+2)=(f k 2):=(hW.cell (p:=⟨b,T+k*5+2,none⟩) M).trans (V k 2 t aJ);have c3:wr.cell? (b,T+k*5+3)=(f k 3):=(hW.cell (p:=⟨b,T+k*5+3,none⟩) M).trans (V k 3 t aJ);have c4:wr.cell? (b,T+k*5+4)=(f k 4):=(hW.cell (p:=⟨b,T+k*5+4,none⟩) M).trans (V k 4 t aJ);clear V;have N:=aH (Y.out.rcd.alloc (.cells #[(f k 0),(f k 1),(f k 2),(f k 3),(f k 4)] 181));have r:=aH (Y.out.res.alloc (.cells #[(f k 0),(f k 1),(f k 2),(f k 3),(f k 4)] 181));have zs:=aH (aY.new wr 181 #[(f k 0),(f k 1),(f k 2),(f k 3),(f k 4)]);have yc:=aH (Y.out.own.below (w':=wr.alloc (.cells #[(f k 0),(f k 1),(f k 2),(f k 3),(f k 4)] 181)) (by go_grown));have q:=aH (hW.alloc hW.size (.cells #[(f k 0),(f k 1),(f k 2),(f k 3),(f k 4)] 181));clear hW;by_cases ho:kX (f k 0) (f k 1)=0
   .obtain⟨r0,r4,rg⟩:=DK ho;have L:=aH (fun W=>GU D (bz f z k) (f k) (f k 0) (f k 1) (f k 2) (f k 3) (f k 4) W Y.out.u ho rfl rfl);cases hop:vF (bz f z k) (f k)
    .
     rw[hop]at L;have HN:Hid (UJ w f z (k+1) A1 c1 D wr):=aH ⟨Y.out.rcd,by unfold bz sD;rw[hop];exact Y.out.u,Y.out.res,by unfold bd;rw[hop];exact Y.out.own,Y.out.below,by unfold bz sD;rw[hop];exact Y.out.right,fun j hj=>by
      rcases Nat.lt_or_ge j k with h|h
      .exact Y.out.good j h
      .obtain rfl:j=k:=I;have yb:=of_decide_eq_false hop;unfold gR;rw[if_neg I,if_neg I,if_pos (by simpa using yb)]⟩
     have HL:Hid ((bd f z (k+1)).length=(bd f z k).length):=aH (by rw[bd,if_neg (by rw[hop];exact Bool.false_ne_true)]);clear hop ho r0 r4 rg;generalize f k 0=x0 at*;generalize f k 1=x1 at*;generalize f k 2=x2 at*;generalize f k 3=x3 at*;generalize f k 4=x4 at*;generalize(bd f z k).length=dn at*
     go_wp2_with (with_reducible refine lL 25 w 25 D J N.out underlying25 J s.out ?_)
     with_reducible refine(L.out _).mono ?_
     rintro e w1 ⟨rfl,Z⟩;have zk:Hid (UJ w f z (k+1) A1 c1 D w1):=aH (by
      have hb:Below wr wr w1:=Below.trans (by go_grown) (Z.mono (by simp));exact⟨HN.out.rcd.below hb HN.out.rcd.lt,HN.out.u,HN.out.res.below hb HN.out.res.lt,HN.out.own.below hb,HN.out.below.trans (hb.mono HN.out.below.size),HN.out.right,HN.out.good⟩)
     clear Z;go_wp2;go_roundw
     case rel=>exact⟨k+1,I,aG,aH ⟨D,A1,c1,by rw[HL.out],zk.out⟩⟩
     case measure=>simp [intOf];omega
    .rw[hop]at L;by_cases P:cB (f k 2) (f k 3) (f k 4)=false\/1099511627776<bz f z k 28
     .
      have HE:Hid (gR (bz f z k) (f k)=1):=aH (by
       unfold gR;rw[if_neg I,if_neg I,if_neg (by simpa using of_decide_eq_true hop),if_pos P])
      have zj:Hid ((1:Int)≠0):=aH aJ;have zi:=aH (fun W=>VM D (bz f z k) (f k 0) (f k 2) (f k 3) (f k 4) W Y.out.u r0 r4 Y.out.right P);clear hop ho r0 r4 rg P;generalize f k 0=x0 at*;generalize f k 1=x1 at*;generalize f k 2=x2 at*;generalize f k 3=x3 at*;generalize f k 4=x4 at*
      go_wp2_with (with_reducible refine lL 25 w 25 D J N.out underlying25 J s.out ?_)
      with_reducible refine(L.out _).mono ?_
      rintro e w1 ⟨rfl,Z⟩;have K:=aH (N.out.below Z N.out.lt);have zy:=aH (r.out.below Z r.out.lt);have X:=zs.out.below Z zs.out.lt;have zx:=aH (q.out.trans (Z.mono q.out.size));have ya:=X.lt;have k0:=X.cell 0;have k2:=X.cell 2;have k3:=X.cell 3;have k4:=X.cell 4;simp only[List.getElem?_toArray,List.getElem?_cons_zero,List.getElem?_cons_succ]at k0 k2 k3 k4;clear Z X
      go_wp2_with (with_reducible refine lL 25 w 25 D J K.out underlying25 J s.out ?_)
      with_reducible refine(zi.out _).mono ?_
      rintro e w2 ⟨rfl,U⟩;have o:=aH (K.out.below U K.out.lt);have H:=aH (zy.out.below U zy.out.lt);have m:=aH (zx.out.trans (U.mono zx.out.size));clear U;have zw:=aH (H.out.far_row (show w.heap.size+1≠w by omega) (32:Nat));have G:=aH (aL m.out (Nat.le_refl _) (32:Nat))
      go_wp2_with (with_reducible refine fK 25 w (32:Nat) 25 D J J o.out J (by rw[zb.out];kernel_rfl) J ?_)
      go_wp2_with fail
      with_reducible refine(wF 1 _ (HG.out.below G.out)).mono ?_
      rintro e w9 ⟨rfl,x⟩;have E:=aH (zw.out.below x zw.out.lt);have zv:=aH (G.out.trans (x.mono G.out.size));have xz:=E.out.lt;clear x
      go_wp2_with (with_reducible refine fK 25 (w,1) (32:Nat) 25 (32:Nat) J J (E.out.alloc _) J J J ?_)
      (try simp only[Exit.inBlock,Exit.then])
      rw[<-HQ.out]
      with_reducible refine bodyPost_ret (kR results119 _ _ (w,1) 25 (32:Nat) _ (.slice none 0 0) (.iface 188 w9) J J J (aY.setRow (E.out.alloc _) _) underlying25 J J) J ?_
      refine⟨aL (zv.out.alloc zv.out.size _) I _,.inl ⟨k,w9.heap.size,t,Y.out.good,?_,rfl,?_⟩⟩
      .rw[HE.out];exact zj.out
      .rw[HE.out];exact aY.far_row (aY.new _ _ _) I _
     .
      have O:cB (f k 2) (f k 3) (f k 4)=true/\bz f z k 28<=1099511627776:=by
       cases hx:cB (f k 2) (f k 3) (f k 4)
       .exact absurd (.inl hx) P
       .exact⟨rfl,I⟩
      have zh:=iD.2 ⟨Y.out.right,O.2⟩;have zi:=aH (fun W=>OQ D (bz f z k) (f k 0) (f k 2) (f k 3) (f k 4) W Y.out.u r0 r4 zh O.1);have xy:=aH (fun F W hF=>EV F (bz f z k) (f k 0) (f k 2) (f k 3) (f k 4) W Y.out.u.bd hF r0 r4 zh O.1);have xx:Hid (bz f z (k+1)=dZ (bz f z k) (f k 0).toNat (f k 2) (f k 3) (f k 4)):=aH (by rw[bz,sD,if_pos hop]);have za:Hid (bd f z (k+1)=bd f z k++[uP (bz f z k) (f k)]):=aH (by rw[bd,if_pos hop]);have yz:Hid (uP (bz f z k) (f k)=[.int .i64 (f k 0),.int .i64 (f k 2),.int .i64 (f k 3),.int .i64 (f k 4),.int .i64 (dC (bz f z k) (f k 2) (f k 3) (f k 4)),.int .i64 (dV (bz f z k) (f k 2) (f k 3) (f k 4))]):=aH rfl;have yy:Hid (rT (bz f z (k+1))/\∀j,j<k+1->gR (bz f z j) (f j)=0):=aH (by
       have he:gR (bz f z k) (f k)=0:=by
        unfold gR;rw[if_neg I,if_neg I];split
        .rfl
        .first|rfl|rw[if_neg P]
       refine⟨by rw[bz];exact wV Y.out.right Y.out.u.bd he,fun j hj=>?_⟩;rcases Nat.lt_or_ge j k with h|h
       .exact Y.out.good j h
       .obtain rfl:j=k:=I;exact he)
      clear hop ho r0 r4 rg P O zh;generalize dC (bz f z k) (f k 2) (f k 3) (f k 4)=co at*;generalize dV (bz f z k) (f k 2) (f k 3) (f k 4)=va at*;generalize dZ (bz f z k) (f k 0).toNat (f k 2) (f k 3) (f k 4)=z' at*;generalize f k 0=x0 at*;generalize f k 1=x1 at*;generalize f k 2=x2 at*;generalize f k 3=x3 at*;generalize f k 4=x4 at*;have yx:Hid ((bd f z (k+1)).length=(bd f z k).length+1):=aH (by rw[za.out];simp);generalize zn:(bd f z k).length=dn at*;clear zn
      go_wp2_with (with_reducible refine lL 25 w 25 D J N.out underlying25 J s.out ?_)
      with_reducible refine(L.out _).mono ?_
      rintro e w1 ⟨rfl,Z⟩;have K:=aH (N.out.below Z N.out.lt);have zy:=aH (r.out.below Z r.out.lt);have yw:=aH (yc.out.below Z);have X:=aH (zs.out.below Z zs.out.lt);have zx:=aH (q.out.trans (Z.mono q.out.size));have ya:=X.out.lt;have k0:=X.out.cell 0;have k2:=X.out.cell 2;have k3:=X.out.cell 3;have k4:=X.out.cell 4;simp only[List.getElem?_toArray,List.getElem?_cons_zero,List.getElem?_cons_succ]at k0 k2 k3 k4;clear Z
      go_wp2_with (with_reducible refine lL 25 w 25 D J K.out underlying25 J s.out ?_)
      with_reducible refine(zi.out _).mono ?_
      rintro e w2 ⟨F,rfl,hF,U⟩;have HF:=aH hF;have yv:Hid ((prog.info? 25).map (·.size)=some F.size):=by show _=_;rw[BF,hF.size]
      have xw:=aH hF.size;have xv:=aH hF.one;have o:=aH (K.out.below U K.out.lt);have zr:=(X.out.below U X.out.lt).far_row (show wr.heap.size≠w by omega) F;have yu:=aH zr;have H:=aH ((zy.out.below U zy.out.lt).far_row (show w.heap.size+1≠w by omega) F);have m:=aH (aL (zx.out.trans (U.mono zx.out.size)) (Nat.le_refl _) F);have zq:Hid (cU (w2.setRow w F) (w,2) 159 6 A1 dn c1 (bd f z k)):=aH ((yw.out.below U).kept (S:=cI w) (jD w2 w F) (fun a ha he=>by have:=(yw.out.lt a ha).1;unfold cI at he;omega));have zg:=aH (aY.setRow o.out F);have l0:=zr.cell 0;simp only[List.getElem?_toArray,List.getElem?_cons_zero,List.getElem?_cons_succ]at l0;have xl:=zr.lt;clear U hF zr k0 k2 k3 k4
      go_wp2_with (first
       |(with_reducible refine fK 25 w F 25 D J J o.out yv.out (by rw[zb.out,xw.out]) xv.out ?_)
       |(with_reducible refine lL 25 w 25 F J zg.out underlying25 J yv.out ?_))
      generalize xr:w2.setRow w.heap.size F=w3 at*;clear xr
      with_reducible refine(xy.out F _ HF.out).mono ?_
      rintro e w4 ⟨y,rfl,zz⟩;have l:=yu.out.below zz yu.out.lt;have yt:=aH (zg.out.below zz zg.out.lt);have zf:=aH (H.out.below zz H.out.lt);have xu:=aH (zq.out.below zz);have zp:=aH (m.out.trans (zz.mono m.out.size));have k0:=l.cell 0;have k2:=l.cell 2;have k3:=l.cell 3;have k4:=l.cell 4;simp only[List.getElem?_toArray,List.getElem?_cons_zero,List.getElem?_cons_succ]at k0 k2 k3 k4;have xk:=l.lt;have xj:=zf.out.lt;clear zz l l0
      go_wp2_with (refine qJ (.tmp 70) (.tmp 77) rfl rfl underlying41 yh.out yg.out yf.out ye.out rfl aJ aJ (B:=w+2) (A:=A1) (n:=dn) (c:=c1) (rows:=bd f z k) rfl ?own (g:=w4+1) (c':=1) rfl (ys:=uP (bz f z k) (f k)) rfl ?cells ?ones ?small ?base ?_)
      case own=>exact(xu.out.below (by go_grown))
      case cells=>
       intro j hj;rw[yz.out];rcases(by omega:j=0\/j=1\/j=2\/j=3\/j=4\/j=5)with rfl|rfl|rfl|rfl|rfl|rfl
       all_goals(go_simp;done)
      case ones=>
       intro u hu;rw[yz.out]at hu;simp only[List.mem_cons,List.not_mem_nil,or_false]at hu;rcases hu with rfl|rfl|rfl|rfl|rfl|rfl<;>rfl
      case small=>omega
      case base=>simp;omega
      intro g9 zm w9 zt zo yj;have yr:¬iI A1 w:=fun⟨a,ha,hq⟩=>by have:=(Y.out.own.lt a ha).1;omega
      have yq:¬iI A1 (w,1):=fun⟨a,ha,hq⟩=>by have:=(Y.out.own.lt a ha).1;omega
      have zk:Hid (UJ w f z (k+1) (some ⟨g9,0,none⟩) zm F w9):=aH (by
       refine⟨(zo.block _ ((yt.out.alloc _).alloc _).lt yr).trans ((yt.out.alloc _).alloc _),by rw[xx.out];exact HF.out,(zo.block _ ((zf.out.alloc _).alloc _).lt yq).trans ((zf.out.alloc _).alloc _),by rw[yx.out,za.out];exact zt,?_,yy.out.1,yy.out.2⟩;exact((zp.out.alloc zp.out.size _).alloc (by have:=zp.out.size;simp;omega) _).trans (zo.below (by have:=zp.out.size;simp;omega) (fun b hb ⟨a,ha,hq⟩=>by have:=(Y.out.own.lt a ha).1;omega)))
      clear zt zo yj yr yq;go_wp2;go_roundw
      case rel=>exact⟨k+1,I,aG,aH ⟨F,_,zm,by rw[yx.out],zk.out⟩⟩
      case measure=>simp [intOf];omega
   .
    have HE:Hid (gR (bz f z k) (f k)=kX (f k 0) (f k 1)):=aH (TS ho);have zj:Hid (kX (f k 0) (f k 1)≠0):=aH ho;have L:=aH (fun W=>LZ D (bz f z k) (f k 0) (f k 1) (f k 2) (f k 3) (f k 4) W Y.out.u ho);clear ho;generalize kX (f k 0) (f k 1)=e0 at*;generalize f k 0=x0 at*;generalize f k 1=x1 at*;generalize f k 2=x2 at*;generalize f k 3=x3 at*;generalize f k 4=x4 at*
    go_wp2_with (with_reducible refine lL 25 w 25 D J N.out underlying25 J s.out ?_)
    with_reducible refine(L.out _).mono ?_
    rintro e w1 ⟨rfl,Z⟩;have zw:=aH (r.out.below Z r.out.lt);have G:=aH (q.out.trans (Z.mono q.out.size));clear Z;go_wp2_with fail
    with_reducible refine(wF e0 _ (HG.out.below G.out)).mono ?_
    rintro e w9 ⟨rfl,x⟩;have E:=aH (zw.out.below x zw.out.lt);have zv:=aH (G.out.trans (x.mono G.out.size));have xz:=E.out.lt;clear x
    go_wp2_with (with_reducible refine fK 25 (w,1) (32:Nat) 25 (32:Nat) J J (E.out.alloc _) J J J ?_)
    (try simp only[Exit.inBlock,Exit.then])
    rw[<-HQ.out]
    with_reducible refine bodyPost_ret (kR results119 _ _ (w,1) 25 (32:Nat) _ (.slice none 0 0) (.iface 188 w9) J J J (aY.setRow (E.out.alloc _) _) underlying25 J J) J ?_
    refine⟨aL (zv.out.alloc zv.out.size _) I _,.inl ⟨k,w9.heap.size,t,Y.out.good,?_,rfl,?_⟩⟩
    .rw[HE.out];exact zj.out
    .rw[HE.out];exact aY.far_row (aY.new _ _ _) I _
  .obtain rfl:k=n:=I;have q1:¬(k:Int)<k:=I;have xi:=Y.out.u.bd 27 I;have xh:=Y.out.right.2.2.2.1;have xg:=(Y.out.rcd.cell 27).trans (Y.out.u.get 27 I);have xf:=Y.out.rcd.frozen 27;have zu:cH (D.setIfInBounds 27 [bz f z k 27+1]) 32 (dW (bz f z k)):=(Y.out.u.set_ (k:=27) (v:=bz f z k 27+1) I).congr (fun i hi=>by unfold dW;by_cases e:i=27<;>simp [e])
   obtain⟨D2,zd⟩:∃D2,D2=D.setIfInBounds 27 [bz f z k 27+1]:=⟨_,rfl⟩;rw[<-zd]at zu;have yp:=aH zu;have ze:Hid ((prog.info? 25).map (·.size)=some D2.size):=by show _=_;rw[BF,zu.size]
   have xt:=aH zu.size;have o:Hid (aY (wr.setCell (w.heap.size,27) [bz f z k 27+1]) w 25 D2):=aH (by rw[zd];exact Y.out.rcd.set_ 27 _);have H:=aH (aY.far Y.out.res (p:=⟨w.heap.size,27,none⟩) (show w.heap.size+1≠w by omega) [bz f z k 27+1]);have zq:=aH (Y.out.own.kept (bP wr w 27 [bz f z k 27+1]) (fun a ha he=>by have:=(Y.out.own.lt a ha).1;have xs:a.block=w:=he;omega));have m:Hid (Below w w (wr.setCell (w.heap.size,27) [bz f z k 27+1])):=aH (hW.setCell (p:=⟨w.heap.size,27,none⟩) (Nat.le_refl _) _);have u1:(bz f z k 27+1)%18446744073709551616=bz f z k 27+1:=I;have u2:IntKind.u64.wrap (bz f z k 27+1)=bz f z k 27+1:=IntWalk.u64_in _ I;clear zu zd;generalize bz f z k 27=xe at*;generalize zn:(bd f z k).length=dn at*
   go_wp2_with (first
    |(with_reducible refine lL 25 w 25 D2 J o.out underlying25 J ze.out ?_)
    |(with_reducible refine fK 25 (w,1) D2 25 (32:Nat) J J H.out ze.out (by rw[xt.out];kernel_rfl) yp.out.one ?_))
   (try simp only[Exit.inBlock,Exit.then])
   rw[<-HQ.out]
   with_reducible refine bodyPost_ret (kR results119 _ _ (w,1) 25 D2 _ (.slice A1 dn c1) .nilIface J J J (aY.setRow H.out _) underlying25 J ze.out) J ?_
   refine⟨aL m.out I _,.inr ⟨Y.out.good,D2,A1,c1,by rw[zn],yp.out,?_⟩⟩;rw[zn];exact(zq.out.kept (jD _ _ _) (fun a ha he=>by have:=(zq.out.lt a ha).1;have xs:a.block=w+1:=he;omega)).mono I
def kT(z:Nat->Int):Array Value:=jM 32 fun i=>.int .u64 (z i)
theorem xA(Y:∀i,i<32->0<=z i/\z i<18446744073709551616):cH (kT z) 32 z:=⟨dJ,fun i Z=>cW Z,Y⟩
theorem zQ(z:Nat->Int):(kT z).size=32:=dJ
theorem vU(z:Nat->Int):(prog.info? 25).map (·.size)=some (kT z).size:=by rw[zQ];kernel_rfl
theorem SZ(z:Nat->Int):(kT z).all (·.oneCell')=true:=qH fun _ _=>rfl
theorem WM(t:Nat)(Z:cQ)(A D:Value):(kE t Z A D).extract 9 (9+32)=kT Z.r:=by
 rw[kE,pS I];refine jJ fun i Y=>?_
 unfold zI;rw[iN I,iN I,iN I,iN I,iN I,iN I,iN I,iN I,iN I,iP I,show 9+i-9=i by omega]
theorem sW{Y t:Nat}{Z:cQ}{A D:Value}(h:aY w Y 46 (kE t Z A D)):w.rangeAt Y 9 (kT Z.r).toList:=by
 rw[<-WM t Z A D];exact World.rangeAt_of_block (t:=46) (fr:=(0,0)) h 9 32
theorem FD{Y t o n:Nat}{Z:cQ}{A D:Value}(h:aY w Y 46 (kE t Z A D))(X:o+n<=49):w.there Y o n:=h.there (by rw[sL];exact X)
theorem Bb(t:Nat)(Z:cQ)(A D:Value)(z:Nat->Int):fF (kE t Z A D) 9 (kT z).toList=kE t {Z with r:=z} A D:=by
 refine qS I fun j X=>?_
 unfold zI;by_cases h:9<=j/\j<9+32
 .rw[iP h,iN I,iN I,iN I,iN I,iN I,iN I,iN I,iN I,iN I,iP I]
 rw[iN h];by_cases W:j<9
 .rcases(by omega:j=0\/j=1\/j=2\/j=3\/j=4\/j=5\/j=6\/j=7\/j=8)with rfl|rfl|rfl|rfl|rfl|rfl|rfl|rfl|rfl<;>rfl
 have Y:¬j<41:=I;simp only[Y,if_false]
theorem LE(t:Nat)(Z:cQ)(A D:Value)(x y:Int):fF (kE t Z A D) 46 [.int .i64 x,.int .i64 y]=kE t {Z with o1:=x,o2:=y} A D:=by
 show(((kE t Z A D).setIfInBounds 46 x).setIfInBounds 47 y)=_;have Y:(kE t Z A D).setIfInBounds 46 x=kE t {Z with o1:=x} A D:=dP fun j W=>by
  by_cases e:j=46
  .subst e;rfl
  rw[iN e];unfold zI;simp only[e,if_false]
 have X:(kE t {Z with o1:=x} A D).setIfInBounds 47 y=kE t {Z with o1:=x,o2:=y} A D:=dP fun j W=>by
  by_cases e:j=47
  .subst e;rfl
  rw[iN e];unfold zI;simp only[e,if_false]
 rw[Y,X]
theorem TU(C:Array Value)(z:Nat->Int)(t:Nat)(h:cH C 32 z)(O:eE z)(V:t<4):
 ∃N,∀w,Calls prog 120 #[.agg C,t] w fun e w'=>e=.returned (.tuple #[.agg #[(nV z t),(nW z t)],(nL z t),N])/\Below w w w':=by
 obtain⟨R,M⟩:=h.bd (18+t) I;obtain⟨c1,L⟩:=h.bd (22+t) I;obtain⟨x,X⟩:=Int.eq_ofNat_of_zero_le R;obtain⟨⟨⟨_,_,Q,_⟩,Y,_⟩⟩:=O,trivial;obtain⟨⟨a1,K,P⟩,_⟩:=Y t V;cases hf:yI (z (18+t))with
 |true=>
  have U:fU ((x/4294967296:Nat):Int) ((x%4294967296:Nat):Int)=true:=by
   have:=hf;unfold yI at this;rw[X]at this;rw[show((x/4294967296:Nat):Int)=(x:Int)/4294967296 by omega,show((x%4294967296:Nat):Int)=(x:Int)%4294967296 by omega];exact this
  refine⟨.nilIface,fun w=>?_⟩;refine(xC C z t x (x/4294967296) (x%4294967296) (z (22+t)) (z (22+t)) w h V X rfl rfl rfl U (.inl ⟨I,rfl⟩)).mono ?_;rintro e w' ⟨rfl,W⟩;refine⟨?_,W⟩;unfold nV nW nL;rw[iP hf,iP hf,X,show((x/4294967296:Nat):Int)=(x:Int)/4294967296 by omega,show((x%4294967296:Nat):Int)=(x:Int)%4294967296 by omega]
 |false=>
  have T:z (18+t)=0:=by
   rcases a1 with a1|a1
   .rw[hf]at a1;cases a1
   exact a1
  have Z:x=0:=I;have S:=P.1 T;refine⟨gS 8,fun w=>?_⟩;refine(MU C z t x 0 0 w h V X (by rw[Z]) (by rw[Z]) aJ).mono ?_;rintro e w' ⟨rfl,W⟩;refine⟨?_,W⟩;unfold nV nW nL;rw[iN (by rw[hf];simp),iN (by rw[hf];simp),S]
theorem AE{A:Option Addr}{n c:Nat}{f:Nat->Nat->Int}{B:Nat}{e:TypeId}(h:cU w B e 5 A n c (eH f n))(Z:∀i j,i<n->j<LG.length->(Lit.int (LG.getD j .i64) (f i j)).wf=true):PQ LG w A n c f:=
 FI.slf (K:=LG) h.slr f (fun i Y=>AB f Y) Z
theorem CG{f:Nat->Nat->Int}{n:Nat}(h:jL f n):∀i j,i<n->j<LG.length->(Lit.int (LG.getD j .i64) (f i j)).wf=true:=by
 intro i j Y X;obtain⟨W,V,U,T,S,R,Q,P,O⟩:=h i Y;have Z:j<5:=X;rcases(by omega:j=0\/j=1\/j=2\/j=3\/j=4)with rfl|rfl|rfl|rfl|rfl
 all_goals
  show(Lit.int .i64 _).wf=true;show(decide (-9223372036854775808<=_)&&decide (_<=9223372036854775807))=true;rw[Bool.and_eq_true];exact⟨decide_eq_true I,decide_eq_true I⟩
def Df(F:Array Value)(m:Nat)(v:Value):Prop:=∃A c,v=.tuple #[.agg F,.slice A m c,.nilIface]
def Ex(B:Nat)(F:Array Value)(rows:List (List Value))(v:Value)(w':World):Prop:=∃A c,v=.tuple #[.agg F,.slice A rows.length c,.nilIface]/\cU w' B 159 6 A rows.length c rows
def RM(n:Nat)(v:Value):Prop:=∃A c,v=.slice A n c
def Ck(i:Nat)(v:Value):Value:=match v with|.tuple vs=>vs.getD i undef|_=>undef
theorem WJ(C:Array Value)(z:Nat->Int)(A:Option Addr)(n c:Nat)(f:Nat->Nat->Int)(w:World)(h:cH C 32 z)(X:eE z)(P:PQ LG w A n c f)(O:jL f n)(H:n<=4)(N:z 28+n<=1099511627776)(M:mR w):
 Calls prog 119 #[.agg C,.slice A n c] w fun e w'=>∃Z c',e=.returned (.tuple #[.agg (kT (dW (bz f z n))),.slice Z (bd f z n).length c',.nilIface])/\cU w' w 159 6 Z (bd f z n).length c' (bd f z n)/\Below w w w':=by
 obtain⟨W,V,L,K,U⟩:=tZ X h.bd O N n (Nat.le_refl _);refine(Ca C z A n c f w h X P I M).mono ?_;rintro e w' ⟨T,h⟩;rcases h with⟨k,g,S,_,Y,_⟩|⟨_,D,Z,c',rfl,R,Q⟩
 .exact absurd (U k S) Y
 have e:=R.ext (xA (sZ W V));subst e;exact⟨Z,c',rfl,Q,T⟩
section
variable{w0 w:World}{tag:Nat->Nat}{t:Nat}{Z:cQ}{gw:Nat}{A:Option Addr}{ca:Nat}{D:Option Addr}{cd:Nat}{m:Nat->Int}{gm:Nat}{s:cN}{gs:Nat}
theorem Ba(h:WS w0 w tag t Z gw A ca D cd m gm s gs)(d:Z.does≠8)(X:Z.does<=21):Calls prog 95 #[(gw,0)] w fun e w'=>e=.returned (.tuple #[])/\w=w':=by
 have c1:=h.c1 rfl;have Y:¬(Z.does:Int)=8:=I;clear h
 go_enter func95,ntmps95
 go_wp2;exact bodyPost_end (v:=.tuple #[]) (by simp [results,results95,go_sem]) rfl ⟨rfl,rfl⟩
theorem Ae(h:WS w0 w tag t Z gw A ca D cd m gm s gs)(d:Z.does=8)(ht:t<4)(hr:eE Z.r)(U:∀i,i<32->0<=Z.r i/\Z.r i<18446744073709551616)(ha:jL Z.asks Z.na)(hn:Z.na<=4)(hc:Z.r 28+Z.na<=1099511627776)(zn:Z.r 27+1<=1099511627776)(hg:mR w):
 Calls prog 95 #[(gw,0)] w fun e w'=>e=.returned (.tuple #[])/\iZ w0 tag t gw gm gs ⟨m,s,Z.all t,false⟩ w':=by
 obtain⟨x1,x2,x3,x4,x5⟩:=tZ hr U ha hc Z.na (Nat.le_refl _);have zv:eE (dW (bz Z.asks Z.r Z.na)):=rK x1 I (by rw[x3];exact zn);have zu:=sZ x1 x2;have zt:=aH (fun(W:World) (hW:PQ LG W A Z.na ca Z.asks) (hG:mR W)=>WJ (kT Z.r) Z.r A Z.na ca Z.asks W (xA U) hr hW ha hn hc hG);obtain⟨er,zq⟩:=TU (kT (dW (bz Z.asks Z.r Z.na))) _ t (xA zu) zv ht;have zm:=aH zq;clear zq;have l:Z.all t={Z with r:=dW (bz Z.asks Z.r Z.na),deeds:=bd Z.asks Z.r Z.na,o1:=nV (dW (bz Z.asks Z.r Z.na)) t,o2:=nW (dW (bz Z.asks Z.r Z.na)) t,wn:=nL (dW (bz Z.asks Z.r Z.na)) t}:=iP d;rw[l];clear l x1 x2 x3 x4 x5 zv zu;have zs:=aH (AE h.wk.asks (CG ha));have H:=aH h;have HG:=aH hg;have HD:=aH d;have zy:=h.lt;have c1:w.cell? (gw,1)=(8:Int):=h.c1 d;have zl:w.cell? (gw,41)=some (.slice A Z.na ca):=h.c 41 I;have zk:=aH h.wk.deeds;clear h hr U ha hc zn hg d;generalize hz:dW (bz Z.asks Z.r Z.na)=z at*;generalize ze:bd Z.asks Z.r Z.na=L at*;clear hz ze;have hB:∃B:Nat,B=w:=⟨_,rfl⟩;obtain⟨B,zp⟩:=hB;have p:=aH zp;clear zp
 go_enter func95,ntmps95
 go_wp2;refine eL 21 (cI gw) [17,20] J J ?_;intro yx E
 iterate 5
  refine aV ?_;constructor
  .intro w9 hw9 Y;go_simp
   first
   |exact aE
 first|(with_reducible refine aI (fun K X=>?_))|(refine aI (fun K X=>?_))
 refine .inl ⟨.agg (kT Z.r),cX,?_,X _ _ _ _ ?_⟩
 .simp only[bW,cM];refine⟨?_,fun w9 hw9 Y=>?_⟩
  .first|rfl|(go_simp;done)
  refine aS ?_;have R:=cA Y.1 (by rw[E.out];kernel_rfl);have P:=aH (sW (H.below R).wk.blk);refine aW ?_;refine eG 25 _ rfl gw 9 rfl (kT Z.r) _ P underlying25 rfl (vU _) aE
 iterate 3
  clear X K;refine aN ?_
  first|(with_reducible refine aI (fun K X=>?_))|(refine aI (fun K X=>?_))
  refine .inl ?_;apply Exists.intro;refine⟨cX,?_,X _ _ _ _ ?_⟩
  .simp only[bW,cM];refine⟨?_,fun w9 hw9 Y=>?_⟩
   .first|rfl|(go_simp;done)
   go_simp
   first
   |exact aE
 clear X K;refine aN ?_;refine aV ?_;constructor
 .intro w9 hw9 Y;refine aS ?_;have zd:w9.cell? (gw,41)=some (.slice A Z.na ca):=(H.below (cA Y.1 (by rw[E.out];kernel_rfl))).c 41 I;refine aW ?_;go_simp
  first
  |exact aE
 refine bG (Df (kT z) L.length) (fun _=>Ex B (kT z) L) ⟨_,none,0,rfl⟩ ?_ ?_
 .intro w9 hw9 Y;refine aS ?_;have R:=cA Y.1 (by rw[E.out];kernel_rfl);have zj:=zs.below R;have zi:=HG.below R;have zh:B<=w9:=by rw[p.out];exact R.size
  refine aW ?_;go_simp;go_at_call 119
  with_reducible refine(zt.out w9 zj zi).mono ?_
  rintro e w' ⟨A',c',rfl,hO,zf⟩;exact⟨_,rfl,⟨⟨_,_,rfl⟩,⟨_,_,rfl,hO.mono zh⟩⟩,aD.of_same zf⟩
 refine bH (Df (kT z) L.length) (fun us v _=>v=us 10) ⟨_,none,0,rfl⟩ ?_ ?_
 .rintro _ ⟨j,g,rfl⟩;refine⟨aF,fun w9 hw9 Y=>?_⟩;go_simp;refine⟨⟨⟨_,_,rfl⟩,?_⟩,aD.refl _ _⟩;unfold cV;rw[iP (by rw[E.out];kernel_rfl)];rfl
 first|(with_reducible refine aI (fun K X=>?_))|(refine aI (fun K X=>?_))
 refine .inl ?_;apply Exists.intro;refine⟨cX,?_,X _ _ _ _ ?_⟩
 .simp only[bW,cM];rintro _ ⟨A5,c5,rfl⟩;rintro _ ⟨j,g,rfl⟩;refine⟨?_,fun w9 hw9 Y=>?_⟩
  .first|rfl|(go_simp;done)
  go_simp
  first
  |exact aE
 clear X K;refine aN ?_
 first|(with_reducible refine aI (fun K X=>?_))|(refine aI (fun K X=>?_))
 refine .inr (.inr ⟨(RM L.length),(fun us v _=>v=Ck 1 (us 10)),⟨_,none,0,rfl⟩,?_,X _ _ _ _ ?_⟩)
 .simp only[bW,cM];rintro _ ⟨A5,c5,rfl⟩;rintro _ ⟨j,g,rfl⟩;refine⟨?_,fun w9 hw9 Y=>?_⟩
  .first|rfl|(go_simp;done)
  refine aS ?_;obtain⟨f,V⟩:=Y;simp only[BX]at V;obtain⟨zo,k0,k1,hq⟩:=V.2.1 (by rw[E.out];kernel_rfl);unfold cV at hq;rw[iP (by rw[E.out];kernel_rfl)]at hq;clear V k0 k1;have HQ:=aH hq;clear hq;refine aW ?_;go_simp;refine⟨⟨⟨_,_,rfl⟩,?_⟩,aD.refl _ _⟩;unfold cV;rw[iP (by rw[E.out];kernel_rfl)];exact congrArg (Ck 1) HQ
 iterate 3
  clear X K;refine aN ?_
  first|(with_reducible refine aI (fun K X=>?_))|(refine aI (fun K X=>?_))
  refine .inl ?_;apply Exists.intro;refine⟨cX,?_,X _ _ _ _ ?_⟩
  .simp only[bW,cM];rintro _ ⟨C,y,rfl⟩;rintro _ ⟨A5,c5,rfl⟩;rintro _ ⟨j,g,rfl⟩;refine⟨?_,fun w9 hw9 Y=>?_⟩
   .first|rfl|(go_simp;done)
   go_simp
   first
   |exact aE
 clear X K;refine aN ?_
 first|(with_reducible refine aI (fun K X=>?_))|(refine aI (fun K X=>?_))
 refine .inl ⟨undef,(fun us w'=>aY w' gw 46 (kE t {Z with r:=z} (.slice A Z.na ca) (.slice D Z.deeds.length cd))),?_,X _ _ _ _ ?_⟩
 .simp only[bW,cM];rintro _ ⟨C,y,rfl⟩;rintro _ ⟨A5,c5,rfl⟩;rintro _ ⟨j,g,rfl⟩;refine⟨?_,fun w9 hw9 Y=>?_⟩
  .first|rfl|(go_simp;done)
  refine aS ?_;have R:=cA Y.1 (by rw[E.out];kernel_rfl);have P:=aH (H.below R);have HY:Hid (w9.there gw 9 (kT z).size):=aH (FD P.wk.blk (by rw[zQ];omega));refine aW ?_;refine dA 25 _ _ rfl gw 9 (kT z) rfl rfl HY (vU _) (SZ _) ?_;refine⟨⟨rfl,?_⟩,(cE (S:=cI gw) (.inl rfl) 9 _).mono fun b U=>⟨aJ,U⟩⟩;have x:=aY.setCells (vs:=(kT z).toList) (o:=9) P.wk.blk;rw[Bb]at x;exact x
 iterate 2
  clear X K;refine aN ?_
  first|(with_reducible refine aI (fun K X=>?_))|(refine aI (fun K X=>?_))
  refine .inl ?_;apply Exists.intro;refine⟨cX,?_,X _ _ _ _ ?_⟩
  .simp only[bW,cM];rintro _ ⟨C,y,rfl⟩;rintro _ ⟨A5,c5,rfl⟩;rintro _ ⟨j,g,rfl⟩;refine⟨?_,fun w9 hw9 Y=>?_⟩
   .first|rfl|(go_simp;done)
   go_simp
   first
   |exact aE
 clear X K;refine aN ?_;refine bF undef (fun us w'=>aY w' gw 46 (kE t {Z with r:=z} (.slice A Z.na ca) (us 13))) ?_ ?_
 .rintro _ ⟨C,y,rfl⟩;rintro _ ⟨A5,c5,rfl⟩;rintro _ ⟨j,g,rfl⟩;refine⟨aF,fun w9 hw9 Y=>?_⟩;refine aS ?_;obtain⟨f,V⟩:=Y;simp only[BX]at V;obtain⟨zo,zw,q,F⟩:=V.2.2.2.2.2.1 (by rw[E.out];kernel_rfl);have P:=aH (F.below (cA q (by rw[E.out];kernel_rfl)) F.lt);clear V f zw q F;have zc:w9.cell? (gw,42)=some (.slice D Z.deeds.length cd):=mS P 42 I;have zb:=P.frozen 42;refine aW ?_;go_simp;refine⟨⟨rfl,?_⟩,(bP _ gw 42 _).mono fun b U=>by first|exact U|exact⟨aJ,U⟩⟩
  unfold cV;rw[iP (by rw[E.out];kernel_rfl)];have x:=P.set_ 42 (.slice C L.length y);rw[OW]at x;exact x
 refine kS ?_;simp only[cM];rintro _ ⟨C,y,rfl⟩ _ ⟨A5,c5,rfl⟩ _ ⟨j,g,rfl⟩ w9 hw9 V;refine aQ ?_;refine aS ?_;simp only[BX]at V;obtain⟨wa,ka,kb,A',c',hv,hO⟩:=V.1 trivial;obtain⟨wb,kc,kd,n⟩:=V.2.2.1 trivial;obtain⟨wc,ke,kf,M⟩:=V.2.2.2.1 trivial;unfold cV at n M;rw[iP (by rw[E.out];kernel_rfl)]at n M;have zg:=hv;have zr:Value.slice C L.length y=.slice j L.length g:=n;have u:aY wc gw 46 (kE t {Z with r:=z} (.slice A Z.na ca) (.slice C L.length y)):=M;cases zg;cases zr;have O:=u.below (cA kf (by rw[E.out];kernel_rfl)) u.lt;have zx:cU w9 B 159 6 C L.length y L:=hO.kept kb fun a ha e=>by
  have:=(hO.lt a ha).1;have e':a.block=gw:=e.2;have za:=p.out;omega
 have G:=cO w tag (30+t);have N:Hid (WS w0 w9 (cG w tag (30+t)) t {Z with r:=z,deeds:=L} gw A ca C y m gm s gs):=aH (by
  have Q:∀b,cI gw b->tag b=10+t:=fun b U=>by rw[show b=gw from U];exact H.wk.tg
  refine⟨⟨O,H.wk.asks.keptT hw9 H.wk.tA (fun b U=>by rw[Q b U];omega),zx.mono (Nat.zero_le _),(G gw zy).trans H.wk.tg,H.wk.asks.tagT G H.wk.tA,fun b U=>?_⟩,H.ram.kept hw9 G (fun b U=>by rw[Q b U];omega),H.st.kept hw9 G (fun b U=>by rw[Q b U];omega),?_⟩
  .obtain⟨a,ha,rfl⟩:=U;have:=(zx.lt a ha).1;exact dT _ _ _ (by have:=p.out;omega)
  exact(H.k.trans (hw9.mono fun b U=>.inr (.inr (.inl (Q b U))))).retag (fun b U=>G b (Nat.lt_of_lt_of_le U H.k.size)))
 have HT:Hid (bI w0 tag (cG w tag (30+t))):=aH (fun b U=>G b (Nat.lt_of_lt_of_le U H.k.size));clear V hv hO n M u O zx G zk p HG zs zt ka kb kc kd ke kf c1 zl wa wb wc;obtain⟨w1,rfl⟩:=aO w9;generalize cG w tag (30+t)=zz at*;clear H hw9 zy;have zy:=N.lt;have c0:w1.cell? (gw,0)=t:=N.c 0 I;refine aW ?_;go_wp2;refine bK 21 (cI gw) [17,20] J J ?_
 iterate 5
  refine aR ?_;constructor
  .intro w9 hw9 T;go_simp
   first
   |exact aE
 first|(with_reducible refine aC (fun K X=>?_))|(refine aC (fun K X=>?_))
 refine .inl ⟨.agg (kT z),cX,?_,X _ _ _ _ ?_⟩
 .simp only[bJ,bM];refine⟨?_,fun w9 hw9 T=>?_⟩
  .first|rfl|(go_simp;done)
  refine aS ?_;have R:=cA T.1 J;have P:=aH (sW (N.below R).wk.blk);refine aW ?_;refine eG 25 _ rfl gw 9 rfl (kT z) _ P underlying25 rfl (vU _) aE
 iterate 3
  clear X K;refine aN ?_
  first|(with_reducible refine aC (fun K X=>?_))|(refine aC (fun K X=>?_))
  refine .inl ?_;apply Exists.intro;refine⟨cX,?_,X _ _ _ _ ?_⟩
  .simp only[bJ,bM];refine⟨?_,fun w9 hw9 T=>?_⟩
   .first|rfl|(go_simp;done)
   go_simp
   first
   |exact aE
 clear X K;refine aN ?_;refine aR ?_;constructor
 .intro w9 hw9 T;refine aS ?_;have q0:w9.cell? (gw,0)=t:=(N.below (cA T.1 J)).c 0 I;refine aW ?_;go_simp
  first
  |exact aE
 first|(with_reducible refine aC (fun K X=>?_))|(refine aC (fun K X=>?_))
 refine .inl ?_;apply Exists.intro;refine⟨cX,?_,X _ _ _ _ ?_⟩
 .simp only[bJ,bM];refine⟨?_,fun w9 hw9 T=>?_⟩
  .first|rfl|(go_simp;done)
  go_simp
  first
  |exact aE
  |(go_at_call 120;exact bS (zm.out _))
 iterate 6
  clear X K;refine aN ?_
  first|(with_reducible refine aC (fun K X=>?_))|(refine aC (fun K X=>?_))
  refine .inl ?_;apply Exists.intro;refine⟨cX,?_,X _ _ _ _ ?_⟩
  .simp only[bJ,bM];refine⟨?_,fun w9 hw9 T=>?_⟩
   .first|rfl|(go_simp;done)
   go_simp
   first
   |exact aE
 clear X K;refine aN ?_
 first|(with_reducible refine aC (fun K X=>?_))|(refine aC (fun K X=>?_))
 refine .inl ⟨undef,(fun _ w'=>aY w' gw 46 (kE t {Z with r:=z,deeds:=L,o1:=nV z t,o2:=nW z t} (.slice A Z.na ca) (.slice C L.length y))),?_,X _ _ _ _ ?_⟩
 .simp only[bJ,bM];refine⟨?_,fun w9 hw9 T=>?_⟩
  .first|rfl|(go_simp;done)
  refine aS ?_;have R:=cA T.1 J;have P:=aH (N.below R);have HY:Hid (w9.there gw 46 2):=aH (FD P.wk.blk I);refine aW ?_;refine dA 44 _ _ rfl gw 46 #[(nV z t),(nW z t)] rfl rfl HY J J ?_;refine⟨⟨rfl,?_⟩,(cE (S:=cI gw) (.inl rfl) 46 _).mono fun b U=>⟨aJ,U⟩⟩;have x:=aY.setCells (vs:=[.int .i64 (nV z t),.int .i64 (nW z t)]) (o:=46) P.wk.blk;rw[LE]at x;exact x
 iterate 2
  clear X K;refine aN ?_
  first|(with_reducible refine aC (fun K X=>?_))|(refine aC (fun K X=>?_))
  refine .inl ?_;apply Exists.intro;refine⟨cX,?_,X _ _ _ _ ?_⟩
  .simp only[bJ,bM];refine⟨?_,fun w9 hw9 T=>?_⟩
   .first|rfl|(go_simp;done)
   go_simp
   first
   |exact aE
 clear X K;refine aN ?_;refine bA undef (fun _ w'=>aY w' gw 46 (kE t {Z with r:=z,deeds:=L,o1:=nV z t,o2:=nW z t,wn:=nL z t} (.slice A Z.na ca) (.slice C L.length y))) ?_ ?_
 .intro w9 hw9 T;refine aS ?_;obtain⟨zo,zw,q,F⟩:=T.2.2.2.1 J;have P:=aH (F.below (cA q J) F.lt);clear T zw q F;have yz:w9.cell? (gw,48)=Z.wn:=mS P 48 I;have yy:=P.frozen 48;refine aW ?_;go_simp;refine⟨⟨rfl,?_⟩,(bP _ gw 48 _).mono fun b U=>by first|exact U|exact⟨aJ,U⟩⟩
  have x:=P.set_ 48 (nL z t);rw[RB]at x;exact x
 refine aZ ?_;rintro w9 hw9 V;refine aQ ?_;refine aS ?_;obtain⟨wc,ke,kf,M⟩:=V.1 rfl;have O:=M.below (cA kf J) M.lt;have HF:Hid (iZ w0 tag t gw gm gs ⟨m,s,{Z with r:=z,deeds:=L,o1:=nV z t,o2:=nW z t,wn:=nL z t},false⟩ w9):=aH (by
  have Q:∀b,cI gw b->zz b=10+t:=fun b U=>by rw[show b=gw from U];exact N.wk.tg
  refine WS.outT (tag:=zz) (A:=A) (ca:=ca) (D:=C) (cd:=y) ⟨⟨O,N.wk.asks.keptT hw9 N.wk.tA (fun b U=>by rw[Q b U];omega),N.wk.deeds.keptT hw9 N.wk.tD (fun b U=>by rw[Q b U];omega),N.wk.tg,N.wk.tA,N.wk.tD⟩,N.ram.kept hw9 (bI.refl _ _) (fun b U=>by rw[Q b U];omega),N.st.kept hw9 (bI.refl _ _) (fun b U=>by rw[Q b U];omega),N.k.trans (hw9.mono fun b U=>.inr (.inr (.inl (Q b U))))⟩ HT false)
 clear V hw9 ke kf M O N;refine aW ?_;go_wp2;exact bodyPost_end (v:=.tuple #[]) (by simp [results,results95,go_sem]) rfl ⟨rfl,HF.out⟩
end
theorem kY{P:Program}{fn:Func}{p q s:Tmp}{ty:TypeId}(h:fn.results= #[.tmp q,.tmp s,.cell p ty])(Z:Array Value)(w:World)(g:Nat)(t:TypeId)(cs:Array Value)(d:TypeDesc)(v u:Value)
 (V:Z.getD q undef=v) (U:Z.getD s undef=u) (T:Z.getD p undef=.pointer (some ⟨g,0,none⟩)) (S:aY w g t cs)
 (R:P.underlying ty=some d) (Q:(match d with|.struct _|.array _ _=>true|_=>false)=true) (O:(P.info? ty).map (·.size)=some cs.size):
 (results fn Z).run P w=.ok (.tuple #[v,u,.agg cs]) w:=by
 have Y:Z[p]?.getD undef=.pointer (some ⟨g,0,none⟩):=by simpa using T
 have X:Z[q]?.getD undef=v:=by simpa using V
 have W:Z[s]?.getD undef=u:=by simpa using U
 simp [results,h,Y,X,W,asAddr,run_loadVar_row w g t ty cs (0,0) d S R Q O]
theorem VB(w:World):Calls prog 168 #[] w fun e w'=>e=.returned (.agg #[.int .i64 0,.int .i64 (-1)])/\Below w.heap.size w w':=by
 go_enter func168,ntmps168
 go_wp2
 go_returns
 exact⟨rfl,by go_grown⟩
theorem OH:(prog.info? 159).map (fun i=>(i.zero,i.size,i.bytes))=some (some (.agg #[(0:Int),(0:Int),(0:Int),(0:Int),(0:Int),(0:Int)]),6,48):=J
theorem IJ:∃Z,prog.info? 159=some Z/\Z.zero=some (.agg #[(0:Int),(0:Int),(0:Int),(0:Int),(0:Int),(0:Int)])/\Z.size=6/\Z.bytes=48:=by
 have h:=OH;cases hq:prog.info? 159 with
 |none=>simp [hq]at h
 |some i=>simp [hq]at h;exact⟨i,rfl,h.1,h.2.1,h.2.2⟩
theorem qD(x y:Int):(#[x,y]:Array Value).all (·.oneCell')=true:=J
theorem DD{z':Nat->Int}{kind:Int}{C:Array Value}(h:∀i,i<17->z' i=z i)(Z:cK kind z)(x:fG P kind z C w):fG P kind z' C w:=by
 unfold fG cK at*;split
 .rename_i e;rw[iP e]at x;exact x.congrD fun i U=>h i I
 rename_i e;rw[iN e]at x Z;split
 .rename_i e6;rw[iP e6]at x;rw[h 0 I];exact x
 rename_i e6;rw[iN e6]at x Z;have V:z 0<=6:=by
  split at Z
  .exact Z.1.1
  exact Z.2.2.1
 obtain⟨A,c,Y,X,W⟩:=x;rw[h 0 I];refine⟨A,c,Y,?_,W⟩;unfold zL at*;rw[h 0 I,zH h I];exact X
def vT(P:Nat->Prop)(z:Nat->Int)(R:Array Value)(w:World):Prop:=uD R (R.extract 0 19) (nV z) (nW z) (nL z) (jA z) (z 27) (z 28)/\fG P (z 0) (oz z) (R.extract 0 19) w
theorem OY(y:Nat->Int)(t:Nat)(Z Y:Int)(Q:eE z)(O:∀i,i<32->0<=z i)(X:t<4)(U:cK (z 0) y)(W:nA Z Y)
 (T:uD R (R.extract 0 19) (tT (nV z) t Z) (tT (nW z) t Y) (tT (nL z) t (z 28+1)) (tT (jA z) t (1-jA z t)) (z 27) (z 28+1)) (S:fG P (z 0) y (R.extract 0 19) w):vT P (fT z y t Z Y) R w:=by
 refine⟨?_,?_⟩
 .rw[wR y t Z Y X,sU y t Z Y X];exact T.congr (FF y t Z Y X W) (CY y t Z Y X W) (PV y t Z Y X) (VH y t Z Y X)
 rw[LD];exact DD (fun i V=>EL y t Z Y i V) U S
theorem PH(P:Nat->Prop)(R:Array Value)(z:Nat->Int)(t:Nat)(a k v:Int)(w:World)(Y:eE z)(W:∀i,i<32->0<=z i/\z i<18446744073709551616)(h:vT P z R w)(F:R.all (·.oneCell')=true)(E:∀b,w.heap.size<=b->P b)(T:t<4)(S:gQ a k v):
 Calls prog 167 #[.agg R,t,.agg #[a,k,v]] w fun e w'=>Below w w w'/\∃Z,Z.size=37/\Z.all (·.oneCell')=true/\e=.returned (.agg Z)/\vT P (dZ z t a k v) Z w':=by
 obtain⟨V,D,C⟩:=sY Y;obtain⟨O,B,N⟩:=zC Y W S;have Q:=BT P R (oz z) (z 0) a k v (mO z a k) _ _ _ _ _ _ t w h.1 F h.2 E (fun i U=>W (1+i) I) (by rw[<-V];exact Y.1.1) S (by rw[<-V];exact QD Y a k) T ⟨(W 28 aJ).1,Y.1.2.2.1⟩ (by unfold jA;split<;>simp)
 refine Q.mono fun e w' ⟨M,Z,L,X,K,H,G⟩=>⟨M,Z,L,X,K,?_⟩
 unfold dZ dY dC dV;unfold dY dC dV at*;rw[V]at*;exact OY _ t _ _ Y (fun i U=>(W i U).1) T O N H G
def ZM(f:Nat->Nat->Int)(z:Nat->Int)(n:Nat)(w:World)(e:Ending)(w':World):Prop:=
 Below w w w'/\((∃k,k<n/\(∀j,j<k->gR (bz f z j) (f j)=0)/\gR (bz f z k) (f k)≠0/\e=.returned (.tuple #[.slice none 0 0,.slice none 0 0,.agg #[(gR (bz f z k) (f k)),k]]))\/
  ((∀j,j<n->gR (bz f z j) (f j)=0)/\∃g D A c,e=.returned (.tuple #[.slice (some ⟨g,0,none⟩) 32 32,.slice A (bd f z n).length c,.agg #[.int .i64 0,.int .i64 (-1)]])/\aY w' g 23 D/\cH D 32 (dW (bz f z n))/\w.heap.size<=g/\cU w' w.heap.size 159 6 A (bd f z n).length c (bd f z n)))
def YJ(gr:Nat)(A:Option Addr)(b:Nat):Prop:=b≠gr/\¬iI A b
def ZZ(B:Nat)(e:TypeId)(m n:Nat)(rows:List (List Value))(A0:Option Addr)(top:Nat)(v:Value)(w':World):Prop:=∃A c,v=.slice A n c/\cU w' B e m A n c rows/\∀b,iI A b->iI A0 b\/top<=b
theorem uD.ver{R:Array Value}{a v h g:Nat->Int}{ver cnt:Int}(x:uD R (R.extract 0 19) a v h g ver cnt)(n:Int):uD (R.setIfInBounds 35 [n]) ((R.setIfInBounds 35 [n]).extract 0 19) a v h g n cnt:=by
 have e:∀i,i≠35->(R.setIfInBounds 35 [n])[i]? =R[i]? :=fun i Y=>by rw[Array.getElem?_setIfInBounds,iN (fun h=>Y h.symm)]
 refine⟨by simp [x.size],rfl,fun t Z=>?_,fun t Z=>?_,fun t Z=>?_,fun t Z=>?_,?_,?_⟩
 .rw[e _ I];exact x.ac_ t Z
 .rw[e _ I];exact x.av_ t Z
 .rw[e _ I];exact x.wh_ t Z
 .rw[e _ I];exact x.tg_ t Z
 .rw[Array.getElem?_setIfInBounds,iP rfl,iP (by rw[x.size];decide)]
 rw[e _ I];exact x.cnt_
theorem WB{Z:Nat}{A:Option Addr}{b:Nat}(Y:b≠Z)(X:¬iI A b):YJ Z A b:=⟨Y,X⟩
structure TL (w:World) (gr:Nat) (f:Nat->Nat->Int) (z:Nat->Int) (k:Nat) (A:Option Addr) (c:Nat) (R:Array Value) (wr:World):Prop where
 hgr:w<gr
 fault:aY wr w 270 (2:Int)
 rcd:aY wr gr 136 R
 size:R.size=37
 one:R.all (·.oneCell')=true
 rc:vT (YJ gr A) (bz f z k) R wr
 own:cU wr (gr+1) 159 6 A (bd f z k).length c (bd f z k)
 below:Below w w wr
 right:rT (bz f z k)
 bds:∀i,i<32->0<=bz f z k i/\bz f z k i<18446744073709551616
 good:∀j,j<k->gR (bz f z j) (f j)=0
def Fp(w:World)(gr:Nat)(f:Nat->Nat->Int)(z:Nat->Int)(k:Nat)(d:Value)(wr:World):Prop:=∃R A c,d=.slice A (bd f z k).length c/\TL w gr f z k A c R wr
theorem LK(f:Nat->Nat->Int)(z:Nat->Int):∀k,(bd f z k).length<=k
 |0=>Nat.le_refl _
 |k+1=>by
  have:=LK f z k;unfold bd;split
  .simp;omega
  .omega
theorem vT.keeps{S:Nat->Prop}{w':World}(h:vT P z R w)(Z:aD S w w')(Y:∀b,P b->¬S b):vT P z R w':=⟨h.1,h.2.keeps Z Y⟩
theorem vT.below{w':World}(h:vT P z R w)(Z:Below w w w'):vT P z R w':=h.keeps (aD.of_same (S:=bN) Z) (fun _ _ h=>h)
theorem MS(A0:Option Addr)(c0:Nat)(z:Nat->Int)(A:Option Addr)(n c:Nat)(f:Nat->Nat->Int)(w:World)(h:qY w A0 32 c0 z)(hr:eE z)(hs:PQ LG w A n c f)(hn:n<=1000):
 Calls prog 149 #[.slice A0 32 c0,.slice A n c] w (ZM f z n w):=by
 have wj:=aH (fun W hW=>zB A0 c0 z true W hW ⟨fun _=>hr,fun _=>rfl⟩);have wi:=aH h;have HZ:=aH hr;have yi:=aH hs;have wh:=aH h.bd;obtain⟨i0,wv,wu,wt,ws⟩:=IJ;have wg:=aH wv;have wf:=aH wu;have we:=aH wt;have wd:=aH ws;clear h hr hs wv wu wt ws
 go_enter func149,ntmps149
 generalize hQ:bodyPost prog Tryz.f149 (ZM f z n w)=Q;have HQ:=aH hQ;clear hQ;go_wp2_with fail
 with_reducible refine(wj.out _ (wi.out.below (by go_grown))).mono ?_
 rintro e w1 ⟨xx,R,yu,zf,rfl,hT⟩;have HI:Hid ((prog.info? 136).map (·.size)=some R.size):=by show _=_;rw[mU,yu]
 have zm:=aH yu;have yh:=Lib.hid zf;have yg:=(aY.new w 270 #[.int .i64 0,.int .i64 0]).below xx (aY.new _ _ _).lt;have yf:Below w.heap.size w w1:=Below.trans (by go_grown) (xx.mono (by simp));have wc:=yg.lt;have xw:Hid (TL w w1.heap.size f z 0 none 0 R ((w1.alloc (.cells #[.int .i64 0,.slice none 0 0,.int .i64 0,.int .i64 0,.int .i64 0,.int .i64 0,.int .i64 0,.int .i64 0,.int .i64 0,.int .i64 0,.int .i64 0,.int .i64 0,.int .i64 0,.int .i64 0,.int .i64 0,.int .i64 0,.int .i64 0,.int .i64 0,.int .i64 0,.int .i64 0,.int .i64 0,.int .i64 0,.int .i64 0,.int .i64 0,.int .i64 0,.int .i64 0,.int .i64 0,.int .u64 0,.int .u64 0,.int .u64 0,.int .u64 0,.int .i64 0,.int .i64 0,.int .i64 0,.int .i64 0,.int .u64 0,.int .u64 0] 136)).setRow w1.heap.size R)):=Lib.hid (by
  have xv:=hT rfl;have wb:vT (fun b=>b<w1.heap.size) z R w1:=⟨xv.1,xv.2.inside⟩;have hK:aD (cI w1.heap.size) w1 ((w1.alloc (.cells #[.int .i64 0,.slice none 0 0,.int .i64 0,.int .i64 0,.int .i64 0,.int .i64 0,.int .i64 0,.int .i64 0,.int .i64 0,.int .i64 0,.int .i64 0,.int .i64 0,.int .i64 0,.int .i64 0,.int .i64 0,.int .i64 0,.int .i64 0,.int .i64 0,.int .i64 0,.int .i64 0,.int .i64 0,.int .i64 0,.int .i64 0,.int .i64 0,.int .i64 0,.int .i64 0,.int .i64 0,.int .u64 0,.int .u64 0,.int .u64 0,.int .u64 0,.int .i64 0,.int .i64 0,.int .i64 0,.int .i64 0,.int .u64 0,.int .u64 0] 136)).setRow w1.heap.size R):=(aD.of_same (S:=cI w1.heap.size) ((Below.refl _ _).alloc (Nat.le_refl _) _)).trans (jD _ _ _);have yp:=wb.keeps hK (fun b H he=>by have ye:b=w1.heap.size:=he;omega);exact⟨wc,(yg.alloc _).far_row (by omega) R,aY.setRow (aY.new _ _ _) R,yu,zf,⟨yp.1,yp.2.mono fun b H=>⟨by omega,fun⟨a,E,_⟩=>by cases E⟩⟩,cU.nil _ _ _ _,aL (yf.alloc yf.size _) (by omega) R,(iD.1 HZ).1,wh.out,fun j hj=>absurd hj (by omega)⟩)
 clear xx yu zf hT yg yf
 go_wp2_with (with_reducible refine fK 136 w1.heap.size R 136 #[.int .i64 0,.slice none 0 0,.int .i64 0,.int .i64 0,.int .i64 0,.int .i64 0,.int .i64 0,.int .i64 0,.int .i64 0,.int .i64 0,.int .i64 0,.int .i64 0,.int .i64 0,.int .i64 0,.int .i64 0,.int .i64 0,.int .i64 0,.int .i64 0,.int .i64 0,.int .i64 0,.int .i64 0,.int .i64 0,.int .i64 0,.int .i64 0,.int .i64 0,.int .i64 0,.int .i64 0,.int .u64 0,.int .u64 0,.int .u64 0,.int .u64 0,.int .i64 0,.int .i64 0,.int .i64 0,.int .i64 0,.int .u64 0,.int .u64 0] (by kernel_rfl) (by kernel_rfl) (aY.new _ _ _) HI.out (by rw[zm.out];kernel_rfl) yh.out ?_)
 generalize vd:w1.heap.size=X at*;clear vd
 go_loopw [9,22] (fun d i wr=>∃k:Nat,k<=n/\i=.int .i64 k/\Hid (Fp w X f z k d wr)) (fun _ i _=>n-(intOf i).toNat)
 case atStart=>exact⟨0,I,rfl,aH ⟨R,none,0,rfl,xw.out⟩⟩
 case round=>
  clear xw HI zm yh;obtain⟨k,hk,rfl,wq⟩:=hrel;obtain⟨R,A1,c1,rfl,P⟩:=wq.out;have Z:=aH P;have HI:Hid ((prog.info? 136).map (·.size)=some R.size):=by show _=_;rw[mU,P.size]
  have zm:=aH P.size;have yh:=aH P.one;have hW:=P.below;have wa:=P.hgr;have uw:=P.rcd.lt;have uv:=LK f z k;clear wq P;by_cases l:k<n
  .have q1:(k:Int)<n:=I;obtain⟨b,D,rfl,zx,T⟩:=yi.at_ I;have uz:=yi.cap;have uy:=yi.cap63;have d0:wr.cell? (b,D+k*5)=(f k 0):=(hW.cell (p:=⟨b,D+k*5,none⟩) zx).trans (T k 0 l aJ);have d1:wr.cell? (b,D+k*5+1)=(f k 1):=(hW.cell (p:=⟨b,D+k*5+1,none⟩) zx).trans (T k 1 l aJ);have d2:wr.cell? (b,D+k*5+2)=(f k 2):=(hW.cell (p:=⟨b,D+k*5+2,none⟩) zx).trans (T k 2 l aJ);have d3:wr.cell? (b,D+k*5+3)=(f k 3):=(hW.cell (p:=⟨b,D+k*5+3,none⟩) zx).trans (T k 3 l aJ);have d4:wr.cell? (b,D+k*5+4)=(f k 4):=(hW.cell (p:=⟨b,D+k*5+4,none⟩) zx).trans (T k 4 l aJ);clear T;have O:=aH (Z.rcd.alloc (.cells #[(f k 0),(f k 1),(f k 2),(f k 3),(f k 4)] 278));have K:=aH (Z.fault.alloc (.cells #[(f k 0),(f k 1),(f k 2),(f k 3),(f k 4)] 278));have zv:=aH (aY.new wr 278 #[(f k 0),(f k 1),(f k 2),(f k 3),(f k 4)]);have xu:=aH (Z.own.below (w':=wr.alloc (.cells #[(f k 0),(f k 1),(f k 2),(f k 3),(f k 4)] 278)) (by go_grown));have xt:=aH (Z.rc.below (w':=wr.alloc (.cells #[(f k 0),(f k 1),(f k 2),(f k 3),(f k 4)] 278)) (by go_grown));have x:=aH (hW.alloc hW.size (.cells #[(f k 0),(f k 1),(f k 2),(f k 3),(f k 4)] 278));by_cases L:f k 0<0\/4<=f k 0
   .
    have HE:Hid (gR (bz f z k) (f k)=2):=aH (by unfold gR;rw[iP L]);have xs:bV (f k 0) 0 3=false:=by unfold bV;rw[decide_eq_false_iff_not];omega
    clear L;generalize f k 0=x0 at*;generalize f k 1=x1 at*;generalize f k 2=x2 at*;generalize f k 3=x3 at*;generalize f k 4=x4 at*;have zu:=aH xs;clear xs;go_wp2_with fail
    with_reducible refine(bQ _ _ _ _).mono ?_
    rintro e w' ⟨rfl,rfl⟩;rw[zu.out]
    go_wp2_with (with_reducible refine fK 270 w #[(2:Int),k] 270 (2:Int) J J K.out J J (qD _ _) ?_)
    (try simp only[Exit.inBlock,Exit.then])
    rw[<-HQ.out]
    with_reducible refine bodyPost_ret (kY results149 _ _ w 270 #[(2:Int),k] _ (.slice none 0 0) (.slice none 0 0) J J J (aY.setRow K.out _) underlying270 J J) J ?_
    refine⟨aL x (Nat.le_refl _) _,.inl ⟨k,l,Z.good,?_,?_⟩⟩
    .rw[HE.out];decide
    rw[HE.out]
   obtain⟨U,o⟩:∃U:Nat,f k 0=U:=⟨(f k 0).toNat,I⟩;have v:U<4:=I;have xr:(U:Int)<4:=I;have xq:(0:Int)<=U:=I;have zu:Hid (bV (f k 0) 0 3=true):=aH (by unfold bV;rw[decide_eq_true_eq];omega);by_cases C:f k 1≠0/\f k 1≠1
   .have HE:Hid (gR (bz f z k) (f k)=1):=aH (by unfold gR;rw[iN L,iP C]);have zq:Hid (bV (f k 1) 0 1=false):=aH (by unfold bV;rw[decide_eq_false_iff_not];omega);clear L C o v xr xq;generalize f k 0=x0 at*;generalize f k 1=x1 at*;generalize f k 2=x2 at*;generalize f k 3=x3 at*;generalize f k 4=x4 at*;go_wp2_with fail
    with_reducible refine(bQ _ _ _ _).mono ?_
    rintro e w' ⟨rfl,rfl⟩;rw[zu.out];go_wp2_with fail
    with_reducible refine(bQ _ _ _ _).mono ?_
    rintro e w' ⟨rfl,rfl⟩;rw[zq.out]
    go_wp2_with (with_reducible refine fK 270 w #[(1:Int),k] 270 (2:Int) J J K.out J J (qD _ _) ?_)
    (try simp only[Exit.inBlock,Exit.then])
    rw[<-HQ.out]
    with_reducible refine bodyPost_ret (kY results149 _ _ w 270 #[(1:Int),k] _ (.slice none 0 0) (.slice none 0 0) J J J (aY.setRow K.out _) underlying270 J J) J ?_
    refine⟨aL x (Nat.le_refl _) _,.inl ⟨k,l,Z.good,?_,?_⟩⟩
    .rw[HE.out];decide
    rw[HE.out]
   have zq:Hid (bV (f k 1) 0 1=true):=aH (by unfold bV;rw[decide_eq_true_eq];omega);have cT:=(O.cell (31+U)).trans (Z.rc.1.tg_ U v);have uu:=O.lt;have zl:Hid (vF (bz f z k) (f k)=decide (jA (bz f z k) U≠f k 1)):=aH (by unfold vF;rw[o];simp);have zp:=zl.out;by_cases B:jA (bz f z k) U=f k 1
   .
    have N:vF (bz f z k) (f k)=false:=by rw[zp];simp [B]
    have HN:Hid (TL w X f z (k+1) A1 c1 R wr):=aH ⟨Z.hgr,Z.fault,Z.rcd,Z.size,Z.one,by unfold bz sD;rw[N];exact Z.rc,by unfold bd;rw[N];exact Z.own,Z.below,by unfold bz sD;rw[N];exact Z.right,by unfold bz sD;rw[N];exact Z.bds,fun j hj=>by
     rcases Nat.lt_or_ge j k with h|h
     .exact Z.good j h
     obtain rfl:j=k:=I;unfold gR;rw[iN L,iN C,iP (by rw[o,Int.toNat_natCast];exact B)]⟩
    have HL:Hid ((bd f z (k+1)).length=(bd f z k).length):=aH (by rw[bd,iN (by rw[N];exact Bool.false_ne_true)]);have eT:(jA (bz f z k) U==f k 1)=true:=by simpa using B
    clear N L C B zp zl;generalize f k 0=x0 at*;subst o;generalize jA (bz f z k) U=tg at*;generalize f k 1=x1 at*;generalize f k 2=x2 at*;generalize f k 3=x3 at*;generalize f k 4=x4 at*;generalize(bd f z k).length=dn at*;go_wp2_with fail
    with_reducible refine(bQ _ _ _ _).mono ?_
    rintro e w' ⟨rfl,rfl⟩;rw[zu.out];go_wp2_with fail
    with_reducible refine(bQ _ _ _ _).mono ?_
    rintro e w' ⟨rfl,rfl⟩;rw[zq.out];go_wp2;refine aA 8 ?_
    iterate 8
     first
     |(refine aR1 ?_;constructor
       .intro w9 hw9 hc9 hf9;go_simp
        first
        |exact aE)
     |refine aU ?_
    refine bZ ?_;intro w9 hw9 hc9 hf9;simp only[List.drop_succ_cons,List.drop_zero,List.drop];have yd:Hid (TL w X f z (k+1) A1 c1 R w9):=aH (by
     have H:Below wr wr w9:=Below.trans (by go_grown) (hw9.same.mono (by simp));exact⟨HN.hgr,HN.fault.below H HN.fault.lt,HN.rcd.below H HN.rcd.lt,HN.size,HN.one,HN.rc.below H,HN.own.below H,HN.below.trans (H.mono HN.below.size),HN.right,HN.bds,HN.good⟩)
    clear hc9 hf9 hw9;go_wp2;go_roundw
    case rel=>exact⟨k+1,I,aG,aH ⟨R,A1,c1,by rw[HL.out],yd.out⟩⟩
    case measure=>simp [intOf];omega
   have N:vF (bz f z k) (f k)=true:=by rw[zp];simp [B]
   have eT:(jA (bz f z k) U==f k 1)=false:=by simpa using B
   have zt:=(O.cell 36).trans Z.rc.1.cnt_;have y:¬jA (bz f z k) (f k 0).toNat=f k 1:=by rw[o,Int.toNat_natCast];exact B
   cases hor:cB (f k 2) (f k 3) (f k 4)
   .have HE:Hid (gR (bz f z k) (f k)=1):=aH (by unfold gR;rw[iN L,iN C,iN y,iP (.inl hor)]);have zk:=aH hor;clear N L C B y zp zl hor zt;generalize f k 0=x0 at*;subst o;generalize jA (bz f z k) U=tg at*;generalize f k 1=x1 at*;generalize f k 2=x2 at*;generalize f k 3=x3 at*;generalize f k 4=x4 at*;go_wp2_with fail
    with_reducible refine(bQ _ _ _ _).mono ?_
    rintro e w' ⟨rfl,rfl⟩;rw[zu.out];go_wp2_with fail
    with_reducible refine(bQ _ _ _ _).mono ?_
    rintro e w' ⟨rfl,rfl⟩;rw[zq.out];go_wp2;refine aA 8 ?_
    iterate 8
     first
     |(refine aR1 ?_;constructor
       .intro w9 hw9 hc9 hf9;go_simp
        first
        |exact aE)
     |refine aU ?_
    refine bZ ?_;intro w9 hw9 hc9 hf9;simp only[List.drop_succ_cons,List.drop_zero,List.drop];have t:=aH (K.below hw9.same K.lt);have s:=aH (O.below hw9.same O.lt);have Y:=zv.below hw9.same zv.lt;have r:=aH (x.trans (hw9.same.mono x.size));have k0:=Y.cell 0;have k2:=Y.cell 2;have k3:=Y.cell 3;have k4:=Y.cell 4;simp only[List.getElem?_toArray,List.getElem?_cons_zero,List.getElem?_cons_succ]at k0 k2 k3 k4;have xp:=Y.lt;clear hc9 hf9 hw9 Y cT;go_wp2_with fail
    with_reducible refine(eK x2 x3 x4 _).mono ?_
    rintro e w2 ⟨rfl,V⟩;rw[zk.out];have M:=aH (t.below V t.lt);have q:=aH (r.trans (V.mono r.size));clear V
    go_wp2_with (with_reducible refine fK 270 w #[(1:Int),k] 270 (2:Int) J J M.out J J (qD _ _) ?_)
    (try simp only[Exit.inBlock,Exit.then])
    rw[<-HQ.out]
    with_reducible refine bodyPost_ret (kY results149 _ _ w 270 #[(1:Int),k] _ (.slice none 0 0) (.slice none 0 0) J J J (aY.setRow M.out _) underlying270 J J) J ?_
    refine⟨aL q (Nat.le_refl _) _,.inl ⟨k,l,Z.good,?_,?_⟩⟩
    .rw[HE.out];decide
    rw[HE.out]
   by_cases zn:1099511627776<bz f z k 28
   .have HE:Hid (gR (bz f z k) (f k)=1):=aH (by unfold gR;rw[iN L,iN C,iN y,iP (.inr zn)]);have zk:=aH hor;clear N L C B y zp zl hor;generalize f k 0=x0 at*;subst o;generalize jA (bz f z k) U=tg at*;generalize yz:bz f z k 28=vb at zt zn;clear yz;generalize f k 1=x1 at*;generalize f k 2=x2 at*;generalize f k 3=x3 at*;generalize f k 4=x4 at*;go_wp2_with fail
    with_reducible refine(bQ _ _ _ _).mono ?_
    rintro e w' ⟨rfl,rfl⟩;rw[zu.out];go_wp2_with fail
    with_reducible refine(bQ _ _ _ _).mono ?_
    rintro e w' ⟨rfl,rfl⟩;rw[zq.out];go_wp2;refine aA 8 ?_
    iterate 8
     first
     |(refine aR1 ?_;constructor
       .intro w9 hw9 hc9 hf9;go_simp
        first
        |exact aE)
     |refine aU ?_
    refine bZ ?_;intro w9 hw9 hc9 hf9;simp only[List.drop_succ_cons,List.drop_zero,List.drop];have t:=aH (K.below hw9.same K.lt);have s:=aH (O.below hw9.same O.lt);have Y:=zv.below hw9.same zv.lt;have r:=aH (x.trans (hw9.same.mono x.size));have zz:=(hw9.same.cell (p:=⟨X,36,none⟩) O.lt).trans zt;clear zt;have k0:=Y.cell 0;have k2:=Y.cell 2;have k3:=Y.cell 3;have k4:=Y.cell 4;simp only[List.getElem?_toArray,List.getElem?_cons_zero,List.getElem?_cons_succ]at k0 k2 k3 k4;have xp:=Y.lt;clear hc9 hf9 hw9 Y cT;go_wp2_with fail
    with_reducible refine(eK x2 x3 x4 _).mono ?_
    rintro e w2 ⟨rfl,V⟩;rw[zk.out];have M:=aH (t.below V t.lt);have q:=aH (r.trans (V.mono r.size));have zj:=(V.cell (p:=⟨X,36,none⟩) s.lt).trans zz;have xo:=Nat.lt_of_lt_of_le s.lt V.size;clear V zz
    go_wp2_with (with_reducible refine fK 270 w #[(1:Int),k] 270 (2:Int) J J M.out J J (qD _ _) ?_)
    (try simp only[Exit.inBlock,Exit.then])
    rw[<-HQ.out]
    with_reducible refine bodyPost_ret (kY results149 _ _ w 270 #[(1:Int),k] _ (.slice none 0 0) (.slice none 0 0) J J J (aY.setRow M.out _) underlying270 J J) J ?_
    refine⟨aL q (Nat.le_refl _) _,.inl ⟨k,l,Z.good,?_,?_⟩⟩
    .rw[HE.out];decide
    rw[HE.out]
   have ho:=eN.1 hor;have yy:=iD.2 ⟨Z.right,I⟩;have vz:decide (1099511627776<bz f z k 28)=false:=by simpa using zn
   have vy:=aH (fun W hP hT=>PH (YJ X A1) R (bz f z k) U (f k 2) (f k 3) (f k 4) W yy Z.bds hT Z.one hP v ho);have xn:Hid (bz f z (k+1)=dZ (bz f z k) U (f k 2) (f k 3) (f k 4)):=aH (by rw[bz,sD,iP N,o,Int.toNat_natCast]);have xm:Hid (bd f z (k+1)=bd f z k++[uP (bz f z k) (f k)]):=aH (by rw[bd,iP N]);have yc:Hid (uP (bz f z k) (f k)=[.int .i64 (f k 0),.int .i64 (f k 2),.int .i64 (f k 3),.int .i64 (f k 4),.int .i64 (dC (bz f z k) (f k 2) (f k 3) (f k 4)),.int .i64 (dV (bz f z k) (f k 2) (f k 3) (f k 4))]):=aH rfl;obtain⟨_,_,ze⟩:=zC yy Z.bds ho;have vx:Hid (nV (dZ (bz f z k) U (f k 2) (f k 3) (f k 4)) U=dC (bz f z k) (f k 2) (f k 3) (f k 4)):=aH (by unfold dZ;rw[FF _ _ _ _ v ze _ v];simp [tT]);have vw:Hid (nW (dZ (bz f z k) U (f k 2) (f k 3) (f k 4)) U=dV (bz f z k) (f k 2) (f k 3) (f k 4)):=aH (by unfold dZ;rw[CY _ _ _ _ v ze _ v];simp [tT]);have yb:Hid (rT (bz f z (k+1))/\(∀i,i<32->0<=bz f z (k+1) i/\bz f z (k+1) i<18446744073709551616)/\∀j,j<k+1->gR (bz f z j) (f j)=0):=aH (by
    have he:gR (bz f z k) (f k)=0:=by
     unfold gR;rw[iN L,iN C,iN y,iN (fun h=>h.elim (fun h=>by rw[hor]at h;cases h) zn)]
    refine⟨by rw[bz];exact wV Z.right Z.bds he,fun i hi=>?_,fun j hj=>?_⟩
    .rw[xn.out];exact ZT yy Z.bds ho i hi
    rcases Nat.lt_or_ge j k with h|h
    .exact Z.good j h
    obtain rfl:j=k:=I;exact he)
   have zk:=aH hor;have ut:=aH zn;clear N L C B y zp zl hor ho yy ze;generalize dC (bz f z k) (f k 2) (f k 3) (f k 4)=co at*;generalize dV (bz f z k) (f k 2) (f k 3) (f k 4)=va at*;generalize dZ (bz f z k) U (f k 2) (f k 3) (f k 4)=z' at*;generalize f k 0=x0 at*;subst o;generalize jA (bz f z k) U=tg at*;generalize yz:bz f z k 28=vb at zt vz;clear yz zn;generalize f k 1=x1 at*;generalize f k 2=x2 at*;generalize f k 3=x3 at*;generalize f k 4=x4 at*;have xl:Hid ((bd f z (k+1)).length=(bd f z k).length+1):=aH (by rw[xm.out];simp);generalize yq:(bd f z k).length=dn at*;clear yq;go_wp2_with fail
   with_reducible refine(bQ _ _ _ _).mono ?_
   rintro e w' ⟨rfl,rfl⟩;rw[zu.out];go_wp2_with fail
   with_reducible refine(bQ _ _ _ _).mono ?_
   rintro e w' ⟨rfl,rfl⟩;rw[zq.out];go_wp2;refine aA 8 ?_
   iterate 8
    first
    |(refine aR1 ?_;constructor
      .intro w9 hw9 hc9 hf9;go_simp
       first
       |exact aE)
    |refine aU ?_
   refine bZ ?_;intro w9 hw9 hc9 hf9;simp only[List.drop_succ_cons,List.drop_zero,List.drop];have t:=aH (K.below hw9.same K.lt);have s:=aH (O.below hw9.same O.lt);have Y:=zv.below hw9.same zv.lt;have r:=aH (x.trans (hw9.same.mono x.size));have zz:=(hw9.same.cell (p:=⟨X,36,none⟩) O.lt).trans zt;clear zt;have xk:=aH (xt.below hw9.same);have xj:=aH (xu.below hw9.same);have ya:=aH Y;have k0:=Y.cell 0;have k2:=Y.cell 2;have k3:=Y.cell 3;have k4:=Y.cell 4;simp only[List.getElem?_toArray,List.getElem?_cons_zero,List.getElem?_cons_succ]at k0 k2 k3 k4;have xp:=Y.lt;clear hc9 hf9 hw9 Y cT;go_wp2_with fail
   with_reducible refine(eK x2 x3 x4 _).mono ?_
   rintro e w2 ⟨rfl,V⟩;rw[zk.out];have M:=aH (t.below V t.lt);have zi:=Lib.hid (s.below V s.lt);have zy:=Lib.hid (ya.below V ya.lt);have vv:=Lib.hid (xk.below V);have zh:=Lib.hid (xj.below V);have q:=Lib.hid (r.trans (V.mono r.size));have zj:=(V.cell (p:=⟨X,36,none⟩) s.lt).trans zz;have xo:=Nat.lt_of_lt_of_le s.lt V.size;have ux:=zy.lt;have k0:=zy.cell 0;have k2:=zy.cell 2;have k3:=zy.cell 3;have k4:=zy.cell 4;simp only[List.getElem?_toArray,List.getElem?_cons_zero,List.getElem?_cons_succ]at k0 k2 k3 k4;clear V zz ya t s r xk xj zv K O x xt xu
   go_wp2_with (with_reducible refine lL 136 X 136 R (by kernel_rfl) zi.out underlying136 (by kernel_rfl) HI.out ?_)
   have vu:∀b,w2.heap.size<=b->YJ X A1 b:=fun b H=>WB (by omega) (fun G=>by
    obtain⟨a,E,hq⟩:=G;have:=(zh.lt a E).2;omega)
   with_reducible refine(vy.out _ vu vv.out).mono ?_
   rintro e w3 ⟨F,R',zd,zc,rfl,wp⟩;have vt:Hid ((prog.info? 136).map (·.size)=some R'.size):=by show _=_;rw[mU,zd]
   have yo:=aH zd;have yn:=aH zc;have vs:w≠X:=I;have vr:wr≠X:=I;have xi:=aH (zi.below F zi.lt);have xh:=aH ((M.below F M.lt).far_row vs R');have zo:=(zy.below F zy.lt).far_row vr R';have yx:=aH (wp.keeps (jD w3 X R') (fun b H he=>H.1 he));have xg:Hid (cU (w3.setRow X R') (X+1) 159 6 A1 dn c1 (bd f z k)):=aH ((zh.below F).kept (jD w3 X R') (fun a E he=>by have:=(zh.lt a E).1;have ye:a.block=X:=he;omega));have zg:=aH (aY.setRow xi R');have xf:=aH (aL (q.trans (F.mono q.size)) (show w<=X by omega) R');clear F zd zc wp k0 k2 k3 k4 zj;have k0:=zo.cell 0;have k2:=zo.cell 2;have k3:=zo.cell 3;have k4:=zo.cell 4;simp only[List.getElem?_toArray,List.getElem?_cons_zero,List.getElem?_cons_succ]at k0 k2 k3 k4;have xe:19+U*2=19+2*U:=I;have xd:19+U*2+1=20+2*U:=I;have a1:(w3.setRow X R').cell? (X,19+U*2)=co:=by rw[zg.cell,xe,yx.out.1.ac_ U v,vx.out]
   have a2:(w3.setRow X R').cell? (X,19+U*2+1)=va:=by rw[zg.cell,xd,yx.out.1.av_ U v,vw.out]
   clear xe xd;have zs:=zo.lt;have ym:=zg.lt;clear zo;have yw:Hid (¬iI A1 wr):=aH (fun G=>by obtain⟨a,E,hq⟩:=G;have:=(Z.own.lt a E).2;omega);have xz:Hid (¬iI A1 X):=aH (fun G=>by obtain⟨a,E,hq⟩:=G;have:=(Z.own.lt a E).1;omega);have vq:Hid (¬iI A1 w):=aH (fun G=>by obtain⟨a,E,hq⟩:=G;have:=(Z.own.lt a E).1;omega)
   go_wp2_with (with_reducible refine fK 136 X R' 136 R J J xi.out vt.out (by rw[zm.out,yo.out]) yn.out ?_)
   generalize vc:w3.setRow X R'=w4 at*;clear vc;generalize ug:wr.heap.size=ga at*;refine bK 13 (iI A1) [12] J J ?_
   iterate 11
    refine aR ?_;constructor
    .intro w9 hw9 _;have us:=(hw9.cell (p:=⟨ga,0,none⟩) zs yw).trans k0;have ur:=(hw9.cell (p:=⟨ga,2,none⟩) zs yw).trans k2;have uq:=(hw9.cell (p:=⟨ga,3,none⟩) zs yw).trans k3;have up:=(hw9.cell (p:=⟨ga,4,none⟩) zs yw).trans k4;have uo:=(hw9.cell (p:=⟨X,19+U*2,none⟩) ym xz).trans a1;have un:=(hw9.cell (p:=⟨X,19+U*2+1,none⟩) ym xz).trans a2;go_simp
     first
     |exact aE
   refine bC CK (DM 159 (uP (bz f z k) (f k))) ⟨_,0,rfl⟩ ?_ ?_
   .intro w9 hw9 m;rw[yc.out];go_simp;exact⟨⟨⟨_,rfl⟩,⟨_,rfl,aY.new _ _ _⟩⟩,aD.of_same ((Below.refl _ _).alloc (Nat.le_refl _) _)⟩
   refine bD (DN (dn+1)) (ZZ (X+1) 159 6 (dn+1) (bd f z (k+1)) A1 w4) ⟨_,none,0,rfl⟩ ?_ ?_
   .rintro _ ⟨g9,rfl⟩;refine⟨aF,fun w9 hw9 m=>?_⟩;have yv:=m;have zr:=m.2;clear m;obtain⟨w0,wo,yt,g',hv,yk⟩:=zr.1 J;cases hv;have um:=hw9.size;have xy:=yk.below (cA yt J) yk.lt;have xc:=Aq yv.1 J;refine iM (.tmp 64) (.tmp 75) rfl underlying41 wg wf we wd rfl aJ aJ (A:=A1) (n:=dn) (c:=c1) (rows:=bd f z k) rfl (xg.kept xc (fun _ _ h=>h)) (g:=g9) (c':=1) rfl (ys:=uP (bz f z k) (f k)) (by rw[yc.out];rfl) ?_ ?_ I I ?_
    .intro j hj;rw[xy.cell j];simp
    .intro u hu;rw[yc.out]at hu;simp only[List.mem_cons,List.not_mem_nil,or_false]at hu;rcases hu with rfl|rfl|rfl|rfl|rfl|rfl<;>rfl
    intro g' uh w' ho vg yr;refine⟨⟨⟨_,_,rfl⟩,⟨_,_,rfl,by rw[xm.out];exact ho,?_⟩⟩,vg.mono fun b H=>⟨aJ,H⟩⟩;rintro b ⟨a,E,rfl⟩;cases E;rcases yr with⟨a,E,hq⟩|hq
    .exact .inl ⟨a,E,hq⟩
    exact .inr (by show w4<=g';omega)
   refine aZ ?_;rintro _ ⟨A9,c9,rfl⟩ _ ⟨g9,rfl⟩ w9 hw9 zr;refine aQ ?_;obtain⟨w0,wo,yt,A8,c8,vf,yj,yr⟩:=zr.2.1 rfl;cases vf;have yl:=yx.keeps hw9 (fun b H he=>H.2 he);have yd:Hid (TL w X f z (k+1) A9 c9 R' w9):=aH (by
    refine⟨wa,(hw9.block _ xh.lt vq).trans xh,(hw9.block _ zg.lt xz).trans zg,yo.out,yn.out,?_,by rw[xl.out];exact yj.below (cA yt J),?_,yb.out.1,yb.out.2.1,yb.out.2.2⟩
    .rw[xn.out];have vp:=yx.out.2.insideP;exact⟨yl.1,(fG.keeps vp hw9 (fun b H he=>H.1.2 he)).mono fun b H=>⟨H.1.1,fun G=>by
      rcases yr b G with h|h
      .exact H.1.2 h
      have:=H.2;omega⟩⟩
    exact xf.trans (hw9.below xf.size (fun b H G=>by obtain⟨a,E,hq⟩:=G;have:=(xg.lt a E).1;omega)))
   clear zr yj wo yt yl yr hw9;go_wp2;go_roundw
   case rel=>exact⟨k+1,I,aG,aH ⟨R',A9,c9,by rw[xl.out],yd.out⟩⟩
   case measure=>simp [intOf];omega
  obtain rfl:k=n:=I;have q1:¬(k:Int)<k:=I;have hL:=Z.right;obtain⟨wn,k1,k6⟩:=zG hL;have ul:=Z.bds 27 I;have xb:=Z.bds 28 I;have uk:=hL.2.2.2.1;have HU:Hid (∀i,i<32->iW (bz f z k 0) (oz (bz f z k)) (nV (bz f z k)) (nW (bz f z k)) (nL (bz f z k)) (jA (bz f z k)) (bz f z k 27+1) (bz f z k 28) i=dW (bz f z k) i):=aH (fun i hi=>II hL (fun i hi=>(Z.bds i hi).1) i hi);have uj:=(Z.rcd.cell 35).trans Z.rc.1.ver_;have ui:=Z.rcd.frozen 35;obtain⟨R2,zb⟩:=aO (R.setIfInBounds 35 [bz f z k 27+1]);have xa:R2.size=37:=by rw[zb];simp [zm.out]
  have vo:Hid ((prog.info? 136).map (·.size)=some R2.size):=by show _=_;rw[mU,xa]
  have zi:Hid (aY (wr.setCell (X,35) [bz f z k 27+1]) X 136 R2):=aH (by rw[zb];exact Z.rcd.set_ 35 _);have zy:Hid (aD (cI X) wr (wr.setCell (X,35) [bz f z k 27+1])):=aH (bP _ _ _ _);have vn:Hid (jE (bz f z k 0) (oz (bz f z k)) (R2.extract 0 19) (wr.setCell (X,35) [bz f z k 27+1])):=aH (by
   rw[zb,iO I];exact(Z.rc.2.keeps (bP _ _ _ _) (fun b H he=>H.1 he)).weak)
  have vm:Hid (uD R2 (R2.extract 0 19) (nV (bz f z k)) (nW (bz f z k)) (nL (bz f z k)) (jA (bz f z k)) (bz f z k 27+1) (bz f z k 28)):=aH (by
   have hx:=uD.ver Z.rc.1 (bz f z k 27+1);rw[<-zb]at hx;exact hx)
  have vl:=aH (fun W hT=>uC R2 _ _ _ _ _ _ _ (bz f z k 0) (oz (bz f z k)) W vm I (fun i hi=>(Z.bds (1+i) I).1) (by rw[<-wn];exact hL.1) hT (fun u hu=>Z.bds (22+u) I) I xb);have M:=aH (aY.far Z.fault (p:=⟨X,35,none⟩) (show w≠X by omega) [bz f z k 27+1]);have zh:=aH ((Z.own).kept (bP wr X 35 [bz f z k 27+1]) (fun a E he=>by have:=(Z.own.lt a E).1;have ye:a.block=X:=he;omega));have q:Hid (Below w w (wr.setCell (X,35) [bz f z k 27+1])):=aH (hW.setCell (p:=⟨X,35,none⟩) (show w<=X by omega) _);have u1:(bz f z k 27+1)%18446744073709551616=bz f z k 27+1:=I;have u2:IntKind.u64.wrap (bz f z k 27+1)=bz f z k 27+1:=IntWalk.u64_in _ I;clear hL wn k1 k6 zb xa xb;generalize iW (bz f z k 0) (oz (bz f z k)) (nV (bz f z k)) (nW (bz f z k)) (nL (bz f z k)) (jA (bz f z k)) (bz f z k 27+1) (bz f z k 28)=zw at*;generalize wk:bz f z k 27=uf at*;clear wk;generalize yq:(bd f z k).length=dn at*
  go_wp2_with (with_reducible refine lL 136 X 136 R2 J zi.out underlying136 J vo.out ?_)
  with_reducible refine(vl.out _ vn.out).mono ?_
  rintro e w3 ⟨g3,D3,rfl,wm,wl,ve,F⟩;have wU:=aH (M.below F M.lt);have vk:=aH (zh.below F);have wI:=aH (q.trans (F.mono q.size));have wz:Hid (w.heap.size+1<=g3):=Lib.hid (by have:=M.lt;omega);have wy:=Lib.hid wm;have vj:=Lib.hid wl;clear F wm wl ve;go_wp2_with fail
  with_reducible refine(VB _).mono ?_
  rintro e w5 ⟨rfl,za⟩;have wx:=Lib.hid (wU.below za wU.lt);have ww:=Lib.hid (vk.below za);have vi:=Lib.hid (wI.trans (za.mono wI.size));have vh:=Lib.hid (wy.below za wy.lt);clear za
  go_wp2_with (with_reducible refine fK 270 w.heap.size #[.int .i64 0,.int .i64 (-1)] 270 #[.int .i64 0,.int .i64 0] (by kernel_rfl) (by kernel_rfl) wx.out (by kernel_rfl) (by kernel_rfl) (by kernel_rfl) ?_)
  (try simp only[Exit.inBlock,Exit.then])
  rw[<-HQ.out]
  with_reducible refine bodyPost_ret (kY results149 _ _ w.heap.size 270 #[.int .i64 0,.int .i64 (-1)] _ (.slice (some ⟨g3,0,none⟩) 32 32) (.slice A1 dn c1) (by kernel_rfl) (by kernel_rfl) (by kernel_rfl) (aY.setRow wx.out _) underlying270 (by kernel_rfl) (by kernel_rfl)) (by kernel_rfl) ?_
  refine⟨aL vi (Nat.le_refl _) _,.inr ⟨Z.good,g3,D3,A1,c1,by rw[yq],vh.far_row (by have:=wz.out;omega) _,vj.congr (fun i hi=>(HU.out i hi).symm),by have:=wz.out;omega,?_⟩⟩;rw[yq];exact(ww.kept (jD _ _ _) (fun a E he=>by have:=(ww.lt a E).1;have ye:a.block=w:=he;omega)).mono I
