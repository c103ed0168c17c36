/-
  Parts of a proof. For all values.
-/
import Derived.Test.YtplpimkgihnmhaaGreatDoorA31
set_option maxRecDepth 100000
set_option maxHeartbeats 4000000
set_option linter.all false
namespace Go.Proofs.YtplpimkgihnmhaaGreatDoor
open Go.Proofs.Tryz Go.RowKit
section
open Go.Maps
attribute [local go_sem↓] Go.wp_at_zero Go.wp_at_succ
theorem aCe(w:World):(zeroValue 41).run prog w=.ok (.slice none 0 0) w:=J
theorem KO.look{w:World}{tag:Nat->Nat}{go n:Nat}{Y:Nat->List (List Value)}(h:KO w tag go n Y)(v:Nat)(R:v<18446744073709551616):
 ∃A c,(Instr.lookup 66 (.map (some go)) [v] false).run prog w=.ok (.slice A (Y v).length c) w/\cU w 0 159 6 A (Y v).length c (Y v)/\∀b,iI A b->tag b=105:=by
 obtain⟨_,D,X,W⟩:=h;obtain⟨A,c,V,U,T⟩:=W v;obtain⟨u,Q,S,Z⟩:=X.lookup YV underlying66 (aCe w) (zd:=.held (.slice none 0 0)) (zp:=[]) rfl (Ab v R);rw[V]at Z;refine⟨A,c,?_,U,T⟩;unfold yG at Z;simp only[Option.some.injEq,Prod.mk.injEq,DataW.held.injEq]at Z;rw[S,Z.1]
def bU(of:Nat->List (List Value))(k:Nat):List (List Value):=((List.range k).map fun u=>of (u+1)).flatten
theorem IT(Z:Nat->List (List Value))(k:Nat):bU Z (k+1)=bU Z k++Z (k+1):=by
 unfold bU;rw[List.range_succ,List.map_append,List.flatten_append];simp
theorem KF{N:Nat}{F:pH}(Z:lM N F):∀k,k<=F.V->(bU F.of k).length<=4*k
 |0,_=>by simp [bU]
 |k+1,hk=>by
  rw[IT,List.length_append];have h1:=KF Z k I;have Y:=(Z.of_ (k+1) I hk).1;omega
section
variable{w:World}{tag:Nat->Nat}{F:pH}{p gs mp go:Nat}{pt:Nat->Nat}{N:Nat}
theorem aAM(h:kK w tag F p gs go pt)(Z:lM N F)(hN:N<=100000000):
 Calls prog 37 #[(p,0)] w fun e w'=>∃A c,e=.returned (.slice A (aB F.of F.V).length c)/\cU w' w 159 6 A (aB F.of F.V).length c ((aB F.of F.V).map (·.2))/\Below w w w':=by
 have Y:(aB F.of F.V).map (·.2)=bU F.of F.V:=rY _ _;have Q:(aB F.of F.V).length=(bU F.of F.V).length:=by rw[<-Y,List.length_map]
 rw[Y,Q];clear Y Q;have hV:F.V<=100000000:=by have:=Z.ver;have:=Z.stp;omega
 have i:=aH (fun k hk=>KF Z k hk);have P:Hid (∀k,1<=k->k<=F.V->∀r∈F.of k,∀u∈r,u.oneCell'=true):=aH (fun k h1 h2 r S=>CI ((Z.of_ k h1 h2).2 r S));have O:=aH (fun W (hW:kK W tag F p gs go pt)=>Ou hW Z);have HR:=aH h;obtain⟨i0,K,G,E,D⟩:=JV;have HI:=aH K;have HZ:=aH G;have HS:=aH E;have HY:=aH D;clear h Z K G E D;obtain⟨V,T⟩:=aO F.V;rw[<-T]at hV i P O⊢;have zy:=aH T;clear T
 go_enter func37,ntmps37
 go_wp2;obtain⟨R,rfl⟩:=aO (w:World)
 go_loopw [3,4] (fun l v wr=>∃k:Nat,k<=V/\v=.int .u64 ((k:Int)+1)/\Below R R wr/\Hid (∃A c,l=.slice A (bU F.of k).length c/\cU wr R 159 6 A (bU F.of k).length c (bU F.of k))) (fun _ v _=>V+1-(intOf v).toNat)
 case atStart=>exact⟨0,I,rfl,Below.refl _ _,aH ⟨none,0,rfl,cU.nil _ _ _ _⟩⟩
 case round=>
  obtain⟨k,hk,rfl,C,B⟩:=hrel;obtain⟨A1,c1,rfl,ho⟩:=B.out;have q:=aH ho;clear B ho;have U:=aH (HR.below C);have M:=aH (O.out wr U);by_cases zw:k<V
  .have q1:((k:Int)+1)<=V:=I;obtain⟨n,mp,H,ch,hn,S⟩:=U.out;have zx:wr.cell? (p,23)=some (.map (some go)):=by rw[S.sh.cell,Bl]
   have hp:=S.sh.lt;obtain⟨A2,c2,z,y,_⟩:=S.om.look (k+1) I;rw[show(((k+1:Nat):Int))=(k:Int)+1 by omega]at z;have g:=aH y.slr;have f:=aH (P.out (k+1) I I);have a:Hid (bU F.of (k+1)=bU F.of k++F.of (k+1)):=aH (IT _ _);have L:Hid ((bU F.of k).length+(F.of (k+1)).length=(bU F.of (k+1)).length):=aH (by rw[a.out,List.length_append]);have zz:=i.out (k+1) I;have o:=L.out;clear S y hn U;go_wp2_with fail
   with_reducible refine M.out.mono ?_
   rintro e w1 ⟨rfl,rfl⟩
   go_wp2_with (refine pY (.tmp 11) (.tmp 17) rfl rfl underlying41 HI HZ HS HY rfl aJ aJ (A:=A1) (n:=(bU F.of k).length) (c:=c1) (rows:=bU F.of k) rfl q (X:=A2) (k:=(F.of (k+1)).length) (d:=c2) (xs:=F.of (k+1)) rfl g f I C.size ?_;rintro A3 c3 w3 x t s)
   have m:Hid (cU w3 R 159 6 A3 (bU F.of (k+1)).length c3 (bU F.of (k+1))):=aH (by rw[<-L.out,a.out];exact x);have j:Below R R w3:=C.trans (t.below C.size (fun b hb e=>by have:=q.high e;omega));clear x t s z g f;go_wp2;go_roundw
   case rel=>exact⟨k+1,I,aG,j,aH ⟨_,_,rfl,m.out⟩⟩
   case measure=>simp [intOf];omega
  obtain rfl:k=V:=I;have q1:¬((k:Int)+1)<=k:=I;go_wp2_with fail
  with_reducible refine M.out.mono ?_
  rintro e w1 ⟨rfl,rfl⟩;go_wp2;go_ret;exact⟨A1,c1,rfl,q.out,C⟩
theorem aBv:(prog.info? 23).map (fun i=>(i.zero,i.size,i.bytes))=some (some (.int .u64 0),1,8):=J
theorem aBN:∃Z,prog.info? 23=some Z/\Z.zero=some (.int .u64 0)/\Z.size=1/\Z.bytes=8:=by
 have h:=aBv;cases hq:prog.info? 23 with
 |none=>simp [hq]at h
 |some i=>simp [hq]at h;exact⟨i,rfl,h.1,h.2.1,h.2.2⟩
def CP(z:Nat->Int):List (List Value):=(List.range 32).map fun i=>[.int .u64 (z i)]
theorem Gc(z:Nat->Int){i:Nat}(h:i<32):(CP z)[i]? =some [.int .u64 (z i)]:=by simp [CP,h]
theorem Eo(z:Nat->Int):∀r∈CP z,∃x,r=[.int .u64 x]:=fun r Z=>by
 simp only[CP,List.mem_map]at Z;obtain⟨i,_,rfl⟩:=Z;exact⟨_,rfl⟩
theorem cU.slu{W:World}{B:Nat}{A:Option Addr}{c:Nat}(h:cU W B 23 1 A 32 c (CP F.rcd))(U:∀i,i<32->0<=F.rcd i/\F.rcd i<18446744073709551616):qY W A 32 c F.rcd:=
 ⟨h.slr.cap,h.slr.cap63,U,fun T=>by
  obtain⟨b,Z,rfl,Y,X⟩:=h.slr.at_ aJ;refine⟨b,Z,rfl,Y,fun i V=>?_⟩;have:=X i _ (Gc _ V) 0 _ rfl;simpa using this⟩
theorem Jy(h:kK w tag F p gs go pt)(S:lM N F)(hN:N<=100000000):
 Calls prog 40 #[(p,0)] w fun e w'=>∃A c,e=.returned (.slice A 32 c)/\qY w' A 32 c F.rcd/\Below w w w':=by
 obtain⟨n,mp,H,ch,hn,Z⟩:=h;have HR:=aH Z;have c0:w.cell? (p,0)=(gs,0):=by rw[Z.sh.cell,Dq];rfl
 have hp:=Z.sh.lt;have hs:=Z.st_.lt;obtain⟨V,o⟩:=aO F.V;obtain⟨B,E⟩:=aO (dU V);have zx:B<=40:=by rw[E];unfold dU;omega
 have HB:=aH E;have D:Hid (∀W,RS IR W tag F.m F.s F.th F.tgl (fun _=>false) F.steps F.hist F.of p gs mp go n pt H ch->Calls prog 42 #[(p,0)] W fun e w'=>e=.returned [V]/\Below W W w'):=aH (fun W hW=>by
  refine(EC hW).mono ?_;rintro e w' ⟨rfl,rfl⟩;exact⟨by rw[o,S.inv.ver],Below.refl _ _⟩)
 have R:=NX S;have C:Hid (FI 1 w (some ⟨gs,B,none⟩) 32 (72-B) (CP F.rcd)):=aH ⟨by simp [CP],fun r Z=>by obtain⟨x,rfl⟩:=Eo _ r Z;rfl,I,I,fun _=>⟨gs,B,rfl,hs,fun i r l j v g=>by
  have Q:i<32:=by have:=(List.getElem?_eq_some_iff.1 l).1;simpa [CP]using this
  rw[Gc _ Q]at l;cases l;have z:j=0:=by have:=(List.getElem?_eq_some_iff.1 g).1;simpa using this
  subst z;simp only[List.getElem?_cons_zero,Option.some.injEq]at g;subst g;rw[show B+i*1+0=B+i by omega,Z.st_.cell,KU _ _ I,E,o];rfl⟩⟩
 have P:Hid (∀r∈CP F.rcd,∀u∈r,u.oneCell'=true):=aH (fun r Z u hu=>by
  obtain⟨x,rfl⟩:=Eo _ r Z;simp only[List.mem_cons,List.not_mem_nil,or_false]at hu;subst hu;rfl)
 have q1:(B:Int)<=72:=I;have q2:¬72=B:=I;have q3:(32:Int)<=((72-B:Nat):Int):=I;have q4:¬72-B=0:=I;obtain⟨i0,O,M,L,G⟩:=aBN;have HI:=aH O;have HZ:=aH M;have HS:=aH L;have HY:=aH G;have y:=aH R;clear Z o E S O M L G hn R
 go_enter func40,ntmps40
 go_wp2;refine aA 12 ?_
 iterate 7
  refine aR ?_;constructor
  .intro w9 hw9 f;refine aS ?_;obtain⟨hc9,hf9⟩:=hw9.all;refine aW ?_;go_simp
   first
   |exact aE
 refine bA (.int .u64 (V:Int)) cX ?_ ?_
 .intro w9 hw9 _;refine aS ?_;refine aW ?_;go_simp;go_at_call 42;exact bS (D.out _ (HR.below hw9.same (bI.refl _ _)))
 first|(with_reducible refine aC (fun K T=>?_))|(refine aC (fun K T=>?_))
 refine .inl ⟨.int .i64 (B:Int),cX,?_,T _ _ _ _ ?_⟩
 .simp only[bJ,bM];refine⟨?_,fun w9 hw9 _=>?_⟩
  .first|rfl|(go_simp;done)
  refine aS ?_;refine aW ?_;go_simp;go_at_call 72;exact bS (ZY V (V:Int) rfl B HB _)
 iterate 2
  clear T K;refine aN ?_
  first|(with_reducible refine aC (fun K T=>?_))|(refine aC (fun K T=>?_))
  refine .inl ?_;apply Exists.intro;refine⟨cX,?_,T _ _ _ _ ?_⟩
  .simp only[bJ,bM];refine⟨?_,fun w9 hw9 f=>?_⟩
   .first|rfl|(go_simp;done)
   refine aS ?_;obtain⟨hc9,hf9⟩:=hw9.all;refine aW ?_;go_simp
   first
   |exact aE
 clear T K;refine aN ?_;refine bC (DN 32) (fun vv w'=>∃A' c',vv=.slice A' 32 c'/\cU w' 0 23 1 A' 32 c' (CP F.rcd)) ⟨_,none,0,rfl⟩ ?_ ?_
 .intro w9 hw9 hmet0;refine aS ?_;have t:=aH (C.below hw9.same);refine aW ?_;refine Cz (.const (.slice none 0 0)) (.tmp 13) rfl underlying91 HI HZ HS HY rfl aJ aJ (A:=none) (n:=0) (c:=0) (rows:=[]) rfl (cU.nil _ 0 _ _) (X:=some ⟨gs,B,none⟩) (k:=32) (d:=72-B) (xs:=CP F.rcd) rfl t P aJ (Nat.zero_le _) ?_;intro g' zw w' ho zz zv;refine⟨⟨⟨_,_,rfl⟩,⟨_,_,rfl,ho⟩⟩,zz.mono fun b hb=>?_⟩;obtain⟨a,ha,_⟩:=hb;cases ha
 refine aZ ?_;rintro _ ⟨A9,c9,rfl⟩ w9 hw9 Y;refine aQ ?_;refine aS ?_;obtain⟨w0,k0,k1,A8,c8,zy,U⟩:=Y.1 rfl;cases zy;have HF:=aH ((U.below (cA k1 J)).slu y);have q:=aH hw9.same;clear Y U k0 k1 w0 hw9;refine aW ?_;go_wp2;go_ret;exact⟨A9,c9,rfl,HF.out,q.out⟩
