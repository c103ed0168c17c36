/-
  Part of a proof: ShE. For all values.
-/
import Derived.Test.YtplpimkgihnmhaaGreatDoorA30
import Derived.Test.YtplpimkgihnmhaaGreatDoorA39
set_option maxRecDepth 100000
set_option maxHeartbeats 4000000
set_option linter.all false
namespace Go.Proofs.YtplpimkgihnmhaaGreatDoor
open Go.Proofs.Tryz Go.RowKit
section
attribute [local go_sem↓] Go.wp_at_zero Go.wp_at_succ
section
variable{w:World}{tag:Nat->Nat}{F:pH}{p gm gs:Nat}{gw:Nat->Nat}{N:Nat}
theorem aAI(h:gH w tag F p gm gs gw)(Q:lM N F)(hN:N<=100000000):
 Calls prog 36 #[(p,0)] w fun e w'=>∃A c,e=.returned (.slice A (aB F.of F.V).length c)/\cU w' w 159 6 A (aB F.of F.V).length c ((aB F.of F.V).map (·.2))/\Below w w w':=by
 obtain⟨H,ch,E,ce,a⟩:=h;have z:=a.c 12 (Lm _ _ _ _ _ _ _);rw[List.length_map]at z;have zz:=a.sh.lt;have S:=a.de.slr;rw[List.length_map]at S;have HX:=aH S;have zr:=S.cap;have d:=S.cap63;have hl:(aB F.of F.V).length<=400000000:=by have:=qK Q F.V (Nat.le_refl _);have:=Q.ver;have:=Q.stp;omega
 have HR:Hid (∀x∈aB F.of F.V,LR x.2):=aH (fun x hx=>by
  have hm:x.2∈(aB F.of F.V).map (·.2):=List.mem_map_of_mem hx;rw[rY]at hm;obtain⟨l,hl,zw⟩:=List.mem_flatten.1 hm;obtain⟨u,hu,rfl⟩:=List.mem_map.1 hl;exact(Q.of_ (u+1) I (by have:=List.mem_range.1 hu;omega)).2 _ zw)
 obtain⟨i0,t,s,r,q⟩:=JV;have HI:=aH t;have HZ:=aH s;have HS:=aH r;have HY:=aH q;clear a S t s r q Q hN;generalize zt:aB F.of F.V=T at*;generalize hn:T.length=n at*;have HN:=aH hn;clear hn zt;have y:Hid (∃A c,(Value.slice none 0 0:Value)=.slice A 0 c/\cU w w 159 6 A 0 c ((T.take 0).map (·.2))):=aH ⟨none,0,rfl,by simpa using cU.nil w w 159 6⟩
 go_enter func36,ntmps36
 go_wp2;obtain⟨B,rfl⟩:=aO (w:World)
 go_loopw [11,3] (fun i l wr=>∃k:Nat,k<=n/\i=.int .i64 k/\Below B B wr/\Hid (∃A c,l=.slice A k c/\cU wr B 159 6 A k c ((T.take k).map (·.2)))) (fun i _ _=>n-(intOf i).toNat)
 case atStart=>exact⟨0,I,rfl,Below.refl _ _,y⟩
 case round=>
  clear y z zz;obtain⟨k,hk,rfl,U,o⟩:=hrel;obtain⟨A1,c1,rfl,m⟩:=o.out;have HO:=aH m;clear o m;by_cases zs:k<n
  .have q1:(k:Int)<n:=I;have C:k<T.length:=by rw[HN.out];exact zs
   obtain⟨P,O,M,L,K,G,R⟩:=HR.out T[k] (List.getElem_mem C);have Y:(T.map qV)[k]? =some [.int .u64 (T[k].1:Int),.int .i64 P,.int .i64 O,.int .i64 M,.int .i64 L,.int .i64 K,.int .i64 G]:=by
    rw[List.getElem?_map,List.getElem?_eq_getElem C];show some (Value.int .u64 _::T[k].2)=_;rw[R]
   obtain⟨D,X,rfl,W,Z⟩:=HX.at_ I;obtain⟨v,hv⟩:=aO ((T[k].1:Int):Int);rw[<-hv]at Y;have c0:wr.cell? (D,X+k*7)=[v]:=(U.cell (p:=⟨D,X+k*7,none⟩) W).trans (by have:=Z k _ Y 0 _ rfl;simpa using this);have zp:=(U.cell (p:=⟨D,X+k*7+1,none⟩) W).trans (Z k _ Y 1 _ rfl);have c2:=(U.cell (p:=⟨D,X+k*7+2,none⟩) W).trans (Z k _ Y 2 _ rfl);have c3:=(U.cell (p:=⟨D,X+k*7+3,none⟩) W).trans (Z k _ Y 3 _ rfl);have c4:=(U.cell (p:=⟨D,X+k*7+4,none⟩) W).trans (Z k _ Y 4 _ rfl);have c5:=(U.cell (p:=⟨D,X+k*7+5,none⟩) W).trans (Z k _ Y 5 _ rfl);have c6:=(U.cell (p:=⟨D,X+k*7+6,none⟩) W).trans (Z k _ Y 6 _ rfl);have HT:Hid ((T.take (k+1)).map (·.2)=(T.take k).map (·.2)++[[.int .i64 P,.int .i64 O,.int .i64 M,.int .i64 L,.int .i64 K,.int .i64 G]]):=aH (by
    rw[List.take_add_one,List.getElem?_eq_getElem C,List.map_append];simp [R])
   have zq:=Nat.lt_of_lt_of_le W U.size;clear Z Y R hv;have HV:Hid (∀j,j<6->((wr.alloc (.cells #[.int .u64 v,.int .i64 P,.int .i64 O,.int .i64 M,.int .i64 L,.int .i64 K,.int .i64 G] 161)).alloc (.cells #[.int .i64 P,.int .i64 O,.int .i64 M,.int .i64 L,.int .i64 K,.int .i64 G] 159)).cell? ⟨wr.heap.size+1,j,none⟩=[Value.int .i64 P,.int .i64 O,.int .i64 M,.int .i64 L,.int .i64 K,.int .i64 G][j]?):=Lib.hid (fun j _=>by
    rw[(aY.newAt (wr.alloc (.cells #[[v],P,O,M,L,K,G] 161)) 159 #[P,O,M,L,K,G] (n:=wr+1) (by simp)).cell j];simp)
   have H1:=aH (CI ⟨P,O,M,L,K,G,rfl⟩)
   go_wp2_with (refine qJ (.tmp 15) (.tmp 18) rfl rfl underlying41 HI HZ HS HY rfl aJ aJ (A:=A1) (n:=k) (c:=c1) (rows:=(T.take k).map (·.2)) rfl (HO.below (by go_grown)) (g:=wr+1) (c':=1) rfl (ys:=[.int .i64 P,.int .i64 O,.int .i64 M,.int .i64 L,.int .i64 K,.int .i64 G]) rfl HV H1 I (by have:=U.size;simp;omega) ?_;rintro g' zv w' m f zu)
   have zy:Hid (cU w' B 159 6 (some ⟨g',0,none⟩) (k+1) zv ((T.take (k+1)).map (·.2))):=aH (by rw[HT.out];exact m);have zx:Below B B w':=Below.trans ((U.alloc U.size _).alloc (by have:=U.size;simp;omega) _) (f.below (by have:=U.size;simp;omega) (fun b hb e=>by have:=HO.high e;omega));clear m f zu HV;go_wp2;go_roundw
   case rel=>exact⟨k+1,I,aG,zx,aH ⟨_,_,rfl,zy.out⟩⟩
   case measure=>simp [intOf];omega
  obtain rfl:k=n:=I;have q1:¬(k:Int)<k:=I;go_wp2;go_ret;refine⟨A1,c1,rfl,?_,U⟩;have:=HO.out;rw[<-HN.out,List.take_length]at this;rw[HN.out]at this;exact this
