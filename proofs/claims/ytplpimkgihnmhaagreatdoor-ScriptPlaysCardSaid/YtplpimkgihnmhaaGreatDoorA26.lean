/-
  Parts of a proof. For all values.
-/
import Derived.Test.YtplpimkgihnmhaaGreatDoorA18
set_option maxRecDepth 100000
set_option maxHeartbeats 1000000
set_option linter.all false
namespace Go.Proofs.YtplpimkgihnmhaaGreatDoor
open Go.Proofs.Tryz Go.RowKit
variable{l:Nat}{w':World}
section
open Go.Maps
attribute [local go_sem↓] Go.wp_at_zero Go.wp_at_succ
def cN.landK(s:cN)(l k:Nat):cN:={s with good:=fun i=>if i<k/\i/8=l then s.now i else s.good i}
theorem Bj(s:cN)(l:Nat):s.landK l 0=s:=by simp [cN.landK]
theorem MK(s:cN){k:Nat}(h:k/8=l):{s.landK l k with good:=fun i=>if i=k then s.now k else(s.landK l k).good i}=s.landK l (k+1):=by
 show cN.mk s.now (fun i=>if i=k then s.now k else(if i<k/\i/8=l then s.now i else s.good i)) s.want s.fl s.fe=cN.mk s.now (fun i=>if i<k+1/\i/8=l then s.now i else s.good i) s.want s.fl s.fe;congr 1
 funext i
 by_cases e:i=k
 .subst e;simp [h]
 by_cases Z:i<k
 .have:i<k+1:=I;simp [e,Z,this]
 have:¬i<k+1:=I;simp [e,Z,this]
theorem UE(s:cN){k:Nat}(h:¬k/8=l):s.landK l k=s.landK l (k+1):=by
 unfold cN.landK;congr 1
 funext i
 by_cases e:i=k
 .subst e;simp [h]
 by_cases Z:i<k
 .have:i<k+1:=I;simp [Z,this]
 have:¬i<k+1:=I;simp [Z,this]
theorem PG(s:cN)(l m:Nat):kD (s.landK l 72) m=kD (s.land l) m:=jJ fun j Y=>by
 rw[xZ,xZ];by_cases c1:j<72
 .rw[iP c1,iP c1];rfl
 rw[iN c1,iN c1];by_cases Z:j<144
 .rw[iP Z,iP Z];have:j-72<72:=I;simp [cN.landK,cN.land,this]
 rw[iN Z,iN Z];rfl
theorem XP(h m l:Nat)(s:cN)(w:World)(Q:aY w h 74 (kD s m))(E:l<9):
 Calls prog 81 #[(h,0),l] w fun e w'=>e=.returned (.tuple #[])/\aY w' h 74 (kD (s.land l) m)/\aD (nQ h) w w':=by
 have P:=aH Q;clear Q
 go_enter func81,ntmps81
 go_wp2
 go_loopw [5] (fun i wr=>∃k:Nat,k<=72/\i=.int .i64 k/\Hid (aY wr h 74 (kD (s.landK l k) m))/\Hid (aD (nQ h) w wr)) (fun i _=>72-(intOf i).toNat)
 case atStart=>exact⟨0,I,rfl,aH (by rw[Bj];exact P),aH (aD.refl _ _)⟩
 case round=>
  obtain⟨k,H,rfl,Z,S⟩:=hrel;by_cases Y:k<72
  .have b1:(k:Int)<72:=I;by_cases X:k/8=l
   .have q:((k:Int)/8==(l:Int))=true:=by simp;omega
    have W:=aH (MK s X);have c1:wr.cell? (h,k)=[s.now k]:=by rw[Z.cell,KU _ _ Y];rfl
    have V:wr.cell? (h,72+k)=[(s.landK l k).good k]:=by rw[Z.cell,UL _ _ Y]
    have R:wr.frozen? ⟨h,72+k,none⟩=false:=Z.frozen _;have O:=aH (MB (s.landK l k) m (s.now k) Y);generalize(s.landK l k).good k=G at V;clear X;have N:=Z.lt;have M:Hid ((s.landK l k).now k=s.now k):=aH rfl;generalize s.now k=F at*;go_wp2;refine aA 11 ?_
    iterate 11
     first
     |(refine Kf ?_;constructor
       .intro w9 hw9 hc9 hf9;go_simp
        first
        |exact aE)
     |refine aU ?_
    refine bZ ?_;intro w9 hw9 hc9 hf9;simp only[List.drop_succ_cons,List.drop_zero];have L:=(hw9.same.cell (p:=⟨h,72+k,none⟩) Z.lt).trans V;have K:=(hw9.same.frozen (p:=⟨h,72+k,none⟩) Z.lt).trans R;have U:=aH (Z.below hw9.same Z.lt);have T:=aH (S.trans (aD.of_same hw9.same));clear hw9 hc9 hf9 c1 V R;go_wp2;go_roundw
    case rel=>exact⟨k+1,I,aG,aH (by rw[<-W.out,<-O.out];exact U.set_ (72+k) _),aH (qC T _)⟩
    case measure=>simp [intOf];omega
   have q:((k:Int)/8==(l:Int))=false:=by simp;omega
   have W:=aH (UE s X);clear X;go_wp2;go_roundw
   case rel=>exact⟨k+1,I,aG,aH (by rw[<-W.out];exact Z),S⟩
   case measure=>simp [intOf];omega
  obtain rfl:k=72:=I;go_wp2;refine bodyPost_end (v:=.tuple #[]) (by simp [results,results81,go_sem]) rfl ⟨rfl,by rw[<-PG];exact Z,S.out⟩
def NC(h m:Nat):Nat->Prop:=fun b=>b=h\/b=m
theorem pU{a Z Y:Int}(h:Z<=a/\a<=Y):bV a Z Y=true:=by simp [bV,h.1,h.2]
theorem QM{f:Nat->Nat->Bool}{V n t:Nat}{D:DataW Unit}(h:w'.ownsMap prog 315 (plainElem prog 4) V n (D.put (PL t l) (.lit (.bool true))))(T:IsMap D)(S:t<4)(R:l<9)
 (Q:∀t l,t<4->l<9->D.atKey (PL t l) (.lit (.bool false))=.lit (.bool (f t l))):gP (fun Z Y=>if Z=t/\Y=l then true else f Z Y) V n w':=
 ⟨_,h,fun Z Y X W=>by
   by_cases e:Z=t/\Y=l
   .obtain⟨rfl,rfl⟩:=e;rw[atKey_put_same T (Cb _ _)];simp
   rw[atKey_put_other (fun U=>e (LM X W S R U)),Q Z Y X W];simp only[e,if_false]⟩
theorem RU{f:Nat->Nat->Bool}{V n t:Nat}{D:DataW Unit}(h:w'.ownsMap prog 315 (plainElem prog 4) V n (D.del (PL t l)))(T:t<4)(S:l<9)
 (R:∀t l,t<4->l<9->D.atKey (PL t l) (.lit (.bool false))=.lit (.bool (f t l))):gP (fun Z Y=>if Z=t/\Y=l then false else f Z Y) V n w':=
 ⟨_,h,fun Z Y X W=>by
   by_cases e:Z=t/\Y=l
   .obtain⟨rfl,rfl⟩:=e;rw[atKey_del_same];simp
   rw[atKey_del_other (fun U=>e (LM X W T S U)),R Z Y X W];simp only[e,if_false]⟩
theorem uQ{w:World}{b:Nat}(Z:w.grownBy w' (some b)):aD (nQ b) w w':=
 ⟨Z.os,Z.tape,Z.output,Z.size,fun k Y X=>Z.block k Y (fun e=>X (Option.some.inj e))⟩
theorem xH(h m n t l:Nat)(s:cN)(w:World)(X:aY w h 74 (kD s m))(C:gP s.want m n w)(U:h≠m)(L:t<4)(K:l<9)(B:s.fl<=1000000000)(x:n<=1000000000):
 Calls prog 173 #[(h,0),t,l] w fun e w'=>e=.returned (0:Int)/\aY w' h 74 (kD (s.flush t l) m)/\gP (s.flush t l).want m (n+1) w'/\aD (NC h m) w w':=by
 have P:=aH (fun w=>bQ (t:Int) 0 3 w);have O:=aH (fun w=>bQ (l:Int) 0 8 w);rw[pU I]at P;rw[pU I]at O;have c1:w.cell? (h,145)=s.fl:=by rw[X.cell,Cd]
 have A:w.frozen? ⟨h,145,none⟩=false:=X.frozen _;have z:w.cell? (h,144)=some (.map (some m)):=by rw[X.cell,BP]
 have H:=aH X;obtain⟨D,Q,M⟩:=C;have W:(w.setCell ⟨h,145,none⟩ (.int .i64 ((s.fl:Int)+1))).ownsMap prog 315 (plainElem prog 4) m n D:=Q.setCell (fun e=>U e.symm) _;have G:=aH W;have T:=aH Q.isMap;have F:=aH M;have S:Hid (n<maxLen):=aH (by unfold maxLen;omega);have R:=aH (IG L K);clear X Q W M
 go_enter func173,ntmps173
 go_wp2_with (first
  |(go_at_call 55;first|(with_reducible refine(P.out _).mono ?_;rintro e E ⟨rfl,rfl⟩)|(with_reducible refine(O.out _).mono ?_;rintro e E ⟨rfl,rfl⟩))
  |(at_mapUpdate;with_reducible refine JJ 72 315 4 Au underlying72 (plainElem prog 4) m n D (.agg #[.int .i64 t,.int .i64 l]) (.bool true) (PL t l) J J J G.out S.out R.out (.lit (.bool true)) [] (plainElem_bool underlying4 true) ?_;intro y Y Z))
 go_ret;have V:=uQ Z;refine⟨rfl,?_,QM Y T L K F,?_⟩
 .have h1:=H.set_ 145 (.int .i64 ((s.fl:Int)+1));have N:=WC s m (s.fl+1);rw[show(((s.fl+1:Nat)):Int)=(s.fl:Int)+1 by omega]at N;rw[N]at h1;exact h1.kept V U
 exact((aD.refl _ _).setCell (p:=⟨h,145,none⟩) (.inl (.inl rfl)) _).trans (V.mono fun b X=>.inr X)
section
variable{P:Program}{ops:Array Oper}{rest:List Oper}{a:Act}{w:World}{Q:Exit->Act->World->Prop}{ty':TypeId}{pos:String}{af:Array Edge}
theorem XS{H:Type}{X x:Operand}{d:Option Tmp}(t:TypeId)(k e:TypeId)(K:Keyed P k)(W:P.underlying t=some (.map k e))(R:Value->Option (DataW H×List MemPlace))(b n:Nat)(D:DataW H)
 (key:Value) (kl:Lit) (V:a.eval X=.map (some b)) (U:a.eval x=key) (Z:w.ownsMap P k R b n D) (Y:keyOf P k key=some kl)
 (T:∀w',w'.ownsMap P k R b n (D.del kl)->w.mapTurned w' b->wpList P ops Q rest (a.put d (.tuple #[])) w'):
 wpList P ops Q ({dst:=d,op:=.call {callee:=.builtin .delete,args:= #[X,x],argTypes:= #[t,k]},type:=ty',pos:=pos,after:=af,guard:=none}::rest) a w:=
 wpList_delete_own w rfl X x t k rfl e K W R b n D V Z key kl U Y T
end
def lE(f:Nat->Nat->Bool)(t k:Nat)(t' l':Nat):Bool:=if t'=t/\l'<k then false else f t' l'
theorem JX(f:Nat->Nat->Bool)(t k:Nat):(fun Y Z=>if Y=t/\Z=k then false else lE f t k Y Z)=lE f t (k+1):=by
 funext Y Z
 unfold lE;by_cases e:Y=t
 .by_cases e2:Z=k
  .simp [e,e2]
  by_cases X:Z<k
  .have:Z<k+1:=I;simp [e,e2,X,this]
  have:¬Z<k+1:=I;simp [e,e2,X,this]
 simp [e]
theorem NI(f:Nat->Nat->Bool)(t k:Nat)(h:f t k=false):lE f t k=lE f t (k+1):=by
 funext t' l'
 unfold lE;by_cases e:t'=t
 .by_cases e2:l'=k
  .subst e2;subst e;simp [h]
  by_cases Z:l'<k
  .have:l'<k+1:=I;simp [e,Z,this]
  have:¬l'<k+1:=I;simp [e,Z,this]
 simp [e]
theorem wG(h m n t:Nat)(s:cN)(w:World)(U:aY w h 74 (kD s m))(a:gP s.want m n w)(P:h≠m)(j:t<4)(zy:s.fe<=1000000000):
 Calls prog 175 #[.pointer (some ⟨h,0,none⟩),.int .i64 t] w fun e w'=>e=.returned (.int .i64 0)/\aY w' h 74 (kD (s.fence t) m)/\gP (s.fence t).want m n w'/\aD (NC h m) w w':=by
 have g:=aH (fun w=>bQ (t:Int) 0 3 w);rw[pU I]at g;have c1:w.cell? ⟨h,146,none⟩=some (.int .i64 (s.fe:Int)):=by rw[U.cell,Bu]
 have f1:w.frozen? ⟨h,146,none⟩=false:=U.frozen _;have E:Hid (aY (w.setCell ⟨h,146,none⟩ (.int .i64 ((s.fe:Int)+1))) h 74 (kD {s with fe:=s.fe+1} m)):=aH (by
  have h1:=U.set_ 146 (.int .i64 ((s.fe:Int)+1));have f:=WZ s m (s.fe+1);rw[show(((s.fe+1:Nat)):Int)=(s.fe:Int)+1 by omega]at f
  rwa [f]at h1)
 have C:Hid (aD (NC h m) w (w.setCell ⟨h,146,none⟩ (.int .i64 ((s.fe:Int)+1)))):=aH ((aD.refl _ _).setCell (p:=⟨h,146,none⟩) (.inl (.inl rfl)) _);have O:Hid (gP s.want m n (w.setCell ⟨h,146,none⟩ (.int .i64 ((s.fe:Int)+1)))):=aH (a.kept (qC (aD.refl (nQ h) w) _) (fun e=>P e.symm));clear U a
 go_enter func175,ntmps175
 go_wp2_with (go_at_call 55;with_reducible refine(g.out _).mono ?_;rintro e w1 ⟨rfl,rfl⟩)
 generalize w.setCell ⟨h,146,none⟩ (.int .i64 ((s.fe:Int)+1))=W1 at*;have N:Hid ((({s with fe:=s.fe+1}:cN).lands t 9).quiet t=s.fence t):=aH rfl;have M:Hid (s.want=({s with fe:=s.fe+1}:cN).want):=aH rfl;rw[M.out]at O;clear c1 f1 M;generalize({s with fe:=s.fe+1}:cN)=S at*
 go_loopw [16] (fun i wr=>∃k:Nat,k<=9/\i=.int .i64 k/\Hid (aY wr h 74 (kD (S.lands t k) m))/\Hid (gP (lE S.want t k) m n wr)/\Hid (aD (NC h m) w wr)) (fun i _=>9-(intOf i).toNat)
 case atStart=>exact⟨0,I,rfl,aH (by rw[cN.lands0];exact E),aH (O.congr (fun G o _ _=>by simp [lE])),C⟩
 case round=>
  obtain⟨k,hk,rfl,L,K,F⟩:=hrel;by_cases V:k<9
  .have b1:(k:Int)<9:=I;have X:=K.look j V;have B:lE S.want t k t k=S.want t k:=by simp [lE]
   rw[B]at X;have cm:wr.cell? (h,144)=some (.map (some m)):=by rw[L.cell,BP]
   by_cases H:S.want t k=true
   .have q:=aH (S.lands_yes H);have A:=aH (JX S.want t k);rw[H]at X;clear H B;generalize hS:S.lands t k=S1 at*;clear hS;go_wp2_with fail
    with_reducible refine(XP h m k S1 _ L.out V).mono ?_
    rintro e w2 ⟨rfl,R,Q⟩;have zz:=(R.cell 144).trans (BP _ _);obtain⟨D,d,c⟩:=K.kept Q (fun e=>P e.symm);have HO:=aH d;have HD:=aH c;have z:=aH R;have y:=aH (F.trans (Q.mono fun b U=>.inl U));have x:=aH (IG j V);clear d c R Q cm X L K F
    go_wp2_with (at_delete;with_reducible refine XS 72 315 4 Au underlying72 (plainElem prog 4) m n D (.agg #[t,k]) (PL t k) J J HO.out x.out ?_;intro w4 Y Z)
    have T:=vE Z;have v:=aH (z.kept T P);have u:=aH (RU Y j V HD);have r:=aH (y.trans (T.mono fun b U=>.inr U));clear Y Z T;go_roundw
    case rel=>exact⟨k+1,I,aG,aH (by rw[<-q.out];exact v),aH (by rw[<-A.out];exact u),r⟩
    case measure=>simp [intOf];omega
   have W:S.want t k=false:=by simpa using H
   have q:=aH (S.lands_no W);have A:=aH (NI S.want t k W);rw[W]at X;clear H W B;go_wp2;go_roundw
   case rel=>exact⟨k+1,I,aG,aH (by rw[<-q.out];exact L),aH (by rw[<-A.out];exact K),F⟩
   case measure=>simp [intOf];omega
  obtain rfl:k=9:=I;go_wp2;go_ret;refine⟨rfl,?_,?_,F.out⟩
  .rw[<-N.out];exact L
  rw[<-N.out];exact K.congr (fun G o _ l=>by
   show(if G=t then false else S.want G o)=lE S.want t 9 G o;simp [lE,l])
theorem yX(f:Nat->Int):(prog.info? 71).map (·.size)=some (jB f).size:=by rw[jB,dJ];kernel_rfl
theorem aAn{w:World}{h m:Nat}{s:cN}(Z:aY w h 74 (kD s m)):w.rangeAt h 72 (jB s.good).toList:=by
 rw[<-aCO s m];exact World.rangeAt_of_block (t:=74) (fr:=(0,0)) Z 72 72
theorem Bk(m:Nat):(zeroCells74).setIfInBounds 144 (.map (some m))=kD cN.new m:=J
theorem Eg(w:World):Calls prog 57 #[] w fun e w'=>∃h m,e=.returned (.pointer (some ⟨h,0,none⟩))/\w.heap.size<=h/\w.heap.size<=m/\h≠m/\aY w' h 74 (kD cN.new m)/\gP cN.new.want m 0 w'/\Below w.heap.size w w':=by
 have Z:= @run_makeMap prog;have Y:=aH Bk
 go_enter func57,ntmps57
 go_wp2;go_ret;refine⟨w+1,w.heap.size,rfl,I,I,I,?_,?_,by go_grown⟩
 .rw[Y.out];exact aY.newAt _ _ _ (by simp)
 exact(gP.start w).kept (S:=nQ (w,1)) ((aD.refl _ _).alloc _) (fun e=>by unfold nQ at e;omega)
theorem aCA(h m x:Nat)(s:cN)(w:World)(G:aY w h 74 (kD s m))(F:x<18446744073709551616):
 Calls prog 79 #[.pointer (some ⟨h,0,none⟩),.int .u64 x] w fun e w'=>e=.returned (.tuple #[])/\∃R,w.heap.size<=R/\aY w' h 74 (kD (s.crash x) R)/\gP (s.crash x).want R 0 w'/\aD (nQ h) w w':=by
 have E:=aH G;clear G
 go_enter func79,ntmps79
 go_wp2
 go_loopw [5] (fun i wr=>∃k:Nat,k<=9/\i=.int .i64 k/\Hid (aY wr h 74 (kD (s.fallR x k) m))/\Hid (aD (nQ h) w wr)) (fun i _=>9-(intOf i).toNat)
 case atStart=>exact⟨0,I,rfl,aH (by rw[cN.fallR0];exact E),aH (aD.refl _ _)⟩
 case round=>
  obtain⟨k,t,rfl,W,O⟩:=hrel;by_cases L:k<9
  .have b1:(k:Int)<9:=I;have T:=KQ x k I;by_cases U:x/2^k%2=1
   .have P:=aH (s.fallR_yes U);rw[decide_eq_true U]at T;clear U;generalize y:s.fallR x k=V at*;clear y;go_wp2_with fail
    with_reducible refine(kJ x k _ F).mono ?_
    rintro e z ⟨rfl,Z⟩;have Y:=aH (W.below Z W.lt);have X:=aH (O.trans (aD.of_same Z));clear Z;go_wp2_with fail
    with_reducible refine(XP h m k V _ Y.out L).mono ?_
    rintro e r ⟨rfl,N,M⟩;go_wp2;go_roundw
    case rel=>exact⟨k+1,I,aG,aH (by rw[<-P.out];exact N),aH (X.trans M)⟩
    case measure=>simp [intOf];omega
   have P:=aH (s.fallR_no U);rw[decide_eq_false U]at T;clear U;go_wp2_with fail
   with_reducible refine(kJ x k _ F).mono ?_
   rintro e z ⟨rfl,Z⟩;have Y:=aH (W.below Z W.lt);have X:=aH (O.trans (aD.of_same Z));clear Z;go_wp2;go_roundw
   case rel=>exact⟨k+1,I,aG,aH (by rw[<-P.out];exact Y),X⟩
   case measure=>simp [intOf];omega
  obtain rfl:k=9:=I;have D:= @run_makeMap prog;have C:=aH (fun R=>aAN s x R);have Q:Hid (aY (wr.setCells h 0 (jB (s.fallR x 9).good).toList) h 74 (kD (s.crash x) m)):=aH (by
   rw[<-C.out,<-aAb];exact W.setCells)
  have S:=aH (yT O 0 (jB (s.fallR x 9).good).toList);generalize s.fallR x 9=V at*;have c1:((wr.setCells h 0 (jB V.good).toList).alloc (.map #[] 0)).cell? (h,144)=some (.map (some m)):=by rw[(Q.alloc _).cell,BP]
  have u:((wr.setCells h 0 (jB V.good).toList).alloc (.map #[] 0)).frozen? ⟨h,144,none⟩=false:=(Q.alloc _).frozen _
  go_wp2_with (first
   |(with_reducible refine OJ 71 h 72 (jB V.good) J (aAn W.out) underlying71 J (yX _) ?_)
   |(with_reducible refine oI 71 h 0 (jB V.good) J J (W.out.there (by rw[sB,jB,dJ];omega)) (yX _) (JG _) ?_;generalize wr.setCells h 0 (jB V.good).toList=K at*))
  have B:=S.size;have A:=Q.lt;have H:=(Q.alloc (.map #[] 0)).set_ 144 (.map (some K));rw[aAl]at H;refine bodyPost_end (v:=.tuple #[]) (by simp [results,results79,go_sem]) rfl ⟨rfl,K.heap.size,B,H,?_,qC (S.alloc _) _⟩;exact(gP.start K).kept (qC (aD.refl (nQ h) _) _) (fun e=>by unfold nQ at e;omega)
