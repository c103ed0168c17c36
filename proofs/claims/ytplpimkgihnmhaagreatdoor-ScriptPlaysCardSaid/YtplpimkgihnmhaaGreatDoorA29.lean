/-
  Parts of a proof. For all values.
-/
import Derived.Test.YtplpimkgihnmhaaGreatDoorA27
import Derived.Test.YtplpimkgihnmhaaGreatDoorA28
set_option maxRecDepth 100000
set_option maxHeartbeats 4000000
set_option linter.all false
namespace Go.Proofs.YtplpimkgihnmhaaGreatDoor
open Go.Proofs.Tryz Go.RowKit
variable{t b:Nat}{tag tag' tag0:Nat->Nat}{w w' w0:World}{S:Nat->Prop}{last:Int}{A':Option Addr}{ty:TypeId}{cs:Array Value}
section
open Go.Maps
attribute [local go_sem↓] Go.wp_at_zero Go.wp_at_succ
def CM(t k:Nat):Prop:=yL t k\/k=104
section
variable{w0 w w':World}{tag0 tag:Nat->Nat}{t:Nat}{Z:cQ}{last:Int}{e:mG}{gs mp:Nat}{m:Nat->Int}{pt:Nat->Nat}{s:cN}{st:Int}{E O:Value}{R:Option Addr}{cr:Nat}{D:Option Addr}{cd:Nat}{rows:List (List Value)}{cs:List Cl}{fin:Bool}
theorem RC.rebase(h:RC w0 tag0 w tag t Z last e gs mp m pt s st E O R cr D cd rows cs fin)(W:aD S w w')(T:∀b,S b->tag b=104):RC w' tag w' tag t Z last e gs mp m pt s st E O R cr D cd rows cs fin:=by
 have V:=h.t4;have X:=bI.refl w tag;have Y:∀b,S b->tag b≠100/\tag b≠101/\tag b≠102/\tag b≠105/\tag b≠106/\tag b≠110+t/\tag b≠120+t:=fun b U=>by
  have:=T b U;omega
 exact⟨Kg.refl _ _ _,(W.block e.p h.sh.lt fun z=>(Y _ z).2.2.1 h.tp).trans h.sh,(W.block gs h.st_.lt fun z=>(Y _ z).1 h.ts).trans h.st_,h.wm.kept W (fun z=>(Y _ z).2.1 h.tm),(X _ h.sh.lt).trans h.tp,(X _ h.st_.lt).trans h.ts,(X _ h.wm.lt).trans h.tm,h.th.kept W X (fun b z=>(Y b z).2.2.2.2.2.1) (fun b z=>(Y b z).2.2.2.2.2.2) (fun b z=>(Y b z).2.2.2.1),h.rs.kept W X (fun b z=>(Y b z).2.2.2.2.1),V⟩
end
section
variable{w:World}{tag:Nat->Nat}{t:Nat}{Z:cQ}{last:Int}{e:mG}{gs mp:Nat}{m:Nat->Int}{pt:Nat->Nat}{s:cN}{st:Int}{E O:Value}{R:Option Addr}{cr:Nat}{D:Option Addr}{cd:Nat}{rows:List (List Value)}{cs:List Cl}{r:List Value}
theorem UT(H:RC w tag w tag t Z last e gs mp m pt s st E O R cr D cd rows [.wish2,.firm2,.tell (Z.ver+1),.unlock,.reply] false)(hn:iF w tag t Z e)(d:Z.does=11)(hr:(Cl.index (Z.ver+1)).At w tag e r){go n:Nat}{of:Nat->List (List Value)}(hO:O=.map (some go))(zx:KO w tag go n of)(zh:n<=1000000000)(zg:Z.ver<=1099511627776):
 ∃N L,r=td 11 (fv N L)/\Calls prog N L w fun e' w'=>e'=.returned (.tuple #[])/\Kg (CM t) w tag w' tag/\KO w' tag go (n+1) (fun v=>if v=Z.ver+1 then Z.deeds else of v)/\gE w' tag t last e gs mp pt st E O (stp t m s Z) w':=by
 obtain⟨bv,bp,bq,rfl,hv,hp,hq⟩:=hr;refine⟨_,_,rfl,?_⟩;simp only[cR];rw[show stp t m s Z=⟨m,s.save 0 (Z.ver+1:Nat),Z.go 12,false⟩ by simp only[stp,d]];have h4:=H.t4;have HH:=aH H;subst hO;have K:=hv.cell;have G:=hv.2.lt;have B:w.cell? (bp,0)=(e.p,0):=hp.cell;have F:=hp.2.lt;have y:w.cell? (bq,0)=(e.q,0):=hq.cell;have C:=hq.2.lt;have p0:=H.cp0;have lp:=H.sh.lt;have ls:=H.st_.lt;have zw:=aH zx;have u:=aH (Ab (Z.ver+1) I);obtain⟨V,hV⟩:=aO (((Z.ver+1:Nat):Int):Int);rw[<-hV]at K u⊢;clear hV;clear H hn d zx
 go_enter func176,ntmps176
 go_wp2;refine aA 7 ?_
 iterate 7
  first
  |(refine Kf ?_;constructor
    .intro w9 hw9 hc9 hf9;go_simp
     first
     |exact aE)
  |refine aU ?_
 refine bZ ?_;intro w9 hw9 hc9 hf9;refine aS ?_;have H1:=aH (HH.keep1 hw9);have zv:=aH hw9;have zu:=aH (zw.kept hw9 (bI.refl _ _) (fun _ x=>x.elim));have zn:w9.cell? (gs,0)=[s.now 0]:=H1.cnow I;have zm:=H1.st_.frozen 0;have Y:=bP w9 gs 0 [V];have o:∀b,cI gs b->tag b=100:=fun b X=>by rw[show b=gs from X];exact H1.ts
 have l:=aH (H1.setNow (a:=0) I V);have zt:=aH (zu.kept Y (bI.refl _ _) (fun b X=>by have:=o b X;omega));have j:(w9.setCell (gs,0) [V]).cell? (bv,0)=[V]:=(Y.cell (p:=⟨bv,0,none⟩) (Nat.lt_of_lt_of_le G hw9.size) (fun z=>by have h1:=o bv z;have h2:=hv.1;omega)).trans ((hw9.cell (p:=⟨bv,0,none⟩) G (fun x=>x)).trans K);have i:(w9.setCell (gs,0) [V]).cell? (bp,0)=(e.p,0):=(Y.cell (p:=⟨bp,0,none⟩) (Nat.lt_of_lt_of_le F hw9.size) (fun z=>by have h1:=o bp z;have h2:=hp.1;omega)).trans ((hw9.cell (p:=⟨bp,0,none⟩) F (fun x=>x)).trans B);have h:(w9.setCell (gs,0) [V]).cell? (bq,0)=(e.q,0):=(Y.cell (p:=⟨bq,0,none⟩) (Nat.lt_of_lt_of_le C hw9.size) (fun z=>by have h1:=o bq z;have h2:=hq.1;omega)).trans ((hw9.cell (p:=⟨bq,0,none⟩) C (fun x=>x)).trans y);have mz:=Nat.le_trans hw9.size Y.size;clear hc9 hf9 hw9 Y o K B y p0;refine aW ?_;simp only[List.drop_succ_cons,List.drop_zero,List.drop];go_wp2;generalize w9.setCell (gs,0) [V]=w2 at*;have zl:=Nat.lt_of_lt_of_le G mz;have zk:=Nat.lt_of_lt_of_le F mz;have zj:=Nat.lt_of_lt_of_le C mz;have zs:w2.cell? (e.p,23)=some (.map (some go)):=by rw[l.sh.cell,Bl]
 have mp:=l.sh.lt;have zr:w2.cell? (e.q,11)=some (.slice D Z.deeds.length cd):=by rw[l.th.blk.cell];rfl
 have mq:=l.th.blk.lt;refine aA 9 ?_
 iterate 9
  first
  |(refine Kf ?_;constructor
    .intro w9 hw9 hc9 hf9;go_simp
     first
     |exact aE)
  |refine aU ?_
 refine bZ ?_;intro w9 hw9 hc9 hf9;refine aS ?_;have g:=aH (l.keep1 hw9);obtain⟨zz,Dm,W,zy⟩:=zt.kept hw9 (bI.refl _ _) (fun _ x=>x.elim);have zi:=aH (zv.out);have Q:IsMap Dm:=by
  obtain⟨es,zo,_,_,_,hq⟩:=W;exact⟨_,hq⟩
 have zq:=aH W;have U:=aH (And.intro zz (And.intro Q zy));clear W Q zy hc9 hf9 j i h zs zr;refine aW ?_;simp only[List.drop_succ_cons,List.drop_zero,List.drop]
 go_wp2_with (refine wpList_mapUpdate_own _ rfl _ _ _ 66 rfl 23 41 YV underlying66 yG go n Dm rfl zq.out (by unfold maxLen;omega) _ _ (VZ (Z.ver+1)) rfl rfl u.out (.held (.slice D Z.deeds.length cd)) [] rfl ?_;rintro w3 P M;have f:aD (nQ go) w9 w3:=uQ M;have zp:=aH P;have T:=aH f;clear P M f)
 refine bodyPost_end (v:=.tuple #[]) (by simp [results,results176,go_sem]) rfl ?_;have S:∀b,nQ go b->tag b=104:=fun b X=>by rw[show b=go from X];exact U.out.1
 refine⟨rfl,(g.k.mono (fun k hk=>.inl hk)).go (bI.refl _ _) T.out (fun b X=>.inr (S b X)),?_,?_⟩
 .refine KO.put U.out.1 zp.out U.out.2.1 (fun v=>?_) (g.th.deeds.keptT T.out g.th.tD (fun b X=>by rw[S b X];omega)) g.th.tD;obtain⟨A,c,e1,e2,e3⟩:=U.out.2.2 v;exact⟨A,c,e1,e2.keptT T.out e3 (fun b X=>by rw[S b X];omega),e3⟩
 have h5:=(g.rebase T.out S).as (Z':=Z.go 12) (fun _ _=>rfl) rfl;exact h5.out rfl (by simp only[iF,cQ.go]) ⟨rfl,rfl⟩
end
end
section
attribute [local go_sem↓] Go.wp_at_zero Go.wp_at_succ
section
variable{w:World}{tag:Nat->Nat}{t gw gm gs:Nat}{Z:cQ}{A D:Option Addr}{ca cd:Nat}{m:Nat->Int}{s:cN}
theorem Ao(P:gJ w tag t Z gw A ca D cd)(T:fE w tag m gm)(K:iQ w tag s gs)(ht:t<4)(d:Z.does=2)(H:Z.tg=0\/Z.tg=1):
 Calls prog 62 #[(gw,0),(gm,0)] w fun e w'=>e=.returned (.tuple #[])/\iZ w tag t gw gm gs (stp t m s Z) w':=by
 rw[show stp t m s Z=⟨eI m (3+2*t) (Z.tg+1),s,{Z with said:=true,does:=3},false⟩ by simp only[stp,d]];have X:=aH (WS.start P T K);have O:=aH d;have c1:w.cell? (gw,1)=(2:Int):=X.c1 O;have G:w.cell? (gw,0)=t:=X.c 0 I;have F:w.cell? (gw,5)=Z.tg:=X.c 5 I;have W:=X.lt;have n:=X.f 1;have l:=aH (show fE w tag m gm from T);have V:¬cI gm gw:=fun e=>by have S:=P.tg;have N:=T.1;rw[show gw=gm from e]at S;omega
 have k:0<=Z.tg:=I;have j:Z.tg<=1:=I;have h:=aH H;clear H;have R:IntKind.i64.wrap (2*(t:Int))=2*t:=dE I I;have g:IntKind.i64.wrap (2+2*(t:Int))=2+2*t:=dE I I;have b:IntKind.i64.wrap (2+2*(t:Int)+1)=2+2*t+1:=dE I I;have a:=sS I I;have k5:IntKind.u64.wrap (Z.tg+1)=Z.tg+1:=sS I I;clear P T K d
 go_enter func62,ntmps62
 go_wp2;refine bK 15 (cI gm) [14] J J ?_
 iterate 14
  refine aR ?_;constructor
  .intro w9 hw9 hm9;refine aS ?_;have q0:=(hw9.cell (p:=⟨gw,0,none⟩) W V).trans G;have q5:=(hw9.cell (p:=⟨gw,5,none⟩) W V).trans F;refine aW ?_;go_simp
   first
   |exact aE
 refine bA (.nilIface) (fun _ w'=>WS w w' tag t Z gw A ca D cd (eI m (3+2*t) (Z.tg+1)) gm s gs) ?_ ?_
 .intro w9 hw9 hm9;refine aS ?_;have E:=aH (X.below (cA hm9.1 J));have C:=aH (E.rsave (i:=3+2*t) I (x:=Z.tg+1) I (2+2*(t:Int)+1) I);refine aW ?_;go_simp;go_at_call 78;refine C.mono ?_;rintro e r ⟨rfl,S,N⟩;exact⟨_,rfl,⟨rfl,S⟩,N⟩
 refine aZ ?_;rintro M hw9 Y;refine aQ ?_;refine aS ?_;obtain⟨q,o,R,L⟩:=Y.1 rfl;have U:=aH (L.below (cA R J));clear Y L o R q;refine aW ?_;have c6:M.cell? (gw,6)=Z.said:=U.c 6 I;have f6:=U.f 6;have B:=U.lt;have Q:=aH (U.own (Z':={Z with said:=true}) (SH _ _ _ _ true) rfl rfl rfl);have z:(M.setCell (gw,6) true).cell? (gw,1)=(2:Int):=Q.c1 O;have y:=Q.f 1;have u:=aH ((Q.does 3).out false);go_wp2;refine bodyPost_end (v:=.tuple #[]) (by simp [results,results62,go_sem]) rfl ⟨rfl,u.out⟩
theorem XG(W:gJ w tag t Z gw A ca D cd)(V:fE w tag m gm)(U:iQ w tag s gs)(M:t<4)(d:Z.does=3)(X:m 0≠0):
 Calls prog 62 #[(gw,0),(gm,0)] w fun e w'=>e=.returned (.tuple #[])/\iZ w tag t gw gm gs (stp t m s Z) w':=by
 rw[show stp t m s Z=⟨m,s,Z.go 17,false⟩ by simp only[stp,d];rw[iN X]];have Y:=aH (WS.start W V U);have T:=aH d;have c1:w.cell? (gw,1)=(3:Int):=Y.c1 T;have P:w.cell? (gw,0)=t:=Y.c 0 I;have S:=Y.lt;have O:=Y.f 1;have R:=aH (Y.rswapN (x:=(t:Int)+1) X);have Q:=aH ((Y.does 17).out false);clear X;clear W V U d
 go_enter func62,ntmps62
 go_wp2_with fail
 with_reducible refine R.out.mono ?_
 rintro e N ⟨rfl,rfl⟩;go_wp2;refine bodyPost_ret (v:=.tuple #[]) (by simp [results,results62,go_sem]) rfl ⟨rfl,Q.out⟩
theorem WE(S:gJ w tag t Z gw A ca D cd)(R:fE w tag m gm)(Q:iQ w tag s gs)(F:t<4)(d:Z.does=3)(W:m 0=0):
 Calls prog 62 #[(gw,0),(gm,0)] w fun e w'=>e=.returned (.tuple #[])/\iZ w tag t gw gm gs (stp t m s Z) w':=by
 rw[show stp t m s Z=⟨eI m 0 (t+1),s,Z.go 4,false⟩ by simp only[stp,d];rw[iP W]];have Y:=aH (WS.start S R Q);have V:=aH d;have c1:w.cell? (gw,1)=(3:Int):=Y.c1 V;have H:w.cell? (gw,0)=t:=Y.c 0 I;have P:=Y.lt;have G:=Y.f 1;have U:=aH (Y.rswapY (x:=(t:Int)+1) I W);clear W;clear S R Q d
 go_enter func62,ntmps62
 go_wp2_with fail
 with_reducible refine U.out.mono ?_
 rintro e K ⟨rfl,T⟩;have X:=aH T;clear T U;have O:K.cell? (gw,1)=(3:Int):=X.c1 V;have N:=X.f 1;have M:=X.lt;have L:=aH ((X.does 4).out false);go_wp2;refine bodyPost_end (v:=.tuple #[]) (by simp [results,results62,go_sem]) rfl ⟨rfl,L.out⟩
theorem XJ(R:gJ w tag t Z gw A ca D cd)(M:fE w tag m gm)(Q:iQ w tag s gs)(ht:t<4)(d:Z.does=8)(l:Z.i<32)(hv:Z.ver<1099511627776):
 Calls prog 64 #[(gw,0),(gs,0)] w fun e w'=>e=.returned (.tuple #[])/\iZ w tag t gw gm gs (stp t m s Z) w':=by
 rw[show stp t m s Z=⟨m,s.save (dU (Z.ver+1)+Z.i) (Z.r Z.i),Z.next 32 9,false⟩ by simp only[stp,d]];have X:=aH (WS.start R M Q);have L:=aH d;have c1:w.cell? (gw,1)=(8:Int):=X.c1 L;have K:w.cell? (gw,7)=Z.i:=X.c 7 I;have H:w.cell? (gw,8)=[Z.ver]:=X.c 8 I;have W:=X.lt;have k:=X.f 1;have V:¬cI gs gw:=fun e=>by have S:=R.tg;have U:=Q.1;rw[show gw=gs from e]at S;omega
 have G:w.cell? (gw,9+Z.i)=[Z.r Z.i]:=by rw[X.wk.blk.cell,ZR _ _ _ _ l]
 obtain⟨B,T⟩:=aO (dU (Z.ver+1):Nat);have P:B<=40:=by rw[T];unfold dU;omega
 have F:=aH T;rw[<-T];clear T;have E:(Z.i:Int)<32:=I;have j:IntKind.u64.wrap ((Z.ver:Int)+1)=(Z.ver:Int)+1:=sS I I;have h:IntKind.i64.wrap ((B:Int)+(Z.i:Int))=(B:Int)+Z.i:=dE I I;clear R M Q d
 go_enter func64,ntmps64
 go_wp2;refine bK 22 (cI gs) [21] J J ?_
 iterate 21
  refine aR ?_;constructor
  .intro w9 hw9 hm9;refine aS ?_;have g:=(hw9.cell (p:=⟨gw,7,none⟩) W V).trans K;have b:=(hw9.cell (p:=⟨gw,8,none⟩) W V).trans H;have q9:=(hw9.cell (p:=⟨gw,9+Z.i,none⟩) W V).trans G;refine aW ?_;go_simp
   first
   |exact aE
   |(go_at_call 92;exact bS (qU (Z.ver+1) _ I B F _))
 refine bA (.nilIface) (fun _ w'=>WS w w' tag t Z gw A ca D cd m gm (s.save (B+Z.i) (Z.r Z.i)) gs) ?_ ?_
 .intro w9 hw9 hm9;refine aS ?_;have C:=aH (X.below (cA hm9.1 J));have z:=aH (C.ssave (a:=B+Z.i) I (Z.r Z.i) ((B:Int)+Z.i) I);refine aW ?_;go_simp;go_at_call 18;refine z.mono ?_;rintro e q ⟨rfl,S,U⟩;exact⟨_,rfl,⟨rfl,S⟩,U⟩
 refine aZ ?_;rintro w1 hw9 Y;refine aQ ?_;refine aS ?_;obtain⟨o,n,O,N⟩:=Y.1 rfl;have y:=aH (N.below (cA O J));clear Y N n O o;refine aW ?_;have x:=aH (y.next 32 9 I 32 9 rfl rfl);go_wp2_with fail
 with_reducible refine x.out.mono ?_
 rintro e w2 ⟨rfl,U⟩;have u:=aH (U.out false);clear U;go_wp2;refine bodyPost_end (v:=.tuple #[]) (by simp [results,results64,go_sem]) rfl ⟨rfl,u.out⟩
theorem YR(O:gJ w tag t Z gw A ca D cd)(G:fE w tag m gm)(N:iQ w tag s gs)(b:t<4)(d:Z.does=9)(hi:Z.i<4)(hv:Z.ver<1099511627776)(M:s.fl<=1000000000):
 Calls prog 64 #[(gw,0),(gs,0)] w fun e w'=>e=.returned (.tuple #[])/\iZ w tag t gw gm gs (stp t m s Z) w':=by
 rw[show stp t m s Z=⟨m,s.flush t (dU (Z.ver+1)/8+Z.i),Z.next 4 10,false⟩ by simp only[stp,d]];have X:=aH (WS.start O G N);have F:=aH d;have c1:w.cell? (gw,1)=(9:Int):=X.c1 F;have E:w.cell? (gw,0)=t:=X.c 0 I;have C:w.cell? (gw,7)=Z.i:=X.c 7 I;have z:w.cell? (gw,8)=[Z.ver]:=X.c 8 I;have W:=X.lt;have a:=X.f 1;have V:¬cI gs gw:=fun e=>by have R:=O.tg;have U:=N.1;rw[show gw=gs from e]at R;omega
 obtain⟨B,S⟩:=aO (dU (Z.ver+1):Nat);have T:B=8\/B=40:=by rw[S];unfold dU;omega
 have y:=aH S;rw[<-S];clear S;have x:(Z.i:Int)<4:=I;have kv:IntKind.u64.wrap ((Z.ver:Int)+1)=(Z.ver:Int)+1:=sS I I;obtain⟨Q,P,j⟩:∃Q:Nat,B/8=Q/\Q<=5:=⟨B/8,rfl,I⟩;rw[P];have kd:(B:Int).tdiv 8=(Q:Int):=by rw[<-P];rcases T with rfl|rfl<;>rfl
 have u:(B:Int)/8=(Q:Int):=I;have L:IntKind.i64.wrap (Q:Int)=(Q:Int):=dE I I;have kb:IntKind.i64.wrap ((Q:Int)+(Z.i:Int))=(Q:Int)+Z.i:=dE I I;clear P;clear O G N d
 go_enter func64,ntmps64
 go_wp2;refine bK 18 (cI gs) [17] J J ?_
 iterate 17
  refine aR ?_;constructor
  .intro w9 hw9 hm9;refine aS ?_;have q0:=(hw9.cell (p:=⟨gw,0,none⟩) W V).trans E;have q7:=(hw9.cell (p:=⟨gw,7,none⟩) W V).trans C;have q8:=(hw9.cell (p:=⟨gw,8,none⟩) W V).trans z;refine aW ?_;go_simp
   first
   |exact aE
   |(go_at_call 92;exact bS (qU (Z.ver+1) _ I B y _))
 refine bA (.nilIface) (fun _ w'=>WS w w' tag t Z gw A ca D cd m gm (s.flush t (Q+Z.i)) gs) ?_ ?_
 .intro w9 hw9 hm9;refine aS ?_;have r:=aH (X.below (cA hm9.1 J));have q:=aH (r.flush b (l:=Q+Z.i) I M ((Q:Int)+Z.i) I);refine aW ?_;go_simp;go_at_call 97;refine q.mono ?_;rintro e h ⟨rfl,R,U⟩;exact⟨_,rfl,⟨rfl,R⟩,U⟩
 refine aZ ?_;rintro w1 hw9 Y;refine aQ ?_;refine aS ?_;obtain⟨g,L,K,H⟩:=Y.1 rfl;have o:=aH (H.below (cA K J));clear Y H L K g;refine aW ?_;have n:=aH (o.next 4 10 I 4 10 rfl rfl);go_wp2_with fail
 with_reducible refine n.out.mono ?_
 rintro e w2 ⟨rfl,U⟩;have k:=aH (U.out false);clear U;go_wp2;refine bodyPost_end (v:=.tuple #[]) (by simp [results,results64,go_sem]) rfl ⟨rfl,k.out⟩
theorem QA(S:gJ w tag t Z gw A ca D cd)(R:fE w tag m gm)(Q:iQ w tag s gs)(H:t<4)(d:Z.does=10)(W:s.fe<=1000000000):
 Calls prog 64 #[(gw,0),(gs,0)] w fun e w'=>e=.returned (.tuple #[])/\iZ w tag t gw gm gs (stp t m s Z) w':=by
 rw[show stp t m s Z=⟨m,s.fence t,Z.go 11,false⟩ by simp only[stp,d]];have Y:=aH (WS.start S R Q);have V:=aH d;have c1:w.cell? (gw,1)=(10:Int):=Y.c1 V;have G:w.cell? (gw,0)=t:=Y.c 0 I;have P:=Y.lt;have F:=Y.f 1;have U:=aH (Y.fence H W);clear S R Q d
 go_enter func64,ntmps64
 go_wp2_with fail
 with_reducible refine U.out.mono ?_
 rintro e K ⟨rfl,T⟩;have X:=aH T;clear T U;have O:K.cell? (gw,1)=(10:Int):=X.c1 V;have N:=X.f 1;have M:=X.lt;have L:=aH ((X.does 11).out false);go_wp2;refine bodyPost_end (v:=.tuple #[]) (by simp [results,results64,go_sem]) rfl ⟨rfl,L.out⟩
theorem RX(S:gJ w tag t Z gw A ca D cd)(R:fE w tag m gm)(Q:iQ w tag s gs)(H:t<4)(d:Z.does=13)(W:s.fe<=1000000000):
 Calls prog 64 #[(gw,0),(gs,0)] w fun e w'=>e=.returned (.tuple #[])/\iZ w tag t gw gm gs (stp t m s Z) w':=by
 rw[show stp t m s Z=⟨m,s.fence t,Z.go 14,false⟩ by simp only[stp,d]];have Y:=aH (WS.start S R Q);have V:=aH d;have c1:w.cell? (gw,1)=(13:Int):=Y.c1 V;have G:w.cell? (gw,0)=t:=Y.c 0 I;have P:=Y.lt;have F:=Y.f 1;have U:=aH (Y.fence H W);clear S R Q d
 go_enter func64,ntmps64
 go_wp2_with fail
 with_reducible refine U.out.mono ?_
 rintro e K ⟨rfl,T⟩;have X:=aH T;clear T U;have O:K.cell? (gw,1)=(13:Int):=X.c1 V;have N:=X.f 1;have M:=X.lt;have L:=aH ((X.does 14).out false);go_wp2;refine bodyPost_end (v:=.tuple #[]) (by simp [results,results64,go_sem]) rfl ⟨rfl,L.out⟩
theorem PY(T:gJ w tag t Z gw A ca D cd)(S:fE w tag m gm)(R:iQ w tag s gs)(G:t<4)(d:Z.does=11)(F:Z.ver<1099511627776):
 Calls prog 64 #[(gw,0),(gs,0)] w fun e w'=>e=.returned (.tuple #[])/\iZ w tag t gw gm gs (stp t m s Z) w':=by
 rw[show stp t m s Z=⟨m,s.save 0 (Z.ver+1:Nat),Z.go 12,false⟩ by simp only[stp,d]];have Y:=aH (WS.start T S R);have V:=aH d;have c1:w.cell? (gw,1)=(11:Int):=Y.c1 V;have K:w.cell? (gw,8)=[Z.ver]:=Y.c 8 I;have Q:=Y.lt;have H:=Y.f 1;have W:=aH (Y.ssave (a:=0) I ((Z.ver+1:Nat):Int) 0 rfl);rw[show((Z.ver+1:Nat):Int)=(Z.ver:Int)+1 by omega]at W⊢;clear T S R d
 go_enter func64,ntmps64
 go_wp2_with fail
 with_reducible refine W.out.mono ?_
 rintro e L ⟨rfl,U,_⟩;have X:=aH U;clear U W;have P:L.cell? (gw,1)=(11:Int):=X.c1 V;have O:=X.f 1;have N:=X.lt;have M:=aH ((X.does 12).out false);go_wp2;refine bodyPost_end (v:=.tuple #[]) (by simp [results,results64,go_sem]) rfl ⟨rfl,M.out⟩
theorem UK(S:gJ w tag t Z gw A ca D cd)(R:fE w tag m gm)(Q:iQ w tag s gs)(H:t<4)(d:Z.does=12)(W:s.fl<=1000000000):
 Calls prog 64 #[(gw,0),(gs,0)] w fun e w'=>e=.returned (.tuple #[])/\iZ w tag t gw gm gs (stp t m s Z) w':=by
 rw[show stp t m s Z=⟨m,s.flush t 0,Z.go 13,false⟩ by simp only[stp,d]];have Y:=aH (WS.start S R Q);have V:=aH d;have c1:w.cell? (gw,1)=(12:Int):=Y.c1 V;have G:w.cell? (gw,0)=t:=Y.c 0 I;have P:=Y.lt;have F:=Y.f 1;have U:=aH (Y.flush H (l:=0) I W 0 rfl);clear S R Q d
 go_enter func64,ntmps64
 go_wp2_with fail
 with_reducible refine U.out.mono ?_
 rintro e K ⟨rfl,T,_⟩;have X:=aH T;clear T U;have O:K.cell? (gw,1)=(12:Int):=X.c1 V;have N:=X.f 1;have M:=X.lt;have L:=aH ((X.does 13).out false);go_wp2;refine bodyPost_end (v:=.tuple #[]) (by simp [results,results64,go_sem]) rfl ⟨rfl,L.out⟩
theorem SD(T:gJ w tag t Z gw A ca D cd)(S:fE w tag m gm)(R:iQ w tag s gs)(G:t<4)(d:Z.does=14)(F:Z.ver<1099511627776):
 Calls prog 65 #[(gw,0),(gm,0)] w fun e w'=>e=.returned false/\iZ w tag t gw gm gs (stp t m s Z) w':=by
 rw[show stp t m s Z=⟨eI m 1 (Z.ver+1:Nat),s,Z.go 15,false⟩ by simp only[stp,d]];have Y:=aH (WS.start T S R);have V:=aH d;have c1:w.cell? (gw,1)=(14:Int):=Y.c1 V;have K:w.cell? (gw,8)=[Z.ver]:=Y.c 8 I;have Q:=Y.lt;have H:=Y.f 1;have W:=aH (Y.rsave (i:=1) I (x:=((Z.ver+1:Nat):Int)) I 1 rfl);rw[show((Z.ver+1:Nat):Int)=(Z.ver:Int)+1 by omega]at W⊢;clear T S R d
 go_enter func65,ntmps65
 go_wp2_with fail
 with_reducible refine W.out.mono ?_
 rintro e L ⟨rfl,U,_⟩;have X:=aH U;clear U W;have P:L.cell? (gw,1)=(14:Int):=X.c1 V;have O:=X.f 1;have N:=X.lt;have M:=aH ((X.does 15).out false);go_wp2;go_ret;exact⟨rfl,M.out⟩
theorem TA(T:gJ w tag t Z gw A ca D cd)(S:fE w tag m gm)(R:iQ w tag s gs)(H:t<4)(d:Z.does=15):
 Calls prog 65 #[(gw,0),(gm,0)] w fun e w'=>e=.returned false/\iZ w tag t gw gm gs (stp t m s Z) w':=by
 rw[show stp t m s Z=⟨eI m 0 0,s,Z.go 16,false⟩ by simp only[stp,d]];have Y:=aH (WS.start T S R);have W:=aH d;have c1:w.cell? (gw,1)=(15:Int):=Y.c1 W;have Q:=Y.lt;have K:=Y.f 1;have V:=aH (Y.rsave (i:=0) I (x:=0) I 0 rfl);clear T S R d
 go_enter func65,ntmps65
 go_wp2_with fail
 with_reducible refine V.out.mono ?_
 rintro e L ⟨rfl,U,_⟩;have X:=aH U;clear U V;have P:L.cell? (gw,1)=(15:Int):=X.c1 W;have O:=X.f 1;have N:=X.lt;have M:=aH ((X.does 16).out false);go_wp2;go_ret;exact⟨rfl,M.out⟩
theorem SF(X:gJ w tag t Z gw A ca D cd)(W:fE w tag m gm)(V:iQ w tag s gs)(Q:t<4)(d:Z.does=16):
 Calls prog 65 #[(gw,0),(gm,0)] w fun e w'=>e=.returned true/\iZ w tag t gw gm gs (stp t m s Z) w':=by
 rw[show stp t m s Z=⟨m,s,Z.go 0,true⟩ by simp only[stp,d]];have Y:=aH (WS.start X W V);have U:=aH d;have c1:w.cell? (gw,1)=(16:Int):=Y.c1 U;have T:=Y.lt;have R:=Y.f 1;have S:=aH ((Y.does 0).out true);clear X W V d
 go_enter func65,ntmps65
 go_wp2;go_ret;exact⟨rfl,S.out⟩
end
section
variable{w0 w:World}{tag:Nat->Nat}{t:Nat}{Z:cQ}{gw:Nat}{A:Option Addr}{ca:Nat}{D:Option Addr}{cd:Nat}{m:Nat->Int}{gm:Nat}{s:cN}{gs:Nat}
theorem WS.err(h:WS w0 w tag t Z gw A ca D cd m gm s gs)(Y:mR w0)(W:tag 2=0):mR w:=
 (h.k.cell (p:=⟨2,0,none⟩) Y.pos (fun e=>by rcases e with e|e|e|e<;>(have X:tag 2=_:=e;omega))).trans Y
theorem WS.none_(h:WS w0 w tag t Z gw A ca D cd m gm s gs):WS w0 (w.setCell (gw,41) (.slice none 0 0)) tag t {Z with na:=0,asks:=fun _ _=>0} gw none 0 D cd m gm s gs:=by
 have X:=bP w gw 41 (.slice none 0 0);have W:∀b,cI gw b->tag b=10+t:=fun b Y=>by rw[show b=gw from Y];exact h.wk.tg
 refine⟨⟨?_,cU.nil _ _ _ _,h.wk.deeds.keptT X h.wk.tD (fun b Y=>by rw[W b Y];omega),h.wk.tg,?_,h.wk.tD⟩,h.ram.kept X (bI.refl _ _) (fun b Y=>by rw[W b Y];omega),h.st.kept X (bI.refl _ _) (fun b Y=>by rw[W b Y];omega),h.k.setCell (p:=⟨gw,41,none⟩) (.inl (.inr (.inr (.inl h.wk.tg)))) _⟩
 .have Y:=h.wk.blk.set_ 41 (.slice none 0 0);rw[CQ]at Y;exact Y
 rintro b ⟨a,V,_⟩;cases V
theorem WS.fill{g:Nat}(h:WS w0 w tag t Z gw (some ⟨g,0,none⟩) ca D cd m gm s gs)(R:0<Z.na)(x:Int):WS w0 (w.setCells g ((Z.na-1)*5+2) [.int .i64 (IV x),.int .i64 (KE x),.int .i64 (ID x)]) tag t {Z with asks:=(Z.fill x).asks} gw (some ⟨g,0,none⟩) ca D cd m gm s gs:=by
 have X:aD (cI g) w (w.setCells g ((Z.na-1)*5+2) [.int .i64 (IV x),.int .i64 (KE x),.int .i64 (ID x)]):=cE (S:=cI g) (.inl rfl) _ _;have T:=h.wk.tA g ⟨_,rfl,rfl⟩;have W:∀b,cI g b->tag b=20+t:=fun b Y=>by rw[show b=g from Y];exact T
 refine⟨⟨?_,?_,h.wk.deeds.keptT X h.wk.tD (fun b Y=>by rw[W b Y];omega),h.wk.tg,h.wk.tA,h.wk.tD⟩,h.ram.kept X (bI.refl _ _) (fun b Y=>by rw[W b Y];omega),h.st.kept X (bI.refl _ _) (fun b Y=>by rw[W b Y];omega),h.k.trans (X.mono fun b Y=>.inr (.inr (.inr (W b Y))))⟩
 .exact(X.block gw h.wk.blk.lt fun e=>by have:=W _ e;have:=h.wk.tg;omega).trans h.wk.blk
 refine h.wk.asks.sets (oE _ _) (xO _ _) fun i U=>?_
 rw[xJ _ _ _ U,xJ _ _ _ U];show some (Value.int .i64 (if i/5+1=Z.na/\2<=i%5 then(if i%5=2 then IV x else if i%5=3 then KE x else ID x)else Z.asks (i/5) (i%5)))=_;by_cases c:i/5+1=Z.na/\2<=i%5
 .have V:(Z.na-1)*5+2<=i/\i<(Z.na-1)*5+2+3:=I;refine Eq.trans ?_ (iP V).symm;rw[iP c];rcases(by omega:i%5=2\/i%5=3\/i%5=4)with e|e|e
  .rw[e,iP rfl,show i-((Z.na-1)*5+2)=0 by omega];rfl
  .rw[e,iN aJ,iP rfl,show i-((Z.na-1)*5+2)=1 by omega];rfl
  rw[e,iN aJ,iN aJ,show i-((Z.na-1)*5+2)=2 by omega];rfl
 have V:¬((Z.na-1)*5+2<=i/\i<(Z.na-1)*5+2+3):=I;rw[iN c];exact(iN V).symm
theorem WS.ask{X:Nat}(h:WS w0 w tag t Z gw A ca D cd m gm s gs)(g:Int)(O:cU w' 0 181 5 A' (Z.na+1) X (eH Z.asks Z.na++[[.int .i64 (Z.i:Int),.int .i64 g,.int .i64 0,.int .i64 0,.int .i64 0]]))(S:aD (iI A) w w')(F:∀b,iI A' b->iI A b\/w<=b)
 (B:True):WS w0 (w'.setCell (gw,41) (.slice A' (Z.na+1) X)) (cG w tag (20+t)) t {Z with asks:=(Z.ask g).asks,na:=Z.na+1} gw A' X D cd m gm s gs:=by
 have V:=cO w tag (20+t);have T:=h.wk.tA;have P:aY w' gw 46 (kE t Z (.slice A Z.na ca) (.slice D Z.deeds.length cd)):=(S.block gw h.wk.blk.lt fun e=>by have:=T _ e;have:=h.wk.tg;omega).trans h.wk.blk;have N:eH Z.asks Z.na++[[.int .i64 (Z.i:Int),.int .i64 g,.int .i64 0,.int .i64 0,.int .i64 0]]=eH (Z.ask g).asks (Z.na+1):=by
  have M:eH (Z.ask g).asks Z.na=eH Z.asks Z.na:=pQ fun j E c C=>iN I
  have L:DJ (Z.ask g).asks Z.na=[.int .i64 (Z.i:Int),.int .i64 g,.int .i64 0,.int .i64 0,.int .i64 0]:=by
   rw[pX];simp [cQ.ask]
  rw[xL,M,L]
 rw[N]at O;have W:=bP w' gw 41 (.slice A' (Z.na+1) X);have U:=(V gw h.wk.blk.lt).trans h.wk.tg;have Q:∀b,cI gw b->cG w tag (20+t) b=10+t:=fun b Y=>by rw[show b=gw from Y];exact U
 have R:∀b,iI A' b->cG w tag (20+t) b=20+t:=fun b Y=>by
  rcases F b Y with e|e
  .exact(V b (by obtain⟨a,G,rfl⟩:=e;exact(h.wk.asks.lt a G).2)).trans (T b e)
  exact dT _ _ _ e
 have K:aD (fun b=>iI A b) w w':=S;refine⟨⟨?_,?_,?_,U,R,h.wk.deeds.tagT V h.wk.tD⟩,?_,?_,?_⟩
 .have Y:=P.set_ 41 (.slice A' (Z.na+1) X);rw[CQ]at Y;exact Y
 .exact O.keptT W R (fun b Y=>by rw[Q b Y];omega)
 .exact(h.wk.deeds.keptT S h.wk.tD (fun b Y=>by rw[T b Y];omega)).keptT W (h.wk.deeds.tagT V h.wk.tD) (fun b Y=>by rw[Q b Y];omega)
 .exact(h.ram.kept S V (fun b Y=>by rw[T b Y];omega)).kept W (bI.refl _ _) (fun b Y=>by rw[Q b Y];omega)
 .exact(h.st.kept S V (fun b Y=>by rw[T b Y];omega)).kept W (bI.refl _ _) (fun b Y=>by rw[Q b Y];omega)
 have H:=(h.k.trans (S.mono fun b Y=>.inr (.inr (.inr (T b Y))))).retag (fun b Y=>V b (Nat.lt_of_lt_of_le Y h.k.size));exact H.setCell (p:=⟨gw,41,none⟩) (.inl (.inr (.inr (.inl U)))) _
end
section
variable{w0 w:World}{tag:Nat->Nat}{t:Nat}{Z:cQ}{gw:Nat}{A:Option Addr}{ca:Nat}{D:Option Addr}{cd:Nat}{m:Nat->Int}{gm:Nat}{s:cN}{gs:Nat}
theorem WS.sloadB(h:WS w0 w tag t Z gw A ca D cd m gm s gs){a:Nat}(Y:a<72)(a':Int)(e:a'=a){x:Int}(X:x=s.now a):Calls prog 26 #[(gs,0),a'] w fun e w'=>e=.returned (.tuple #[[x],.nilIface])/\Below w w w':=by
 subst X;refine(h.sload Y a' e).mono ?_;rintro e w' ⟨rfl,rfl⟩;exact⟨rfl,Below.refl _ _⟩
theorem ZU{z:Nat->Int}{i:Nat}(Y:i<4):AT (z 26).toNat (i:Int)=jA z i:=by
 unfold AT jA;by_cases Z:gO (z 26).toNat i=true
 .rw[iP ⟨I,I,by simpa using Z⟩,iP Z]
 rw[iN (fun h=>Z (by simpa using h.2.2)),iN Z]
theorem RG(z:Nat->Int)(i:Nat):0<=jA z i/\jA z i<=1:=by unfold jA;split<;>omega
theorem QI(h:WS w0 w tag t Z gw A ca D cd m gm s gs)(Y:Z.does<=21)(X:t<4)(W:mR w0)(V:tag 2=0)
 (U:Z.does=8->eE Z.r/\(∀i,i<32->0<=Z.r i/\Z.r i<18446744073709551616)/\jL Z.asks Z.na/\Z.na<=4/\Z.r 28+Z.na<=1099511627776/\Z.r 27+1<=1099511627776):
 Calls prog 95 #[(gw,0)] w fun e w'=>e=.returned (.tuple #[])/\iZ w0 tag t gw gm gs ⟨m,s,Z.all t,false⟩ w':=by
 by_cases d:Z.does=8
 .obtain⟨a1,a2,a3,a4,a5,a6⟩:=U d;exact Ae h d X a1 a2 a3 a4 a5 a6 (h.err W V)
 refine(Ba h d Y).mono ?_;rintro e w' ⟨rfl,rfl⟩;refine⟨rfl,?_⟩;rw[show Z.all t=Z from iN d];exact h.out false
end
section
variable{w:World}{tag:Nat->Nat}{t gw gm gs:Nat}{Z:cQ}{A D:Option Addr}{ca cd:Nat}{m:Nat->Int}{s:cN}
theorem OU(Q:gJ w tag t Z gw A ca D cd)(W:fE w tag m gm)(P:iQ w tag s gs)(x:t<4)(d:Z.does=4):
 Calls prog 63 #[(gw,0),(gm,0),(gs,0)] w fun e w'=>e=.returned (.tuple #[])/\iZ w tag t gw gm gs (stp t m s Z) w':=by
 rw[show stp t m s Z=⟨m,s,{Z with ver:=(m 1).toNat,i:=0,does:=5,na:=0,asks:=fun _ _=>0},false⟩ by simp only[stp,d]];have Y:=aH (WS.start Q W P);have H:=aH d;obtain⟨V,X⟩:∃V:Nat,m 1=(V:Int):=by
  obtain⟨_,E,_,K⟩:=W;exact Int.eq_ofNat_of_zero_le (K.bd 1 I).1
 have U:=aH (Y.rload (i:=1) I 1 rfl);rw[X]at U;rw[X,show((V:Int)).toNat=V from rfl];have c1:w.cell? (gw,1)=(4:Int):=Y.c1 d;have G:w.cell? (gw,7)=Z.i:=Y.c 7 I;have F:w.cell? (gw,8)=[Z.ver]:=Y.c 8 I;have O:w.cell? (gw,41)=some (.slice A Z.na ca):=Y.c 41 I;have C:=Y.f 1;have B:=Y.f 7;have z:=Y.f 8;have N:=Y.f 41;have M:=Y.lt;have T:=aH (Y.own (Z':={Z with ver:=V}) (LP _ _ _ _ V) rfl rfl rfl);have S:=aH (T.own (Z':={Z with ver:=V,i:=0}) (LL _ _ _ _ 0) rfl rfl rfl);have R:=aH (S.does 5);have L:=aH (R.none_.out false);clear Q W P T S R d X
 go_enter func63,ntmps63
 go_wp2_with fail
 with_reducible refine U.out.mono ?_
 rintro e y ⟨rfl,rfl⟩;go_wp2;refine bodyPost_end (v:=.tuple #[]) (by simp [results,results63,go_sem]) rfl ⟨rfl,L.out⟩
theorem PJ(M:gJ w tag t Z gw A ca D cd)(L:fE w tag m gm)(K:iQ w tag s gs)(ht:t<4)(d:Z.does=5)(p:Z.i<32):
 Calls prog 63 #[(gw,0),(gm,0),(gs,0)] w fun e w'=>e=.returned (.tuple #[])/\iZ w tag t gw gm gs (stp t m s Z) w':=by
 rw[show stp t m s Z=⟨m,s,{Z with r:=fun j=>if j=Z.i then s.now (dU Z.ver+Z.i)else Z.r j}.next 32 6,false⟩ by simp only[stp,d]];have W:=aH (WS.start M L K);have c1:w.cell? (gw,1)=(5:Int):=W.c1 d;have H:=W.lt;obtain⟨B,V⟩:=aO (dU Z.ver:Nat);have S:B<=40:=by rw[V];unfold dU;omega
 have G:=aH V;rw[<-V];obtain⟨x,T⟩:=aO (s.now (B+Z.i));have U:=aH T;rw[<-T];have R:=aH p;have F:(Z.i:Int)<32:=I;have o:IntKind.i64.wrap ((B:Int)+(Z.i:Int))=(B:Int)+Z.i:=dE I I;clear V T M L K d
 go_enter func63,ntmps63
 go_wp2;refine bK 24 (cI gw) [23] J J ?_
 iterate 19
  refine aR ?_;constructor
  .intro w9 hw9 hm9;refine aS ?_;have X:=aH (W.below (cA hm9.1 J));have n:w9.cell? (gw,7)=Z.i:=X.c 7 I;have l:w9.cell? (gw,8)=[Z.ver]:=X.c 8 I;refine aW ?_;go_simp
   first
   |exact aE
   |(go_at_call 92;exact bS (qU Z.ver _ rfl B G _))
   |(go_at_call 26;exact bS (X.sloadB (a:=B+Z.i) I ((B:Int)+Z.i) I U))
 iterate 4
  refine aR ?_;constructor
  .intro w9 hw9 hm9;go_simp
   first
   |exact aE
 refine bA undef (fun _ w'=>WS w w' tag t {Z with r:=fun j=>if j=Z.i then x else Z.r j} gw A ca D cd m gm s gs) ?_ ?_
 .intro w9 hw9 hm9;refine aS ?_;have X:=aH (W.below (cA hm9.1 J));have k:w9.cell? (gw,9+Z.i)=[Z.r Z.i]:=by rw[X.wk.blk.cell,ZR _ _ _ _ R.out]
  have h:=X.f (9+Z.i);have E:=aH (X.own (Z':={Z with r:=fun j=>if j=Z.i then x else Z.r j}) (QN _ _ _ _ R x) rfl rfl rfl);refine aW ?_;go_simp;exact⟨⟨rfl,E.out⟩,(bP _ gw _ _).mono fun b Q=>by first|exact Q|exact⟨aJ,Q⟩⟩
 refine aZ ?_;rintro w9 hw9 Y;refine aQ ?_;refine aS ?_;obtain⟨u,q,P,O⟩:=Y.1 rfl;have C:=aH (O.below (cA P J));clear Y O q P u;have z:=aH (C.next 32 6 (by show Z.i<100;omega) 32 6 rfl rfl);obtain⟨g,rfl⟩:=aO w9;refine aW ?_;go_wp2_with fail
 with_reducible refine z.out.mono ?_
 rintro e w2 ⟨rfl,N⟩;have y:=aH (N.out false);clear N;go_wp2;refine bodyPost_end (v:=.tuple #[]) (by simp [results,results63,go_sem]) rfl ⟨rfl,y.out⟩
theorem IY(K:gJ w tag t Z gw A ca D cd)(R:fE w tag m gm)(H:iQ w tag s gs)(o:t<4)(d:Z.does=6)(g:Z.i<4)(Q:m (3+2*Z.i)=0)(G:eE Z.r/\(∀i,i<32->0<=Z.r i/\Z.r i<18446744073709551616)/\jL Z.asks Z.na/\Z.na<=4/\Z.r 28+Z.na<=1099511627776/\Z.r 27+1<=1099511627776)(F:mR w)(C:tag 2=0):
 Calls prog 63 #[(gw,0),(gm,0),(gs,0)] w fun e w'=>e=.returned (.tuple #[])/\iZ w tag t gw gm gs (stp t m s Z) w':=by
 rw[show stp t m s Z=⟨m,s,(Z.next 4 8).all t,false⟩ by simp only[stp,d];rw[iN (fun h=>h.1 Q)]];have X:=aH (WS.start K R H);have B:=aH o;have z:=X.lt;have c1:w.cell? (gw,1)=(6:Int):=X.c1 d;have n:w.cell? (gw,7)=Z.i:=X.c 7 I;have U:0<=m (3+2*Z.i)/\m (3+2*Z.i)<18446744073709551616:=by
  obtain⟨_,E,_,q⟩:=R;exact q.bd _ I
 have P:=aH (X.rload (i:=3+2*Z.i) I (2+2*(Z.i:Int)+1) I);have l:=aH d;have T:=aH G;have y:=aH F;have S:=aH C;have Y:Hid ((Z.next 4 8).does=(if Z.i+1=4 then 8 else 6)/\(Z.next 4 8).r=Z.r/\(Z.next 4 8).asks=Z.asks/\(Z.next 4 8).na=Z.na):=aH (by unfold cQ.next;split<;>first|exact⟨rfl,rfl,rfl,rfl⟩|exact⟨d,rfl,rfl,rfl⟩)
 rw[Q]at P;clear K R H G F C d U Q
 go_enter func63,ntmps63
 go_wp2_with fail
 with_reducible refine P.out.mono ?_
 rintro e p ⟨rfl,rfl⟩;go_wp2;refine aA 17 ?_
 iterate 3
  refine aR ?_;constructor
  .intro w9 hw9 hm9;go_simp
   first
   |exact aE
 iterate 13
  refine aU ?_
 refine aR ?_;constructor
 .intro w9 hw9 hm9;go_simp
  first
  |exact aE
 refine aZ ?_;rintro w9 hw9 V;refine aQ ?_;refine aS ?_;have O:=aH (X.below hw9.same);have x:=O.lt;clear V;obtain⟨p,rfl⟩:=aO w9;have N:=aH (O.next 4 8 I 4 8 rfl rfl);refine aW ?_;go_wp2_with fail
 with_reducible refine N.out.mono ?_
 rintro e k ⟨rfl,M⟩;have W:=aH (QI M (by rw[Y.out.1];split<;>omega) B y S (fun _=>by rw[Y.out.2.1,Y.out.2.2.1,Y.out.2.2.2];exact T))
 clear M N;go_wp2_with fail
 with_reducible refine W.out.mono ?_
 rintro e j ⟨rfl,L⟩;have u:=aH L;clear L W;go_wp2;refine bodyPost_end (v:=.tuple #[]) (by simp [results,results63,go_sem]) rfl ⟨rfl,u.out⟩
theorem FP(y:gJ w tag t Z gw A ca D cd)(H:fE w tag m gm)(x:iQ w tag s gs)(ht:t<4)(d:Z.does=6)(hi:Z.i<4)(O:m (3+2*Z.i)≠0/\m (3+2*Z.i)-1=jA Z.r Z.i)(G:eE Z.r/\(∀i,i<32->0<=Z.r i/\Z.r i<18446744073709551616)/\jL Z.asks Z.na/\Z.na<=4/\Z.r 28+Z.na<=1099511627776/\Z.r 27+1<=1099511627776)(u:mR w)(q:tag 2=0):
 Calls prog 63 #[(gw,0),(gm,0),(gs,0)] w fun e w'=>e=.returned (.tuple #[])/\iZ w tag t gw gm gs (stp t m s Z) w':=by
 rw[show stp t m s Z=⟨m,s,(Z.next 4 8).all t,false⟩ by simp only[stp,d];rw[iN (fun h=>h.2 O.2)]];have U:=aH (WS.start y H x);have p:=aH ht;have o:=U.lt;have c1:w.cell? (gw,1)=(6:Int):=U.c1 d;have c7:w.cell? (gw,7)=Z.i:=U.c 7 I;have n:0<=m (3+2*Z.i)/\m (3+2*Z.i)<18446744073709551616:=by
  obtain⟨_,E,_,hu⟩:=H;exact hu.bd _ I
 have l:=aH (U.rload (i:=3+2*Z.i) I (2+2*(Z.i:Int)+1) I);have HD:=aH d;have N:=aH G;have k:=aH u;have M:=aH q;have V:Hid ((Z.next 4 8).does=(if Z.i+1=4 then 8 else 6)/\(Z.next 4 8).r=Z.r/\(Z.next 4 8).asks=Z.asks/\(Z.next 4 8).na=Z.na):=aH (by unfold cQ.next;split<;>first|exact⟨rfl,rfl,rfl,rfl⟩|exact⟨d,rfl,rfl,rfl⟩)
 have L:=O.1;have j:=RG Z.r Z.i;have S:=aH (fun W=>rI (kT Z.r) Z.r (Z.i:Int) W (xA G.2.1));rw[ZU hi]at S;have R:=O.2;generalize m (3+2*Z.i)=g at*;generalize jA Z.r Z.i=T at*;have k1:IntKind.u64.wrap (g-1)=g-1:=sS I I;have k2:IntKind.i64.wrap (g-1)=g-1:=dE I I;have k3:(g !=0)=true:=by simpa using L
 obtain rfl:T=g-1:=R.symm;clear y H x G u q d O R
 go_enter func63,ntmps63
 go_wp2_with fail
 with_reducible refine l.out.mono ?_
 rintro e w1 ⟨rfl,rfl⟩;go_wp2;refine aA 17 ?_
 iterate 9
  refine aR ?_;constructor
  .intro w9 hw9 X;go_simp
   first
   |exact aE
 first|(with_reducible refine aC (fun K Y=>?_))|(refine aC (fun K Y=>?_))
 refine .inl ⟨.agg (kT Z.r),cX,?_,Y _ _ _ _ ?_⟩
 .simp only[bJ,bM];refine⟨?_,fun w9 hw9 X=>?_⟩
  .first|rfl|(go_simp;done)
  refine aS ?_;have f:=aH (sW (U.below (cA X.1 J)).wk.blk);refine aW ?_;refine eG 25 _ rfl gw 9 rfl (kT Z.r) _ f underlying25 rfl (vU _) aE
 iterate 3
  clear Y K;refine aN ?_
  first|(with_reducible refine aC (fun K Y=>?_))|(refine aC (fun K Y=>?_))
  refine .inl ?_;apply Exists.intro;refine⟨cX,?_,Y _ _ _ _ ?_⟩
  .simp only[bJ,bM];refine⟨?_,fun w9 hw9 X=>?_⟩
   .first|rfl|(go_simp;done)
   go_simp
   first
   |exact aE
 clear Y K;refine aN ?_;refine aR ?_;constructor
 .intro w9 hw9 X;refine aS ?_;have q7:w9.cell? (gw,7)=Z.i:=(U.below (cA X.1 J)).c 7 I;refine aW ?_;go_simp
  first
  |exact aE
 first|(with_reducible refine aC (fun K Y=>?_))|(refine aC (fun K Y=>?_))
 refine .inl ?_;apply Exists.intro;refine⟨cX,?_,Y _ _ _ _ ?_⟩
 .simp only[bJ,bM];refine⟨?_,fun w9 hw9 X=>?_⟩
  .first|rfl|(go_simp;done)
  go_simp
  first
  |exact aE
  |(go_at_call 94;exact bS (S.out _))
 iterate 2
  clear Y K;refine aN ?_
  first|(with_reducible refine aC (fun K Y=>?_))|(refine aC (fun K Y=>?_))
  refine .inl ?_;apply Exists.intro;refine⟨cX,?_,Y _ _ _ _ ?_⟩
  .simp only[bJ,bM];refine⟨?_,fun w9 hw9 X=>?_⟩
   .first|rfl|(go_simp;done)
   go_simp
   first
   |exact aE
 clear Y K;refine aN ?_;refine aZ ?_;rintro w9 hw9 P;refine aQ ?_;refine aS ?_;have F:=aH (U.below hw9.same);have b:=F.lt;clear P;obtain⟨w1,rfl⟩:=aO w9;have C:=aH (F.next 4 8 I 4 8 rfl rfl);refine aW ?_;go_wp2_with fail
 with_reducible refine C.out.mono ?_
 rintro e w2 ⟨rfl,B⟩;have Q:=aH (QI B (by rw[V.out.1];split<;>omega) p k M (fun _=>by rw[V.out.2.1,V.out.2.2.1,V.out.2.2.2];exact N))
 clear B C;go_wp2_with fail
 with_reducible refine Q.out.mono ?_
 rintro e w3 ⟨rfl,z⟩;have a:=aH z;clear z Q;go_wp2;refine bodyPost_end (v:=.tuple #[]) (by simp [results,results63,go_sem]) rfl ⟨rfl,a.out⟩
theorem GW(hW:gJ w tag t Z gw A ca D cd)(hR:fE w tag m gm)(hS:iQ w tag s gs)(ht:t<4)(d:Z.does=6)(hi:Z.i<4)(hz:m (3+2*Z.i)≠0/\m (3+2*Z.i)-1≠jA Z.r Z.i)(h2:m (3+2*Z.i)<=2)(hx:eE Z.r/\(∀i,i<32->0<=Z.r i/\Z.r i<18446744073709551616)/\jL Z.asks Z.na/\Z.na<=4/\Z.r 28+Z.na<=1099511627776/\Z.r 27+1<=1099511627776)(hg:mR w)(h0:tag 2=0):
 Calls prog 63 #[(gw,0),(gm,0),(gs,0)] w fun e w'=>e=.returned (.tuple #[])/\iZ w tag t gw gm gs (stp t m s Z) w':=by
 rw[show stp t m s Z=⟨m,s,Z.ask (m (3+2*Z.i)-1),false⟩ by simp only[stp,d];rw[iP hz]];have M:=aH (WS.start hW hR hS);have HT:=aH ht;have zp:=M.lt;have c1:w.cell? (gw,1)=(6:Int):=M.c1 d;have c7:w.cell? (gw,7)=Z.i:=M.c 7 I;have zo:0<=m (3+2*Z.i)/\m (3+2*Z.i)<18446744073709551616:=by
  obtain⟨_,E,_,h⟩:=hR;exact h.bd _ I
 have HV:=aH (M.rload (i:=3+2*Z.i) I (2+2*(Z.i:Int)+1) I);have HD:=aH d;have zn:=aH hx;have HG:=aH hg;have zm:=aH h0;have zz:=hz.1;have zl:=RG Z.r Z.i;have C:=aH (fun W=>rI (kT Z.r) Z.r (Z.i:Int) W (xA hx.2.1));rw[ZU hi]at C;have zy:=hz.2;generalize m (3+2*Z.i)=g at*;generalize jA Z.r Z.i=T at*;have zk:=hx.2.2.2.1;have F:IntKind.u64.wrap (g-1)=g-1:=sS I I;have k2:IntKind.i64.wrap (g-1)=g-1:=dE I I;have k3:(g !=0)=true:=by simpa using zz
 have k4:(g-1 !=T)=true:=by simpa using zy
 obtain⟨i0,z,y,x,q⟩:=MY;have HI:=aH z;have HZ:=aH y;have HS:=aH x;have HY:=aH q;clear hW hR hS hx hg h0 d hz z y x q
 go_enter func63,ntmps63
 go_wp2_with fail
 with_reducible refine HV.out.mono ?_
 rintro e G ⟨rfl,rfl⟩;go_wp2;refine aA 17 ?_
 iterate 9
  refine aR ?_;constructor
  .intro w9 hw9 U;go_simp
   first
   |exact aE
 first|(with_reducible refine aC (fun K S=>?_))|(refine aC (fun K S=>?_))
 refine .inl ⟨.agg (kT Z.r),cX,?_,S _ _ _ _ ?_⟩
 .simp only[bJ,bM];refine⟨?_,fun w9 hw9 U=>?_⟩
  .first|rfl|(go_simp;done)
  refine aS ?_;have HX:=aH (sW (M.below (cA U.1 J)).wk.blk);refine aW ?_;refine eG 25 _ rfl gw 9 rfl (kT Z.r) _ HX underlying25 rfl (vU _) aE
 iterate 3
  clear S K;refine aN ?_
  first|(with_reducible refine aC (fun K S=>?_))|(refine aC (fun K S=>?_))
  refine .inl ?_;apply Exists.intro;refine⟨cX,?_,S _ _ _ _ ?_⟩
  .simp only[bJ,bM];refine⟨?_,fun w9 hw9 U=>?_⟩
   .first|rfl|(go_simp;done)
   go_simp
   first
   |exact aE
 clear S K;refine aN ?_;refine aR ?_;constructor
 .intro w9 hw9 U;refine aS ?_;have q7:w9.cell? (gw,7)=Z.i:=(M.below (cA U.1 J)).c 7 I;refine aW ?_;go_simp
  first
  |exact aE
 first|(with_reducible refine aC (fun K S=>?_))|(refine aC (fun K S=>?_))
 refine .inl ?_;apply Exists.intro;refine⟨cX,?_,S _ _ _ _ ?_⟩
 .simp only[bJ,bM];refine⟨?_,fun w9 hw9 U=>?_⟩
  .first|rfl|(go_simp;done)
  go_simp
  first
  |exact aE
  |(go_at_call 94;exact bS (C.out _))
 iterate 2
  clear S K;refine aN ?_
  first|(with_reducible refine aC (fun K S=>?_))|(refine aC (fun K S=>?_))
  refine .inl ?_;apply Exists.intro;refine⟨cX,?_,S _ _ _ _ ?_⟩
  .simp only[bJ,bM];refine⟨?_,fun w9 hw9 U=>?_⟩
   .first|rfl|(go_simp;done)
   go_simp
   first
   |exact aE
 clear S K;refine aN ?_;refine aZ ?_;rintro w9 hw9 Y;refine aQ ?_;refine aS ?_;have P:=aH (M.below hw9.same);have zj:=P.lt;clear Y;obtain⟨G,rfl⟩:=aO w9;have V:=P.lt;have B:G.cell? (gw,41)=some (.slice A Z.na ca):=P.c 41 I;have zx:G.cell? (gw,7)=Z.i:=P.c 7 I;have O:=P.wk.neA;refine aW ?_;go_wp2;refine bK 15 (iI A) [14] J J ?_
 iterate 13
  refine aR ?_;constructor
  .intro w9 hw9 U;refine aS ?_;have zi:=(hw9.cell (p:=⟨gw,41,none⟩) V O).trans B;have q7:=(hw9.cell (p:=⟨gw,7,none⟩) V O).trans zx;refine aW ?_;go_simp
   first
   |exact aE
 refine bC CK (DM 181 [.int .i64 (Z.i:Int),.int .i64 (g-1),.int .i64 0,.int .i64 0,.int .i64 0]) ⟨_,0,rfl⟩ ?_ ?_
 .intro w9 hw9 X;go_simp;exact⟨⟨⟨_,rfl⟩,⟨_,rfl,aY.new _ _ _⟩⟩,aD.of_same ((Below.refl _ _).alloc (Nat.le_refl _) _)⟩
 refine bD (DN (Z.na+1)) (fun v w'=>∃A' c',v=.slice A' (Z.na+1) c'/\cU w' 0 181 5 A' (Z.na+1) c' (eH Z.asks Z.na++[[.int .i64 (Z.i:Int),.int .i64 (g-1),.int .i64 0,.int .i64 0,.int .i64 0]])/\∀b,iI A' b->iI A b\/G<=b) ⟨_,none,0,rfl⟩ ?_ ?_
 .rintro _ ⟨g9,rfl⟩;refine⟨aF,fun w9 hw9 X=>?_⟩;refine aS ?_;have R:=X;have Y:=X.2;clear X;obtain⟨w0,k0,F,g',hv,Q⟩:=Y.1 J;cases hv;have zh:=hw9.size;have L:=Q.below (cA F J) Q.lt;have zw:=aH (P.wk.asks.below (cA R.1 J));clear Y R Q k0 F;refine aW ?_;refine iM (.tmp 95) (.tmp 104) rfl underlying40 HI HZ HS HY rfl aJ aJ (A:=A) (n:=Z.na) (c:=ca) (rows:=eH Z.asks Z.na) rfl zw (g:=g9) (c':=1) rfl (ys:=[.int .i64 (Z.i:Int),.int .i64 (g-1),.int .i64 0,.int .i64 0,.int .i64 0]) rfl ?_ ?_ I (Nat.zero_le _) ?_
  .intro j hj;rw[L.cell j];simp
  .intro u h;simp only[List.mem_cons,List.not_mem_nil,or_false]at h;rcases h with rfl|rfl|rfl|rfl|rfl<;>rfl
  intro g' zd w' ho zu zt;refine⟨⟨⟨_,_,rfl⟩,⟨_,_,rfl,ho,fun b o=>?_⟩⟩,zu.mono fun b o=>⟨aJ,o⟩⟩;obtain⟨a,ha,rfl⟩:=o;cases ha;rcases zt with⟨a,ha,e⟩|e
  .exact .inl ⟨a,ha,e⟩
  exact .inr (by show G<=g';omega)
 refine aZ ?_;rintro _ ⟨A9,c9,rfl⟩ _ ⟨g9,rfl⟩ w9 hw9 Y;refine aQ ?_;refine aS ?_;obtain⟨w0,k0,F,A8,c8,zs,N,l⟩:=Y.2.1 rfl;cases zs;have H:=aH (P.ask (g-1) (N.below (cA F J)) hw9 l trivial);have zr:=(hw9.cell (p:=⟨gw,41,none⟩) V O).trans B;have zq:=(hw9.frozen (p:=⟨gw,41,none⟩) V O).trans (P.f 41);have zg:=Nat.lt_of_lt_of_le V hw9.size;have zf:=H.c1 HD;have ze:=H.f 1;have zv:Hid (bI w tag (cG G tag (20+t))):=aH (fun b o=>cO G tag (20+t) b (Nat.lt_of_lt_of_le o P.k.size));have HF:=aH ((H.does 7).outT zv false);clear Y N k0 F l w0;refine aW ?_;go_wp2;refine bodyPost_ret (v:=.tuple #[]) (by simp [results,results63,go_sem]) rfl ⟨rfl,HF.out⟩
end
theorem Br(x:Int)(V:0<=x)(T:x<18446744073709551616):∃U,∀w:World,Calls prog 96 #[[x]] w fun e w'=>e=.returned (.tuple #[.agg #[(IV x),(KE x),(ID x)],U])/\Below w w w':=by
 obtain⟨y,rfl⟩:=Int.eq_ofNat_of_zero_le V;refine⟨gS (jN (cB ((y/65536/4294967296:Nat):Int) ((y/4294967296%65536:Nat):Int) ((y%4294967296:Nat):Int)) 3),fun w=>(aCi y (y/65536/4294967296) (y/4294967296%65536) (y%4294967296) w I rfl rfl rfl).mono ?_⟩;rintro e w' ⟨rfl,W⟩;refine⟨?_,W⟩;have Z:((y/65536/4294967296:Nat):Int)=(y:Int)/4294967296/65536:=I;have Y:((y/4294967296%65536:Nat):Int)=(y:Int)/4294967296%65536:=I;have X:((y%4294967296:Nat):Int)=(y:Int)%4294967296:=I;unfold IV KE ID;rw[Z,Y,X];rfl
theorem Ax(x:Int)(W:0<=x)(U:x<18446744073709551616):∃V,∀w:World,Calls prog 99 #[[x]] w fun e w'=>e=.returned (.tuple #[.agg #[(rZ x),(tU x)],V])/\Below w w w':=by
 obtain⟨y,rfl⟩:=Int.eq_ofNat_of_zero_le W;refine⟨gS (jN (fU ((y/4294967296:Nat):Int) ((y%4294967296:Nat):Int)) 3),fun w=>(sN y (y/4294967296) (y%4294967296) w I rfl rfl).mono ?_⟩;rintro e w' ⟨rfl,X⟩;refine⟨?_,X⟩;have Z:((y/4294967296:Nat):Int)=(y:Int)/4294967296:=I;have Y:((y%4294967296:Nat):Int)=(y:Int)%4294967296:=I;unfold rZ tU yI;rw[Z,Y];rfl
section
variable{w:World}{tag:Nat->Nat}{t gw gm gs:Nat}{Z:cQ}{A D:Option Addr}{ca cd:Nat}{m:Nat->Int}{s:cN}
theorem OI(hW:gJ w tag t Z gw A ca D cd)(hR:fE w tag m gm)(hS:iQ w tag s gs)(ht:t<4)(d:Z.does=7)(hi:Z.i<4)(F:0<Z.na)(hx:eE Z.r/\(∀i,i<32->0<=Z.r i/\Z.r i<18446744073709551616)/\jL (Z.fill (m (2+2*Z.i))).asks Z.na/\Z.na<=4/\Z.r 28+Z.na<=1099511627776/\Z.r 27+1<=1099511627776)(y:mR w)(h0:tag 2=0):
 Calls prog 63 #[(gw,0),(gm,0),(gs,0)] w fun e w'=>e=.returned (.tuple #[])/\iZ w tag t gw gm gs (stp t m s Z) w':=by
 rw[show stp t m s Z=⟨m,s,((Z.fill (m (2+2*Z.i))).next 4 8).all t,false⟩ by simp only[stp,d]];have P:0<=m (2+2*Z.i)/\m (2+2*Z.i)<18446744073709551616:=by
  obtain⟨_,E,_,hu⟩:=hR;exact hu.bd _ I
 obtain⟨Y,zy⟩:∃Y,A=some ⟨Y,0,none⟩:=by
  obtain⟨_,X⟩:=hW.asks.own;rcases X with⟨X,_⟩|⟨g',zx,H,G,_⟩
  .simp only[Value.slice.injEq]at X;omega
  simp only[Value.slice.injEq]at G;exact⟨g',G.1⟩
 subst zy;have R:=aH (WS.start hW hR hS);have HT:=aH ht;have u:=R.lt;have c1:w.cell? (gw,1)=(7:Int):=R.c1 d;have c7:w.cell? (gw,7)=Z.i:=R.c 7 I;have O:w.cell? (gw,41)=some (.slice (some ⟨Y,0,none⟩) Z.na ca):=R.c 41 I;have q:¬cI Y gw:=fun e=>R.wk.neA ⟨_,rfl,e.symm⟩
 have HV:=aH (R.rload (i:=2+2*Z.i) I (2+2*(Z.i:Int)) I);have N:Hid (∀W,cU W 0 181 5 (some ⟨Y,0,none⟩) Z.na ca (eH Z.asks Z.na)->∀j,j<3->(W.cell? (Y,(Z.na-1)*5+2+j)).isSome=true/\W.frozen? ⟨Y,(Z.na-1)*5+2+j,none⟩=false):=aH (fun W z j hj=>by
  obtain⟨h1,X⟩:=z.own;rcases X with⟨X,_⟩|⟨g',zx,H,G,_,y,hc,_,hs,_⟩
  .simp at X
  simp only[Value.slice.injEq,Option.some.injEq,Addr.mk.injEq]at G;obtain⟨⟨rfl,_,_⟩,_,rfl⟩:=G;have C:aY W Y 181 H:=y;refine⟨?_,C.frozen _⟩;rw[C.cell,Array.getElem?_eq_getElem (by rw[hs];omega)];rfl)
 have HD:=aH d;have o:=aH hx;have HG:=aH y;have l:=aH h0;have h:=hx.2.2.2.1;have V:Hid (((Z.fill (m (2+2*Z.i))).next 4 8).does=(if(Z.fill (m (2+2*Z.i))).i+1=4 then 8 else 6)/\((Z.fill (m (2+2*Z.i))).next 4 8).r=(Z.fill (m (2+2*Z.i))).r/\((Z.fill (m (2+2*Z.i))).next 4 8).asks=(Z.fill (m (2+2*Z.i))).asks/\((Z.fill (m (2+2*Z.i))).next 4 8).na=(Z.fill (m (2+2*Z.i))).na):=aH (by unfold cQ.next;split<;>first|exact⟨rfl,rfl,rfl,rfl⟩|exact⟨rfl,rfl,rfl,rfl⟩)
 obtain⟨er,z⟩:=Br (m (2+2*Z.i)) P.1 P.2;have HO:=aH z;have g:=F;obtain⟨n,hn⟩:∃n,Z.na=n+1:=⟨Z.na-1,I⟩;have M:Z.na-1=n:=I;rw[M]at N;rw[hn]at O;have zw:(n:Int)<=3:=I;have zv:(n:Int)<(n:Int)+1:=I;have a:IntKind.i64.wrap (n:Int)=n:=dE I I;generalize m (2+2*Z.i)=x at*;clear hW hR hS hx y h0 d F z
 go_enter func63,ntmps63
 go_wp2_with fail
 with_reducible refine HV.out.mono ?_
 rintro e w1 ⟨rfl,rfl⟩;clear hn h;go_wp2;refine bK 18 (cI Y) [17] J J ?_
 iterate 11
  refine aR ?_;constructor
  .intro w9 hw9 U;refine aS ?_;have zu:=(hw9.cell (p:=⟨gw,41,none⟩) u q).trans O;refine aW ?_;go_simp
   first
   |exact aE
 first|(with_reducible refine aC (fun K Q=>?_))|(refine aC (fun K Q=>?_))
 refine .inl ?_;apply Exists.intro;refine⟨cX,?_,Q _ _ _ _ ?_⟩
 .simp only[bJ,bM];refine⟨?_,fun w9 hw9 U=>?_⟩
  .first|rfl|(go_simp;done)
  go_simp
  first
  |exact aE
  |(go_at_call 96;exact bS (HO.out _))
 iterate 5
  clear Q K;refine aN ?_
  first|(with_reducible refine aC (fun K Q=>?_))|(refine aC (fun K Q=>?_))
  refine .inl ?_;apply Exists.intro;refine⟨cX,?_,Q _ _ _ _ ?_⟩
  .simp only[bJ,bM];refine⟨?_,fun w9 hw9 U=>?_⟩
   .first|rfl|(go_simp;done)
   go_simp
   first
   |exact aE
 clear Q K;refine aN ?_;refine bA undef (fun _ w'=>WS w w' tag t {Z with asks:=(Z.fill x).asks} gw (some ⟨Y,0,none⟩) ca D cd m gm s gs) ?_ ?_
 .intro w9 hw9 U;refine aS ?_;have HX:=aH (R.below (cA U.1 J));have HY:=aH (HX.fill g x);have zz:Hid (w9.there Y (n*5+2) 3):=aH (fun j hj=>N.out w9 HX.wk.asks j hj);refine aW ?_;refine dA 39 _ _ rfl Y (n*5+2) #[(IV x),(KE x),(ID x)] rfl rfl zz J J ?_;rw[M]at HY;exact⟨⟨rfl,HY.out⟩,(cE (S:=cI Y) (.inl rfl) _ _).mono fun b C=>⟨aJ,C⟩⟩
 refine aZ ?_;rintro w9 hw9 T;refine aQ ?_;refine aS ?_;obtain⟨wx,k0,a,hf⟩:=T.1 rfl;have B:=aH (hf.below (cA a J));clear T hf k0 a wx;obtain⟨w1,rfl⟩:=aO w9;have zt:w1.cell? (gw,1)=(7:Int):=B.c1 HD;have zs:=B.f 1;have zr:=B.lt;have H2:Hid (WS w (w1.setCell (gw,1) (6:Int)) tag t (Z.fill x) gw (some ⟨Y,0,none⟩) ca D cd m gm s gs):=aH (B.does 6);have zq:=aH H2.k;have HN:=aH (H2.next 4 8 (by show Z.i<100;omega) 4 8 rfl rfl);refine aW ?_;go_wp2_with fail
 with_reducible refine HN.out.mono ?_
 rintro e w2 ⟨rfl,X⟩;have L:=aH (QI X (by rw[V.out.1];split<;>omega) HT HG l (fun _=>by rw[V.out.2.1,V.out.2.2.1,V.out.2.2.2];exact o))
 clear X HN;go_wp2_with fail
 with_reducible refine L.out.mono ?_
 rintro e w3 ⟨rfl,h3⟩;have HF:=aH h3;clear h3 L;go_wp2;refine bodyPost_end (v:=.tuple #[]) (by simp [results,results63,go_sem]) rfl ⟨rfl,HF.out⟩
theorem RN(S:gJ w tag t Z gw A ca D cd)(W:fE w tag m gm)(R:iQ w tag s gs)(H:t<4)(d:Z.does=17):
 Calls prog 66 #[(gw,0),(gm,0),(gs,0)] w fun e w'=>e=.returned false/\iZ w tag t gw gm gs (stp t m s Z) w':=by
 rw[show stp t m s Z=⟨m,s,{Z with ver:=(m 1).toNat,does:=18},false⟩ by simp only[stp,d]];have Y:=aH (WS.start S W R);obtain⟨V,X⟩:∃V:Nat,m 1=(V:Int):=by
  obtain⟨_,E,_,O⟩:=W;exact Int.eq_ofNat_of_zero_le (O.bd 1 I).1
 have U:=aH (Y.rload (i:=1) I 1 rfl);rw[X]at U;rw[X,show((V:Int)).toNat=V from rfl];have c1:w.cell? (gw,1)=(17:Int):=Y.c1 d;have N:w.cell? (gw,8)=[Z.ver]:=Y.c 8 I;have M:=Y.f 1;have L:=Y.f 8;have Q:=Y.lt;have T:=aH (Y.own (Z':={Z with ver:=V}) (LP _ _ _ _ V) rfl rfl rfl);have P:=aH ((T.does 18).out false);clear S W R T d X
 go_enter func66,ntmps66
 go_wp2_with fail
 with_reducible refine U.out.mono ?_
 rintro e K ⟨rfl,rfl⟩;go_wp2;go_ret;exact⟨rfl,P.out⟩
theorem RE(N:gJ w tag t Z gw A ca D cd)(M:fE w tag m gm)(L:iQ w tag s gs)(h:t<4)(d:Z.does=18):
 Calls prog 66 #[(gw,0),(gm,0),(gs,0)] w fun e w'=>e=.returned false/\iZ w tag t gw gm gs (stp t m s Z) w':=by
 rw[show stp t m s Z=⟨m,s,{Z with seen:=fun j=>if j=0 then s.now (dU Z.ver+26)else Z.seen j,does:=19},false⟩ by simp only[stp,d]];have W:=aH (WS.start N M L);have c1:w.cell? (gw,1)=(18:Int):=W.c1 d;have K:=W.lt;have H:=aH d;obtain⟨B,U⟩:=aO (dU Z.ver:Nat);have R:B<=40:=by rw[U];unfold dU;omega
 have G:=aH U;rw[<-U];obtain⟨x,S⟩:=aO (s.now (B+26));have T:=aH S;rw[<-S];have q:IntKind.i64.wrap ((B:Int)+26)=(B:Int)+26:=dE I I;have p:IntKind.i64.wrap ((B:Int)+26+(t:Int))=(B:Int)+26+t:=dE I I;clear U S N M L d
 go_enter func66,ntmps66
 go_wp2;refine bK 16 (cI gw) [15] J J ?_
 iterate 11
  refine aR ?_;constructor
  .intro w9 hw9 hm9;refine aS ?_;have X:=aH (W.below (cA hm9.1 J));have o:w9.cell? (gw,8)=[Z.ver]:=X.c 8 I;have l:w9.cell? (gw,0)=t:=X.c 0 I;refine aW ?_;go_simp
   first
   |exact aE
   |(go_at_call 92;exact bS (qU Z.ver _ rfl B G _))
   |(go_at_call 26;exact bS (X.sloadB (a:=B+26) I ((B:Int)+26) I T))
 iterate 4
  refine aR ?_;constructor
  .intro w9 hw9 hm9;go_simp
   first
   |exact aE
 refine bA undef (fun _ w'=>WS w w' tag t {Z with seen:=fun j=>if j=0 then x else Z.seen j} gw A ca D cd m gm s gs) ?_ ?_
 .intro w9 hw9 hm9;refine aS ?_;have X:=aH (W.below (cA hm9.1 J));have k:w9.cell? (gw,43)=[Z.seen 0]:=by rw[X.wk.blk.cell];exact mV _ _ _ _ (j:=0) I
  have i:=X.f 43;have F:=aH (X.own (Z':={Z with seen:=fun j=>if j=0 then x else Z.seen j}) (pM _ _ _ _ (n:=0) I x) rfl rfl rfl);refine aW ?_;go_simp;exact⟨⟨rfl,F.out⟩,(bP _ gw _ _).mono fun b Q=>by first|exact Q|exact⟨aJ,Q⟩⟩
 refine aZ ?_;rintro w9 hw9 Y;refine aQ ?_;refine aS ?_;obtain⟨v,u,P,O⟩:=Y.1 rfl;have V:=aH (O.below (cA P J));clear Y O u P v;obtain⟨r,rfl⟩:=aO w9;have E:r.cell? (gw,1)=(18:Int):=V.c1 H;have C:=V.f 1;have z:=V.lt;have y:=aH ((V.does 19).out false);refine aW ?_;go_wp2;go_ret;exact⟨rfl,y.out⟩
theorem SM(N:gJ w tag t Z gw A ca D cd)(M:fE w tag m gm)(L:iQ w tag s gs)(h:t<4)(d:Z.does=19):
 Calls prog 66 #[(gw,0),(gm,0),(gs,0)] w fun e w'=>e=.returned false/\iZ w tag t gw gm gs (stp t m s Z) w':=by
 rw[show stp t m s Z=⟨m,s,{Z with seen:=fun j=>if j=1 then s.now (dU Z.ver+18+t)else Z.seen j,does:=20},false⟩ by simp only[stp,d]];have W:=aH (WS.start N M L);have c1:w.cell? (gw,1)=(19:Int):=W.c1 d;have K:=W.lt;have H:=aH d;obtain⟨B,U⟩:=aO (dU Z.ver:Nat);have R:B<=40:=by rw[U];unfold dU;omega
 have G:=aH U;rw[<-U];obtain⟨x,S⟩:=aO (s.now (B+18+t));have T:=aH S;rw[<-S];have q:IntKind.i64.wrap ((B:Int)+18)=(B:Int)+18:=dE I I;have p:IntKind.i64.wrap ((B:Int)+18+(t:Int))=(B:Int)+18+t:=dE I I;clear U S N M L d
 go_enter func66,ntmps66
 go_wp2;refine bK 21 (cI gw) [20] J J ?_
 iterate 16
  refine aR ?_;constructor
  .intro w9 hw9 hm9;refine aS ?_;have X:=aH (W.below (cA hm9.1 J));have o:w9.cell? (gw,8)=[Z.ver]:=X.c 8 I;have l:w9.cell? (gw,0)=t:=X.c 0 I;refine aW ?_;go_simp
   first
   |exact aE
   |(go_at_call 92;exact bS (qU Z.ver _ rfl B G _))
   |(go_at_call 26;exact bS (X.sloadB (a:=B+18+t) I ((B:Int)+18+t) I T))
 iterate 4
  refine aR ?_;constructor
  .intro w9 hw9 hm9;go_simp
   first
   |exact aE
 refine bA undef (fun _ w'=>WS w w' tag t {Z with seen:=fun j=>if j=1 then x else Z.seen j} gw A ca D cd m gm s gs) ?_ ?_
 .intro w9 hw9 hm9;refine aS ?_;have X:=aH (W.below (cA hm9.1 J));have k:w9.cell? (gw,44)=[Z.seen 1]:=by rw[X.wk.blk.cell];exact mV _ _ _ _ (j:=1) I
  have i:=X.f 44;have F:=aH (X.own (Z':={Z with seen:=fun j=>if j=1 then x else Z.seen j}) (pM _ _ _ _ (n:=1) I x) rfl rfl rfl);refine aW ?_;go_simp;exact⟨⟨rfl,F.out⟩,(bP _ gw _ _).mono fun b Q=>by first|exact Q|exact⟨aJ,Q⟩⟩
 refine aZ ?_;rintro w9 hw9 Y;refine aQ ?_;refine aS ?_;obtain⟨v,u,P,O⟩:=Y.1 rfl;have V:=aH (O.below (cA P J));clear Y O u P v;obtain⟨r,rfl⟩:=aO w9;have E:r.cell? (gw,1)=(19:Int):=V.c1 H;have C:=V.f 1;have z:=V.lt;have y:=aH ((V.does 20).out false);refine aW ?_;go_wp2;go_ret;exact⟨rfl,y.out⟩
theorem QY(N:gJ w tag t Z gw A ca D cd)(M:fE w tag m gm)(L:iQ w tag s gs)(h:t<4)(d:Z.does=20):
 Calls prog 66 #[(gw,0),(gm,0),(gs,0)] w fun e w'=>e=.returned false/\iZ w tag t gw gm gs (stp t m s Z) w':=by
 rw[show stp t m s Z=⟨m,s,{Z with seen:=fun j=>if j=2 then s.now (dU Z.ver+22+t)else Z.seen j,does:=21},false⟩ by simp only[stp,d]];have W:=aH (WS.start N M L);have c1:w.cell? (gw,1)=(20:Int):=W.c1 d;have K:=W.lt;have H:=aH d;obtain⟨B,U⟩:=aO (dU Z.ver:Nat);have R:B<=40:=by rw[U];unfold dU;omega
 have G:=aH U;rw[<-U];obtain⟨x,S⟩:=aO (s.now (B+22+t));have T:=aH S;rw[<-S];have q:IntKind.i64.wrap ((B:Int)+22)=(B:Int)+22:=dE I I;have p:IntKind.i64.wrap ((B:Int)+22+(t:Int))=(B:Int)+22+t:=dE I I;clear U S N M L d
 go_enter func66,ntmps66
 go_wp2;refine bK 21 (cI gw) [20] J J ?_
 iterate 16
  refine aR ?_;constructor
  .intro w9 hw9 hm9;refine aS ?_;have X:=aH (W.below (cA hm9.1 J));have o:w9.cell? (gw,8)=[Z.ver]:=X.c 8 I;have l:w9.cell? (gw,0)=t:=X.c 0 I;refine aW ?_;go_simp
   first
   |exact aE
   |(go_at_call 92;exact bS (qU Z.ver _ rfl B G _))
   |(go_at_call 26;exact bS (X.sloadB (a:=B+22+t) I ((B:Int)+22+t) I T))
 iterate 4
  refine aR ?_;constructor
  .intro w9 hw9 hm9;go_simp
   first
   |exact aE
 refine bA undef (fun _ w'=>WS w w' tag t {Z with seen:=fun j=>if j=2 then x else Z.seen j} gw A ca D cd m gm s gs) ?_ ?_
 .intro w9 hw9 hm9;refine aS ?_;have X:=aH (W.below (cA hm9.1 J));have k:w9.cell? (gw,45)=[Z.seen 2]:=by rw[X.wk.blk.cell];exact mV _ _ _ _ (j:=2) I
  have i:=X.f 45;have F:=aH (X.own (Z':={Z with seen:=fun j=>if j=2 then x else Z.seen j}) (pM _ _ _ _ (n:=2) I x) rfl rfl rfl);refine aW ?_;go_simp;exact⟨⟨rfl,F.out⟩,(bP _ gw _ _).mono fun b Q=>by first|exact Q|exact⟨aJ,Q⟩⟩
 refine aZ ?_;rintro w9 hw9 Y;refine aQ ?_;refine aS ?_;obtain⟨v,u,P,O⟩:=Y.1 rfl;have V:=aH (O.below (cA P J));clear Y O u P v;obtain⟨r,rfl⟩:=aO w9;have E:r.cell? (gw,1)=(20:Int):=V.c1 H;have C:=V.f 1;have z:=V.lt;have y:=aH ((V.does 21).out false);refine aW ?_;go_wp2;go_ret;exact⟨rfl,y.out⟩
theorem RF{x:Int}(Z:0<=x)(Y:x<18446744073709551616)(X:t<4):∃(y b:Nat),x=(y:Int)/\b<=1/\bits BinOp.and IntKind.u64 ((y:Int)/2^t) 1=(b:Int)/\(if gO x.toNat t=true then(1:Int)else 0)=(b:Int):=by
 obtain⟨y,rfl⟩:=Int.eq_ofNat_of_zero_le Z;refine⟨y,y/2^t%2,rfl,I,KS y t I,?_⟩;have e:gO (y:Int).toNat t=decide (y/2^t%2=1):=by
  unfold gO;rw[Bool.eq_iff_iff,decide_eq_true_iff,decide_eq_true_iff];simp;omega
 rw[e];by_cases h:y/2^t%2=1
 .rw[iP (decide_eq_true h),h];rfl
 rw[iN (by simpa using h),show y/2^t%2=0 by omega];rfl
theorem MQ{T:Bool}(L:gJ w tag t Z gw A ca D cd)(K:fE w tag m gm)(H:iQ w tag s gs)(l:t<4)(d:Z.does=21)(O:∀j,j<3->0<=Z.seen j/\Z.seen j<18446744073709551616)(W:Z.said=T)(N:m 1≠Z.ver):
 Calls prog 66 #[(gw,0),(gm,0),(gs,0)] w fun e w'=>e=.returned false/\iZ w tag t gw gm gs (stp t m s Z) w':=by
 obtain⟨n,Y⟩:∃n,(T=true/\n=3)\/(T=false/\n=1):=by
  cases T
  .exact⟨1,.inr ⟨rfl,rfl⟩⟩
  exact⟨3,.inl ⟨rfl,rfl⟩⟩
 rw[show stp t m s Z=⟨m,s,Z.go n,false⟩ by simp only[stp,d];rw[iN (fun h=>N h.1),W];rcases Y with⟨rfl,rfl⟩|⟨rfl,rfl⟩<;>rfl]
 have X:=aH (WS.start L K H);have G:=aH (X.out.rload (i:=1) I 1 rfl);have c1:w.cell? (gw,1)=(21:Int):=X.out.c1 d;have q:w.cell? (gw,8)=[Z.ver]:=X.out.c 8 I;have p:w.cell? (gw,0)=t:=X.out.c 0 I;have o:w.cell? (gw,5)=Z.tg:=X.out.c 5 I;have F:=X.out.lt;have E:=aH d;have S:=aH W;have C:¬m 1=(Z.ver:Int):=N;generalize m 1=x at*;clear L K H d W O N;have R:=aH Y;clear Y
 go_enter func66,ntmps66
 go_wp2_with fail
 with_reducible refine G.out.mono ?_
 rintro e P ⟨rfl,rfl⟩;go_wp2;refine aA 25 ?_
 iterate 7
  refine aR ?_;constructor
  .intro w9 hw9 hm9;refine aS ?_;obtain⟨hc9,hf9⟩:=hw9.all;refine aW ?_;go_simp
   first
   |exact aE
 iterate 17
  refine aU ?_
 refine aR ?_;constructor
 .intro w9 hw9 hm9;go_simp
  first
  |exact aE
 refine aZ ?_;rintro w9 hw9 U;refine aQ ?_;refine aS ?_;have V:=aH (X.out.below hw9.same);have B:=V.out.lt;clear U;obtain⟨P,rfl⟩:=aO w9;have z:P.cell? (gw,1)=(21:Int):=V.out.c1 E.out;have y:=V.out.f 1;have v:P.cell? (gw,6)=T:=by rw[V.out.c 6 I];show some (Value.bool Z.said)=_;rw[S.out]
 have M:=aH (V.out.does 3);have Q:=aH (M.out.out false);have u:=aH (M.out.does 1);have r:=aH (u.out.out false);have Y:=R.out;rcases Y with⟨rfl,rfl⟩|⟨rfl,rfl⟩
 all_goals
  refine aW ?_;go_wp2;go_ret
  first
  |exact⟨rfl,r.out⟩
  |exact⟨rfl,Q.out⟩
theorem OA{S:Bool}(G:gJ w tag t Z gw A ca D cd)(F:fE w tag m gm)(E:iQ w tag s gs)(k:t<4)(d:Z.does=21)(W:∀j,j<3->0<=Z.seen j/\Z.seen j<18446744073709551616)(V:Z.said=S)(C:m 1=Z.ver)(B:¬(if gO (Z.seen 0).toNat t=true then(1:Int)else 0)=Z.tg):
 Calls prog 66 #[(gw,0),(gm,0),(gs,0)] w fun e w'=>e=.returned false/\iZ w tag t gw gm gs (stp t m s Z) w':=by
 obtain⟨n,Y⟩:∃n,(S=true/\n=3)\/(S=false/\n=1):=by
  cases S
  .exact⟨1,.inr ⟨rfl,rfl⟩⟩
  exact⟨3,.inl ⟨rfl,rfl⟩⟩
 rw[show stp t m s Z=⟨m,s,Z.go n,false⟩ by simp only[stp,d];rw[iN (fun h=>B h.2),V];rcases Y with⟨rfl,rfl⟩|⟨rfl,rfl⟩<;>rfl]
 have X:=aH (WS.start G F E);have M:=aH (X.out.rload (i:=1) I 1 rfl);have c1:w.cell? (gw,1)=(21:Int):=X.out.c1 d;have g:w.cell? (gw,8)=[Z.ver]:=X.out.c 8 I;have a:w.cell? (gw,0)=t:=X.out.c 0 I;have c5:w.cell? (gw,5)=Z.tg:=X.out.c 5 I;have z:=X.out.lt;have x:=aH d;have R:w.cell? (gw,43)=[Z.seen 0]:=by rw[X.out.wk.blk.cell];exact mV _ _ _ _ (j:=0) I
 obtain⟨y,b,K,l,hb,H⟩:=RF (W 0 I).1 (W 0 I).2 k;rw[H]at B;rw[K]at R;have kw:IntKind.i64.wrap (b:Int)=(b:Int):=dE I I;have Q:=aH V;rw[C]at M;clear G F E d V W H K C;have P:=aH Y;clear Y
 go_enter func66,ntmps66
 go_wp2_with fail
 with_reducible refine M.out.mono ?_
 rintro e N ⟨rfl,rfl⟩;go_wp2;refine aA 25 ?_
 iterate 25
  refine aR ?_;constructor
  .intro w9 hw9 hm9;refine aS ?_;obtain⟨hc9,hf9⟩:=hw9.all;refine aW ?_;go_simp
   first
   |exact aE
 refine aZ ?_;rintro w9 hw9 T;refine aQ ?_;refine aS ?_;have U:=aH (X.out.below hw9.same);have v:=U.out.lt;clear T;obtain⟨N,rfl⟩:=aO w9;have u:N.cell? (gw,1)=(21:Int):=U.out.c1 x.out;have r:=U.out.f 1;have q:N.cell? (gw,6)=S:=by rw[U.out.c 6 I];show some (Value.bool Z.said)=_;rw[Q.out]
 have L:=aH (U.out.does 3);have O:=aH (L.out.out false);have p:=aH (L.out.does 1);have o:=aH (p.out.out false);have Y:=P.out;rcases Y with⟨rfl,rfl⟩|⟨rfl,rfl⟩
 all_goals
  refine aW ?_;go_wp2;go_ret
  first
  |exact⟨rfl,o.out⟩
  |exact⟨rfl,O.out⟩
theorem OS(C:gJ w tag t Z gw A ca D cd)(B:fE w tag m gm)(z:iQ w tag s gs)(ht:t<4)(d:Z.does=21)(Y:∀j,j<3->0<=Z.seen j/\Z.seen j<18446744073709551616)(M:m 1=Z.ver)(Q:(if gO (Z.seen 0).toNat t=true then(1:Int)else 0)=Z.tg):
 Calls prog 66 #[(gw,0),(gm,0),(gs,0)] w fun e w'=>e=.returned true/\iZ w tag t gw gm gs (stp t m s Z) w':=by
 rw[show stp t m s Z=⟨m,s,{Z with o1:=rZ (Z.seen 1),o2:=tU (Z.seen 1),wn:=Ke (Z.seen 2),does:=0},true⟩ by simp only[stp,d];rw[iP ⟨M,Q⟩]];have W:=aH (WS.start C B z);have L:=aH (W.rload (i:=1) I 1 rfl);have c1:w.cell? (gw,1)=(21:Int):=W.c1 d;have c8:w.cell? (gw,8)=[Z.ver]:=W.c 8 I;have c0:w.cell? (gw,0)=t:=W.c 0 I;have x:w.cell? (gw,5)=Z.tg:=W.c 5 I;have v:=W.lt;have u:=aH d;have P:w.cell? (gw,43)=[Z.seen 0]:=by rw[W.wk.blk.cell];exact mV _ _ _ _ (j:=0) I
 obtain⟨y,b,G,zw,hb,F⟩:=RF (Y 0 I).1 (Y 0 I).2 ht;rw[F]at Q;rw[G]at P;have kw:IntKind.i64.wrap (b:Int)=(b:Int):=dE I I;rw[M]at L;rw[<-Q]at x;obtain⟨er,T⟩:=Ax _ (Y 1 I).1 (Y 1 I).2;have O:=aH T;have U:Hid (Ke (Z.seen 2)=wrap64 (Z.seen 2)):=aH (by have:=Y 2 I;unfold Ke wrap64;split<;>omega)
 clear C B z d Y F G M T Q
 go_enter func66,ntmps66
 go_wp2_with fail
 with_reducible refine L.out.mono ?_
 rintro e E ⟨rfl,rfl⟩;go_wp2;refine aA 25 ?_
 iterate 25
  refine aR ?_;constructor
  .intro w9 hw9 hm9;refine aS ?_;obtain⟨hc9,hf9⟩:=hw9.all;refine aW ?_;go_simp
   first
   |exact aE
 refine aZ ?_;rintro w9 hw9 S;refine aQ ?_;refine aS ?_;have N:=aH (W.below hw9.same);clear S;obtain⟨E,rfl⟩:=aO w9;have r:=N.lt;have q:E.cell? (gw,44)=[Z.seen 1]:=by rw[N.wk.blk.cell];exact mV _ _ _ _ (j:=1) I
 refine aW ?_;go_wp2_with fail
 with_reducible refine(O.out _).mono ?_
 rintro e V ⟨rfl,R⟩;have X:=aH (N.below R);clear R;have p:Hid (WS w ((V.setCell (gw,46) (rZ (Z.seen 1))).setCell (gw,47) (tU (Z.seen 1))) tag t {Z with o1:=rZ (Z.seen 1),o2:=tU (Z.seen 1)} gw A ca D cd m gm s gs):=aH (X.owns (LE _ _ _ _ _ _) rfl rfl rfl);have o:=X.lt;have n:V.cell? (gw,46)=Z.o1:=X.c 46 I;have l:V.cell? (gw,47)=Z.o2:=X.c 47 I;have k:V.cell? (gw,45)=[Z.seen 2]:=by rw[X.wk.blk.cell];exact mV _ _ _ _ (j:=2) I
 have h:V.cell? (gw,48)=Z.wn:=X.c 48 I;have g:=X.f 46;have a:=X.f 47;have zz:=X.f 48;have zy:V.cell? (gw,1)=(21:Int):=X.c1 u;have zx:=X.f 1;have K:=aH (p.own (Z':={Z with o1:=rZ (Z.seen 1),o2:=tU (Z.seen 1),wn:=Ke (Z.seen 2)}) (RB _ _ _ _ _) rfl rfl rfl);have H:=aH ((K.does 0).out true);rw[U.out]at H;clear K;go_wp2;go_ret;exact⟨rfl,by rw[U.out];exact H⟩
end
section
variable{w:World}{gw gm gs d:Nat}{P:World->Prop}
theorem vR(c1:w.cell? (gw,1)=d)(T:1<=d)(S:d<=3)(H:Calls prog 62 #[(gw,0),(gm,0)] w fun e w'=>e=.returned (.tuple #[])/\P w'):
 Calls prog 23 #[(gw,0),(gm,0),(gs,0)] w fun e w'=>e=.returned false/\P w':=by
 have W:¬(d:Int)=0:=I;have V:(d:Int)<=3:=I;have Y:=aH H;clear H
 go_enter func23,ntmps23
 go_wp2_with fail
 with_reducible refine Y.out.mono ?_
 rintro e U ⟨rfl,Z⟩;have X:=aH Z;clear Z;go_wp2;go_ret;exact⟨rfl,X.out⟩
theorem kI(c1:w.cell? (gw,1)=d)(S:4<=d)(R:d<=7)(H:Calls prog 63 #[(gw,0),(gm,0),(gs,0)] w fun e w'=>e=.returned (.tuple #[])/\P w'):
 Calls prog 23 #[(gw,0),(gm,0),(gs,0)] w fun e w'=>e=.returned false/\P w':=by
 have W:¬(d:Int)=0:=I;have V:¬(d:Int)<=3:=I;have U:(d:Int)<=7:=I;have Y:=aH H;clear H
 go_enter func23,ntmps23
 go_wp2_with fail
 with_reducible refine Y.out.mono ?_
 rintro e T ⟨rfl,Z⟩;have X:=aH Z;clear Z;go_wp2;go_ret;exact⟨rfl,X.out⟩
theorem oC(c1:w.cell? (gw,1)=d)(R:8<=d)(Q:d<=13)(H:Calls prog 64 #[(gw,0),(gs,0)] w fun e w'=>e=.returned (.tuple #[])/\P w'):
 Calls prog 23 #[(gw,0),(gm,0),(gs,0)] w fun e w'=>e=.returned false/\P w':=by
 have W:¬(d:Int)=0:=I;have V:¬(d:Int)<=3:=I;have U:¬(d:Int)<=7:=I;have T:(d:Int)<=13:=I;have Y:=aH H;clear H
 go_enter func23,ntmps23
 go_wp2_with fail
 with_reducible refine Y.out.mono ?_
 rintro e S ⟨rfl,Z⟩;have X:=aH Z;clear Z;go_wp2;go_ret;exact⟨rfl,X.out⟩
theorem xK{b:Bool}(c1:w.cell? (gw,1)=d)(Q:14<=d)(O:d<=16)(H:Calls prog 65 #[(gw,0),(gm,0)] w fun e w'=>e=.returned b/\P w'):
 Calls prog 23 #[(gw,0),(gm,0),(gs,0)] w fun e w'=>e=.returned b/\P w':=by
 have W:¬(d:Int)=0:=I;have V:¬(d:Int)<=3:=I;have U:¬(d:Int)<=7:=I;have T:¬(d:Int)<=13:=I;have S:(d:Int)<=16:=I;have Y:=aH H;clear H
 go_enter func23,ntmps23
 go_wp2_with fail
 with_reducible refine Y.out.mono ?_
 rintro e R ⟨rfl,Z⟩;have X:=aH Z;clear Z;go_wp2;go_ret;exact⟨rfl,X.out⟩
theorem mW{b:Bool}(c1:w.cell? (gw,1)=d)(Q:17<=d)(H:Calls prog 66 #[(gw,0),(gm,0),(gs,0)] w fun e w'=>e=.returned b/\P w'):
 Calls prog 23 #[(gw,0),(gm,0),(gs,0)] w fun e w'=>e=.returned b/\P w':=by
 have W:¬(d:Int)=0:=I;have V:¬(d:Int)<=3:=I;have U:¬(d:Int)<=7:=I;have T:¬(d:Int)<=13:=I;have S:¬(d:Int)<=16:=I;have Y:=aH H;clear H
 go_enter func23,ntmps23
 go_wp2_with fail
 with_reducible refine Y.out.mono ?_
 rintro e R ⟨rfl,Z⟩;have X:=aH Z;clear Z;go_wp2;go_ret;exact⟨rfl,X.out⟩
end
theorem wY{m:Nat->Int}{Z:cQ}(G:Z.i<4)(N:jL Z.asks (Z.na-1))(M:Z.asks (Z.na-1) 0=Z.i)(L:Z.asks (Z.na-1) 1=0\/Z.asks (Z.na-1) 1=1){x a k v:Int}(X:gQ a k v)(K:x=fN a k v):jL (Z.fill x).asks Z.na:=by
 obtain⟨Q,P,O⟩:=EZ X;intro j H;have W:∀j,(Z.fill x).asks j 0=Z.asks j 0:=fun j=>iN I
 have V:∀j,(Z.fill x).asks j 1=Z.asks j 1:=fun j=>iN I
 have Y:∀j,j+1≠Z.na->∀c,(Z.fill x).asks j c=Z.asks j c:=fun j h c=>iN (fun q=>h q.1)
 have U:∀j,j+1=Z.na->(Z.fill x).asks j 2=IV x:=fun j h=>(iP ⟨h,I⟩).trans (iP rfl)
 have T:∀j,j+1=Z.na->(Z.fill x).asks j 3=KE x:=fun j h=>(iP ⟨h,I⟩).trans ((iN aJ).trans (iP rfl))
 have S:∀j,j+1=Z.na->(Z.fill x).asks j 4=ID x:=fun j h=>(iP ⟨h,I⟩).trans ((iN aJ).trans (iN aJ))
 rw[W,V];by_cases q:j+1=Z.na
 .rw[U j q,T j q,S j q];have R:j=Z.na-1:=I;rw[R,M,K,Q,P,O];exact⟨I,I,L,X⟩
 rw[Y j q,Y j q,Y j q];exact N j I
section
variable{w:World}{tag:Nat->Nat}{t gw gm gs:Nat}{A D:Option Addr}{ca cd:Nat}{m:Nat->Int}{s:cN}{th:Nat->cQ}{V:Nat}
def qG(Z:cQ):Prop:=∀j,j<3->0<=Z.seen j/\Z.seen j<18446744073709551616
theorem aAH(h:eX m s th V)(X:t<4)(d0:(th t).does≠0)(W:gJ w tag t (th t) gw A ca D cd)(U:fE w tag m gm)(T:iQ w tag s gs)(hV:4*V+4<=1099511627776)(M:s.fl<=1000000000)(L:s.fe<=1000000000)(O:qG (th t))(K:mR w)(H:tag 2=0):
 Calls prog 23 #[(gw,0),(gm,0),(gs,0)] w fun e w'=>e=.returned (stp t m s (th t)).fin/\iZ w tag t gw gm gs (stp t m s (th t)) w':=by
 obtain⟨F,E⟩:=h.op t X d0;have n:=h.does t X;have Y:=(WS.start W U T).c1 rfl;have Q:bO (th t).does->fO m s V t (th t):=fun C=>(h.holder X C).2.1
 generalize hθ:th t=Z at*;have l:Z.does=1\/Z.does=2\/Z.does=3\/Z.does=4\/Z.does=5\/Z.does=6\/Z.does=7\/Z.does=8\/Z.does=9\/Z.does=10\/Z.does=11\/Z.does=12\/Z.does=13\/Z.does=14\/Z.does=15\/Z.does=16\/Z.does=17\/Z.does=18\/Z.does=19\/Z.does=20\/Z.does=21:=I;rcases l with d|d|d|d|d|d|d|d|d|d|d|d|d|d|d|d|d|d|d|d|d
 .rw[show(stp t m s Z).fin=false by simp only[stp,d]];exact vR Y I I (An W U T X d F)
 .rw[show(stp t m s Z).fin=false by simp only[stp,d]];exact vR Y I I (Ao W U T X d E)
 .rw[show(stp t m s Z).fin=false by simp only[stp,d];split<;>rfl]
  by_cases S:m 0=0
  .exact vR Y I I (WE W U T X d S)
  .exact vR Y I I (XG W U T X d S)
 .rw[show(stp t m s Z).fin=false by simp only[stp,d]];exact kI Y I I (OU W U T X d)
 .have hh:=Q (by unfold bO;omega);unfold fO at hh;simp only[d]at hh;rw[show(stp t m s Z).fin=false by simp only[stp,d]];exact kI Y I I (PJ W U T X d hh.2.2.1)
 .have hh:=Q (by unfold bO;omega);unfold fO at hh;simp only[d]at hh;obtain⟨P,R,j,B,z⟩:=hh;obtain⟨y,g,f,x⟩:=tK h.ok h.rec_ B;have G:eE Z.r/\(∀i,i<32->0<=Z.r i/\Z.r i<18446744073709551616)/\jL Z.asks Z.na/\Z.na<=4/\Z.r 28+Z.na<=1099511627776/\Z.r 27+1<=1099511627776:=⟨y,x,z,I,I,I⟩;have ha:=(h.asks Z.i R).1;rw[show(stp t m s Z).fin=false by simp only[stp,d];split<;>rfl]
  by_cases S:m (3+2*Z.i)=0
  .exact kI Y I I (IY W U T X d R S G K H)
  by_cases N:m (3+2*Z.i)-1=jA Z.r Z.i
  .exact kI Y I I (FP W U T X d R ⟨S,N⟩ G K H)
  exact kI Y I I (GW W U T X d R ⟨S,N⟩ I G K H)
 .have hh:=Q (by unfold bO;omega);unfold fO at hh;simp only[d]at hh;obtain⟨P,R,c,j,B,z,u,p,b⟩:=hh;obtain⟨y,g,f,x⟩:=tK h.ok h.rec_ B;obtain⟨a,k,v,ho,o⟩:=(h.asks Z.i R).2 b;rw[show(stp t m s Z).fin=false by simp only[stp,d]];exact kI Y I I (OI W U T X d R I ⟨y,x,wY (m:=m) R z u p ho o,I,I,I⟩ K H)
 .have hh:=Q (by unfold bO;omega);unfold fO at hh;simp only[d]at hh;rw[show(stp t m s Z).fin=false by simp only[stp,d]];exact oC Y I I (XJ W U T X d hh.2.2.1 (by have:=hh.2.1;omega))
 .have hh:=Q (by unfold bO;omega);unfold fO at hh;simp only[d]at hh;rw[show(stp t m s Z).fin=false by simp only[stp,d]];exact oC Y I I (YR W U T X d hh.2.2.1 (by have:=hh.2.1;omega) M)
 .rw[show(stp t m s Z).fin=false by simp only[stp,d]];exact oC Y I I (QA W U T X d L)
 .have hh:=Q (by unfold bO;omega);unfold fO at hh;simp only[d]at hh;rw[show(stp t m s Z).fin=false by simp only[stp,d]];exact oC Y I I (PY W U T X d (by have:=hh.2.1;omega))
 .rw[show(stp t m s Z).fin=false by simp only[stp,d]];exact oC Y I I (UK W U T X d M)
 .rw[show(stp t m s Z).fin=false by simp only[stp,d]];exact oC Y I I (RX W U T X d L)
 .have hh:=Q (by unfold bO;omega);unfold fO at hh;simp only[d]at hh;rw[show(stp t m s Z).fin=false by simp only[stp,d]];exact xK Y I I (SD W U T X d (by have:=hh.1;omega))
 .rw[show(stp t m s Z).fin=false by simp only[stp,d]];exact xK Y I I (TA W U T X d)
 .rw[show(stp t m s Z).fin=true by simp only[stp,d]];exact xK Y I I (SF W U T X d)
 .rw[show(stp t m s Z).fin=false by simp only[stp,d]];exact mW Y I (RN W U T X d)
 .rw[show(stp t m s Z).fin=false by simp only[stp,d]];exact mW Y I (RE W U T X d)
 .rw[show(stp t m s Z).fin=false by simp only[stp,d]];exact mW Y I (SM W U T X d)
 .rw[show(stp t m s Z).fin=false by simp only[stp,d]];exact mW Y I (QY W U T X d)
 by_cases P:m 1=Z.ver
 .by_cases S:(if gO (Z.seen 0).toNat t=true then(1:Int)else 0)=Z.tg
  .rw[show(stp t m s Z).fin=true by simp only[stp,d];rw[iP ⟨P,S⟩]];exact mW Y I (OS W U T X d O P S)
  rw[show(stp t m s Z).fin=false by simp only[stp,d];rw[iN (fun q=>S q.2)]];exact mW Y I (OA W U T X d O rfl P S)
 rw[show(stp t m s Z).fin=false by simp only[stp,d];rw[iN (fun q=>P q.1)]];exact mW Y I (MQ W U T X d O rfl P)
end
end
section
def sE(of:Nat->List (List Value))(Z:cQ):Nat->List (List Value):=if Z.does=11 then(fun v=>if v=Z.ver+1 then Z.deeds else of v)else of
def TW(w:World)(tag:Nat->Nat)(t:Nat)(last:Int)(e:mG)(gs mp:Nat)(pt:Nat->Nat)(st:Int)(E O:Value)(go n:Nat)(of:Nat->List (List Value))(Z:cQ)(L:ZV)(w':World):Prop:=
 ∃wm tagm n',n'<=n+1/\Kg (CM t) w tag wm tagm/\KO wm tagm go n' (sE of Z)/\gE wm tagm t last e gs mp pt st E O L w'
section
variable{w:World}{tag:Nat->Nat}{t:Nat}{Z:cQ}{last:Int}{e:mG}{gs mp:Nat}{m:Nat->Int}{pt:Nat->Nat}{s:cN}{st:Int}{E O:Value}{R:Option Addr}{cr:Nat}{D:Option Addr}{cd:Nat}{rows:List (List Value)}{cs:List Cl}{r:List Value}{c:Cl}{th:Nat->cQ}{V:Nat}{go n:Nat}{of:Nat->List (List Value)}
theorem gG(W:KO w tag go n of)(R:Z.does≠11){L:ZV}{k:Nat}(h:∃N Y,r=td k (fv N Y)/\Calls prog N Y w fun X w'=>X=.returned (.tuple #[])/\gE w tag t last e gs mp pt st E O L w'):
 ∃N Y,r=td k (fv N Y)/\Calls prog N Y w fun X w'=>X=.returned (.tuple #[])/\TW w tag t last e gs mp pt st E O go n of Z L w':=by
 obtain⟨N,Y,V,U⟩:=h;refine⟨N,Y,V,U.mono ?_⟩;rintro X w' ⟨T,S⟩;exact⟨T,w,tag,n,I,Kg.refl _ _ _,by unfold sE;rw[iN R];exact W,S⟩
theorem Fs(h:eX m s th V)(d0:(th t).does≠0)(H:RC w tag w tag t (th t) last e gs mp m pt s st E O R cr D cd rows cs false)(X:gF (th t)=c::cs)(U:c.At w tag e r)(T:iF w tag t (th t) e)(hO:O=.map (some go))(Y:KO w tag go n of)(zy:n<=1000000000)
 (hV:4*V+4<=1099511627776) (y:s.fl<=1000000000) (x:s.fe<=1000000000) (M:qG (th t)):
 ∃N S,r=td (th t).does (fv N S)/\Calls prog N S w fun e' w'=>e'=.returned (.tuple #[])/\TW w tag t last e gs mp pt st E O go n of (th t) (stp t m s (th t)) w':=by
 have u:=H.t4;obtain⟨p,L⟩:=h.op t u d0;have zx:=h.does t u;have G:bO (th t).does->fO m s V t (th t):=fun o=>(h.holder u o).2.1
 have F:=(h.ram 1 I).1;have C:∀i,i<72->0<=s.now i/\s.now i<18446744073709551616:=fun i P=>h.ok.now i P
 generalize hθ:th t=Z at*;have hd:Z.does=1\/Z.does=2\/Z.does=3\/Z.does=4\/Z.does=5\/Z.does=6\/Z.does=7\/Z.does=8\/Z.does=9\/Z.does=10\/Z.does=11\/Z.does=12\/Z.does=13\/Z.does=14\/Z.does=15\/Z.does=16\/Z.does=17\/Z.does=18\/Z.does=19\/Z.does=20\/Z.does=21:=I;have zw:=M;have Q:(0<=Z.seen 0/\Z.seen 0<18446744073709551616)/\(0<=Z.seen 1/\Z.seen 1<18446744073709551616)/\(0<=Z.seen 2/\Z.seen 2<18446744073709551616):=⟨M 0 I,M 1 I,M 2 I⟩;rcases hd with d|d|d|d|d|d|d|d|d|d|d|d|d|d|d|d|d|d|d|d|d
 all_goals(rw[d];unfold gF at X;simp only[d]at X)
 .cases X;exact gG (Z:=Z) Y I (SC H T d U p)
 .cases X;exact gG (Z:=Z) Y I (RZ H T d U L)
 .cases X;by_cases z:m 0=0
  .exact gG (Z:=Z) Y I (UN H T d U z)
  exact gG (Z:=Z) Y I (UZ H T d U z)
 .cases X;exact gG (Z:=Z) Y I (VN H T d U F)
 .have W:=G (by unfold bO;omega);unfold fO at W;simp only[d]at W;rw[uT W.2.2.1]at X;cases X;have hx:=C (dU Z.ver+Z.i) (by unfold dU;omega);by_cases zz:Z.i=31
  .exact gG (Z:=Z) Y I (RW H T d U zz W.2.1 hx)
  exact gG (Z:=Z) Y I (TK H T d U (by have:=W.2.2.1;omega) W.2.1 hx)
 .cases X;have W:=G (by unfold bO;omega);unfold fO at W;simp only[d]at W;obtain⟨K,P,l,j,g⟩:=W;obtain⟨f,r2,r3,r4⟩:=tK h.ok h.rec_ j;have q:vV Z:=⟨f,g,I,I,I,I⟩;have ha:=(h.asks Z.i P).1;by_cases z:m (3+2*Z.i)≠0/\m (3+2*Z.i)-1≠jA Z.r Z.i
  .exact gG (Z:=Z) Y I (UV H T d U P ha z)
  exact gG (Z:=Z) Y I (VC H T d U P ha z q)
 .cases X;have W:=G (by unfold bO;omega);unfold fO at W;simp only[d]at W;obtain⟨K,P,zv,l,j,g,B,A,hw⟩:=W;obtain⟨f,r2,r3,r4⟩:=tK h.ok h.rec_ j;obtain⟨a,k,v,ho,b⟩:=(h.asks Z.i P).2 hw;have q:vV (Z.fill (m (2+2*Z.i))):=⟨f,wY (m:=m) P g B A ho b,by show Z.na<=4;omega,by show Z.r 28+Z.na<=_;omega,by show Z.r 27+1<=_;omega,by show Z.ver<=_;omega⟩;exact gG (Z:=Z) Y I (TI H T d U P I I B A (h.ram (2+2*Z.i) I) q)
 .have W:=G (by unfold bO;omega);unfold fO at W;simp only[d]at W;rw[uR _ W.2.2.1]at X;cases X;exact gG (Z:=Z) Y I (RY H T d U W.2.2.1 (by have:=W.2.1;omega))
 .have W:=G (by unfold bO;omega);unfold fO at W;simp only[d]at W;rw[uV _ W.2.2.1]at X;cases X;exact gG (Z:=Z) Y I (YG H T d U W.2.2.1 y)
 .cases X;exact gG (Z:=Z) Y I (YP H T d U x)
 .cases X;have W:=G (by unfold bO;omega);unfold fO at W;simp only[d]at W;obtain⟨N,S,h1,h2⟩:=UT H T d U hO Y zy (by have:=W.2.1;omega);refine⟨N,S,h1,h2.mono ?_⟩;rintro e' w' ⟨h3,h4,h5,h6⟩;exact⟨h3,w',tag,n+1,I,h4,by unfold sE;rw[iP d];exact h5,h6⟩
 .cases X;exact gG (Z:=Z) Y I (PX H T d U y)
 .cases X;exact gG (Z:=Z) Y I (VF H T d U x)
 .cases X;exact gG (Z:=Z) Y I (WG H T d U)
 .cases X;exact gG (Z:=Z) Y I (OG H T d U)
 .cases X;exact gG (Z:=Z) Y I (RV H T d U)
 .cases X;exact gG (Z:=Z) Y I (RH H T d U F)
 .cases X;exact gG (Z:=Z) Y I (TZ H T d U)
 .cases X;exact gG (Z:=Z) Y I (TY H T d U)
 .cases X;exact gG (Z:=Z) Y I (SQ H T d U)
 cases X;by_cases K:m 1=Z.ver
 .cases hb:gO (Z.seen 0).toNat t with
  |true=>
   rcases L with hg|hg
   .exact gG (Z:=Z) Y I (yW H T d U Q K hb hg (.inl ⟨rfl,rfl⟩))
   .exact gG (Z:=Z) Y I (yS H T d U Q K hb hg (.inl ⟨rfl,rfl⟩))
  |false=>
   rcases L with hg|hg
   .exact gG (Z:=Z) Y I (yS H T d U Q K hb hg (.inr ⟨rfl,rfl⟩))
   .exact gG (Z:=Z) Y I (yW H T d U Q K hb hg (.inr ⟨rfl,rfl⟩))
 exact gG (Z:=Z) Y I (OB H T d U Q K)
end
def VQ(w:World)(tag:Nat->Nat)(t:Nat)(Z:cQ)(last:Int)(p q:Nat)(fin:Bool):Prop:=
 ∃e R cr D cd rows,lT w tag t Z last q R cr D cd rows fin/\dD w tag e (gF Z) rows/\iF w tag t Z e/\e.p=p/\e.q=q
theorem VQ.kept{Z:cQ}{p q:Nat}{fin:Bool}(h:VQ w tag t Z last p q fin)(V:aD S w w')(U:bI w tag tag')(W:ZP S tag t):VQ w' tag' t Z last p q fin:=by
 obtain⟨e,R,T,D,Q,X,P,O,N,M,L⟩:=h;exact⟨e,R,T,D,Q,X,P.kept V U (fun b Y=>(W b Y).2.2.1) (fun b Y=>(W b Y).2.2.2.1) (fun b Y=>(W b Y).2.1),O.kept V U (fun b Y=>(W b Y).1),N.kept V U W,M,L⟩
structure RS (X:Nat->Prop) (w:World) (tag:Nat->Nat) (m:Nat->Int) (s:cN) (th:Nat->cQ) (tgl:Nat->Int) (fins:Nat->Bool) (st:Nat) (hist:List (List Value)) (of:Nat->List (List Value)) (p gs mp go n:Nat) (pt:Nat->Nat) (H:Option Addr) (ch:Nat):Prop where
 sh:aY w p 68 (yJ gs m pt (st:Int) (.slice H hist.length ch) (.map (some go)))
 st_:aY w gs 74 (kD s mp)
 wm:gP s.want mp s.fl w
 om:KO w tag go n of
 hi:cU w 0 61 9 H hist.length ch hist
 tp:tag p=102
 ts:tag gs=100
 tm:tag mp=101
 tH:∀b,iI H b->tag b=103
 th_:∀t,t<4->X t->VQ w tag t (th t) (tgl t) p (pt t) (fins t)
def IR(_:Nat):Prop:=True
def TP(t u:Nat):Prop:=u≠t
section
variable{X:Nat->Prop}{w w':World}{tag tag':Nat->Nat}{m:Nat->Int}{s:cN}{th:Nat->cQ}{tgl:Nat->Int}{fins:Nat->Bool}{st:Nat}{hist:List (List Value)}{of of':Nat->List (List Value)}{p gs mp go n n':Nat}{pt:Nat->Nat}{H:Option Addr}{ch:Nat}{S:Nat->Prop}{t:Nat}{Z:cQ}
theorem RS.kept(h:RS X w tag m s th tgl fins st hist of p gs mp go n pt H ch)(Z:aD S w w')(Y:bI w tag tag')(W:∀b,S b->tag b<100):RS X w' tag' m s th tgl fins st hist of p gs mp go n pt H ch:=
 ⟨(Z.block p h.sh.lt fun e=>by have:=W p e;have:=h.tp;omega).trans h.sh,(Z.block gs h.st_.lt fun e=>by have:=W gs e;have:=h.ts;omega).trans h.st_,h.wm.kept Z (fun e=>by have:=W mp e;have:=h.tm;omega),h.om.kept Z Y (fun b e=>by have:=W b e;omega),h.hi.keptT Z h.tH (fun b e=>by have:=W b e;omega),
   (Y p h.sh.lt).trans h.tp,(Y gs h.st_.lt).trans h.ts,(Y mp h.wm.lt).trans h.tm,h.hi.tagT Y h.tH,fun t V U=>(h.th_ t V U).kept Z Y (fun b e=>by have:=W b e;omega)⟩
theorem RS.below(h:RS X w tag m s th tgl fins st hist of p gs mp go n pt H ch)(Z:Below w w w')(Y:bI w tag tag'):RS X w' tag' m s th tgl fins st hist of p gs mp go n pt H ch:=h.kept (S:=bN) (aD.of_same Z) Y (fun _ x=>x.elim)
theorem RS.less(h:RS IR w tag m s th tgl fins st hist of p gs mp go n pt H ch)(Y:Nat->Prop):RS Y w tag m s th tgl fins st hist of p gs mp go n pt H ch:=⟨h.sh,h.st_,h.wm,h.om,h.hi,h.tp,h.ts,h.tm,h.tH,fun t Z _=>h.th_ t Z trivial⟩
theorem RS.own(h:RS (TP t) w tag m s th tgl fins st hist of p gs mp go n pt H ch)(O:t<4)(Y:aD S w w')(X:bI w tag tag')(V:∀b,S b->tag b=110+t\/tag b=120+t\/rR t (tag b)):RS (TP t) w' tag' m s th tgl fins st hist of p gs mp go n pt H ch:=by
 have Z:∀b,S b->tag b≠100/\tag b≠101/\tag b≠102/\tag b≠103/\tag b≠104/\tag b≠105/\tag b≠106:=fun b T=>by have:=V b T;unfold rR at this;omega
 refine⟨(Y.block p h.sh.lt fun e=>(Z _ e).2.2.1 h.tp).trans h.sh,(Y.block gs h.st_.lt fun e=>(Z _ e).1 h.ts).trans h.st_,h.wm.kept Y (fun e=>(Z _ e).2.1 h.tm),h.om.kept Y X (fun b e=>⟨(Z b e).2.2.2.2.1,(Z b e).2.2.2.2.2.1⟩),h.hi.keptT Y h.tH (fun b e=>(Z b e).2.2.2.1),
  (X p h.sh.lt).trans h.tp,(X gs h.st_.lt).trans h.ts,(X mp h.wm.lt).trans h.tm,h.hi.tagT X h.tH,fun u R W=>(h.th_ u R W).kept Y X (fun b e=>?_)⟩
 have U:=V b e;have Q:=Z b e;have P:u≠t:=W;unfold rR at U;omega
theorem RS.put(h:RS (TP t) w tag m s th tgl fins st hist of p gs mp go n pt H ch){fin:Bool}(X:VQ w tag t Z last p (pt t) fin):RS IR w tag m s (jG th t Z) (fun u=>if u=t then last else tgl u) (fun u=>if u=t then fin else fins u) st hist of p gs mp go n pt H ch:=
 ⟨h.sh,h.st_,h.wm,h.om,h.hi,h.tp,h.ts,h.tm,h.tH,fun u Y _=>by
  by_cases e:u=t
  .subst e;rw[cD,iP rfl,iP rfl];exact X
  rw[dK _ _ e,iN e,iN e];exact h.th_ u Y e⟩
theorem RS.rc(h:RS X w tag m s th tgl fins st hist of p gs mp go n pt H ch)(T:t<4){e:mG}(V:e.p=p){R:Option Addr}{U:Nat}{D:Option Addr}{cd:Nat}{rows:List (List Value)}{cs:List Cl}{fin:Bool}(Y:lT w tag t Z last e.q R U D cd rows fin)(W:dD w tag e cs rows):
 RC w tag w tag t Z last e gs mp m pt s (st:Int) (.slice H hist.length ch) (.map (some go)) R U D cd rows cs fin:=
 ⟨Kg.refl _ _ _,by rw[V];exact h.sh,h.st_,h.wm,by rw[V];exact h.tp,h.ts,h.tm,Y,W,T⟩
theorem RS.back(h:RS (TP t) w tag m s th tgl fins st hist of p gs mp go n pt H ch)(a:t<4){e:mG}(E:e.p=p)(A:e.q=pt t){L:ZV}(f:TW w tag t last e gs mp pt (st:Int) (.slice H hist.length ch) (.map (some go)) go n of Z L w'):
 ∃X S,S<=n+1/\Kg (CM t) w tag w' X/\RS IR w' X L.m L.s (jG th t L.t) (fun u=>if u=t then last else tgl u) (fun u=>if u=t then L.fin else fins u) st hist (sE of Z) p gs mp go S pt H ch:=by
 obtain⟨d,C,S,x,O,N,X,M,R,v,D,r,Q,Y,K,V,P⟩:=f;have W:=O.trans (Y.k.mono fun k o=>(Or.inl o:CM t k));refine⟨X,S,x,W,?_⟩;have U:∀b,CM t (tag b)->tag b≠103/\tag b≠105/\tag b≠106/\∀u,u<4->u≠t->tag b≠110+u/\tag b≠120+u/\tag b≠130+u/\tag b≠140+u/\tag b≠150+u/\tag b≠160+u/\tag b≠170+u/\tag b≠180+u/\tag b≠190+u:=fun b G=>by
  unfold CM yL at G;refine⟨I,I,I,fun u F l=>by omega⟩
 have z:RS (TP t) w' X L.m L.s th tgl fins st hist (sE of Z) p gs mp go S pt H ch:=by
  refine⟨by have:=Y.sh;rw[V,E]at this;exact this,Y.st_,Y.wm,N.kept Y.k.k Y.k.t (fun b G=>by unfold yL at G;omega),h.hi.keptT W.k h.tH (fun b e=>(U b e).1),by have:=Y.tp;rw[V,E]at this;exact this,Y.ts,Y.tm,h.hi.tagT W.t h.tH,fun u F B=>(h.th_ u F B).kept W.k W.t (fun b e=>?_)⟩;obtain⟨c,j,i,g⟩:=U b e;have y:=g u F B;exact⟨i,j,y⟩
 have T:=Y.th;rw[P,A]at T;exact z.put ⟨M,R,v,D,r,Q,T,Y.rs,K,V.trans E,P.trans A⟩
end
section
variable(gm gs:Nat)(pw:Nat->Value)(tg:Nat->Int)(st:Int)(H D:Value)
theorem Oq:(uL gm gs pw tg st H D)[0]? =some (cR gm):=by rw[uL,cW I];rfl
theorem yH:(uL gm gs pw tg st H D)[1]? =some (cR gs):=by rw[uL,cW I];rfl
theorem aCx(h:t<4):(uL gm gs pw tg st H D)[2+t]? =some (pw t):=by
 rw[uL,cW I,shV,iN I,iN I,iP I,show 2+t-2=t by omega]
theorem aBk(h:t<4):(uL gm gs pw tg st H D)[6+t]? =some (.int .i64 (tg t)):=by
 rw[uL,cW I,shV,iN I,iN I,iN I,iP I,show 6+t-6=t by omega]
theorem xF:(uL gm gs pw tg st H D)[10]? =some (.int .i64 st):=by rw[uL,cW I];rfl
theorem Iv:(uL gm gs pw tg st H D)[11]? =some H:=by rw[uL,cW I];rfl
theorem Lm:(uL gm gs pw tg st H D)[12]? =some D:=by rw[uL,cW I];rfl
theorem aAy(x:Int):(uL gm gs pw tg st H D).setIfInBounds 10 x=uL gm gs pw tg x H D:=dP fun j Z=>by
 by_cases e:j=10
 .subst e;rfl
 rw[iN e];unfold shV;simp only[e,if_false]
theorem aAt(x:Value):(uL gm gs pw tg st H D).setIfInBounds 11 x=uL gm gs pw tg st x D:=dP fun j Z=>by
 by_cases e:j=11
 .subst e;rfl
 rw[iN e];unfold shV;simp only[e,if_false]
theorem Hg(x:Value):(uL gm gs pw tg st H D).setIfInBounds 12 x=uL gm gs pw tg st H x:=dP fun j X=>by
 by_cases e:j=12
 .subst e;rfl
 rw[iN e];unfold shV;by_cases Z:j=11
 .subst Z;rfl
 by_cases Y:j=10
 .subst Y;rfl
 have h:j<10:=I;simp only[h,if_true]
theorem aBM(h:t<4)(x:Int):(uL gm gs pw tg st H D).setIfInBounds (6+t) x=uL gm gs pw (fun u=>if u=t then x else tg u) st H D:=dP fun j V=>by
 unfold shV;by_cases e:j=6+t
 .subst e;rw[iP rfl,iN I,iN I,iN I,iP I];dsimp only;rw[iP I]
 rw[iN e];by_cases Y:j=0
 .rw[iP Y,iP Y]
 rw[iN Y,iN Y];by_cases X:j=1
 .rw[iP X,iP X]
 rw[iN X,iN X];by_cases W:j<6
 .rw[iP W,iP W]
 rw[iN W,iN W];by_cases Z:j<10
 .rw[iP Z,iP Z];dsimp only;rw[iN I]
 rw[iN Z,iN Z]
end
structure PS (w:World) (tag:Nat->Nat) (m:Nat->Int) (s:cN) (th:Nat->cQ) (tgl:Nat->Int) (st:Nat) (hist dl:List (List Value)) (p gm gs:Nat) (gw:Nat->Nat) (H:Option Addr) (ch:Nat) (E:Option Addr) (ce:Nat):Prop where
 sh:aY w p 157 (uL gm gs (fun t=>cR (gw t)) tgl (st:Int) (.slice H hist.length ch) (.slice E dl.length ce))
 ram:fE w tag m gm
 sto:iQ w tag s gs
 wk:∀t,t<4->∃A ca D cd,gJ w tag t (th t) (gw t) A ca D cd
 hi:cU w 0 61 9 H hist.length ch hist
 de:cU w 0 161 7 E dl.length ce dl
 tp:tag p=3
 tH:∀b,iI H b->tag b=4
 tE:∀b,iI E b->tag b=5
section
variable{w w':World}{tag tag':Nat->Nat}{m:Nat->Int}{s:cN}{th:Nat->cQ}{tgl:Nat->Int}{st:Nat}{hist dl:List (List Value)}{p gm gs:Nat}{gw:Nat->Nat}{H:Option Addr}{ch:Nat}{E:Option Addr}{ce:Nat}{S:Nat->Prop}
theorem PS.kept(h:PS w tag m s th tgl st hist dl p gm gs gw H ch E ce)(Y:aD S w w')(X:bI w tag tag')(Z:∀b,S b->tag b=0\/100<=tag b):PS w' tag' m s th tgl st hist dl p gm gs gw H ch E ce:=
 ⟨(Y.block p h.sh.lt fun e=>by have:=Z p e;have:=h.tp;omega).trans h.sh,h.ram.kept Y X (fun b e=>by have:=Z b e;omega),h.sto.kept Y X (fun b e=>by have:=Z b e;omega),
   fun t W=>by
    obtain⟨A,V,D,U,T⟩:=h.wk t W;exact⟨A,V,D,U,T.kept Y X (fun b e=>by have:=Z b e;omega) (fun b e=>by have:=Z b e;omega) (fun b e=>by have:=Z b e;omega)⟩,
   h.hi.keptT Y h.tH (fun b e=>by have:=Z b e;omega),h.de.keptT Y h.tE (fun b e=>by have:=Z b e;omega),(X p h.sh.lt).trans h.tp,h.hi.tagT X h.tH,h.de.tagT X h.tE⟩
theorem PS.below(h:PS w tag m s th tgl st hist dl p gm gs gw H ch E ce)(Z:Below w w w'):PS w' tag m s th tgl st hist dl p gm gs gw H ch E ce:=
 h.kept (S:=bN) (aD.of_same Z) (bI.refl _ _) (fun _ x=>x.elim)
theorem PS.c(h:PS w tag m s th tgl st hist dl p gm gs gw H ch E ce)(i:Nat){v:Value}(Z:(uL gm gs (fun t=>cR (gw t)) tgl (st:Int) (.slice H hist.length ch) (.slice E dl.length ce))[i]? =some v):w.cell? (p,i)=v:=by rw[h.sh.cell,Z]
theorem PS.f(h:PS w tag m s th tgl st hist dl p gm gs gw H ch E ce)(i:Nat):w.frozen? ⟨p,i,none⟩=false:=h.sh.frozen i
theorem PS.own(h:PS w tag m s th tgl st hist dl p gm gs gw H ch E ce)(i:Nat)(v:Value){tgl':Nat->Int}{X:Nat}
 (e:(uL gm gs (fun t=>cR (gw t)) tgl (st:Int) (.slice H hist.length ch) (.slice E dl.length ce)).setIfInBounds i v=uL gm gs (fun t=>cR (gw t)) tgl' (X:Int) (.slice H hist.length ch) (.slice E dl.length ce)):
 PS (w.setCell (p,i) v) tag m s th tgl' X hist dl p gm gs gw H ch E ce:=by
 have Y:=bP w p i v;have Z:∀b,cI p b->tag b=3:=fun b V=>by rw[show b=p from V];exact h.tp
 refine⟨by rw[<-e];exact h.sh.set_ i v,h.ram.kept Y (bI.refl _ _) (fun b e=>by rw[Z b e];omega),h.sto.kept Y (bI.refl _ _) (fun b e=>by rw[Z b e];omega),fun t W=>?_,h.hi.keptT Y h.tH (fun b e=>by rw[Z b e];omega),h.de.keptT Y h.tE (fun b e=>by rw[Z b e];omega),h.tp,h.tH,h.tE⟩;obtain⟨A,U,D,T,S⟩:=h.wk t W;exact⟨A,U,D,T,S.kept Y (bI.refl _ _) (fun b e=>by rw[Z b e];omega) (fun b e=>by rw[Z b e];omega) (fun b e=>by rw[Z b e];omega)⟩
theorem PS.steps(h:PS w tag m s th tgl st hist dl p gm gs gw H ch E ce):PS (w.setCell (p,10) ((st+1:Nat):Int)) tag m s th tgl (st+1) hist dl p gm gs gw H ch E ce:=h.own 10 _ (aAy _ _ _ _ _ _ _ _)
theorem PS.event{c':Nat}{row:List Value}(h:PS w tag m s th tgl st hist dl p gm gs gw H ch E ce)(N:cU w' 0 61 9 A' (hist.length+1) c' (hist++[row]))(U:aD (iI H) w w')(M:∀b,iI A' b->iI H b\/w<=b):
 PS (w'.setCell (p,11) (.slice A' (hist.length+1) c')) (cG w tag 4) m s th tgl st (hist++[row]) dl p gm gs gw A' c' E ce:=by
 have X:=cO w tag 4;have Y:=h.tH;have Z:=bP w' p 11 (.slice A' (hist.length+1) c');have R:=(X p h.sh.lt).trans h.tp;have W:∀b,cI p b->cG w tag 4 b=3:=fun b V=>by rw[show b=p from V];exact R
 have Q:∀b,iI A' b->cG w tag 4 b=4:=fun b V=>by
  rcases M b V with e|e
  .exact(X b (by obtain⟨a,O,rfl⟩:=e;exact(h.hi.lt a O).2)).trans (Y b e)
  exact dT _ _ _ e
 have T:aY w' p _ _:=(U.block p h.sh.lt fun e=>by have:=Y _ e;have:=h.tp;omega).trans h.sh;have P:(hist++[row]).length=hist.length+1:=by simp
 refine⟨?_,(h.ram.kept U X (fun b e=>by rw[Y b e];omega)).kept Z (bI.refl _ _) (fun b e=>by rw[W b e];omega),(h.sto.kept U X (fun b e=>by rw[Y b e];omega)).kept Z (bI.refl _ _) (fun b e=>by rw[W b e];omega),fun t S=>?_,?_,?_,R,Q,h.de.tagT X h.tE⟩
 .have V:=T.set_ 11 (.slice A' (hist.length+1) c');rw[aAt]at V;rw[P];exact V
 .obtain⟨A,ca,D,cd,hw⟩:=h.wk t S;exact⟨A,ca,D,cd,(hw.kept U X (fun b e=>by rw[Y b e];omega) (fun b e=>by rw[Y b e];omega) (fun b e=>by rw[Y b e];omega)).kept Z (bI.refl _ _) (fun b e=>by rw[W b e];omega) (fun b e=>by rw[W b e];omega) (fun b e=>by rw[W b e];omega)⟩
 .rw[P];exact N.keptT Z Q (fun b e=>by rw[W b e];omega)
 exact(h.de.keptT U h.tE (fun b e=>by rw[Y b e];omega)).keptT Z (h.de.tagT X h.tE) (fun b e=>by rw[W b e];omega)
theorem PS.deed{c':Nat}{row:List Value}(h:PS w tag m s th tgl st hist dl p gm gs gw H ch E ce)(N:cU w' 0 161 7 A' (dl.length+1) c' (dl++[row]))(U:aD (iI E) w w')(M:∀b,iI A' b->iI E b\/w<=b):
 PS (w'.setCell (p,12) (.slice A' (dl.length+1) c')) (cG w tag 5) m s th tgl st hist (dl++[row]) p gm gs gw H ch A' c':=by
 have X:=cO w tag 5;have Y:=h.tE;have Z:=bP w' p 12 (.slice A' (dl.length+1) c');have R:=(X p h.sh.lt).trans h.tp;have W:∀b,cI p b->cG w tag 5 b=3:=fun b V=>by rw[show b=p from V];exact R
 have Q:∀b,iI A' b->cG w tag 5 b=5:=fun b V=>by
  rcases M b V with e|e
  .exact(X b (by obtain⟨a,O,rfl⟩:=e;exact(h.de.lt a O).2)).trans (Y b e)
  exact dT _ _ _ e
 have T:aY w' p _ _:=(U.block p h.sh.lt fun e=>by have:=Y _ e;have:=h.tp;omega).trans h.sh;have P:(dl++[row]).length=dl.length+1:=by simp
 refine⟨?_,(h.ram.kept U X (fun b e=>by rw[Y b e];omega)).kept Z (bI.refl _ _) (fun b e=>by rw[W b e];omega),(h.sto.kept U X (fun b e=>by rw[Y b e];omega)).kept Z (bI.refl _ _) (fun b e=>by rw[W b e];omega),fun t S=>?_,?_,?_,R,h.hi.tagT X h.tH,Q⟩
 .have V:=T.set_ 12 (.slice A' (dl.length+1) c');rw[Hg]at V;rw[P];exact V
 .obtain⟨A,ca,D,cd,hw⟩:=h.wk t S;exact⟨A,ca,D,cd,(hw.kept U X (fun b e=>by rw[Y b e];omega) (fun b e=>by rw[Y b e];omega) (fun b e=>by rw[Y b e];omega)).kept Z (bI.refl _ _) (fun b e=>by rw[W b e];omega) (fun b e=>by rw[W b e];omega) (fun b e=>by rw[W b e];omega)⟩
 .exact(h.hi.keptT U h.tH (fun b e=>by rw[Y b e];omega)).keptT Z (h.hi.tagT X h.tH) (fun b e=>by rw[W b e];omega)
 rw[P];exact N.keptT Z Q (fun b e=>by rw[W b e];omega)
theorem PS.step(h:PS w tag m s th tgl st hist dl p gm gs gw H ch E ce)(K:t<4){L:ZV}(G:iZ w tag t (gw t) gm gs L w'):∃Z,bI w tag Z/\aD (rW tag t) w w'/\PS w' Z L.m L.s (jG th t L.t) tgl st hist dl p gm gs gw H ch E ce:=by
 obtain⟨Z,A,T,D,S,Y,X,R,Q,P⟩:=G;refine⟨Z,Y,X,(X.block p h.sh.lt fun e=>by unfold rW at e;have:=h.tp;omega).trans h.sh,R,Q,fun u O=>?_,h.hi.keptT X h.tH (fun b e=>by unfold rW at e;omega),h.de.keptT X h.tE (fun b e=>by unfold rW at e;omega),(Y p h.sh.lt).trans h.tp,h.hi.tagT Y h.tH,h.de.tagT Y h.tE⟩;by_cases e:u=t
 .subst e;rw[cD];exact⟨A,T,D,S,P⟩
 rw[dK _ _ e];obtain⟨N,W,M,V,U⟩:=h.wk u O;exact⟨N,W,M,V,U.kept X Y (fun b e=>by unfold rW at e;omega) (fun b e=>by unfold rW at e;omega) (fun b e=>by unfold rW at e;omega)⟩
end
def PT(tag:Nat->Nat)(b:Nat):Prop:=1<=tag b/\tag b<100
def qV(x:Nat×List Value):List Value:=.int .u64 (x.1:Int)::x.2
def gH(w:World)(tag:Nat->Nat)(F:pH)(p gm gs:Nat)(gw:Nat->Nat):Prop:=∃H ch E ce,PS w tag F.m F.s F.th F.tgl F.steps F.hist ((aB F.of F.V).map qV) p gm gs gw H ch E ce
def DZ(w:World)(tag:Nat->Nat)(F':pH)(p gm gs:Nat)(gw:Nat->Nat)(w':World):Prop:=∃tag',bI w tag tag'/\aD (PT tag) w w'/\gH w' tag' F' p gm gs gw
end
section
attribute [local go_sem↓] Go.wp_at_zero Go.wp_at_succ
structure Kp (w0:World) (tag0:Nat->Nat) (w:World) (tag:Nat->Nat):Prop where
 t:bI w0 tag0 tag
 k:aD (PT tag0) w0 w
theorem Kp.refl(w:World)(tag:Nat->Nat):Kp w tag w tag:=⟨bI.refl _ _,aD.refl _ _⟩
theorem Kp.go(h:Kp w0 tag0 w tag)(W:bI w tag tag')(Z:aD S w w')(V:∀b,S b->PT tag b):Kp w0 tag0 w' tag':=by
 refine⟨h.t.trans W h.k.size,⟨Z.os.trans h.k.os,Z.tape.trans h.k.tape,Z.output.trans h.k.output,Nat.le_trans h.k.size Z.size,fun b Y X=>?_⟩⟩;refine(Z.block b (Nat.lt_of_lt_of_le Y h.k.size) fun e=>X ?_).trans (h.k.block b Y X);have:=V b e;unfold PT at*;rw[h.t b Y]at this;exact this
theorem Kp.below(h:Kp w0 tag0 w tag)(Z:Below w w w'):Kp w0 tag0 w' tag:=h.go (S:=bN) (bI.refl _ _) (aD.of_same Z) (fun _ x=>x.elim)
theorem Kp.err(h:Kp w0 tag0 w tag)(Z:mR w0)(Y:tag0 2=0):mR w/\tag 2=0:=
 ⟨(h.k.cell (p:=⟨2,0,none⟩) Z.pos (fun e=>by have X:1<=tag0 2:=e.1;omega)).trans Z,(h.t _ Z.pos).trans Y⟩
section
variable{w w':World}{tag:Nat->Nat}{t:Nat}{Z:cQ}{gw:Nat}{A:Option Addr}{ca:Nat}{D:Option Addr}{cd:Nat}
theorem Ai:(prog.info? 46).map (·.size)=some 49:=J
theorem WT(t:Nat)(Z:cQ)(A D:Value):(prog.info? 46).map (·.size)=some (kE t Z A D).size:=by rw[Ai,sL]
theorem WI{c:Prop}[Decidable c]{a b:Value}(Z:a.oneCell'=true)(Y:b.oneCell'=true):(if c then a else b).oneCell'=true:=by split<;>assumption
theorem WQ(t:Nat)(Z:cQ)(A D:Option Addr)(n c Y c':Nat)(i:Nat):(zI t Z (.slice A n c) (.slice D Y c') i).oneCell'=true:=by
 unfold zI
 repeat refine WI rfl ?_
 rfl
theorem ZD(t:Nat)(Z:cQ)(A D:Option Addr)(n c Y c':Nat):(kE t Z (.slice A n c) (.slice D Y c')).all (·.oneCell')=true:=qH fun i _=>WQ t Z A D n c Y c' i
def vB(t:Nat)(a k v tg:Int):Array Value:=kE t (cQ.call a k v tg false) (.slice none 0 0) (.slice none 0 0)
theorem UX(t:Nat)(a k v Z:Int):vB t a k v Z= #[.int .i64 t,.int .i64 1,.int .i64 a,.int .i64 k,.int .i64 v,.int .i64 Z,.bool false,.int .i64 0,.int .u64 0,.int .u64 0,.int .u64 0,.int .u64 0,.int .u64 0,.int .u64 0,.int .u64 0,.int .u64 0,.int .u64 0,.int .u64 0,.int .u64 0,.int .u64 0,.int .u64 0,.int .u64 0,.int .u64 0,.int .u64 0,.int .u64 0,.int .u64 0,.int .u64 0,.int .u64 0,.int .u64 0,.int .u64 0,.int .u64 0,.int .u64 0,.int .u64 0,.int .u64 0,.int .u64 0,.int .u64 0,.int .u64 0,.int .u64 0,.int .u64 0,.int .u64 0,.int .u64 0,.slice none 0 0,.slice none 0 0,.int .u64 0,.int .u64 0,.int .u64 0,.int .i64 0,.int .i64 0,.int .i64 0]:=rfl
theorem Bc(F:gJ w tag t Z gw A ca D cd)(a k v X:Int)(Y:Bool):
 Calls prog 21 #[(gw,0),.agg #[a,k,v],X,Y] w fun e w'=>e=.returned (.tuple #[])/\gJ w' tag t (cQ.call a k v X Y) gw none 0 none 0/\aD (cI gw) w w':=by
 have P:=aH (F.kept (S:=bN) (w':=w.alloc (.cells #[a,k,v] 39)) (aD.of_same ((Below.refl _ _).alloc (Nat.le_refl _) _)) (bI.refl _ _) (fun _ x=>x.elim) (fun _ x=>x.elim) (fun _ x=>x.elim));have r:(w.alloc (.cells #[a,k,v] 39)).cell? (gw,0)=t:=mS P.blk 0 I;have O:=aH (aY.new w 39 #[a,k,v]);have q:(w.alloc (.cells #[a,k,v] 39)).cell? w=a:=O.cell 0;have o:(w.alloc (.cells #[a,k,v] 39)).cell? (w.heap.size,1)=k:=O.cell 1;have n:(w.alloc (.cells #[a,k,v] 39)).cell? (w.heap.size,2)=v:=O.cell 2;have N:=P.blk.lt;have E:=F.blk.lt;have u:w<(w.alloc (.cells #[a,k,v] 39)).heap.size:=by simp
 have M:Hid (aD (cI gw) w (w.alloc (.cells #[a,k,v] 39))):=aH (aD.of_same ((Below.refl _ _).alloc (Nat.le_refl _) _));clear F
 go_enter func21,ntmps21
 go_upto_region 1 with(fail)
 show Code.wp _ _ _ _ (w.alloc (.cells #[a,k,v] 39));generalize G:w.alloc (.cells #[a,k,v] 39)=l at*;generalize w.heap.size=j at*;clear G;refine aA 8 ?_
 iterate 7
  refine aR ?_;constructor
  .intro w9 hw9 hm9;refine aS ?_;obtain⟨hc9,hf9⟩:=hw9.all;refine aW ?_;go_simp
   first
   |exact aE
 refine bA (.agg (vB t a k v X)) cX ?_ ?_
 .intro w9 hw9 hm9;refine aS ?_;rw[UX];refine aW ?_;go_simp;exact aE
 refine aZ ?_;rintro w9 hw9 Q;refine aQ ?_;refine aS ?_;have U:=aH (P.blk.below hw9.same N);have L:=aH (M.trans (aD.of_same hw9.same));have W:Hid (gJ (w9.setRow gw (vB t a k v X)) tag t (cQ.call a k v X false) gw none 0 none 0):=aH ⟨U.setRow _,cU.nil _ _ _ _,cU.nil _ _ _ _,P.tg,(by rintro b ⟨a,H,_⟩;cases H),(by rintro b ⟨a,H,_⟩;cases H)⟩;have V:Hid (aD (cI gw) w (w9.setRow gw (vB t a k v X))):=aH (L.trans (jD _ _ _));have T:Hid ((vB t a k v X).all (·.oneCell')=true):=aH (ZD _ _ _ _ _ _ _ _);have B:Hid ((prog.info? 46).map (·.size)=some (vB t a k v X).size):=aH (WT _ _ _ _);have z:Hid ((kE t Z (.slice A Z.na ca) (.slice D Z.deeds.length cd)).size=(vB t a k v X).size):=aH (by rw[sL];exact(sL _ _ _ _).symm);clear Q;refine aW ?_;generalize vB t a k v X=C at*;have s:=W.blk.lt;have c1:(w9.setRow gw C).cell? (gw,1)=(1:Int):=mS W.blk 1 I;have m:=W.blk.frozen 1;cases Y with
 |false=>
  go_wp2_with (with_reducible refine fK 46 gw C 46 (kE t Z (.slice A Z.na ca) (.slice D Z.deeds.length cd)) J J U.out B.out z.out T.out ?_)
  refine bodyPost_end (v:=.tuple #[]) (by simp [results,results21,go_sem]) rfl ⟨rfl,W.out,V.out⟩
 |true=>
  have K:Hid (gJ ((w9.setRow gw C).setCell (gw,1) (17:Int)) tag t (cQ.call a k v X true) gw none 0 none 0):=aH (by
   have y:=W.blk.set_ 1 ((17:Nat):Int);rw[wE]at y;exact⟨y,cU.nil _ _ _ _,cU.nil _ _ _ _,W.tg,W.tA,W.tD⟩)
  have R:=aH (V.setCell (p:=⟨gw,1,none⟩) (.inl rfl) (17:Int))
  go_wp2_with (with_reducible refine fK 46 gw C 46 (kE t Z (.slice A Z.na ca) (.slice D Z.deeds.length cd)) J J U.out B.out z.out T.out ?_)
  refine bodyPost_end (v:=.tuple #[]) (by simp [results,results21,go_sem]) rfl ⟨rfl,K.out,R.out⟩
end
section
variable{w:World}{tag:Nat->Nat}{m:Nat->Int}{s:cN}{th:Nat->cQ}{tgl:Nat->Int}{st:Nat}{hist dl:List (List Value)}{p gm gs:Nat}{gw:Nat->Nat}{H:Option Addr}{ch:Nat}{E:Option Addr}{ce:Nat}
theorem DV(h:PS w tag m s th tgl st hist dl p gm gs gw H ch E ce)(Z:t<4):Calls prog 69 #[(p,0),t] w fun e w'=>e=.returned (.tuple #[cR (gw t),.nilIface])/\w=w':=by
 have c1:w.cell? (p,2+t)=(gw t,0):=by rw[h.sh.cell,aCx _ _ _ _ _ _ _ Z];rfl
 have Y:¬(t:Int)<0:=I;have X:¬4<=(t:Int):=I;have W:(t:Int)<4:=I;unfold cR;clear h
 go_enter func69,ntmps69
 go_wp2
 go_ret2
 exact⟨rfl,rfl⟩
theorem FR(p:Nat)(t:Int)(w:World)(X:¬(0<=t/\t<4)):Calls prog 69 #[(p,0),t] w fun e w'=>e=.returned (.tuple #[.pointer none,.iface 53 (2:Int)])/\w=w':=by
 by_cases Y:t<0
 .go_enter func69,ntmps69
  go_wp2
  go_ret2
  exact⟨rfl,rfl⟩
 have Z:4<=t:=I
 go_enter func69,ntmps69
 go_wp2
 go_ret2
 exact⟨rfl,rfl⟩
theorem aCd(h:PS w tag m s th tgl st hist dl p gm gs gw H ch E ce)(X:t<4):Calls prog 29 #[(p,0),t] w fun e w'=>e=.returned ((th t).does:Int)/\w=w':=by
 have Z:=aH (DV h X);obtain⟨A,W,D,V,Y⟩:=h.wk t X;have c1:w.cell? (gw t,1)=((th t).does:Int):=mS Y.blk 1 I;clear h Y;unfold cR at Z
 go_enter func29,ntmps29
 go_wp2_with fail
 with_reducible refine Z.out.mono ?_
 rintro e U ⟨rfl,rfl⟩;go_wp2;go_ret;exact⟨rfl,rfl⟩
end
theorem YC:(prog.info? 61).map (fun i=>(i.zero,i.size,i.bytes))=some (some (.agg (9:Int)),9,72):=J
theorem EH:∃Z,prog.info? 61=some Z/\Z.zero=some (.agg (9:Int))/\Z.size=9/\Z.bytes=72:=by
 have h:=YC;cases hq:prog.info? 61 with
 |none=>simp [hq]at h
 |some i=>simp [hq]at h;exact⟨i,rfl,h.1,h.2.1,h.2.2⟩
theorem aBs:(prog.info? 161).map (fun i=>(i.zero,i.size,i.bytes))=some (some (.agg #[.int .u64 0,(0:Int),(0:Int),(0:Int),(0:Int),(0:Int),(0:Int)]),7,56):=J
theorem aBE:∃Z,prog.info? 161=some Z/\Z.zero=some (.agg #[.int .u64 0,(0:Int),(0:Int),(0:Int),(0:Int),(0:Int),(0:Int)])/\Z.size=7/\Z.bytes=56:=by
 have h:=aBs;cases hq:prog.info? 161 with
 |none=>simp [hq]at h
 |some i=>simp [hq]at h;exact⟨i,rfl,h.1,h.2.1,h.2.2⟩
section
variable{w w':World}{tag:Nat->Nat}{m:Nat->Int}{s:cN}{th:Nat->cQ}{tgl:Nat->Int}{st:Nat}{hist dl:List (List Value)}{p gm gs:Nat}{gw:Nat->Nat}{H:Option Addr}{ch:Nat}{E:Option Addr}{ce:Nat}
theorem PS.call(h:PS w tag m s th tgl st hist dl p gm gs gw H ch E ce)(O:t<4){Z:cQ}(N:gJ w' tag t Z (gw t) none 0 none 0)(X:aD (cI (gw t)) w w'):PS w' tag m s (jG th t Z) tgl st hist dl p gm gs gw H ch E ce/\(∀b,cI (gw t) b->PT tag b):=by
 obtain⟨A,M,D,L,W⟩:=h.wk t O;have Y:∀b,cI (gw t) b->tag b=10+t:=fun b V=>by rw[show b=gw t from V];exact W.tg
 refine⟨⟨(X.block p h.sh.lt fun e=>by have:=Y _ e;have:=h.tp;omega).trans h.sh,h.ram.kept X (bI.refl _ _) (fun b e=>by rw[Y b e];omega),h.sto.kept X (bI.refl _ _) (fun b e=>by rw[Y b e];omega),fun u R=>?_,h.hi.keptT X h.tH (fun b e=>by rw[Y b e];omega),h.de.keptT X h.tE (fun b e=>by rw[Y b e];omega),h.tp,h.tH,h.tE⟩,fun b V=>by unfold PT;rw[Y b V];omega⟩;by_cases e:u=t
 .subst e;rw[cD];exact⟨none,0,none,0,N⟩
 rw[dK _ _ e];obtain⟨Q,U,P,T,S⟩:=h.wk u R;exact⟨Q,U,P,T,S.kept X (bI.refl _ _) (fun b e=>by rw[Y b e];omega) (fun b e=>by rw[Y b e];omega) (fun b e=>by rw[Y b e];omega)⟩
theorem aAj(p:Nat)(t a k v:Int)(w:World)(Z:¬(0<=t/\t<4)):Calls prog 44 #[(p,0),t,.agg #[a,k,v]] w fun e w'=>e=.returned (.iface 53 (2:Int))/\Below w w w':=by
 have Y:=aH (FR p t (w.alloc (.cells #[a,k,v] 39)) Z);clear Z
 go_enter func44,ntmps44
 go_wp2_with fail
 with_reducible refine Y.out.mono ?_
 rintro e X ⟨rfl,rfl⟩;go_wp2;go_ret;exact⟨rfl,by go_grown⟩
theorem aAS(h:PS w tag m s th tgl st hist dl p gm gs gw H ch E ce)(W:t<4)(a k v:Int)(d:(th t).does≠0):Calls prog 44 #[(p,0),t,.agg #[a,k,v]] w fun e w'=>e=.returned (.iface 53 (6:Int))/\Below w w w':=by
 have Y:=aH (h.below ((Below.refl w w).alloc (Nat.le_refl _) (.cells #[a,k,v] 39)));have Z:=aH (DV Y W);unfold cR at Z;obtain⟨A,S,D,R,V⟩:=Y.wk t W;have c1:(w.alloc (.cells #[a,k,v] 39)).cell? (gw t,1)=((th t).does:Int):=mS V.blk 1 I;have U:gw t<w:=by obtain⟨_,_,_,_,X⟩:=h.wk t W;exact X.blk.lt
 have T:¬((th t).does:Int)=0:=I;clear h V d Y
 go_enter func44,ntmps44
 go_wp2_with fail
 with_reducible refine Z.out.mono ?_
 rintro e Q ⟨rfl,rfl⟩;go_wp2;go_ret;exact⟨rfl,by go_grown⟩
theorem Oz(h:PS w tag m s th tgl st hist dl p gm gs gw H ch E ce)(T:t<4)(a k v:Int)(d:(th t).does=0)(O:cB a k v=false):Calls prog 44 #[(p,0),t,.agg #[a,k,v]] w fun e w'=>e=.returned (.iface 53 (1:Int))/\Below w w w':=by
 have Y:=aH (h.below ((Below.refl w w).alloc (Nat.le_refl _) (.cells #[a,k,v] 39)));have Z:=aH (DV Y T);unfold cR at Z;obtain⟨A,N,D,M,R⟩:=Y.wk t T;have c1:(w.alloc (.cells #[a,k,v] 39)).cell? (gw t,1)=(0:Int):=by rw[mS R.blk 1 I];show some (Value.int .i64 ((th t).does:Int))=_;rw[d];rfl
 have Q:gw t<w:=by obtain⟨_,_,_,_,U⟩:=h.wk t T;exact U.blk.lt
 have S:=aH (fun W=>nG a k v W);rw[O]at S;clear h R d Y
 go_enter func44,ntmps44
 go_wp2_with fail
 with_reducible refine Z.out.mono ?_
 rintro e L ⟨rfl,rfl⟩;go_wp2_with fail
 with_reducible refine(S.out _).mono ?_
 rintro e P ⟨rfl,X⟩;have V:Hid (Below w w P):=aH (Below.trans (by go_grown) (X.mono (by simp)));clear X;go_wp2;go_ret;exact⟨rfl,V.out⟩
theorem aBV(h:PS w tag m s th tgl st hist dl p gm gs gw H ch E ce)(ht:t<4)(a k v:Int)(d:(th t).does=0)(ho:cB a k v=true)(xB:tgl t=0\/tgl t=1)(xz:st<=100000000)(xy:hist.length<=100000000):
 Calls prog 44 #[(p,0),t,.agg #[a,k,v]] w fun e w'=>e=.returned .nilIface/\∃x,bI w tag x/\aD (PT tag) w w'/\∃H' yl E' yk,PS w' x m s (jG th t (cQ.call a k v (1-tgl t) false)) tgl (st+1) (hist++[yE 1 t a k v 0 0 0 (st+1:Nat)]) dl p gm gs gw H' yl E' yk:=by
 have N:=aH (h.below ((Below.refl w w).alloc (Nat.le_refl _) (.cells #[a,k,v] 39)));have zw:=aH ((Kp.refl w tag).below ((Below.refl w w).alloc (Nat.le_refl _) (.cells #[a,k,v] 39)));have HO:=aH (aY.new w 39 #[a,k,v]);have zb:w<(w.alloc (.cells #[a,k,v] 39)).heap.size:=by simp
 have zv:Hid (w.heap.size<=w):=aH (Nat.le_refl _);have za:=aH h.sh.lt;have yz:Hid (∀q,H=some q->q.block<w):=aH (fun q hq=>(h.hi.lt q hq).2);have ye:gw t<w:=by obtain⟨_,_,_,_,zx⟩:=h.wk t ht;exact zx.blk.lt
 have HR:=aH (fun W=>nG a k v W);rw[ho]at HR;obtain⟨i0,zj,zi,zh,zg⟩:=EH;have HI:=aH zj;have HZ:=aH zi;have HS:=aH zh;have HY:=aH zg;clear h ho zj zi zh zg
 go_enter func44,ntmps44
 go_upto_region 1 with(fail)
 show Code.wp _ _ _ _ (w.alloc (.cells #[a,k,v] 39));generalize ym:w.alloc (.cells #[a,k,v] 39)=w1 at*;generalize ya:w.heap.size=V at*;clear ym;have M:=aH (DV N ht);unfold cR at M;go_wp2_with fail
 with_reducible refine M.out.mono ?_
 rintro e yc ⟨rfl,rfl⟩;clear M;have c1:w1.cell? (gw t,1)=(0:Int):=by
  obtain⟨A,ca,D,cd,hw⟩:=N.wk t ht;rw[mS hw.blk 1 I];show some (Value.int .i64 ((th t).does:Int))=_;rw[d];rfl
 have zu:gw t<w1:=by obtain⟨_,_,_,_,zx⟩:=N.wk t ht;exact zx.blk.lt
 have o0:w1.cell? (V,0)=a:=HO.cell 0;have o1:w1.cell? (V,1)=k:=HO.cell 1;have o2:w1.cell? (V,2)=v:=HO.cell 2;go_wp2_with fail
 with_reducible refine(HR.out _).mono ?_
 rintro e w2 ⟨rfl,F⟩;have r:=aH (N.below F);have yy:=aH (zw.below F);have R:=aH (HO.below F HO.lt);clear F N zw HO c1 zu o0 o1 o2 zb zv;have yj:=R.lt;have o0:w2.cell? (V,0)=a:=R.cell 0;have o1:w2.cell? (V,1)=k:=R.cell 1;have o2:w2.cell? (V,2)=v:=R.cell 2;have ct:=r.c (6+t) (aBk _ _ _ _ _ _ _ ht);have yi:=r.sh.lt;have t4:(t:Int)<4:=I;have k1:IntKind.i64.wrap (1-tgl t)=1-tgl t:=dE I I;go_wp2;refine aA 9 ?_
 iterate 9
  refine aR ?_;constructor
  .intro w9 hw9 hm9;refine aS ?_;obtain⟨hc9,hf9⟩:=hw9.all;refine aW ?_;go_simp
   first
   |exact aE
 refine aZ ?_;rintro w9 hw9 _;refine aQ ?_;refine aS ?_;have o:=aH (r.below hw9.same);have zt:=aH (yy.below hw9.same);have l:=aH (R.below hw9.same R.lt);obtain⟨A,ca,D,cd,hw⟩:=o.wk t ht;have HC:=aH (Bc hw a k v (1-tgl t) false);clear hw;refine aW ?_;go_wp2_with fail
 with_reducible refine HC.out.mono ?_
 rintro e w5 ⟨rfl,zf,C⟩;obtain⟨ze,zd⟩:=o.call ht zf C;have Q:=Lib.hid ze;have zs:=Lib.hid (zt.go (bI.refl _ _) C zd);have i:Hid (aY w5 V 39 #[.int .i64 a,.int .i64 k,.int .i64 v]):=Lib.hid ((C.block V l.lt fun e=>by have e':V=gw t:=e;omega).trans l);have G:=Q.c 10 (xF _ _ _ _ _ _ _);have yx:=Q.f 10;have zr:=Q.sh.lt;have zq:=i.lt;have Y:=Lib.hid (Q.steps);have yw:p≠V:=by have:=za.out;omega
 have L:=Lib.hid (i.far (p:=⟨p,10,none⟩) (Ne.symm yw) (.int .i64 ((st+1:Nat):Int)));have zp:=Lib.hid (zs.go (bI.refl _ _) (bP w5 p 10 (.int .i64 ((st+1:Nat):Int))) (fun b B=>by rw[show b=p from B];unfold PT;rw[Q.tp];omega));rw[show((st+1:Nat):Int)=(st:Int)+1 by omega]at Y L zp;clear zf C ze zd HC o zt l Q zs i;go_wp2_with fail;show Code.wp _ _ _ _ (w5.setCell ⟨p,10,none⟩ (.int .i64 ((st:Int)+1)));generalize w5.setCell ⟨p,10,none⟩ (.int .i64 ((st:Int)+1))=y at*;clear G yx zr zq;have Z:=Y.sh.lt;have X:=L.lt;have zz:=Y.c 11 (Iv _ _ _ _ _ _ _);have G:y.cell? ⟨p,10,none⟩=some (.int .i64 ((st:Int)+1)):=by have:=Y.c 10 (xF _ _ _ _ _ _ _);rw[show((st+1:Nat):Int)=(st:Int)+1 by omega]at this;exact this
 have o0:y.cell? (V,0)=a:=L.cell 0;have o1:y.cell? (V,1)=k:=L.cell 1;have o2:y.cell? (V,2)=v:=L.cell 2;have P:¬iI H p:=fun e=>by have:=Y.tH p e;have:=Y.tp;omega
 have O:¬iI H V:=fun e=>by obtain⟨q,hq,he⟩:=e;have:=(yz.out q hq);omega
 refine bK 14 (iI H) [13] J J ?_
 iterate 12
  refine aR ?_;constructor
  .intro w9 hw9 hm9;refine aS ?_;have zo:=(hw9.cell (p:=⟨p,11,none⟩) Z P).trans zz;have zn:=(hw9.cell (p:=⟨p,10,none⟩) Z P).trans G;have yv:=(hw9.cell (p:=⟨V,0,none⟩) X O).trans o0;have yu:=(hw9.cell (p:=⟨V,1,none⟩) X O).trans o1;have yt:=(hw9.cell (p:=⟨V,2,none⟩) X O).trans o2;refine aW ?_;go_simp
   first
   |exact aE
 refine bC CK (DM 61 [.int .i64 1,.int .i64 (t:Int),.int .i64 a,.int .i64 k,.int .i64 v,.int .i64 0,.int .i64 0,.int .i64 0,.int .i64 ((st:Int)+1)]) ⟨_,0,rfl⟩ ?_ ?_
 .intro w9 hw9 U;refine aS ?_;have zo:=(hw9.cell (p:=⟨p,11,none⟩) Z P).trans zz;have zn:=(hw9.cell (p:=⟨p,10,none⟩) Z P).trans G;have yv:=(hw9.cell (p:=⟨V,0,none⟩) X O).trans o0;have yu:=(hw9.cell (p:=⟨V,1,none⟩) X O).trans o1;have yt:=(hw9.cell (p:=⟨V,2,none⟩) X O).trans o2;refine aW ?_;go_simp;exact⟨⟨⟨_,rfl⟩,⟨_,rfl,aY.new _ _ _⟩⟩,aD.of_same ((Below.refl _ _).alloc (Nat.le_refl _) _)⟩
 refine bD (DN (hist.length+1)) (fun vv w'=>∃A' c',vv=.slice A' (hist.length+1) c'/\cU w' 0 61 9 A' (hist.length+1) c' (hist++[[.int .i64 1,.int .i64 (t:Int),.int .i64 a,.int .i64 k,.int .i64 v,.int .i64 0,.int .i64 0,.int .i64 0,.int .i64 ((st:Int)+1)]])/\∀b,iI A' b->iI H b\/y<=b) ⟨_,none,0,rfl⟩ ?_ ?_
 .rintro _ ⟨g9,rfl⟩;refine⟨aF,fun w9 hw9 U=>?_⟩;refine aS ?_;have S:=U;have T:=U.2;clear U;obtain⟨w0,k0,k1,g',hv,K⟩:=T.1 J;cases hv;have yd:=hw9.size;have zy:=K.below (cA k1 J) K.lt;have yr:=aH (Y.hi.below (cA S.1 J));clear T S K k0 k1;refine aW ?_;refine iM (.tmp 52) (.tmp 60) rfl underlying65 HI HZ HS HY rfl aJ aJ (A:=H) (n:=hist.length) (c:=ch) (rows:=hist) rfl yr (g:=g9) (c':=1) rfl (ys:=[.int .i64 1,.int .i64 (t:Int),.int .i64 a,.int .i64 k,.int .i64 v,.int .i64 0,.int .i64 0,.int .i64 0,.int .i64 ((st:Int)+1)]) rfl ?_ ?_ I (Nat.zero_le _) ?_
  .intro j hj;rw[zy.cell j];simp
  .intro u hu;simp only[List.mem_cons,List.not_mem_nil,or_false]at hu;rcases hu with rfl|rfl|rfl|rfl|rfl|rfl|rfl|rfl|rfl<;>rfl
  intro g' yb w' ho yp yo;refine⟨⟨⟨_,_,rfl⟩,⟨_,_,rfl,ho,fun b B=>?_⟩⟩,yp.mono fun b B=>⟨aJ,B⟩⟩;obtain⟨a,ha,rfl⟩:=B;cases ha;rcases yo with⟨a,ha,e⟩|e
  .exact .inl ⟨a,ha,e⟩
  exact .inr (by show y<=g';omega)
 refine aZ ?_;rintro _ ⟨A9,c9,rfl⟩ _ ⟨g9,rfl⟩ w9 hw9 T;refine aQ ?_;refine aS ?_;obtain⟨w0,k0,k1,A8,c8,yn,z,zc⟩:=T.2.1 rfl;cases yn;have zm:=aH (z.below (cA k1 J));have zl:=aH zc;clear T z k0 k1 zc w0;have yq:=aH (Y.event zm hw9 zl);have zk:=aH ((zp.go (cO y tag 4) hw9 (fun b B=>by unfold PT;rw[Y.tH b B];omega)).go (bI.refl _ _) (bP w9 p 11 (.slice A9 (hist.length+1) c9)) (fun b B=>by rw[show b=p from B];unfold PT;rw[cO y tag 4 p Z,Y.tp];omega));have yh:=(hw9.cell (p:=⟨p,11,none⟩) Z P).trans zz;have yg:=(hw9.frozen (p:=⟨p,11,none⟩) Z P).trans (Y.f 11);have yf:=Nat.lt_of_lt_of_le Z hw9.size;clear hw9 zm zl;refine aW ?_;go_wp2;go_ret;refine⟨rfl,_,zk.t,zk.k,A9,c9,E,ce,?_⟩;have hx:=yq.out;rw[show [.int .i64 1,.int .i64 (t:Int),.int .i64 a,.int .i64 k,.int .i64 v,.int .i64 0,.int .i64 0,.int .i64 0,.int .i64 ((st:Int)+1)]=yE 1 t a k v 0 0 0 ((st+1:Nat):Int) by unfold yE;rw[show((st+1:Nat):Int)=(st:Int)+1 by omega]]at hx;exact hx
end
theorem CI{r:List Value}(h:LR r):∀u∈r,u.oneCell'=true:=by
 obtain⟨Y,X,W,V,U,T,rfl⟩:=h;intro u Z;simp only[List.mem_cons,List.not_mem_nil,or_false]at Z;rcases Z with rfl|rfl|rfl|rfl|rfl|rfl<;>rfl
theorem Fw(X t:Nat)(Z:cQ)(A D:Value)(w:World)(h:aY w X 46 (kE t Z A D)):Calls prog 25 #[(X,0)] w fun e w'=>e=.returned (.tuple #[.agg #[Z.o1,Z.o2],Z.wn])/\Below w w w':=by
 have R:w.cell? (X,46)=Z.o1:=mS h 46 I;have Q:w.cell? (X,47)=Z.o2:=mS h 47 I;have P:w.cell? (X,48)=Z.wn:=mS h 48 I;have V:=h.lt;clear h;have B:=aH (aY.new w 44 (2:Int));have Y:Hid (Below w w (w.alloc (.cells (2:Int) 44))):=aH ((Below.refl _ _).alloc (Nat.le_refl _) _);have O:=(Y.cell (p:=⟨X,46,none⟩) V).trans R;have N:=(Y.cell (p:=⟨X,47,none⟩) V).trans Q;have M:=(Y.cell (p:=⟨X,48,none⟩) V).trans P;have W:=Nat.lt_of_lt_of_le V Y.size;clear R Q P
 go_enter func25,ntmps25
 go_upto_region 1 with(fail)
 show Code.wp _ _ _ _ (w.alloc (.cells (2:Int) 44));generalize C:w.alloc (.cells (2:Int) 44)=l at*;generalize K:w.heap.size=U at*;clear C;have S:¬cI U X:=fun e=>by have y:X=U:=e;omega
 refine bK 9 (cI U) [8] J J ?_
 iterate 8
  refine aR ?_;constructor
  .intro w9 hw9 hm9;refine aS ?_;have x:=(hw9.cell (p:=⟨X,46,none⟩) W S).trans O;have v:=(hw9.cell (p:=⟨X,47,none⟩) W S).trans N;have u:=(hw9.cell (p:=⟨X,48,none⟩) W S).trans M;refine aW ?_;go_simp
   first
   |exact aE
 refine bA undef (fun _ w'=>aY w' U 44 #[Z.o1,Z.o2]) ?_ ?_
 .intro w9 hw9 hm9;refine aS ?_;have L:=aH (B.below (cA hm9.1 J) B.lt);have s:=L.cell 0;have r:=L.cell 1;have n:=L.frozen 0;have m:=L.frozen 1;simp only[List.getElem?_toArray,List.getElem?_cons_zero,List.getElem?_cons_succ]at s r;refine aW ?_;go_simp;exact⟨⟨rfl,(L.set_ 0 Z.o1).set_ 1 Z.o2⟩,((bP _ U 0 _).setCell (p:=⟨U,1,none⟩) (.inl rfl) _).mono fun b F=>by first|exact F|exact⟨aJ,F⟩⟩
 refine aZ ?_;rintro w9 hw9 T;refine aQ ?_;refine aS ?_;obtain⟨q,o,z,E⟩:=T.1 rfl;have H:=aH (E.below (cA z J) E.lt);have G:Hid (Below U w w9):=aH (Y.trans (hw9.below (by rw[<-K];simpa using Y.size) (fun b F e=>by have y:b=U:=e;omega)));clear T E o z q hw9;refine aW ?_;go_wp2;refine bodyPost_ret (bR results25 _ _ U 44 #[Z.o1,Z.o2] _ Z.wn rfl rfl H underlying44 rfl eU) rfl ⟨rfl,by rw[K];exact G⟩
theorem aCG{Z:cQ}{O:Nat}{A:Option Addr}{ca:Nat}{D:Option Addr}{cd:Nat}(h:gJ w tag t Z O A ca D cd)(N:oS Z.deeds):
 Calls prog 75 #[(O,0)] w fun e w'=>∃M c',e=.returned (.slice M Z.deeds.length c')/\cU w' w 159 6 M Z.deeds.length c' Z.deeds/\Below w w w':=by
 have L:w.cell? (O,42)=some (.slice D Z.deeds.length cd):=mS h.blk 42 I;have K:=aH h.deeds.slr;have H:=N.1;have G:Hid (∀r∈Z.deeds,∀u∈r,u.oneCell'=true):=aH (fun r y=>CI (N.2 r y));obtain⟨p,Y,W,V,U⟩:=JV;have F:=aH Y;have E:=aH W;have C:=aH V;have B:=aH U;clear h N Y W V U;generalize o:Z.deeds.length=n at*;have z:∀m:Nat,0+m=m:=fun m=>Nat.zero_add m
 go_enter func75,ntmps75
 go_wp2_with (refine pY (.const (.slice none 0 0)) (.tmp 6) rfl rfl underlying41 F E C B rfl aJ aJ (A:=none) (n:=0) (c:=0) (rows:=[]) rfl (cU.nil _ w _ _) (X:=D) (k:=n) (d:=cd) (xs:=Z.deeds) rfl K G I (Nat.le_refl _) ?_;rintro x c1 v T S R)
 have Q:=aH T;have P:Hid (Below w w v):=aH (S.below (Nat.le_refl _) (fun b _ s=>by obtain⟨a,q,_⟩:=s;cases q));clear T S R;go_wp2;go_ret;refine⟨x,c1,rfl,?_,P.out⟩;have:=Q.out;simpa using this
section
variable{w:World}{tag:Nat->Nat}{m:Nat->Int}{s:cN}{th:Nat->cQ}{tgl:Nat->Int}{st:Nat}{hist dl:List (List Value)}{p gm gs:Nat}{gw:Nat->Nat}{H:Option Addr}{ch:Nat}{E:Option Addr}{ce:Nat}
theorem PS.retag(h:PS w tag m s th tgl st hist dl p gm gs gw H ch E ce)(Z:bI w tag tag'):PS w tag' m s th tgl st hist dl p gm gs gw H ch E ce:=h.kept (S:=bN) (aD.refl _ _) Z (fun _ x=>x.elim)
def LB(w:World)(tag:Nat->Nat)(b:Nat)(ty:TypeId)(cs:Array Value):Prop:=tag b=0/\aY w b ty cs
theorem LB.kept(h:LB w tag b ty cs)(Z:aD S w w')(Y:bI w tag tag')(X:∀b,S b->tag b≠0):LB w' tag' b ty cs:=
 ⟨(Y b h.2.lt).trans h.1,(Z.block b h.2.lt fun e=>X b e h.1).trans h.2⟩
theorem LB.below(h:LB w tag b ty cs)(Z:Below w w w'):LB w' tag b ty cs:=h.kept (S:=bN) (aD.of_same Z) (bI.refl _ _) (fun _ x=>x.elim)
theorem LB.cell(h:LB w tag b ty cs)(i:Nat):w.cell? (b,i)=cs[i]? :=h.2.cell i
theorem JA(Z:t<4)(h:rW tag t b):PT tag b:=by
 unfold rW at h;unfold PT;omega
theorem aBm{V:Nat}(h:PS w tag m s th tgl st hist dl p gm gs gw H ch E ce)(r:t<4)(hi:eX m s th V)(d0:(th t).does≠0)(hV:4*V+4<=1099511627776)(zh:s.fl<=1000000000)(zg:s.fe<=1000000000)(zx:qG (th t))(hg:mR w)(h0:tag 2=0)(zc:st<=100000000)(zb:hist.length<=100000000)(zw:(stp t m s (th t)).fin=false)(za:(th t).does≠11):
 Calls prog 45 #[(p,0),t] w fun e w'=>e=.returned (.tuple #[.agg (2:Int),false,.nilIface])/\∃O,bI w tag O/\aD (PT tag) w w'/\PS w' O (stp t m s (th t)).m (stp t m s (th t)).s (jG th t (stp t m s (th t)).t) tgl (st+1) hist dl p gm gs gw H ch E ce:=by
 have Z:Hid (PS (w.alloc (.cells (2:Int) 44)) (cG w tag 0) m s th tgl st hist dl p gm gs gw H ch E ce):=aH (h.kept (S:=bN) (aD.of_same ((Below.refl _ _).alloc (Nat.le_refl _) _)) (cO _ _ _) (fun _ x=>x.elim));have q:Hid (Kp w tag (w.alloc (.cells (2:Int) 44)) (cG w tag 0)):=aH ((Kp.refl w tag).go (S:=bN) (cO _ _ _) (aD.of_same ((Below.refl _ _).alloc (Nat.le_refl _) _)) (fun _ x=>x.elim));have N:Hid (LB (w.alloc (.cells (2:Int) 44)) (cG w tag 0) w 44 (2:Int)):=aH ⟨dT _ _ _ (Nat.le_refl _),aY.new _ _ _⟩;have zv:=aH hi;have HG:=aH hg;have zu:=aH h0;have zt:=aH zx;have o:=aH d0;clear h hi hg h0 zx d0
 go_enter func45,ntmps45
 go_upto_region 1 with(fail)
 show Code.wp _ _ _ _ (w.alloc (.cells (2:Int) 44));generalize w.alloc (.cells (2:Int) 44)=w1 at*;obtain⟨X,B⟩:=aO w.heap.size;have zs:Hid (w.heap.size<=X):=aH I;rw[<-B]at N;rw[<-B];clear B;generalize cG w tag 0=P at*;have U:=aH (DV Z r);unfold cR at U;go_wp2_with fail
 with_reducible refine U.out.mono ?_
 rintro e zd ⟨rfl,rfl⟩;clear U;obtain⟨A,ca,D,cd,z⟩:=Z.wk t r;have c1:w1.cell? ⟨gw t,1,none⟩=some (.int .i64 ((th t).does:Int)):=mS z.blk 1 I;have n:=z.blk.lt;have q0:¬((th t).does:Int)=0:=by have:=o.out;omega
 have zr:=Z.c 10 (xF _ _ _ _ _ _ _);have zq:=Z.f 10;have l:=Z.sh.lt;have j:p≠gw t:=fun e=>by have h1:=Z.tp;have h2:=z.tg;rw[e]at h1;omega
 have zp:gw t≠p:=fun e=>j e.symm
 have W:=aH (Z.steps);have M:=aH (q.go (bI.refl _ _) (bP w1 p 10 (.int .i64 ((st+1:Nat):Int))) (fun b R=>by rw[show b=p from R];unfold PT;rw[Z.tp];omega));have L:=aH (N.kept (bP w1 p 10 (.int .i64 ((st+1:Nat):Int))) (bI.refl _ _) (fun b R=>by rw[show b=p from R,Z.tp];omega));rw[show((st+1:Nat):Int)=(st:Int)+1 by omega]at W M L;clear z Z q N;have zf:¬((th t).does:Int)=11:=I;go_wp2;show Code.wp _ _ _ _ (w1.setCell ⟨p,10,none⟩ (.int .i64 ((st:Int)+1)));generalize w1.setCell ⟨p,10,none⟩ (.int .i64 ((st:Int)+1))=w2 at*;have c0:w2.cell? (p,0)=(gm,0):=W.c 0 (Oq _ _ _ _ _ _ _);have zo:w2.cell? (p,1)=(gs,0):=W.c 1 (yH _ _ _ _ _ _ _);have i:=W.sh.lt;clear c1 n q0 zr zq l j zp;refine aA 9 ?_
 iterate 9
  refine aR ?_;constructor
  .intro w9 hw9 hm9;refine aS ?_;obtain⟨hc9,hf9⟩:=hw9.all;refine aW ?_;go_simp
   first
   |exact aE
 refine aZ ?_;rintro w9 hw9 _;refine aQ ?_;refine aS ?_;have T:=aH (W.below hw9.same);have K:=aH (M.below hw9.same);have g:=aH (L.below hw9.same);have G:=K.err HG zu;obtain⟨A,ca,D,cd,z⟩:=T.wk t r;have F:=aH (aAH zv r o z T.ram T.sto hV zh zg zt G.1 G.2);clear z hw9 G c0 zo i;rw[zw]at F;refine aW ?_;go_wp2_with fail
 with_reducible refine F.out.mono ?_
 rintro e u ⟨rfl,zz⟩;obtain⟨Q,y,v,zy⟩:=T.step r zz;have C:∀b,rW P t b->PT P b:=fun b R=>JA r R
 have zn:=aH zy;have d:=aH (K.go y v C);have Y:=aH (g.kept v y (fun b R=>by have:=C b R;unfold PT at this;omega));clear zz y v zy C F T K g W M L;have ze:=Y.out.2.lt;have r0:u.cell? (X,0)=(0:Int):=Y.cell 0;have r1:u.cell? (X,1)=(0:Int):=Y.cell 1;have e0:=Y.out.2.frozen 0;have e1:=Y.out.2.frozen 1;have zm:Hid (aD (cI X) u ((u.setCell (X,0) (0:Int)).setCell (X,1) (0:Int))):=aH ((bP u X 0 _).setCell (p:=⟨X,1,none⟩) (.inl rfl) _);have zl:=aH ((Y.out.2.set_ 0 (0:Int)).set_ 1 (0:Int));have zk:∀b,cI X b->Q b=0:=fun b R=>by rw[show b=X from R];exact Y.out.1
 have zj:=aH (zn.kept zm (bI.refl _ _) (fun b R=>.inl (zk b R)));have a:=zs.out;have zi:Hid (aD (PT tag) w ((u.setCell (X,0) (0:Int)).setCell (X,1) (0:Int))):=aH ((d.k.setCell (p:=⟨X,0,none⟩) (.inr a) _).setCell (p:=⟨X,1,none⟩) (.inr a) _);go_wp2;refine bodyPost_ret (kR results45 _ _ X 44 (2:Int) _ false .nilIface rfl rfl rfl zl underlying44 rfl eU) rfl ⟨rfl,Q,d.t,zi.out,zj.out⟩
end
section
variable{w:World}{tag:Nat->Nat}{m:Nat->Int}{s:cN}{th:Nat->cQ}{tgl:Nat->Int}{st:Nat}{hist dl:List (List Value)}{p gm gs:Nat}{gw:Nat->Nat}{H:Option Addr}{ch:Nat}{E:Option Addr}{ce:Nat}
theorem aAx{V:Nat}(h:PS w tag m s th tgl st hist dl p gm gs gw H ch E ce)(d:t<4)(hi:eX m s th V)(d0:(th t).does≠0)(hV:4*V+4<=1099511627776)(wh:s.fl<=1000000000)(wg:s.fe<=1000000000)(xl:qG (th t))(hg:mR w)(h0:tag 2=0)(vn:st<=100000000)(vm:hist.length<=100000000)(zg:(stp t m s (th t)).fin=true)(vl:(th t).does≠11):
 Calls prog 45 #[(p,0),t] w fun e w'=>e=.returned (.tuple #[.agg #[(stp t m s (th t)).t.o1,(stp t m s (th t)).t.o2],true,.nilIface])/\∃zf,bI w tag zf/\aD (PT tag) w w'/\
  ∃H' wf,PS w' zf (stp t m s (th t)).m (stp t m s (th t)).s (jG th t (stp t m s (th t)).t) (fun u=>if u=t then(stp t m s (th t)).t.tg else tgl u) (st+1) (hist++[yE 2 t (stp t m s (th t)).t.a (stp t m s (th t)).t.k (stp t m s (th t)).t.v (stp t m s (th t)).t.o1 (stp t m s (th t)).t.o2 (stp t m s (th t)).t.wn (st+1:Nat)]) dl p gm gs gw H' wf E ce:=by
 obtain⟨L,hL⟩:=aO (stp t m s (th t));rw[<-hL]at zg⊢;have xk:=aH hL;clear hL;obtain⟨Z,hθ⟩:=aO L.t;rw[<-hθ];have xj:=aH hθ;clear hθ;have U:Hid (PS (w.alloc (.cells (2:Int) 44)) (cG w tag 0) m s th tgl st hist dl p gm gs gw H ch E ce):=aH (h.kept (S:=bN) (aD.of_same ((Below.refl _ _).alloc (Nat.le_refl _) _)) (cO _ _ _) (fun _ x=>x.elim));have yp:Hid (Kp w tag (w.alloc (.cells (2:Int) 44)) (cG w tag 0)):=aH ((Kp.refl w tag).go (S:=bN) (cO _ _ _) (aD.of_same ((Below.refl _ _).alloc (Nat.le_refl _) _)) (fun _ x=>x.elim));have ze:Hid (LB (w.alloc (.cells (2:Int) 44)) (cG w tag 0) w 44 (2:Int)):=aH ⟨dT _ _ _ (Nat.le_refl _),aY.new _ _ _⟩;have xi:=aH hi;have HG:=aH hg;have xh:=aH h0;have xg:=aH xl;have yo:=aH d0;obtain⟨i0,xs,xr,xq,xp⟩:=EH;have HI:=aH xs;have HZ:=aH xr;have HS:=aH xq;have HY:=aH xp;clear xs xr xq xp;clear h hi hg h0 xl d0
 go_enter func45,ntmps45
 go_upto_region 1 with(fail)
 show Code.wp _ _ _ _ (w.alloc (.cells (2:Int) 44));generalize w.alloc (.cells (2:Int) 44)=w1 at*;obtain⟨G,yu⟩:=aO w.heap.size;have xf:Hid (w.heap.size<=G):=aH I;rw[<-yu]at ze;rw[<-yu];clear yu;generalize cG w tag 0=zh at*;have zz:=aH (DV U d);unfold cR at zz;go_wp2_with fail
 with_reducible refine zz.out.mono ?_
 rintro e vw ⟨rfl,rfl⟩;clear zz;obtain⟨A,ca,D,cd,hw⟩:=U.wk t d;have c1:w1.cell? ⟨gw t,1,none⟩=some (.int .i64 ((th t).does:Int)):=mS hw.blk 1 I;have yn:=hw.blk.lt;have q0:¬((th t).does:Int)=0:=by have:=yo.out;omega
 have zy:=U.c 10 (xF _ _ _ _ _ _ _);have xe:=U.f 10;have ym:=U.sh.lt;have yl:p≠gw t:=fun e=>by have h1:=U.tp;have h2:=hw.tg;rw[e]at h1;omega
 have xd:gw t≠p:=fun e=>yl e.symm
 have z:=aH (U.steps);have zd:=aH (yp.go (bI.refl _ _) (bP w1 p 10 (.int .i64 ((st+1:Nat):Int))) (fun b Y=>by rw[show b=p from Y];unfold PT;rw[U.tp];omega));have zc:=aH (ze.kept (bP w1 p 10 (.int .i64 ((st+1:Nat):Int))) (bI.refl _ _) (fun b Y=>by rw[show b=p from Y,U.tp];omega));rw[show((st+1:Nat):Int)=(st:Int)+1 by omega]at z zd zc;clear hw U yp ze;have wb:¬((th t).does:Int)=11:=I;go_wp2;show Code.wp _ _ _ _ (w1.setCell ⟨p,10,none⟩ (.int .i64 ((st:Int)+1)));generalize w1.setCell ⟨p,10,none⟩ (.int .i64 ((st:Int)+1))=w2 at*;have c0:w2.cell? (p,0)=(gm,0):=z.c 0 (Oq _ _ _ _ _ _ _);have xc:w2.cell? ⟨p,1,none⟩=some (.pointer (some ⟨gs,0,none⟩)):=z.c 1 (yH _ _ _ _ _ _ _);have yk:=z.sh.lt;clear c1 yn q0 zy xe ym yl xd;refine bK 9 bN [] J J ?_
 iterate 9
  refine aR ?_;constructor
  .intro w9 hw9 hm9;refine aS ?_;obtain⟨hc9,hf9⟩:=hw9.all;refine aW ?_;go_simp
   first
   |exact aE
 refine aZ ?_;rintro w9 hw9 _;refine aQ ?_;refine aS ?_;have zx:=aH (z.below hw9.same);have zb:=aH (zd.below hw9.same);have yj:=aH (zc.below hw9.same);have za:=zb.err HG xh;obtain⟨A,ca,D,cd,hw⟩:=zx.wk t d;have yz:=aH (aAH xi d yo hw zx.ram zx.sto hV wh wg xg za.1 za.2);clear hw hw9 za c0 xc yk;rw[<-xk.out,zg]at yz;refine aW ?_;go_wp2_with fail
 with_reducible refine yz.out.mono ?_
 rintro e w4 ⟨rfl,xo⟩;obtain⟨N,yt,yr,xn⟩:=zx.step d xo;have yy:∀b,rW zh t b->PT zh b:=fun b Y=>JA d Y
 have zt:=aH xn;have yi:=aH (zb.go yt yr yy);have yh:=aH (yj.kept yr yt (fun b Y=>by have:=yy b Y;unfold PT at this;omega));clear xo yt yr xn yy yz zx zb yj z zd zc;rw[<-xj.out]at zt;obtain⟨A4,vu,D4,vt,yq⟩:=zt.wk t d;rw[cD]at yq;have zm:=aH (Fw (gw t) t Z _ _ w4 yq.blk);clear yq;go_wp2_with fail
 with_reducible refine zm.out.mono ?_
 rintro e q ⟨rfl,zo⟩;have yg:=aH (zt.below zo);have yf:=aH (yi.below zo);have yx:=aH (yh.below zo);clear zo zt yi yh zm;have zw:Hid (PS (q.alloc (.cells #[Z.o1,Z.o2] 44)) (cG q N 0) L.m L.s (jG th t Z) tgl (st+1) hist dl p gm gs gw H ch E ce):=aH (yg.kept (S:=bN) (aD.of_same ((Below.refl _ _).alloc (Nat.le_refl _) _)) (cO _ _ _) (fun _ x=>x.elim));have ye:Hid (Kp w tag (q.alloc (.cells #[Z.o1,Z.o2] 44)) (cG q N 0)):=aH (yf.go (S:=bN) (cO _ _ _) (aD.of_same ((Below.refl _ _).alloc (Nat.le_refl _) _)) (fun _ x=>x.elim));have yd:Hid (LB (q.alloc (.cells #[Z.o1,Z.o2] 44)) (cG q N 0) G 44 (2:Int)):=aH (yx.kept (S:=bN) (aD.of_same ((Below.refl _ _).alloc (Nat.le_refl _) _)) (cO _ _ _) (fun _ x=>x.elim));have yc:Hid (LB (q.alloc (.cells #[Z.o1,Z.o2] 44)) (cG q N 0) q 44 #[Z.o1,Z.o2]):=aH ⟨dT _ _ _ (Nat.le_refl _),aY.new _ _ _⟩;have wa:=aH yx.out.2.lt;clear yg yf yx
 go_upto_region 19 with(fail)
 show Code.wp _ _ _ _ (q.alloc (.cells #[Z.o1,Z.o2] 44));generalize q.alloc (.cells #[Z.o1,Z.o2] 44)=w6 at*;generalize q.heap.size=b5 at*;generalize cG q N 0=K at*;obtain⟨A6,vs,D6,vr,zn⟩:=zw.wk t d;rw[cD]at zn;have a5:w6.cell? (gw t,5)=Z.tg:=mS zn.blk 5 I;have yb:=zn.blk.lt;have ct:=zw.c (6+t) (aBk _ _ _ _ _ _ _ d);have ya:=zw.sh.lt;have t4:(t:Int)<4:=I;clear zn;refine aA 9 ?_
 iterate 9
  refine aR ?_;constructor
  .intro w9 hw9 hm9;refine aS ?_;obtain⟨hc9,hf9⟩:=hw9.all;refine aW ?_;go_simp
   first
   |exact aE
 refine aZ ?_;rintro w9 hw9 _;refine aQ ?_;refine aS ?_;have T:=aH (zw.below hw9.same);have zl:=aH (ye.below hw9.same);have zk:=aH (yd.below hw9.same);have zj:=aH (yc.below hw9.same);have xb:=T.c (6+t) (aBk _ _ _ _ _ _ _ d);have xa:=T.f (6+t);have xB:=T.sh.lt;have Q:∀b,cI p b->K b=3:=fun b Y=>by rw[show b=p from Y];exact T.tp
 have X:=aH (T.own (6+t) Z.tg (aBM _ _ _ _ _ _ _ d Z.tg));have wU:=aH (zl.go (bI.refl _ _) (bP w9 p (6+t) Z.tg) (fun b Y=>by unfold PT;rw[Q b Y];omega));have wI:=aH (zk.kept (bP w9 p (6+t) Z.tg) (bI.refl _ _) (fun b Y=>by rw[Q b Y];omega));have zv:=aH (zj.kept (bP w9 p (6+t) Z.tg) (bI.refl _ _) (fun b Y=>by rw[Q b Y];omega));clear zw ye yd yc T zl zk zj hw9 a5 yb ct ya Q;refine aW ?_;go_wp2_with fail;show Code.wp _ _ _ _ (w9.setCell (p,6+t) Z.tg);generalize w9.setCell ⟨p,6+t,none⟩ (.int .i64 Z.tg)=i at*;clear xb xa xB;obtain⟨A7,vq,D7,vp,M⟩:=X.wk t d;rw[cD]at M;have zs:=X.c 11 (Iv _ _ _ _ _ _ _);have zy:i.cell? ⟨p,10,none⟩=some (.int .i64 ((st:Int)+1)):=by have:=X.c 10 (xF _ _ _ _ _ _ _);rw[show((st+1:Nat):Int)=(st:Int)+1 by omega]at this;exact this
 have a2:i.cell? (gw t,2)=Z.a:=mS M.blk 2 I;have a3:i.cell? (gw t,3)=Z.k:=mS M.blk 3 I;have a4:i.cell? (gw t,4)=Z.v:=mS M.blk 4 I;have o0:i.cell? (b5,0)=Z.o1:=zv.cell 0;have o1:i.cell? (b5,1)=Z.o2:=zv.cell 1;have W:=X.sh.lt;have R:=M.blk.lt;have C:=zv.out.2.lt;have y:¬iI H p:=fun e=>by have:=X.tH p e;have:=X.tp;omega
 have r:¬iI H (gw t):=fun e=>by have:=X.tH _ e;have:=M.tg;omega
 have zr:¬iI H b5:=fun e=>by have:=X.tH _ e;have:=zv.out.1;omega
 have vQ:=aH M.tg;clear M;refine bK 19 (iI H) [18] J J ?_
 iterate 17
  refine aR ?_;constructor
  .intro w9 hw9 hm9;refine aS ?_;have xz:=(hw9.cell (p:=⟨p,11,none⟩) W y).trans zs;have xy:=(hw9.cell (p:=⟨p,10,none⟩) W y).trans zy;have wz:=(hw9.cell (p:=⟨gw t,2,none⟩) R r).trans a2;have wy:=(hw9.cell (p:=⟨gw t,3,none⟩) R r).trans a3;have wx:=(hw9.cell (p:=⟨gw t,4,none⟩) R r).trans a4;have ww:=(hw9.cell (p:=⟨b5,0,none⟩) C zr).trans o0;have wv:=(hw9.cell (p:=⟨b5,1,none⟩) C zr).trans o1;refine aW ?_;go_simp
   first
   |exact aE
 refine bC CK (DM 61 [.int .i64 2,.int .i64 (t:Int),.int .i64 Z.a,.int .i64 Z.k,.int .i64 Z.v,.int .i64 Z.o1,.int .i64 Z.o2,.int .i64 Z.wn,.int .i64 ((st:Int)+1)]) ⟨_,0,rfl⟩ ?_ ?_
 .intro w9 hw9 P;refine aS ?_;have xz:=(hw9.cell (p:=⟨p,11,none⟩) W y).trans zs;have xy:=(hw9.cell (p:=⟨p,10,none⟩) W y).trans zy;have wz:=(hw9.cell (p:=⟨gw t,2,none⟩) R r).trans a2;have wy:=(hw9.cell (p:=⟨gw t,3,none⟩) R r).trans a3;have wx:=(hw9.cell (p:=⟨gw t,4,none⟩) R r).trans a4;have ww:=(hw9.cell (p:=⟨b5,0,none⟩) C zr).trans o0;have wv:=(hw9.cell (p:=⟨b5,1,none⟩) C zr).trans o1;refine aW ?_;go_simp;exact⟨⟨⟨_,rfl⟩,⟨_,rfl,aY.new _ _ _⟩⟩,aD.of_same ((Below.refl _ _).alloc (Nat.le_refl _) _)⟩
 refine bD (DN (hist.length+1)) (fun vv w'=>∃A' c',vv=.slice A' (hist.length+1) c'/\cU w' 0 61 9 A' (hist.length+1) c' (hist++[[.int .i64 2,.int .i64 (t:Int),.int .i64 Z.a,.int .i64 Z.k,.int .i64 Z.v,.int .i64 Z.o1,.int .i64 Z.o2,.int .i64 Z.wn,.int .i64 ((st:Int)+1)]])/\∀b,iI A' b->iI H b\/i<=b) ⟨_,none,0,rfl⟩ ?_ ?_
 .rintro _ ⟨g9,rfl⟩;refine⟨aF,fun w9 hw9 P=>?_⟩;refine aS ?_;have B:=P;have O:=P.2;clear P;obtain⟨w0,k0,k1,g',hv,zu⟩:=O.1 J;cases hv;have vz:=hw9.size;have yw:=zu.below (cA k1 J) zu.lt;have wu:=aH (X.hi.below (cA B.1 J));clear O B zu k0 k1;refine aW ?_;refine iM (.tmp 106) (.tmp 119) rfl underlying65 HI HZ HS HY rfl aJ aJ (A:=H) (n:=hist.length) (c:=ch) (rows:=hist) rfl wu (g:=g9) (c':=1) rfl (ys:=[.int .i64 2,.int .i64 (t:Int),.int .i64 Z.a,.int .i64 Z.k,.int .i64 Z.v,.int .i64 Z.o1,.int .i64 Z.o2,.int .i64 Z.wn,.int .i64 ((st:Int)+1)]) rfl ?_ ?_ I (Nat.zero_le _) ?_
  .intro j hj;rw[yw.cell j];simp
  .intro u hu;simp only[List.mem_cons,List.not_mem_nil,or_false]at hu;rcases hu with rfl|rfl|rfl|rfl|rfl|rfl|rfl|rfl|rfl<;>rfl
  intro g' vo w' ho wl wj;refine⟨⟨⟨_,_,rfl⟩,⟨_,_,rfl,ho,fun b Y=>?_⟩⟩,wl.mono fun b Y=>⟨aJ,Y⟩⟩;obtain⟨a,ha,rfl⟩:=Y;cases ha;rcases wj with⟨a,ha,e⟩|e
  .exact .inl ⟨a,ha,e⟩
  exact .inr (by show i<=g';omega)
 refine aZ ?_;rintro _ ⟨o,l,rfl⟩ _ ⟨g9,rfl⟩ w9 hw9 O;refine aQ ?_;refine aS ?_;obtain⟨w0,k0,k1,A8,c8,wi,zi,xm⟩:=O.2.1 rfl;cases wi;have xx:=aH (zi.below (cA k1 J));have xw:=aH xm;clear O zi k0 k1 xm w0;have wt:=aH (X.event xx hw9 xw);have zq:=X.tH;have zp:=cO i K 4;have xv:=(zp p W).trans X.tp;have Q:∀b,cI p b->cG i K 4 b=3:=fun b Y=>by rw[show b=p from Y];exact xv
 have xu:=aH ((wU.go zp hw9 (fun b Y=>by unfold PT;rw[zq b Y];omega)).go (bI.refl _ _) (bP w9 p 11 (.slice o (hist.length+1) l)) (fun b Y=>by unfold PT;rw[Q b Y];omega));have F:=aH ((wI.kept hw9 zp (fun b Y=>by rw[zq b Y];omega)).kept (bP w9 p 11 (.slice o (hist.length+1) l)) (bI.refl _ _) (fun b Y=>by rw[Q b Y];omega));have yv:=aH ((zv.kept hw9 zp (fun b Y=>by rw[zq b Y];omega)).kept (bP w9 p 11 (.slice o (hist.length+1) l)) (bI.refl _ _) (fun b Y=>by rw[Q b Y];omega));have we:=(hw9.cell (p:=⟨p,11,none⟩) W y).trans zs;have wd:=(hw9.frozen (p:=⟨p,11,none⟩) W y).trans (X.f 11);have wc:=Nat.lt_of_lt_of_le W hw9.size;clear hw9 xx xw zq xv Q zs zy a2 a3 a4 o0 o1;have r0:(w9.setCell (p,11) (.slice o (hist.length+1) l)).cell? (G,0)=(0:Int):=F.cell 0;have r1:(w9.setCell (p,11) (.slice o (hist.length+1) l)).cell? (G,1)=(0:Int):=F.cell 1;have e0:=F.out.2.frozen 0;have e1:=F.out.2.frozen 1;have o0:(w9.setCell (p,11) (.slice o (hist.length+1) l)).cell? (b5,0)=Z.o1:=yv.cell 0;have o1:(w9.setCell (p,11) (.slice o (hist.length+1) l)).cell? (b5,1)=Z.o2:=yv.cell 1;have vy:=F.out.2.lt;have vx:=yv.out.2.lt;have ws:=aH ((F.out.2.set_ 0 Z.o1).set_ 1 Z.o2);have wr:∀b,cI G b->cG i K 4 b=0:=fun b Y=>by rw[show b=G from Y];exact F.out.1
 have wq:Hid (aD (cI G) (w9.setCell (p,11) (.slice o (hist.length+1) l)) (((w9.setCell (p,11) (.slice o (hist.length+1) l)).setCell (G,0) Z.o1).setCell (G,1) Z.o2)):=aH ((bP (w9.setCell (p,11) (.slice o (hist.length+1) l)) G 0 _).setCell (p:=⟨G,1,none⟩) (.inl rfl) _);have wo:=aH (wt.kept wq (bI.refl _ _) (fun b Y=>.inl (wr b Y)));have xt:=xf.out;have wm:Hid (aD (PT tag) w (((w9.setCell (p,11) (.slice o (hist.length+1) l)).setCell (G,0) Z.o1).setCell (G,1) Z.o2)):=aH ((xu.k.setCell (p:=⟨G,0,none⟩) (.inr xt) _).setCell (p:=⟨G,1,none⟩) (.inr xt) _);refine aW ?_;go_wp2;refine bodyPost_ret (kR results45 _ _ G 44 #[Z.o1,Z.o2] _ true .nilIface rfl rfl rfl ws underlying44 rfl eU) rfl ⟨rfl,cG i K 4,xu.t,wm.out,o,l,?_⟩;have hx:=wo.out;rw[show [.int .i64 2,.int .i64 (t:Int),.int .i64 Z.a,.int .i64 Z.k,.int .i64 Z.v,.int .i64 Z.o1,.int .i64 Z.o2,.int .i64 Z.wn,.int .i64 ((st:Int)+1)]=yE 2 t Z.a Z.k Z.v Z.o1 Z.o2 Z.wn ((st+1:Nat):Int) by unfold yE;rw[show((st+1:Nat):Int)=(st:Int)+1 by omega]]at hx;exact hx
