/-
  Part of a proof: TabD MObjR OpW Get Told Of RecP. For all values.
-/
import Derived.Test.YtplpimkgihnmhaaGreatDoorA04
set_option maxRecDepth 100000
set_option maxHeartbeats 16000000
set_option linter.all false
namespace Go.Proofs.YtplpimkgihnmhaaGreatDoor
open Go.Proofs.Tryz Go.RowKit
variable{w:World}{C:Array Value}{k v a:Int}{ts:TypeId}{z:Nat->Int}{xs:List Int}{P:Program}
section
attribute [local go_sem↓] Go.wp_at_zero Go.wp_at_succ
def oL(z:Nat->Int)(code val:Int)(w:World)(e:Ending)(w':World):Prop:=
 ∃D,eB D 16 z/\e=.returned (.tuple #[.agg D,.agg #[.int .i64 code,.int .i64 val]])/\Below w.heap.size w w'
theorem oL.det{Z val:Int}{w':World}{e:Ending}{D:Array Value}(h:oL z Z val w e w')(V:eB D 16 z):e=.returned (.tuple #[.agg D,.agg #[.int .i64 Z,.int .i64 val]])/\Below w.heap.size w w':=by
 obtain⟨E,X,Y,W⟩:=h;rw[X.ext V]at Y;exact⟨Y,W⟩
theorem bY{fn:Func}{p q:Tmp}{ty tz:TypeId}(h:fn.results= #[.cell p ty,.cell q tz])(Z:Array Value)(w:World)(g X:Nat)(t O:TypeId)(cs Y:Array Value)(d U:TypeDesc)
 (N:Z.getD p undef=.pointer (some ⟨g,0,none⟩)) (M:Z.getD q undef=.pointer (some ⟨X,0,none⟩)) (L:aY w g t cs) (T:aY w X O Y)
 (K:P.underlying ty=some d) (H:(match d with|.struct _|.array _ _=>true|_=>false)=true) (G:(P.info? ty).map (·.size)=some cs.size)
 (S:P.underlying tz=some U) (R:(match U with|.struct _|.array _ _=>true|_=>false)=true) (Q:(P.info? tz).map (·.size)=some Y.size):
 (results fn Z).run P w=.ok (.tuple #[.agg cs,.agg Y]) w:=by
 have W:Z[p]?.getD undef=.pointer (some ⟨g,0,none⟩):=by simpa using N
 have V:Z[q]?.getD undef=.pointer (some ⟨X,0,none⟩):=by simpa using M
 simp [results,h,W,V,asAddr,run_loadVar_row w g t ty cs (0,0) d L K H G,run_loadVar_row w X O tz Y (0,0) U T S R Q]
theorem dN{c:Bool}{p:Prop}(h:c=false/\p)(Z:c=true):False:=by rw[Z]at h;cases h.1
theorem fD{S:Nat->Prop}{g:Nat}(h:S g\/w.heap.size<=g)(cs:Array Value):aD S w (w.setRow g cs):=
 ⟨rfl,rfl,rfl,by simp [World.setRow],fun k Y Z=>setRow_other w g k cs (by
  rintro rfl;rcases h with h|h
  .exact Z h
  .omega)⟩
theorem dS{o:Oper}{a:Act}{T:Value->World->Prop}(ty:TypeId)(x y:Operand)(X:o.op=.store ty x y)(g:Nat)(cells:Array Value)(W:a.eval x=.pointer (some ⟨g,0,none⟩))(V:a.eval y=.agg cells)
 (t:TypeId) (Z:Array Value) (U:aY w g t Z) (S:(P.info? ty).map (·.size)=some cells.size) (Y:Z.size=cells.size) (R:cells.all (·.oneCell')=true)
 (Q:T undef (w.setRow g cells)):eQ P o a w T:=by
 unfold eQ execOp;simp only[X,W,V,Instr.storeAt,Instr.sureAddr,Sem.run_bind,Sem.run_pure,Result.andThen_ok,run_storeVar_row w g t ty Z cells U S Y R];exact Q
theorem eM{ops:Array Oper}{Z:List Oper}{o:Oper}{a:Act}{Q:Exit->Act->World->Prop}(X:Region.wanted o (yielded ops a.tmps)=true)(ty:TypeId)(x:Operand)(W:o.op=.load ty x)
 (g:Nat) (V:a.eval x=.pointer (some ⟨g,0,none⟩)) (t:TypeId) (cs:Array Value) (fr:Nat×Nat) (d:TypeDesc) (U:w.heap[g]? =some (.cells cs t fr))
 (T:P.underlying ty=some d) (S:(match d with|.struct _|.array _ _=>true|_=>false)=true) (R:(P.info? ty).map (·.size)=some cs.size)
 (h:wpList P ops Q Z (a.put o.dst (.agg cs)) w):wpList P ops Q (o::Z) a w:=
 wpList_step fun K Y=>by rw[if_pos X];exact wp_load_row ty x W g V t cs fr d U T S R (Y _ _ h)
theorem lK:(prog.info? 44).map (·.size)=some 2:=by kernel_rfl
structure oD (w W:World) (ts:TypeId) (C:Array Value) (a k v:Int):Prop where
 tab:aY W w.heap.size ts C
 op:aY W (w.heap.size+1) 39 #[.int .i64 a,.int .i64 k,.int .i64 v]
 res:aY W (w.heap.size+2) ts #[.int .i64 0,.int .i64 0,.int .i64 0,.int .i64 0,.int .i64 0,.int .i64 0,.int .i64 0,.int .i64 0,.int .i64 0,.int .i64 0,.int .i64 0,.int .i64 0,.int .i64 0,.int .i64 0,.int .i64 0,.int .i64 0]
 ans:aY W (w.heap.size+3) 44 #[.int .i64 0,.int .i64 0]
 below:Below w.heap.size w W
theorem qP(w:World)(Z:TypeId)(C:Array Value)(a k v:Int):
 oD w ((((w.alloc (.cells C Z)).alloc (.cells #[.int .i64 a,.int .i64 k,.int .i64 v] 39)).alloc (.cells #[.int .i64 0,.int .i64 0,.int .i64 0,.int .i64 0,.int .i64 0,.int .i64 0,.int .i64 0,.int .i64 0,.int .i64 0,.int .i64 0,.int .i64 0,.int .i64 0,.int .i64 0,.int .i64 0,.int .i64 0,.int .i64 0] Z)).alloc (.cells #[.int .i64 0,.int .i64 0] 44)) Z C a k v:=
 ⟨(((aY.new _ _ _).alloc _).alloc _).alloc _,((aY.newAt _ _ _ (by simp)).alloc _).alloc _,(aY.newAt _ _ _ (by simp)).alloc _,aY.newAt _ _ _ (by simp),by go_grown⟩
theorem oD.on{W Y:World}(h:oD w W ts C a k v)(Z:Below W.heap.size W Y):oD w Y ts C a k v:=
 ⟨h.tab.below Z h.tab.lt,h.op.below Z h.op.lt,h.res.below Z h.res.lt,h.ans.below Z h.ans.lt,h.below.trans (Z.mono h.below.size)⟩
theorem oD.ops{W:World}(h:oD w W ts C a k v):
 (W.cell? ⟨w.heap.size+1,0,none⟩=some (.int .i64 a)/\W.cell? ⟨w.heap.size+1,1,none⟩=some (.int .i64 k)/\W.cell? ⟨w.heap.size+1,2,none⟩=some (.int .i64 v))/\
 (W.cell? ⟨w.heap.size+3,0,none⟩=some (.int .i64 0)/\W.cell? ⟨w.heap.size+3,1,none⟩=some (.int .i64 0)/\W.frozen? ⟨w.heap.size+3,0,none⟩=false/\W.frozen? ⟨w.heap.size+3,1,none⟩=false)/\w.heap.size+3<W.heap.size:=
 ⟨⟨h.op.cell 0,h.op.cell 1,h.op.cell 2⟩,⟨h.ans.cell 0,h.ans.cell 1,h.ans.frozen 0,h.ans.frozen 1⟩,h.ans.lt⟩
theorem oD.row{W:World}(h:oD w W ts C a k v)(D:Array Value):
 (((W.setRow (w.heap.size+2) D).cell? ⟨w.heap.size+3,0,none⟩=some (.int .i64 0)/\(W.setRow (w.heap.size+2) D).cell? ⟨w.heap.size+3,1,none⟩=some (.int .i64 0))/\
 ((W.setRow (w.heap.size+2) D).frozen? ⟨w.heap.size+3,0,none⟩=false/\(W.setRow (w.heap.size+2) D).frozen? ⟨w.heap.size+3,1,none⟩=false)):=by
 have Z:aY (W.setRow (w.heap.size+2) D) (w.heap.size+3) 44 #[.int .i64 0,.int .i64 0]:=(setRow_other W _ _ D (by omega)).trans h.ans;exact⟨⟨Z.cell 0,Z.cell 1⟩,⟨Z.frozen 0,Z.frozen 1⟩⟩
theorem oD.fin{W:World}(h:oD w W ts C a k v)(D:Array Value)(c l:Int):
 aY (((W.setRow (w.heap.size+2) D).setCell ⟨w.heap.size+3,0,none⟩ (.int .i64 c)).setCell ⟨w.heap.size+3,1,none⟩ (.int .i64 l)) (w.heap.size+2) ts D/\
 aY (((W.setRow (w.heap.size+2) D).setCell ⟨w.heap.size+3,0,none⟩ (.int .i64 c)).setCell ⟨w.heap.size+3,1,none⟩ (.int .i64 l)) (w.heap.size+3) 44 #[.int .i64 c,.int .i64 l]/\
 Below w.heap.size w (((W.setRow (w.heap.size+2) D).setCell ⟨w.heap.size+3,0,none⟩ (.int .i64 c)).setCell ⟨w.heap.size+3,1,none⟩ (.int .i64 l)):=by
 have Z:aY (W.setRow (w.heap.size+2) D) (w.heap.size+3) 44 #[.int .i64 0,.int .i64 0]:=(setRow_other W _ _ D (by omega)).trans h.ans;exact⟨((h.res.setRow D).far (by simp) _).far (by simp) _,(Z.set_ _ _).set_ _ _,((aL h.below (by omega) D).setCell (by show w.heap.size<=w.heap.size+3;omega) _).setCell (by show w.heap.size<=w.heap.size+3;omega) _⟩
theorem OT(C:Array Value)(z:Nat->Int)(k v:Int)(w:World)(h:eB C 16 z):
 Calls prog 159 #[.agg C,.agg #[.int .i64 6,.int .i64 k,.int .i64 v]] w (oL z 1 (eV z 8) w):=by
 have H:=Lib.hid h;have T:=h.size;have S:Hid ((prog.info? 284).map (·.size)=some C.size):=by show _=_;rw[T,tL]
 have F:Hid (C.size=16):=T;have E:=h.one;clear h T
 go_enter func159,ntmps159
 go_upto_region 1 with(fail)
 have R:=qP w 284 C 6 k v;generalize(((w.alloc (.cells C 284)).alloc (.cells #[.int .i64 6,.int .i64 k,.int .i64 v] 39)).alloc (.cells #[.int .i64 0,.int .i64 0,.int .i64 0,.int .i64 0,.int .i64 0,.int .i64 0,.int .i64 0,.int .i64 0,.int .i64 0,.int .i64 0,.int .i64 0,.int .i64 0,.int .i64 0,.int .i64 0,.int .i64 0,.int .i64 0] 284)).alloc (.cells #[.int .i64 0,.int .i64 0] 44)=W at*;have X:=Lib.hid R;obtain⟨⟨B,A,y⟩,⟨x,u,t,s⟩,r⟩:=R.ops;clear R;go_wp2;refine bK 5 (fun b=>b=w.heap.size+2) [4] (by kernel_rfl) (by kernel_rfl) ?_
 iterate 4
  refine aC (fun K U=>?_);refine .inl ?_;apply Exists.intro;refine⟨cX,?_,U _ _ _ _ ?_⟩
  .simp only[bJ,bM];refine⟨?_,fun w9 hw9 _=>?_⟩
   .first|rfl|(go_simp;done)
   first
   |exact bT 284 _ rfl w.heap.size rfl 284 C _ ((hw9.block w.heap.size X.out.tab.lt (by omega)).trans X.out.tab) underlying284 rfl S.out ⟨⟨rfl,trivial⟩,aD.refl _ _⟩
   |(go_simp
     first
     |exact⟨⟨rfl,trivial⟩,aD.refl _ _⟩
     |(go_at_call 183;exact bS (vP C z _ H.out)))
  clear U K
  try simp only[Act.put,List.setIfInBounds_toArray,List.set_cons_zero,List.set_cons_succ]
 refine aC (fun K U=>?_);refine .inl ⟨undef,fun _ q=>aY q (w.heap.size+2) 284 C,?_,U _ _ _ _ ?_⟩
 .simp only[bJ,bM];refine⟨?_,fun w9 hw9 N=>?_⟩
  .first|rfl|(go_simp;done)
  have Y:aY w9 (w.heap.size+2) 284 #[.int .i64 0,.int .i64 0,.int .i64 0,.int .i64 0,.int .i64 0,.int .i64 0,.int .i64 0,.int .i64 0,.int .i64 0,.int .i64 0,.int .i64 0,.int .i64 0,.int .i64 0,.int .i64 0,.int .i64 0,.int .i64 0]:=(N.1.block _ X.out.res.lt (fun h=>dN h (by kernel_rfl))).trans X.out.res;exact dS 284 _ _ rfl (w.heap.size+2) C rfl rfl 284 #[.int .i64 0,.int .i64 0,.int .i64 0,.int .i64 0,.int .i64 0,.int .i64 0,.int .i64 0,.int .i64 0,.int .i64 0,.int .i64 0,.int .i64 0,.int .i64 0,.int .i64 0,.int .i64 0,.int .i64 0,.int .i64 0] Y S.out (by rw[F.out];rfl) E ⟨⟨rfl,Y.setRow C⟩,fD (.inl ⟨by decide,rfl⟩) _⟩
 clear U K;refine cP ?_;simp only[bM];intro w9 hw9 V;obtain⟨m,p,G,M⟩:=V.1 rfl;have Y:aY w9 (w.heap.size+2) 284 C:=(G.block _ M.lt (fun h=>dN h (by kernel_rfl))).trans M;have Z:aY w9 (w.heap.size+3) 44 #[.int .i64 0,.int .i64 0]:=(hw9.block _ X.out.ans.lt (by omega)).trans X.out.ans;have Q:=X.out.below.trans (hw9.below X.out.below.size (fun b l e=>by omega));have L:=Z.lt;have D:=Z.cell 0;have c1:=Z.cell 1;simp only[List.getElem?_toArray,List.getElem?_cons_zero,List.getElem?_cons_succ]at D c1;have o:=Z.frozen 0;have n:=Z.frozen 1;have P:=Lib.hid Y;have O:=Lib.hid Z;clear V M Y Z p G x u t s B A y;go_wp2;refine bodyPost_ret (bY results159 _ _ (w.heap.size+2) (w.heap.size+3) 284 44 C #[.int .i64 1,.int .i64 (eV z 8)] _ _ rfl rfl ((P.out.far (by simp) _).far (by simp) _) ((O.out.set_ 0 _).set_ 1 _) underlying284 rfl S.out underlying44 rfl lK) rfl ⟨C,H.out,rfl,(Q.setCell (by simp;omega) _).setCell (by simp;omega) _⟩
theorem oD.set_{W:World}(h:oD w W ts C a k v)(i:Nat)(x y:Int):
 oD w ((W.setCell ⟨w.heap.size,i*2,none⟩ (.int .i64 x)).setCell ⟨w.heap.size,i*2+1,none⟩ (.int .i64 y)) ts ((C.setIfInBounds (i*2) (.int .i64 x)).setIfInBounds (i*2+1) (.int .i64 y)) a k v:=
 ⟨(h.tab.set_ _ _).set_ _ _,(h.op.far (by simp) _).far (by simp) _,(h.res.far (by simp) _).far (by simp) _,(h.ans.far (by simp) _).far (by simp) _,(h.below.setCell (by simp) _).setCell (by simp) _⟩
theorem oD.setTab{W:World}(h:oD w W ts C a k v)(D:Array Value):oD w (W.setRow w.heap.size D) ts D a k v:=
 ⟨h.tab.setRow D,(setRow_other W _ _ D (by omega)).trans h.op,(setRow_other W _ _ D (by omega)).trans h.res,(setRow_other W _ _ D (by omega)).trans h.ans,aL h.below (Nat.le_refl _) D⟩
theorem oD.drewN{W:World}(h:oD w W ts C a k v)(n:Nat):oD w (W.drewN n) ts C a k v:=⟨h.tab.drewN n,h.op.drewN n,h.res.drewN n,h.ans.drewN n,cZ h.below n⟩
theorem vW(h:eB C 16 z)(i:Nat)(Y: -9223372036854775808<=k/\k<=9223372036854775807)(X: -9223372036854775808<=v/\v<=9223372036854775807):
 eB ((C.setIfInBounds (i*2) (.int .i64 k)).setIfInBounds (i*2+1) (.int .i64 v)) 16 (setS z i k v):=((h.set_ Y).set_ X).congr (fun j _=>by
 unfold setS;by_cases Z:j=i*2+1
 .subst Z;rw[if_neg (by omega),if_pos (by omega),if_pos rfl]
 .by_cases e2:j=i*2
  .subst e2;rw[if_pos (by omega),if_neg Z,if_pos rfl]
  .rw[if_neg (by omega),if_neg (by omega),if_neg Z,if_neg e2])
theorem nX(h:cS z=true)(key:Nat):∃i:Nat,i<8/\kF z key=(i:Int)/\(z (2*i)=key\/z (2*i)=0):=by
 have U:∃x,x<8/\z (2*x)=0:=by
  by_cases Z:∀x,x<8->z (2*x)≠0
  .have:=oO h;rw[AG Z]at this;omega
  .simp only[Classical.not_forall,ne_eq,Classical.not_not]at Z;obtain⟨x,T,S⟩:=Z;exact⟨x,T,S⟩
 obtain⟨x,Y,X⟩:=U;obtain⟨d,R,Q⟩:=yQ key x Y;obtain⟨a,_,W,V⟩:=EP (z:=z) (key:=key) R (by rw[Q];exact X);refine⟨dR key a,mY _ _,W,?_⟩;unfold gL at V;simpa using V
theorem OP(C:Array Value)(z:Nat->Int)(a k v:Int)(w:World)(h:eB C 16 z)(Q:a≠6)(P:¬(a=1\/a=2\/a=5)\/k<1\/1000<k):
 Calls prog 159 #[.agg C,.agg #[.int .i64 a,.int .i64 k,.int .i64 v]] w (oL z 5 0 w):=by
 have H:=Lib.hid h;have X:=h.size;have Y:Hid ((prog.info? 284).map (·.size)=some C.size):=by show _=_;rw[X,tL]
 have V:Hid (C.size=16):=X;have O:=h.one;clear h X;have F:(a==6)=false:=by simpa using Q
 have N:=Lib.hid P;clear P Q
 go_enter func159,ntmps159
 go_upto_region 1 with(fail)
 have U:=qP w 284 C a k v;generalize(((w.alloc (.cells C 284)).alloc (.cells #[.int .i64 a,.int .i64 k,.int .i64 v] 39)).alloc (.cells #[.int .i64 0,.int .i64 0,.int .i64 0,.int .i64 0,.int .i64 0,.int .i64 0,.int .i64 0,.int .i64 0,.int .i64 0,.int .i64 0,.int .i64 0,.int .i64 0,.int .i64 0,.int .i64 0,.int .i64 0,.int .i64 0] 284)).alloc (.cells #[.int .i64 0,.int .i64 0] 44)=W at*;have Z:=Lib.hid U;obtain⟨⟨D,B,A⟩,⟨y,x,u,t⟩,G⟩:=U.ops;clear U
 go_wp2_with (first
  |(refine wpList_load_row rfl 284 _ rfl w.heap.size rfl 284 C (0,0) _ ?_ underlying284 rfl ?_ ?_;(exact Z.out.tab);(exact Y.out))
  |(refine wpList_store_row rfl 284 _ _ rfl (w.heap.size+2) C rfl rfl 284 #[.int .i64 0,.int .i64 0,.int .i64 0,.int .i64 0,.int .i64 0,.int .i64 0,.int .i64 0,.int .i64 0,.int .i64 0,.int .i64 0,.int .i64 0,.int .i64 0,.int .i64 0,.int .i64 0,.int .i64 0,.int .i64 0] ?_ ?_ ?_ O ?_;(exact Z.out.res);(exact Y.out);(rw[V.out];rfl);obtain⟨⟨s,c1⟩,r,q⟩:=Z.out.row C;obtain⟨T,S,R⟩:=Z.out.fin C 5 0;have M:=Lib.hid T;have L:=Lib.hid S;have K:=Lib.hid R;clear T S R)
  |(go_at_call 184;exfalso;have E:=N.out;simp only[bne_iff_ne,bne_eq_false_iff_eq,beq_iff_eq,beq_eq_false_iff_ne,ne_eq]at*;omega))
 all_goals exact bodyPost_ret (bY results159 _ _ (w.heap.size+2) (w.heap.size+3) 284 44 C #[.int .i64 5,.int .i64 0] _ _ rfl rfl M.out L.out underlying284 rfl Y.out underlying44 rfl lK) rfl ⟨C,H.out,rfl,K.out⟩
theorem oN{j:Int}{b:Bool}{R:Ending->World->Prop}(C:Array Value)(z:Nat->Int)(key i:Nat)(v y:Int)(w:World)(h:eB C 16 z)(zl:1<=key)(zr:key<=1000)(zk:i<8)(zx:kF z key=(i:Int))(hy:z (2*i)=y)(zj:(y==(key:Int))=b)
 (hc:(b=false/\(j=2\/j=5)/\R=oL z 4 0 w)\/
   (b=true/\j=5/\R=oL z 1 (z (2*i+1)) w)\/
   (b=false/\j=1/\R=oL z 3 0 w/\Hid (6<=eV z 8))\/
   (b=false/\j=1/\R=oL (setS z i key v) 1 0 w/\Hid (eV z 8<6/\-9223372036854775808<=v/\v<=9223372036854775807))\/
   (b=true/\j=1/\R=oL (setS z i key v) 1 0 w/\Hid (-9223372036854775808<=v/\v<=9223372036854775807))\/
   (b=true/\j=2/\∃m,R=oL (iX z i m) 1 (z (2*i+1)) w/\Hid (vI z i m/\∃D,eB D 16 (iX z i m)))):
 Calls prog 159 #[.agg C,.agg #[.int .i64 j,.int .i64 (key:Int),.int .i64 v]] w R:=by
 have q:Tg j:=rfl;have H:=Lib.hid h;have hI:=h.size;have U:Hid ((prog.info? 284).map (·.size)=some C.size):=by show _=_;rw[hI,tL]
 have A:Hid (C.size=16):=hI;have h1:=h.one;clear h hI;have zw:=Lib.hid zx;have HY:=Lib.hid hy;have zq:(i:Int)<8:=by omega
 have zo:(1:Int)<=key:=by omega
 have zn:(key:Int)<=1000:=by omega
 clear zx hy;rcases hc with⟨rfl,hj,rfl⟩|⟨rfl,rfl,rfl⟩|⟨rfl,rfl,rfl,t⟩|⟨rfl,rfl,rfl,t⟩|⟨rfl,rfl,rfl,t⟩|⟨rfl,rfl,m,rfl,t⟩
 case' inl=>rcases hj with rfl|rfl
 all_goals
  go_enter func159,ntmps159
  go_upto_region 1 with(fail)
  have hL:=qP w 284 C q key v;generalize(((w.alloc (.cells C 284)).alloc (.cells #[.int .i64 q,.int .i64 (key:Int),.int .i64 v] 39)).alloc (.cells #[.int .i64 0,.int .i64 0,.int .i64 0,.int .i64 0,.int .i64 0,.int .i64 0,.int .i64 0,.int .i64 0,.int .i64 0,.int .i64 0,.int .i64 0,.int .i64 0,.int .i64 0,.int .i64 0,.int .i64 0,.int .i64 0] 284)).alloc (.cells #[.int .i64 0,.int .i64 0] 44)=W at*;have s:=Lib.hid hL;obtain⟨⟨o0,o1,o2⟩,_,zs⟩:=hL.ops;clear hL
  go_wp2_with (go_at_call 184;refine(TH C z w.heap.size key _ H.out s.out.tab zr).mono ?_;rintro e w1 ⟨rfl,c⟩;rw[zw.out])
  have x:=s.out.on c;have zv:=Lib.hid x;obtain⟨⟨p0,p1,p2⟩,_,a⟩:=x.ops;have y0:w1.cell? ⟨w.heap.size,i*2,none⟩=some (.int .i64 y):=by rw[x.tab.cell,Nat.mul_comm,H.out.get _ (by omega),HY.out]
  clear x o0 o1 o2 zs s
  go_quiet (fail)
  have N:=zv.out.drewN nq;generalize w1.drewN nq=W2 at*;have X:=Lib.hid N;clear p0 p1 p2 y0 c;obtain⟨⟨p0,p1,p2⟩,_,zp⟩:=N.ops;have y0:W2.cell? ⟨w.heap.size,i*2,none⟩=some (.int .i64 y):=by rw[N.tab.cell,Nat.mul_comm,H.out.get _ (by omega),HY.out]
  have y1:W2.cell? ⟨w.heap.size,i*2+1,none⟩=some (.int .i64 (z (2*i+1))):=by rw[N.tab.cell,Nat.mul_comm,H.out.get _ (by omega)]
  have k:W2.frozen? ⟨w.heap.size,i*2,none⟩=false:=N.tab.frozen _;have g:W2.frozen? ⟨w.heap.size,i*2+1,none⟩=false:=N.tab.frozen _;have zm:w.heap.size<W2.heap.size:=by omega
  clear N a
 iterate 2
  .have h1':=h1
   go_wp2_with (first
    |(refine wpList_load_row rfl 284 _ rfl w.heap.size rfl 284 C (0,0) _ ?_ underlying284 rfl ?_ ?_;(exact X.out.tab);(exact U.out))
    |(refine wpList_store_row rfl 284 _ _ rfl (w.heap.size+2) C rfl rfl 284 #[.int .i64 0,.int .i64 0,.int .i64 0,.int .i64 0,.int .i64 0,.int .i64 0,.int .i64 0,.int .i64 0,.int .i64 0,.int .i64 0,.int .i64 0,.int .i64 0,.int .i64 0,.int .i64 0,.int .i64 0,.int .i64 0] ?_ ?_ ?_ h1 ?_;(exact X.out.res);(exact U.out);(rw[A.out];rfl);obtain⟨⟨c0,c1⟩,k,g⟩:=X.out.row C;obtain⟨Q,P,O⟩:=X.out.fin C 4 0;have M:=Lib.hid Q;have L:=Lib.hid P;have K:=Lib.hid O;clear Q P O))
   exact bodyPost_ret (bY results159 _ _ (w.heap.size+2) (w.heap.size+3) 284 44 C #[.int .i64 4,.int .i64 0] _ _ rfl rfl M.out L.out underlying284 rfl U.out underlying44 rfl lK) rfl ⟨C,H.out,rfl,K.out⟩
 .go_wp2_with (first
   |(refine wpList_load_row rfl 284 _ rfl w.heap.size rfl 284 C (0,0) _ ?_ underlying284 rfl ?_ ?_;(exact X.out.tab);(exact U.out))
   |(refine wpList_store_row rfl 284 _ _ rfl (w.heap.size+2) C rfl rfl 284 #[.int .i64 0,.int .i64 0,.int .i64 0,.int .i64 0,.int .i64 0,.int .i64 0,.int .i64 0,.int .i64 0,.int .i64 0,.int .i64 0,.int .i64 0,.int .i64 0,.int .i64 0,.int .i64 0,.int .i64 0,.int .i64 0] ?_ ?_ ?_ h1 ?_;(exact X.out.res);(exact U.out);(rw[A.out];rfl);obtain⟨⟨c0,c1⟩,k,g⟩:=X.out.row C;obtain⟨Q,P,O⟩:=X.out.fin C 1 (z (2*i+1));have M:=Lib.hid Q;have L:=Lib.hid P;have K:=Lib.hid O;clear Q P O))
  exact bodyPost_ret (bY results159 _ _ (w.heap.size+2) (w.heap.size+3) 284 44 C #[.int .i64 1,.int .i64 (z (2*i+1))] _ _ rfl rfl M.out L.out underlying284 rfl U.out underlying44 rfl lK) rfl ⟨C,H.out,rfl,K.out⟩
 .have r:=t.out;generalize hl:eV z 8=l at r;have G:=Lib.hid hl;clear hl
  go_wp2_with (first
   |(refine eM ?_ 284 _ rfl w.heap.size rfl 284 C (0,0) _ ?_ underlying284 rfl ?_ ?_;(first|rfl|(go_simp;done));(exact X.out.tab);(exact U.out))
   |(go_at_call 183;refine(vP C z _ H.out).mono ?_;rintro e B ⟨rfl,o⟩;rw[G.out];have V:=X.out.on o;have F:=Lib.hid V;obtain⟨⟨q0,q1,q2⟩,_,zz⟩:=V.ops;have x0:B.cell? ⟨w.heap.size,i*2,none⟩=some (.int .i64 y):=(by rw[V.tab.cell,Nat.mul_comm,H.out.get _ (by omega),HY.out]);have x1:B.cell? ⟨w.heap.size,i*2+1,none⟩=some (.int .i64 (z (2*i+1))):=(by rw[V.tab.cell,Nat.mul_comm,H.out.get _ (by omega)]);have g0:B.frozen? ⟨w.heap.size,i*2,none⟩=false:=V.tab.frozen _;have g1:B.frozen? ⟨w.heap.size,i*2+1,none⟩=false:=V.tab.frozen _;have d:w.heap.size<B.heap.size:=(by omega);clear V)
   |(refine wpList_load_row rfl 284 _ rfl w.heap.size rfl 284 C (0,0) _ ?_ underlying284 rfl ?_ ?_;(exact F.out.tab);(exact U.out))
   |(refine wpList_store_row rfl 284 _ _ rfl (w.heap.size+2) C rfl rfl 284 #[.int .i64 0,.int .i64 0,.int .i64 0,.int .i64 0,.int .i64 0,.int .i64 0,.int .i64 0,.int .i64 0,.int .i64 0,.int .i64 0,.int .i64 0,.int .i64 0,.int .i64 0,.int .i64 0,.int .i64 0,.int .i64 0] ?_ ?_ ?_ h1 ?_;(exact F.out.res);(exact U.out);(rw[A.out];rfl);obtain⟨⟨c0,c1⟩,k,g⟩:=F.out.row C;obtain⟨Q,P,O⟩:=F.out.fin C 3 0;have M:=Lib.hid Q;have L:=Lib.hid P;have K:=Lib.hid O;clear Q P O))
  exact bodyPost_ret (bY results159 _ _ (w.heap.size+2) (w.heap.size+3) 284 44 C #[.int .i64 3,.int .i64 0] _ _ rfl rfl M.out L.out underlying284 rfl U.out underlying44 rfl lK) rfl ⟨C,H.out,rfl,K.out⟩
 .have hv:=t.out.2;have r:=t.out.1;generalize hl:eV z 8=l at r;have G:=Lib.hid hl;clear hl;obtain⟨E,n⟩:∃E,E=(C.setIfInBounds (i*2) (.int .i64 (key:Int))).setIfInBounds (i*2+1) (.int .i64 v):=⟨_,rfl⟩;have Y:eB E 16 (setS z i key v):=by rw[n];exact vW H.out i (by omega) hv
  have HE:=Lib.hid Y;have p:=Lib.hid n;have Z:Hid ((prog.info? 284).map (·.size)=some E.size):=by show _=_;rw[Y.size,tL]
  have S:Hid (E.size=16):=Y.size;have f:=Y.one;clear Y n
  go_wp2_with (first
   |(refine eM ?_ 284 _ rfl w.heap.size rfl 284 C (0,0) _ ?_ underlying284 rfl ?_ ?_;(first|rfl|(go_simp;done));(exact X.out.tab);(exact U.out))
   |(go_at_call 183;refine(vP C z _ H.out).mono ?_;rintro e B ⟨rfl,o⟩;rw[G.out];have V:=X.out.on o;have F:=Lib.hid V;obtain⟨⟨q0,q1,q2⟩,_,zz⟩:=V.ops;have x0:B.cell? ⟨w.heap.size,i*2,none⟩=some (.int .i64 y):=(by rw[V.tab.cell,Nat.mul_comm,H.out.get _ (by omega),HY.out]);have x1:B.cell? ⟨w.heap.size,i*2+1,none⟩=some (.int .i64 (z (2*i+1))):=(by rw[V.tab.cell,Nat.mul_comm,H.out.get _ (by omega)]);have g0:B.frozen? ⟨w.heap.size,i*2,none⟩=false:=V.tab.frozen _;have g1:B.frozen? ⟨w.heap.size,i*2+1,none⟩=false:=V.tab.frozen _;have d:w.heap.size<B.heap.size:=(by omega);have T:=Lib.hid (V.set_ i (key:Int) v);rw[<-p.out]at T;clear V)
   |(refine wpList_load_row rfl 284 _ rfl w.heap.size rfl 284 E (0,0) _ ?_ underlying284 rfl ?_ ?_;(exact T.out.tab);(exact Z.out))
   |(refine wpList_store_row rfl 284 _ _ rfl (w.heap.size+2) E rfl rfl 284 #[.int .i64 0,.int .i64 0,.int .i64 0,.int .i64 0,.int .i64 0,.int .i64 0,.int .i64 0,.int .i64 0,.int .i64 0,.int .i64 0,.int .i64 0,.int .i64 0,.int .i64 0,.int .i64 0,.int .i64 0,.int .i64 0] ?_ ?_ ?_ f ?_;(exact T.out.res);(exact Z.out);(rw[S.out];rfl);obtain⟨⟨c0,c1⟩,k,g⟩:=T.out.row E;obtain⟨Q,P,O⟩:=T.out.fin E 1 0;have M:=Lib.hid Q;have L:=Lib.hid P;have K:=Lib.hid O;clear Q P O))
  exact bodyPost_ret (bY results159 _ _ (w.heap.size+2) (w.heap.size+3) 284 44 E #[.int .i64 1,.int .i64 0] _ _ rfl rfl M.out L.out underlying284 rfl Z.out underlying44 rfl lK) rfl ⟨E,HE.out,rfl,K.out⟩
 .have hv:=t.out;obtain⟨E,n⟩:∃E,E=(C.setIfInBounds (i*2) (.int .i64 (key:Int))).setIfInBounds (i*2+1) (.int .i64 v):=⟨_,rfl⟩;have Y:eB E 16 (setS z i key v):=by rw[n];exact vW H.out i (by omega) hv
  have HE:=Lib.hid Y;have p:=Lib.hid n;have Z:Hid ((prog.info? 284).map (·.size)=some E.size):=by show _=_;rw[Y.size,tL]
  have S:Hid (E.size=16):=Y.size;have f:=Y.one;clear Y n;have T:=Lib.hid (X.out.set_ i (key:Int) v);rw[<-p.out]at T
  go_wp2_with (first
   |(refine wpList_load_row rfl 284 _ rfl w.heap.size rfl 284 E (0,0) _ ?_ underlying284 rfl ?_ ?_;(exact T.out.tab);(exact Z.out))
   |(refine wpList_store_row rfl 284 _ _ rfl (w.heap.size+2) E rfl rfl 284 #[.int .i64 0,.int .i64 0,.int .i64 0,.int .i64 0,.int .i64 0,.int .i64 0,.int .i64 0,.int .i64 0,.int .i64 0,.int .i64 0,.int .i64 0,.int .i64 0,.int .i64 0,.int .i64 0,.int .i64 0,.int .i64 0] ?_ ?_ ?_ f ?_;(exact T.out.res);(exact Z.out);(rw[S.out];rfl);obtain⟨⟨c0,c1⟩,k,g⟩:=T.out.row E;obtain⟨Q,P,O⟩:=T.out.fin E 1 0;have M:=Lib.hid Q;have L:=Lib.hid P;have K:=Lib.hid O;clear Q P O))
  exact bodyPost_ret (bY results159 _ _ (w.heap.size+2) (w.heap.size+3) 284 44 E #[.int .i64 1,.int .i64 0] _ _ rfl rfl M.out L.out underlying284 rfl Z.out underlying44 rfl lK) rfl ⟨E,HE.out,rfl,K.out⟩
 .have hbe:=t.out.1;refine Exists.elim t.out.2 fun D hD=>?_
  have zu:=Lib.hid hbe;have HD:=Lib.hid hD;have Z:Hid ((prog.info? 284).map (·.size)=some D.size):=by show _=_;rw[hD.size,tL]
  have S:Hid (D.size=16):=hD.size;have f:=hD.one;clear hbe hD
  go_wp2_with (first
   |(refine wpList_load_row rfl 284 _ rfl w.heap.size rfl 284 C (0,0) _ ?_ underlying284 rfl ?_ ?_;(exact X.out.tab);(exact U.out))
   |(go_at_call 185;refine(JK C D z i m _ H.out zu.out HD.out).mono ?_;rintro e w5 ⟨rfl,zy⟩;have zt:=Lib.hid (X.out.on zy);have u:=Lib.hid ((X.out.on zy).setTab D))
   |(refine wpList_store_row rfl 284 _ _ rfl w.heap.size D rfl rfl 284 C ?_ ?_ ?_ f ?_;(exact zt.out.tab);(exact Z.out);(rw[A.out,S.out]))
   |(refine wpList_load_row rfl 284 _ rfl w.heap.size rfl 284 D (0,0) _ ?_ underlying284 rfl ?_ ?_;(exact u.out.tab);(exact Z.out))
   |(refine wpList_store_row rfl 284 _ _ rfl (w.heap.size+2) D rfl rfl 284 #[.int .i64 0,.int .i64 0,.int .i64 0,.int .i64 0,.int .i64 0,.int .i64 0,.int .i64 0,.int .i64 0,.int .i64 0,.int .i64 0,.int .i64 0,.int .i64 0,.int .i64 0,.int .i64 0,.int .i64 0,.int .i64 0] ?_ ?_ ?_ f ?_;(exact u.out.res);(exact Z.out);(rw[S.out];rfl);obtain⟨⟨c0,c1⟩,k,g⟩:=u.out.row D;obtain⟨Q,P,O⟩:=u.out.fin D 1 (z (2*i+1));have M:=Lib.hid Q;have L:=Lib.hid P;have K:=Lib.hid O;clear Q P O))
  exact bodyPost_ret (bY results159 _ _ (w.heap.size+2) (w.heap.size+3) 284 44 D #[.int .i64 1,.int .i64 (z (2*i+1))] _ _ rfl rfl M.out L.out underlying284 rfl Z.out underlying44 rfl lK) rfl ⟨D,HD.out,rfl,K.out⟩
def fJ(z:Nat->Int)(a k v:Int)(m:Nat):Nat->Int:=
 if(a=1\/a=2\/a=5)/\1<=k/\k<=1000 then
  (if a=1 then(if z (2*(kF z k.toNat).toNat)≠k/\6<=eV z 8 then z else setS z (kF z k.toNat).toNat k v)
   else if z (2*(kF z k.toNat).toNat)≠k then z else if a=2 then iX z (kF z k.toNat).toNat m else z)
 else z
def fV(z:Nat->Int)(a k:Int):Int:=
 if a=6 then 1 else if(a=1\/a=2\/a=5)/\1<=k/\k<=1000 then
  (if a=1 then(if z (2*(kF z k.toNat).toNat)≠k/\6<=eV z 8 then 3 else 1)
   else if z (2*(kF z k.toNat).toNat)≠k then 4 else 1)
 else 5
def fX(z:Nat->Int)(a k:Int):Int:=
 if a=6 then eV z 8 else if(a=2\/a=5)/\1<=k/\k<=1000 then
  (if z (2*(kF z k.toNat).toNat)≠k then 0 else z (2*(kF z k.toNat).toNat+1))
 else 0
def tG(z:Nat->Int)(a k:Int)(m:Nat):Prop:=a=2->1<=k->k<=1000->z (2*(kF z k.toNat).toNat)=k->vI z (kF z k.toNat).toNat m
theorem DG(h:cS z=true)(a k:Int):∃m,tG z a k m:=by
 by_cases Z:a=2/\1<=k/\k<=1000/\z (2*(kF z k.toNat).toNat)=k
 .obtain⟨i,hi,hat,_⟩:=nX h k.toNat;have e:(kF z k.toNat).toNat=i:=by rw[hat];rfl
  obtain⟨_,S,_,Y⟩:=Z;rw[e]at Y;obtain⟨m,X⟩:=JQ h hi (by omega);exact⟨m,fun _ _ _ _=>by rw[e];exact X⟩
 .exact⟨0,fun W V U T=>absurd ⟨W,V,U,T⟩ Z⟩
theorem YE(C D:Array Value)(z:Nat->Int)(a k v:Int)(m:Nat)(w:World)(h:eB C 16 z)(L:cS z=true)(P: -9223372036854775808<=v/\v<=9223372036854775807)(K:tG z a k m)(Q:eB D 16 (fJ z a k v m)):
 Calls prog 159 #[.agg C,.agg #[.int .i64 a,.int .i64 k,.int .i64 v]] w fun e w'=>e=.returned (.tuple #[.agg D,.agg #[.int .i64 (fV z a k),.int .i64 (fX z a k)]])/\Below w.heap.size w w':=by
 suffices hs:Calls prog 159 #[.agg C,.agg #[.int .i64 a,.int .i64 k,.int .i64 v]] w (oL (fJ z a k v m) (fV z a k) (fX z a k) w)from hs.mono fun e w' N=>N.det Q
 by_cases R:a=6
 .subst R;exact OT C z k v w h
 .by_cases hc:(a=1\/a=2\/a=5)/\1<=k/\k<=1000
  .obtain⟨ha,hk1,hk2⟩:=hc;obtain⟨key,rfl⟩:=Int.eq_ofNat_of_zero_le (show(0:Int)<=k by omega);have U:1<=key:=by omega
   have T:key<=1000:=by omega
   obtain⟨i,S,Z,M⟩:=nX L key;have e:(kF z ((key:Nat):Int).toNat).toNat=i:=by rw[Int.toNat_natCast,Z];rfl
   have O:a=2->z (2*i)=key->vI z i m:=fun W X=>by have:=K W hk1 hk2 (by rw[e];exact X);rwa [e]at this
   by_cases Y:z (2*i)=key
   .have hb:(z (2*i)==(key:Int))=true:=by simpa using Y
    rcases ha with rfl|rfl|rfl
    .have W:fJ z 1 key v m=setS z i key v:=by simp [fJ,hk1,hk2,Z,Y]
     have X:fV z 1 key=1:=by simp [fV,hk1,hk2,Z,Y]
     have V:fX z 1 key=0:=by simp [fX]
     rw[W,X,V];exact oN C z key i v _ w h U T S Z rfl hb (.inr (.inr (.inr (.inr (.inl ⟨rfl,rfl,rfl,P⟩)))))
    .have hB:=O rfl Y;have W:fJ z 2 key v m=iX z i m:=by simp [fJ,hk1,hk2,Z,Y]
     have X:fV z 2 key=1:=by simp [fV,hk1,hk2,Z,Y]
     have V:fX z 2 key=z (2*i+1):=by simp [fX,hk1,hk2,Z,Y]
     rw[W]at Q⊢;rw[X,V];exact oN C z key i v _ w h U T S Z rfl hb (.inr (.inr (.inr (.inr (.inr ⟨rfl,rfl,m,rfl,hB,D,Q⟩)))))
    .have W:fJ z 5 key v m=z:=by simp [fJ,Z,Y]
     have X:fV z 5 key=1:=by simp [fV,hk1,hk2,Z,Y]
     have V:fX z 5 key=z (2*i+1):=by simp [fX,hk1,hk2,Z,Y]
     rw[W,X,V];exact oN C z key i v _ w h U T S Z rfl hb (.inr (.inl ⟨rfl,rfl,rfl⟩))
   .have hb:(z (2*i)==(key:Int))=false:=by simpa using Y
    rcases ha with rfl|rfl|rfl
    .by_cases hl:6<=eV z 8
     .have W:fJ z 1 key v m=z:=by simp [fJ,Z,Y,hl]
      have X:fV z 1 key=3:=by simp [fV,hk1,hk2,Z,Y,hl]
      have V:fX z 1 key=0:=by simp [fX]
      rw[W,X,V];exact oN C z key i v _ w h U T S Z rfl hb (.inr (.inr (.inl ⟨rfl,rfl,rfl,hl⟩)))
     .have W:fJ z 1 key v m=setS z i key v:=by simp [fJ,hk1,hk2,Z,hl]
      have X:fV z 1 key=1:=by simp [fV,hk1,hk2,Z,hl]
      have V:fX z 1 key=0:=by simp [fX]
      rw[W,X,V];exact oN C z key i v _ w h U T S Z rfl hb (.inr (.inr (.inr (.inl ⟨rfl,rfl,rfl,by omega,P⟩))))
    .have W:fJ z 2 key v m=z:=by simp [fJ,Z,Y]
     have X:fV z 2 key=4:=by simp [fV,hk1,hk2,Z,Y]
     have V:fX z 2 key=0:=by simp [fX,Z,Y]
     rw[W,X,V];exact oN C z key i v _ w h U T S Z rfl hb (.inl ⟨rfl,.inl rfl,rfl⟩)
    .have W:fJ z 5 key v m=z:=by simp [fJ,Z,Y]
     have X:fV z 5 key=4:=by simp [fV,hk1,hk2,Z,Y]
     have V:fX z 5 key=0:=by simp [fX,Z,Y]
     rw[W,X,V];exact oN C z key i v _ w h U T S Z rfl hb (.inl ⟨rfl,.inr rfl,rfl⟩)
  .have W:fJ z a k v m=z:=by simp only[fJ,if_neg hc]
   have X:fV z a k=5:=by simp only[fV,if_neg hc,if_neg R]
   have V:fX z a k=0:=by simp only[fX,if_neg R];rw[if_neg (by omega)]
   rw[W,X,V];exact OP C z a k v w h R (by omega)
def tW(z:Nat->Int)(i:Nat):Prop:=z (2*i)<=1000/\z (2*i+1)<=4294967295
def kQ(z:Nat->Int):Prop:=(∀i,i<8->tW z i)/\z 16=0/\cS z=true
def CD(z:Nat->Int)(w:World)(e:Ending)(w':World):Prop:=
 Below w.heap.size w w'/\∃D y b,e=.returned (.tuple #[.agg D,.bool b])/\eB D 16 y/\(b=true↔kQ z)/\(b=true->∀i,i<16->y i=z i)
theorem BG:(prog.info? 284).map (·.size)=some 16:=by kernel_rfl
structure Dt (w W:World) (C R D:Array Value):Prop where
 words:aY W w.heap.size 252 C
 res:aY W (w.heap.size+1) 284 R
 tab:aY W (w.heap.size+2) 284 D
 below:Below w.heap.size w W
theorem Dt.put{W:World}{R D:Array Value}(h:Dt w W C R D)(i:Nat)(x y:Value):
 Dt w ((W.setCell ⟨w.heap.size+1+1,i,none⟩ x).setCell ⟨w.heap.size+1+1,i+1,none⟩ y).drew C R ((D.setIfInBounds i x).setIfInBounds (i+1) y):=
 ⟨(h.words.far (by simp;omega) _).far (by simp;omega) _,(h.res.far (by simp) _).far (by simp) _,(h.tab.set_ _ _).set_ _ _,((h.below.setCell (by show w.heap.size<=w+1+1;omega) _).setCell (by show w.heap.size<=w+1+1;omega) _).drew⟩
theorem uF(z:Nat->Int)(k i:Nat):eF (k+1) z i=if i=k*2+1 then z (2*k+1)else if i=k*2 then z (2*k)else eF k z i:=by
 unfold eF;by_cases Z:i=k*2+1
 .subst Z;rw[iP I,iP rfl,show k*2+1=2*k+1 by omega]
 rw[iN Z];by_cases Y:i=k*2
 .subst Y;rw[iP I,iP rfl,show k*2=2*k by omega]
 rw[iN Y];by_cases X:i<2*k
 .rw[iP X,iP I]
 rw[iN X,iN I]
theorem zN(C:Array Value)(z:Nat->Int)(w:World)(h:cH C 17 z):Calls prog 157 #[.agg C] w (CD z w):=by
 have E:=aH h;have Q:Hid (Dt w (((w.alloc (.cells C 252)).alloc (.cells (16:Int) 284)).alloc (.cells (16:Int) 284)) C (16:Int) (16:Int)):=aH
  ⟨((aY.new _ _ _).alloc _).alloc _,(aY.newAt _ _ _ (by simp)).alloc _,aY.newAt _ _ _ (by simp),by go_grown⟩
 have r:Hid (eB (16:Int) 16 (eF 0 z)):=aH ((show eB (16:Int) 16 (fun _=>0)from eB.zero 16).congr (fun i s=>by unfold eF;rw[iN I]));clear h
 go_enter func157,ntmps157
 go_wp2
 go_loopw [6] (fun i wr=>∃k:Nat,k<=8/\i=.int .i64 k/\Hid (∃D,Dt w wr C (16:Int) D/\eB D 16 (eF k z))/\Hid (∀j,j<k->tW z j)) (fun i _=>8-(intOf i).toNat)
 case atStart=>exact⟨0,I,rfl,aH ⟨_,Q.out,r.out⟩,aH fun j hj=>absurd hj I⟩
 case round=>
  obtain⟨k,hk,rfl,g,R⟩:=hrel;obtain⟨D,M,B⟩:=g.out;have Z:=aH M;have T:=aH B;have Y:Hid ((prog.info? 284).map (·.size)=some D.size):=by show _=_;rw[BG,B.size]
  by_cases u:k<8
  .have b1:(k:Int)<8:=I;have s0:wr.cell? (w.heap.size,2*k)=[z (2*k)]:=(M.words.cell (2*k)).trans (E.get _ I);have s1:wr.cell? (w.heap.size,2*k+1)=[z (2*k+1)]:=(M.words.cell (2*k+1)).trans (E.get _ I);have q:=E.bd (2*k) (by omega);have o:=E.bd (2*k+1) (by omega);clear M B g;generalize t:z (2*k)=x at s0 q;generalize hy:z (2*k+1)=y at s1 o;have F:=Lib.hid t;have n:=Lib.hid hy;clear t hy;by_cases c:x<=1000
   .have d1:decide (1000<x)=false:=by simp;omega
    by_cases a:y<=4294967295
    .have d2:decide (4294967295<y)=false:=by simp;omega
     have t0:wr.cell? ⟨w.heap.size+1+1,k*2,none⟩=some (.int .i64 (eF k z (k*2))):=(Z.tab.cell (k*2)).trans (T.get _ (by omega));have t1:wr.cell? ⟨w.heap.size+1+1,k*2+1,none⟩=some (.int .i64 (eF k z (k*2+1))):=(Z.tab.cell (k*2+1)).trans (T.get _ (by omega));have f0:wr.frozen? ⟨w.heap.size+1+1,k*2,none⟩=false:=Z.tab.frozen (k*2);have f1:wr.frozen? ⟨w.heap.size+1+1,k*2+1,none⟩=false:=Z.tab.frozen (k*2+1);go_wp2;clear Q r
     go_region
     apply_assumption
     go_wp2;go_roundw
     case rel=>exact⟨k+1,by omega,by go_num,Lib.hid ⟨_,Z.put (k*2) _ _,((T.set_ (k:=k*2) (v:=x) (by omega)).set_ (k:=k*2+1) (v:=y) (by omega)).congr (fun i s=>by rw[uF,F.out,n.out])⟩,Lib.hid fun j hj=>by
      rcases Nat.lt_or_ge j k with h|h
      .exact R.out j h
      obtain rfl:j=k:=by omega
      exact⟨by rw[F.out];exact c,by rw[n.out];exact a⟩⟩
     case measure=>simp [intOf];omega
    have d2:decide (4294967295<y)=true:=by simp;omega
    go_wp2_with (first
     |(refine wpList_load_row rfl 284 _ rfl (w.heap.size+1+1) rfl 284 D (0,0) _ Z.tab underlying284 rfl Y.out ?_)
     |(refine wpList_store_row rfl 284 _ _ rfl (w.heap.size+1) D rfl rfl 284 #[.int .i64 0,.int .i64 0,.int .i64 0,.int .i64 0,.int .i64 0,.int .i64 0,.int .i64 0,.int .i64 0,.int .i64 0,.int .i64 0,.int .i64 0,.int .i64 0,.int .i64 0,.int .i64 0,.int .i64 0,.int .i64 0] Z.res Y.out (by rw[T.size];rfl) T.one ?_))
    refine bodyPost_ret (bR results157 _ _ (w.heap.size+1) 284 D _ _ rfl rfl (aY.setRow Z.res D) underlying284 rfl Y.out) rfl ⟨aL Z.below (by simp) _,D,_,false,rfl,T.out,Iff.intro (fun h=>Bool.noConfusion h) (fun h=>?_),fun h=>Bool.noConfusion h⟩;have m:=(h.1 k u).2;rw[n.out]at m;omega
   have d1:decide (1000<x)=true:=by simp;omega
   go_wp2_with (first
    |(refine wpList_load_row rfl 284 _ rfl (w.heap.size+1+1) rfl 284 D (0,0) _ Z.tab underlying284 rfl Y.out ?_)
    |(refine wpList_store_row rfl 284 _ _ rfl (w.heap.size+1) D rfl rfl 284 #[.int .i64 0,.int .i64 0,.int .i64 0,.int .i64 0,.int .i64 0,.int .i64 0,.int .i64 0,.int .i64 0,.int .i64 0,.int .i64 0,.int .i64 0,.int .i64 0,.int .i64 0,.int .i64 0,.int .i64 0,.int .i64 0] Z.res Y.out (by rw[T.size];rfl) T.one ?_))
   refine bodyPost_ret (bR results157 _ _ (w.heap.size+1) 284 D _ _ rfl rfl (aY.setRow Z.res D) underlying284 rfl Y.out) rfl ⟨aL Z.below (by simp) _,D,_,false,rfl,T.out,Iff.intro (fun h=>Bool.noConfusion h) (fun h=>?_),fun h=>Bool.noConfusion h⟩;have m:=(h.1 k u).1;rw[F.out]at m;omega
  obtain rfl:k=8:=I;have X:Hid (eB D 16 z):=aH (B.congr (fun i s=>by unfold eF;rw[iP I]));have P:wr.cell? (w.heap.size,16)=[z 16]:=(M.words.cell 16).trans (E.get _ I);have S:w.heap.size<wr:=M.words.lt;clear M B g Q r;generalize t:z 16=x at P;have F:=aH t;clear t;by_cases G:x=0
  .subst G;go_wp2;refine bK 9 (fun b=>b=w+1) [8] J J ?_
   iterate 8
    refine aC (fun K V=>?_)
    first
    |(refine .inl ?_
      apply Exists.intro;refine⟨cX,?_,V _ _ _ _ ?_⟩
      .simp only[bJ,bM];refine⟨?_,fun w9 hw9 _=>?_⟩
       .first|rfl|(go_simp;done)
       have l:=(hw9.cell (p:=⟨w.heap.size,16,none⟩) S (by show¬w.heap.size=w+1;omega)).trans P
       first
       |exact bT 284 _ rfl (w+1+1) rfl 284 D _ ((hw9.block (w+1+1) Z.tab.lt I).trans Z.tab) underlying284 rfl Y.out aE
       |(go_simp
         first
         |exact aE
         |(go_at_call 182;exact bS (AF D z _ X.out)))
      clear V K;refine aN ?_)
    |(refine .inr (.inl ⟨?_,V _ _ _ _ ?_⟩)
      .simp only[bM]
       first|rfl|(go_simp;done)
      clear V K;refine aN ?_)
   refine aC (fun K V=>?_);refine .inl ⟨undef,fun _ f=>aY f (w+1) 284 D,?_,V _ _ _ _ ?_⟩
   .simp only[bJ,bM];refine⟨?_,fun w9 hw9 L=>?_⟩
    .first|rfl|(go_simp;done)
    have U:aY w9 (w,1) 284 (16:Int):=(L.1.block _ Z.res.lt (fun h=>dN h J)).trans Z.res;exact dS 284 _ _ rfl (w,1) D rfl rfl 284 (16:Int) U Y.out (by rw[X.size];rfl) X.one ⟨⟨rfl,U.setRow D⟩,fD (.inl ⟨aJ,rfl⟩) _⟩
   clear V K;refine aZ ?_;intro w9 hw9 W;obtain⟨w0,d,A,H⟩:=W.1 rfl;have O:Hid (aY w9 (w,1) 284 D):=aH ((A.block _ H.lt (fun h=>dN h J)).trans H);have N:Hid (Below w w w9):=aH (Z.below.trans (hw9.below Z.below.size (fun b hb e=>by omega)));clear W H d A;go_wp2;refine bodyPost_ret (bR results157 _ _ (w,1) 284 D _ _ rfl rfl O.out underlying284 rfl Y.out) rfl ⟨N.out,D,z,_,rfl,X.out,?_,fun _ i s=>rfl⟩;unfold kQ;rw[F.out];exact⟨fun h=>⟨R.out,rfl,h⟩,fun h=>h.2.2⟩
  have d1:(x==0)=false:=by simpa using G
  go_wp2;refine bK 9 (fun b=>b=w+1) [8] J J ?_
  iterate 8
   refine aC (fun K V=>?_)
   first
   |(refine .inl ?_
     apply Exists.intro;refine⟨cX,?_,V _ _ _ _ ?_⟩
     .simp only[bJ,bM];refine⟨?_,fun w9 hw9 _=>?_⟩
      .first|rfl|(go_simp;done)
      have l:=(hw9.cell (p:=⟨w.heap.size,16,none⟩) S (by show¬w.heap.size=w+1;omega)).trans P
      first
      |exact bT 284 _ rfl (w+1+1) rfl 284 D _ ((hw9.block (w+1+1) Z.tab.lt I).trans Z.tab) underlying284 rfl Y.out aE
      |(go_simp
        first
        |exact aE
        |(go_at_call 182;exact bS (AF D z _ X.out)))
     clear V K;refine aN ?_)
   |(refine .inr (.inl ⟨?_,V _ _ _ _ ?_⟩)
     .simp only[bM]
      first|rfl|(go_simp;done)
     clear V K;refine aN ?_)
  refine aC (fun K V=>?_);refine .inl ⟨undef,fun _ f=>aY f (w+1) 284 D,?_,V _ _ _ _ ?_⟩
  .simp only[bJ,bM];refine⟨?_,fun w9 hw9 L=>?_⟩
   .first|rfl|(go_simp;done)
   have U:aY w9 (w,1) 284 (16:Int):=(L.1.block _ Z.res.lt (fun h=>dN h J)).trans Z.res;exact dS 284 _ _ rfl (w,1) D rfl rfl 284 (16:Int) U Y.out (by rw[X.size];rfl) X.one ⟨⟨rfl,U.setRow D⟩,fD (.inl ⟨aJ,rfl⟩) _⟩
  clear V K;refine aZ ?_;intro w9 hw9 W;obtain⟨w0,d,A,H⟩:=W.1 rfl;have O:Hid (aY w9 (w,1) 284 D):=aH ((A.block _ H.lt (fun h=>dN h J)).trans H);have N:Hid (Below w w w9):=aH (Z.below.trans (hw9.below Z.below.size (fun b hb e=>by omega)));clear W H d A;go_wp2;refine bodyPost_ret (bR results157 _ _ (w,1) 284 D _ _ rfl rfl O.out underlying284 rfl Y.out) rfl ⟨N.out,D,z,_,rfl,X.out,?_,fun _ i s=>rfl⟩;unfold kQ;rw[F.out];exact⟨fun h=>Bool.noConfusion h,fun h=>absurd h.2.1 G⟩
def lZ(xs:List Int)(k:Nat):Bool:=decide (k=0\/xs[(k-1)/2]?.getD 0<=xs[k]?.getD 0)
def iJ(xs:List Int):Bool:=(List.range xs.length).all (lZ xs)&&decide (xs.length<=6)
theorem DR{k:Nat}(Z:k<xs.length)(h:lZ xs k=false):iJ xs=false:=by
 unfold iJ;rw[Bool.and_eq_false_iff];left;rw[List.all_eq_false];exact⟨k,by simpa using Z,by simp [h]⟩
theorem AC(h:∀i,i<xs.length->lZ xs i=true):iJ xs=decide (xs.length<=6):=by
 unfold iJ;have:(List.range xs.length).all (lZ xs)=true:=by rw[List.all_eq_true];intro x Z;exact h x (by simpa using Z)
 rw[this,Bool.true_and]
theorem yO(A:Option Addr)(n c:Nat)(xs:List Int)(w:World)(h:fI w A n c xs):
 Calls prog 156 #[.slice A n c] w fun e w'=>e=.returned (.bool (iJ xs))/\Below w.heap.size w w':=by
 obtain⟨Z,P,M,W,V⟩:=h;have T:=aH Z;clear Z;have O:=aH V;clear V;have K:=aH W;clear W
 go_enter func156,ntmps156
 go_wp2
 go_loopw [6] (fun i wr=>∃k:Nat,k<=n/\i=.int .i64 k/\Below w w wr/\Hid (∀j,j<k->lZ xs j=true)) (fun i _=>n-(intOf i).toNat)
 case atStart=>exact⟨0,I,rfl,Below.refl _ _,fun j R=>absurd R I⟩
 case round=>
  obtain⟨k,D,rfl,X,Y⟩:=hrel;by_cases U:k<n
  .obtain⟨b,off,rfl,hblt,hcell⟩:=O.out I;have Q:=aH hcell;clear hcell;by_cases L:0<k
   .have hc1:wr.cell? (b,off+k)=(xs[k]?.getD 0):=(X.cell (p:=⟨b,off+k,none⟩) hblt).trans (Q.out k U);have N:wr.cell? (b,off+(k-1)/2)=(xs[(k-1)/2]?.getD 0):=(X.cell (p:=⟨b,off+(k-1)/2,none⟩) hblt).trans (Q.out _ I);have H:(k:Int)<n:=I;have G:((k:Int)-1)/2<n:=I;have F:0<=((k:Int)-1)/2:=I;have E:0<(k:Int):=I;go_wp2
    go_quiet (fail)
    go_wp2
    .have hlt:xs[k]?.getD 0<xs[(k-1)/2]?.getD 0:=by assumption
     go_ret;exact⟨dF (by rw[DR (by rw[T.out];exact U) (by simp [lZ];omega)]),cZ X _⟩
    have S:xs[(k-1)/2]?.getD 0<=xs[k]?.getD 0:=by assumption
    go_roundw
    case rel=>exact⟨k+1,I,aG,cZ X _,fun j R=>by
     rcases Nat.lt_or_ge j k with h|h
     .exact Y j h
     obtain rfl:j=k:=I;simp [lZ,S]⟩
    case measure=>simp [intOf];omega
   obtain rfl:k=0:=I;go_wp2
   go_quiet (fail)
   go_wp2;go_roundw
   case rel=>exact⟨1,I,rfl,cZ X _,fun j R=>by
    obtain rfl:j=0:=I;simp [lZ]⟩
   case measure=>simp [intOf];omega
  obtain rfl:k=n:=I;go_wp2;go_ret;exact⟨dF (by rw[AC (by rw[T.out];exact Y),T.out];simp;omega),X⟩
theorem pZ{k j:Nat}(Y:j=2*k+1\/j=2*k+2):lZ xs j=decide (xs[k]?.getD 0<=xs[j]?.getD 0):=by
 have e:(j-1)/2=k:=I;have Z:j≠0:=I;simp [lZ,e,Z]
theorem tB(h:∀k,k<xs.length->∀j,(j=2*k+1\/j=2*k+2)->j<xs.length->lZ xs j=true):iJ xs=decide (xs.length<=6):=
 AC fun i Z=>by
  by_cases Y:i=0
  .simp [lZ,Y]
  exact h ((i-1)/2) I i I Z
theorem uK(A:Option Addr)(n c:Nat)(xs:List Int)(w:World)(h:fI w A n c xs)(g:n<=60):
 Calls prog 193 #[.slice A n c] w fun e w'=>e=.returned (.bool (iJ xs))/\Below w.heap.size w w':=by
 obtain⟨S,C,v,P,O⟩:=h;have M:=aH S;clear S;have B:=aH O;clear O;have u:=aH P;clear P
 go_enter func193,ntmps193
 go_wp2
 go_loopw [8] (fun i wr=>∃k:Nat,k<=n/\i=.int .i64 k/\Below w w wr/\Hid (∀X,X<k->∀j,(j=2*X+1\/j=2*X+2)->j<n->lZ xs j=true)) (fun i _=>n-(intOf i).toNat)
 case atStart=>exact⟨0,I,rfl,Below.refl _ _,fun j V=>absurd V I⟩
 case round=>
  obtain⟨k,l,rfl,T,Y⟩:=hrel;by_cases H:k<n
  .obtain⟨b,off,rfl,hblt,hcell⟩:=B.out I;have L:=aH hcell;clear hcell;have z:wr.cell? (b,off+k)=(xs[k]?.getD 0):=(T.cell (p:=⟨b,off+k,none⟩) hblt).trans (L.out k H);have y:b<wr:=by have:=T.size;omega
   have W:=T.size;have E:k<60:=I;have t:IntKind.i64.wrap (2*(k:Int))=2*k:=IntWalk.i64_in _ I;have s:IntKind.i64.wrap (2*(k:Int)+1)=2*k+1:=IntWalk.i64_in _ I;have r:IntKind.i64.wrap (2*(k:Int)+2)=2*k+2:=IntWalk.i64_in _ I;have R:∀j,(j=2*k+1\/j=2*k+2)->j<n->xs[j]?.getD 0<xs[k]?.getD 0->iJ xs=false:=fun j V Z U=>
    DR (k:=j) (by rw[M.out];exact Z) (by rw[pZ V];simp;omega)
   have K:=aH R;clear R;by_cases G:2*k+1<n
   .have hc1:wr.cell? (b,off+(2*k+1))=(xs[2*k+1]?.getD 0):=(T.cell (p:=⟨b,off+(2*k+1),none⟩) hblt).trans (L.out _ G);have q:2*(k:Int)+1<n:=I;by_cases F:2*k+2<n
    .have hc2:wr.cell? (b,off+(2*k+2))=(xs[2*k+2]?.getD 0):=(T.cell (p:=⟨b,off+(2*k+2),none⟩) hblt).trans (L.out _ F);have o:2*(k:Int)+2<n:=I;go_wp2;refine wp_loop_rounds 3 ?_;rw[rounds_succ];go_wp2
     go_quiet (fail)
     go_wp2
     .have U:xs[2*k+1]?.getD 0<xs[k]?.getD 0:=by assumption
      go_ret;exact⟨dF (by rw[K.out _ (.inl rfl) G U]),(by repeat' (first|exact T|exact W|refine cZ ?_ _|refine Below.alloc ?_ ?_ _))⟩
     have Q:xs[k]?.getD 0<=xs[2*k+1]?.getD 0:=by assumption
     rw[rounds_succ];go_wp2
     go_quiet (fail)
     go_wp2
     .have U:xs[2*k+2]?.getD 0<xs[k]?.getD 0:=by assumption
      go_ret;exact⟨dF (by rw[K.out _ (.inr rfl) F U]),(by repeat' (first|exact T|exact W|refine cZ ?_ _|refine Below.alloc ?_ ?_ _))⟩
     have D:xs[k]?.getD 0<=xs[2*k+2]?.getD 0:=by assumption
     rw[rounds_succ];go_wp2;go_roundw
     case rel=>exact⟨k+1,I,aG,(by repeat' (first|exact T|exact W|refine cZ ?_ _|refine Below.alloc ?_ ?_ _)),fun X N j V Z=>by
      rcases Nat.lt_or_ge X k with h|h
      .exact Y X h j V Z
      obtain rfl:X=k:=I;rw[pZ V];rcases V with rfl|rfl<;>simpa⟩
     case measure=>simp [intOf];omega
    have x:decide (2*(k:Int)+2<n)=false:=by simp;omega
    go_wp2;refine wp_loop_rounds 3 ?_;rw[rounds_succ];go_wp2
    go_quiet (fail)
    go_wp2
    .have U:xs[2*k+1]?.getD 0<xs[k]?.getD 0:=by assumption
     go_ret;exact⟨dF (by rw[K.out _ (.inl rfl) G U]),(by repeat' (first|exact T|exact W|refine cZ ?_ _|refine Below.alloc ?_ ?_ _))⟩
    have Q:xs[k]?.getD 0<=xs[2*k+1]?.getD 0:=by assumption
    rw[rounds_succ];go_wp2
    go_quiet (fail)
    go_wp2;rw[rounds_succ];go_wp2;go_roundw
    case rel=>exact⟨k+1,I,aG,(by repeat' (first|exact T|exact W|refine cZ ?_ _|refine Below.alloc ?_ ?_ _)),fun X N j V Z=>by
     rcases Nat.lt_or_ge X k with h|h
     .exact Y X h j V Z
     obtain rfl:X=k:=I;rw[pZ V];rcases V with rfl|rfl
     .simpa
     exact absurd Z F⟩
    case measure=>simp [intOf];omega
   have m:decide (2*(k:Int)+1<n)=false:=by simp;omega
   have x:decide (2*(k:Int)+2<n)=false:=by simp;omega
   go_wp2;refine wp_loop_rounds 3 ?_
   iterate 2
    rw[rounds_succ];go_wp2
    go_quiet (fail)
    go_wp2
   rw[rounds_succ];go_wp2;go_roundw
   case rel=>exact⟨k+1,I,aG,(by repeat' (first|exact T|exact W|refine cZ ?_ _|refine Below.alloc ?_ ?_ _)),fun X N j V Z=>by
    rcases Nat.lt_or_ge X k with h|h
    .exact Y X h j V Z
    omega⟩
   case measure=>simp [intOf];omega
  obtain rfl:k=n:=I;go_wp2;go_ret;exact⟨dF (by rw[tB (by rw[M.out];exact Y),M.out];simp;omega),T⟩
theorem gT:(prog.info? 252).map (·.size)=some 17:=by kernel_rfl
theorem GV(C:Array Value)(z:Nat->Int)(kind:Int)(w:World)(h:cH C 17 z)(P:kind=1\/kind=2\/kind=3):
 Calls prog 140 #[.int .i64 kind,.agg C] w fun e w'=>∃b,e=.returned (.bool b)/\(b=true↔gW z)/\Below w.heap.size w w':=by
 have O:=Lib.hid h;have V:Hid ((prog.info? 252).map (·.size)=some C.size):=by show _=_;rw[gT,h.size]
 have U:Hid (aY (w.alloc (.cells C 252)) w.heap.size 252 C):=aY.new _ _ _;have S:Calls prog 155 #[.agg C] (w.alloc (.cells C 252)) (AZ z (w.alloc (.cells C 252))):=vX C z _ h;clear h;rcases P with rfl|rfl|rfl
 all_goals
  go_enter func140,ntmps140
  go_wp2_with (refine wpList_load_row rfl 252 _ rfl w.heap.size rfl 252 C (0,0) _ U underlying252 rfl V ?_)
  refine S.mono ?_;rintro e R ⟨Q,Z⟩;have T:Below w.heap.size w R:=Below.trans (by go_grown) (Q.mono (by simp));rcases Z with⟨Y,A,c,rfl,X⟩|⟨W,rfl⟩
  .have HOK:=Lib.hid Y;clear Y X;go_wp2;go_ret;exact⟨_,rfl,Iff.intro (fun _=>HOK.out) (fun _=>rfl),T⟩
  .have HNO:=Lib.hid W;clear W;go_wp2;go_ret;exact⟨_,rfl,Iff.intro (fun h=>Bool.noConfusion h) (fun h=>absurd h HNO),T⟩
theorem GH(C:Array Value)(z:Nat->Int)(w:World)(h:cH C 17 z):
 Calls prog 140 #[.int .i64 4,.agg C] w fun e w'=>∃b,e=.returned (.bool b)/\(b=true↔gW z/\iJ (zW z (z 0).toNat)=true)/\Below w.heap.size w w':=by
 have P:=Lib.hid h;have V:Hid ((prog.info? 252).map (·.size)=some C.size):=by show _=_;rw[gT,h.size]
 have U:Hid (aY (w.alloc (.cells C 252)) w.heap.size 252 C):=aY.new _ _ _;have O:Calls prog 155 #[.agg C] (w.alloc (.cells C 252)) (AZ z (w.alloc (.cells C 252))):=vX C z _ h;clear h
 go_enter func140,ntmps140
 go_wp2_with (refine wpList_load_row rfl 252 _ rfl w.heap.size rfl 252 C (0,0) _ U underlying252 rfl V ?_)
 refine O.mono ?_;rintro e Q ⟨M,X⟩;have T:Below w.heap.size w Q:=Below.trans (by go_grown) (M.mono (by simp));rcases X with⟨Z,A,c,rfl,Y⟩|⟨W,rfl⟩
 .have HOK:=Lib.hid Z;have K:(z 0).toNat<=16:=by have:=Z.1;omega
  have N:Hid (fI Q A (z 0).toNat c (zW z (z 0).toNat)):=Lib.hid (fI.of_own Y (fun i=>by
   by_cases L:i<(z 0).toNat
   .rw[pA z _ i L];have H:=(Z.2 i (by omega)).1;have G:=(P.bd (i+1) (by omega)).1;omega
   rw[List.getElem?_eq_none (by rw[qT];omega)];decide))
  clear Z Y
  go_wp2_with (go_at_call 156;refine(yO A _ c _ _ N).mono ?_;rintro e F ⟨rfl,R⟩)
  go_ret;exact⟨_,rfl,Iff.intro (fun h=>⟨HOK.out,h⟩) (fun h=>h.2),T.trans (R.mono T.size)⟩
 have S:=aH W;clear W;go_wp2;go_ret;exact⟨_,rfl,Iff.intro (fun h=>Bool.noConfusion h) (fun h=>absurd h.1 S),T⟩
theorem EF(C:Array Value)(z:Nat->Int)(w:World)(h:cH C 17 z):
 Calls prog 140 #[.int .i64 5,.agg C] w fun e w'=>∃b,e=.returned (.bool b)/\(b=true↔kQ z)/\Below w.heap.size w w':=by
 have Y:Hid ((prog.info? 252).map (·.size)=some C.size):=by show _=_;rw[gT,h.size]
 have X:Hid (aY (w.alloc (.cells C 252)) w 252 C):=aY.new _ _ _;have P:Calls prog 157 #[.agg C] (w.alloc (.cells C 252)) (CD z (w.alloc (.cells C 252))):=zN C z _ h;clear h
 go_enter func140,ntmps140
 go_wp2_with (refine wpList_load_row rfl 252 _ rfl w rfl 252 C (0,0) _ X underlying252 rfl Y ?_)
 refine P.mono ?_;rintro e Q ⟨O,D,y,b,rfl,T,Z,S⟩;have W:Below w w Q:=Below.trans (by go_grown) (O.mono (by simp));have R:=aH T;have V:Hid ((prog.info? 284).map (·.size)=some D.size):=by show _=_;rw[BG,T.size]
 have U:=aH Z;clear Z S T
 go_wp2_with (refine wpList_store_row rfl 284 _ _ rfl Q D rfl rfl 284 (16:Int) (aY.new _ _ _) V (by rw[R.size];rfl) R.one ?_)
 go_ret;exact⟨_,rfl,U.out,aL (W.alloc W.size _) (W.size) _⟩
theorem GJ(C:Array Value)(kind:Int)(w:World)(h:kind<1\/6<kind):
 Calls prog 140 #[.int .i64 kind,.agg C] w fun e w'=>e=.returned (.bool false)/\Below w.heap.size w w':=by
 have Z:(kind==1)=false:=by simp;omega
 have Y:(kind==2)=false:=by simp;omega
 have X:(kind==3)=false:=by simp;omega
 have W:(kind==4)=false:=by simp;omega
 have V:(kind==5)=false:=by simp;omega
 have U:(kind==6)=false:=by simp;omega
 clear h
 go_enter func140,ntmps140
 go_wp2;go_ret;exact⟨rfl,by go_grown⟩
def qO(z:Nat->Int):Prop:=z 0<=4294967295/\∀i,i<17->z i=if i=0 then z 0 else 0
theorem Ak(w:World):(sizeOf 23).run prog w=.ok 1 w:=by kernel_rfl
theorem DW(C:Array Value)(z:Nat->Int)(r:Bool)(w:World)(h:cH C 17 z)(X:r=true↔qO z):
 Calls prog 140 #[.int .i64 6,.agg C] w fun e w'=>e=.returned (.bool r)/\Below w.heap.size w w':=by
 have W:Hid ((prog.info? 252).map (·.size)=some C.size):=by show _=_;rw[gT,h.size]
 have V:Hid (aY (w.alloc (.cells C 252)) w 252 C):=aY.new _ _ _;have S:=h.get 0 I;obtain⟨n,Z⟩:=aP (z 0);have U:=((cH.zero 17).set_ (k:=0) (v:=n) (by rw[<-Z];exact h.bd 0 I));have e:(Array.replicate 17 (Value.int .u64 0)).setIfInBounds 0 (.int .u64 n)= #[.int .u64 n,.int .u64 0,.int .u64 0,.int .u64 0,.int .u64 0,.int .u64 0,.int .u64 0,.int .u64 0,.int .u64 0,.int .u64 0,.int .u64 0,.int .u64 0,.int .u64 0,.int .u64 0,.int .u64 0,.int .u64 0,.int .u64 0]:=rfl;rw[e]at U;obtain⟨b,T,Q⟩:∃b:Bool,(b=true↔∀i,i<17->z i=if i=0 then n else 0)/\∀w:World,(Op.equalIn 10000 252 (.agg C) (.agg #[[n],.int .u64 0,.int .u64 0,.int .u64 0,.int .u64 0,.int .u64 0,.int .u64 0,.int .u64 0,.int .u64 0,.int .u64 0,.int .u64 0,.int .u64 0,.int .u64 0,.int .u64 0,.int .u64 0,.int .u64 0,.int .u64 0])).run prog w=.ok b w:=
  ⟨_,decide_eq_true_iff,fun w=>uH w 9998 17 underlying252 underlying23 Ak h.get U.get⟩
 rw[Z]at S;clear U e;by_cases Y:n<=4294967295
 .have R:decide (n<=4294967295)=true:=by simpa using Y
  obtain rfl:r=b:=by
   rw[Bool.eq_iff_iff,X,T];unfold qO;rw[Z];exact⟨fun h=>h.2,fun h=>⟨Y,h⟩⟩
  clear h X T Z
  go_enter func140,ntmps140
  go_wp2_with (refine eM rfl 252 _ rfl w rfl 252 C (0,0) _ V underlying252 rfl W ?_)
  go_ret;exact⟨rfl,by go_grown⟩
 have R:decide (n<=4294967295)=false:=by simpa using Y
 obtain rfl:r=false:=by
  rw[Bool.eq_false_iff];intro P;have:=(X.1 P).1;rw[Z]at this;exact Y this
 clear h X T Z
 go_enter func140,ntmps140
 go_wp2;go_ret;exact⟨rfl,by go_grown⟩
end
section
def cK(kind:Int)(z:Nat->Int):Prop:=
 if kind=5 then kQ z else if kind=6 then qO z else if kind=4 then gW z/\iJ (zW z (z 0).toNat)=true else 1<=kind/\kind<=3/\gW z
def VU(z:Nat->Int):Prop:=∀i,i<17->0<=z i/\z i<18446744073709551616
def zL(z:Nat->Int):List Int:=zW z (z 0).toNat
end
section
attribute [local go_sem↓] Go.wp_at_zero Go.wp_at_succ
def jI(a k v:Int):Int:=if cB a k v=true then(a*65536+k)*4294967296+v else 0
def jN(b:Bool)(e:Int):Int:=if b=true then 0 else e
theorem KJ(x y:Int)(n p:Nat)(Y:x=((2^n*p:Nat):Int))(X:0<=y)(W:y<((2^n:Nat):Int))(V:x+y<18446744073709551616):bits .or .u64 x y=x+y:=by
 obtain⟨m,rfl⟩:=Int.eq_ofNat_of_zero_le X;have Z:m<2^n:=I;subst Y;rw[u64_or_nat _ _ I I,<-Nat.two_pow_add_eq_or_of_lt Z];simp
theorem Gf:(2:Nat)^48=281474976710656:=by decide
theorem Eu:(2:Nat)^32=4294967296:=by decide
theorem NJ(a k v:Int)(Y:1<=a)(X:a<=6)(Z:0<=k)(W:k<=1000)(V:0<=v)(U:v<=4294967295):
 bits .or .u64 (bits .or .u64 (a*281474976710656) (k*4294967296)) v=(a*65536+k)*4294967296+v:=by
 obtain⟨p,rfl⟩:=Int.eq_ofNat_of_zero_le (show 0<=a by omega);obtain⟨q,rfl⟩:=Int.eq_ofNat_of_zero_le Z;rw[KJ ((p:Int)*281474976710656) ((q:Int)*4294967296) 48 p (by rw[Gf];omega) I (by rw[Gf];omega) I];rw[KJ _ v 32 (p*65536+q) (by rw[Eu];omega) I (by rw[Eu];omega) I];omega
theorem EJ(a v:Int)(Z:1<=a)(Y:a<=5)(X:0<=v)(W:v<=4294967295):bits .or .u64 (a*4294967296) v=a*4294967296+v:=by
 obtain⟨p,rfl⟩:=Int.eq_ofNat_of_zero_le (show 0<=a by omega);rw[KJ _ v 32 p (by rw[Eu];omega) I (by rw[Eu];omega) I]
theorem yC{x y:Int}{e:Value}(h:x=y):Ending.returned (.tuple #[[x],e])=.returned (.tuple #[[y],e]):=by rw[h]
theorem JT(a k v:Int)(w:World):Calls prog 90 #[.agg #[a,k,v]] w fun e w'=>e=.returned (.tuple #[[jI a k v],gS (jN (cB a k v) 1)])/\Below w w w':=by
 cases hr:cB a k v with
 |false=>
  have Z:jI a k v=0:=by unfold jI;rw[iN (by rw[hr];simp)]
  have Y:gS (jN false 1)=.iface 53 (1:Int):=by simp [jN,gS]
  rw[Z,Y];clear Z Y;have W:=aH hr;clear hr
  go_enter func90,ntmps90
  go_wp2_with (go_at_call 74;refine(nG _ _ _ _).mono ?_;rintro e T ⟨rfl,X⟩;rw[W.out])
  go_ret2
  exact⟨rfl,Below.trans (by go_grown) (X.mono (by simp))⟩
 |true=>
  have Z:jI a k v=(a*65536+k)*4294967296+v:=by unfold jI;rw[iP hr]
  have Y:gS (jN true 1)=.nilIface:=by simp [jN,gS]
  rw[Z,Y];clear Z Y;have V:1<=a/\a<=6/\0<=k/\k<=1000/\0<=v/\v<=4294967295:=by simpa [cB]using hr
  obtain⟨S,R,Q,P,O,N⟩:=V;have W:=aH hr;clear hr
  go_enter func90,ntmps90
  go_wp2_with (go_at_call 74;refine(nG _ _ _ _).mono ?_;rintro e T ⟨rfl,X⟩;rw[W.out];obtain⟨M,L⟩:=cJ X;have U:=X.size;simp only[World.size_alloc]at U)
  go_ret2
  exact⟨yC (NJ a k v S R Q P O N),Below.trans (by go_grown) (X.mono (by simp))⟩
theorem CE(a k v:Int)(w:World):Calls prog 116 #[.agg #[a,k,v]] w fun e w'=>e=.returned (.tuple #[[jI a k v],(jN (cB a k v) 1)])/\Below w w w':=by
 cases hr:cB a k v with
 |false=>
  have Z:jI a k v=0:=by unfold jI;rw[iN (by rw[hr];simp)]
  have Y:jN false 1=1:=by simp [jN]
  rw[Z,Y];clear Z Y;have W:=aH hr;clear hr
  go_enter func116,ntmps116
  go_wp2_with (go_at_call 20;refine(eK _ _ _ _).mono ?_;rintro e T ⟨rfl,X⟩;rw[W.out])
  go_ret2
  exact⟨rfl,Below.trans (by go_grown) (X.mono (by simp))⟩
 |true=>
  have Z:jI a k v=(a*65536+k)*4294967296+v:=by unfold jI;rw[iP hr]
  have Y:jN true 1=0:=by simp [jN]
  rw[Z,Y];clear Z Y;have V:1<=a/\a<=6/\0<=k/\k<=1000/\0<=v/\v<=4294967295:=by simpa [cB]using hr
  obtain⟨S,R,Q,P,O,N⟩:=V;have W:=aH hr;clear hr
  go_enter func116,ntmps116
  go_wp2_with (go_at_call 20;refine(eK _ _ _ _).mono ?_;rintro e T ⟨rfl,X⟩;rw[W.out];obtain⟨M,L⟩:=cJ X;have U:=X.size;simp only[World.size_alloc]at U)
  go_ret2
  exact⟨rfl,Below.trans (by go_grown) (X.mono (by simp))⟩
def fU(a v:Int):Bool:=decide (1<=a/\a<=5/\0<=v/\v<=4294967295/\(a=1\/v=0))
def iV(a v:Int):Int:=if fU a v=true then a*4294967296+v else 0
theorem sX(a v:Int)(w:World):Calls prog 122 #[.agg #[a,v]] w fun e w'=>e=.returned (fU a v)/\Below w w w':=by
 go_enter func122,ntmps122
 go_wp2
 all_goals(go_ret;refine⟨dF ?_,by go_grown⟩;simp_all [fU];try omega)
theorem nK(a v:Int)(w:World):Calls prog 104 #[.agg #[a,v]] w fun e w'=>e=.returned (fU a v)/\Below w w w':=by
 go_enter func104,ntmps104
 go_wp2_with (go_at_call 55;refine(bQ _ _ _ _).mono ?_;rintro e w' ⟨rfl,rfl⟩)
 all_goals(go_ret;refine⟨dF ?_,by go_grown⟩;simp_all [fU,bV];try omega)
theorem FV(a v:Int)(w:World):Calls prog 144 #[.agg #[a,v]] w fun e w'=>e=.returned (.tuple #[[iV a v],gS (jN (fU a v) 1)])/\Below w w w':=by
 cases hr:fU a v with
 |false=>
  have Z:iV a v=0:=by unfold iV;rw[iN (by rw[hr];simp)]
  have Y:gS (jN false 1)=.iface 53 (1:Int):=by simp [jN,gS]
  rw[Z,Y];clear Z Y;have W:=aH hr;clear hr
  go_enter func144,ntmps144
  go_wp2_with (go_at_call 122;refine(sX _ _ _).mono ?_;rintro e T ⟨rfl,X⟩;rw[W.out])
  go_ret2
  exact⟨rfl,Below.trans (by go_grown) (X.mono (by simp))⟩
 |true=>
  have Z:iV a v=a*4294967296+v:=by unfold iV;rw[iP hr]
  have Y:gS (jN true 1)=.nilIface:=by simp [jN,gS]
  rw[Z,Y];clear Z Y;have V:1<=a/\a<=5/\0<=v/\v<=4294967295/\(a=1\/v=0):=by simpa [fU]using hr
  obtain⟨S,R,Q,P,_⟩:=V;have W:=aH hr;clear hr
  go_enter func144,ntmps144
  go_wp2_with (go_at_call 122;refine(sX _ _ _).mono ?_;rintro e T ⟨rfl,X⟩;rw[W.out];obtain⟨O,N⟩:=cJ X;have U:=X.size;simp only[World.size_alloc]at U)
  go_ret2
  exact⟨yC (EJ a v S R Q P),Below.trans (by go_grown) (X.mono (by simp))⟩
theorem rF(a v:Int)(w:World):Calls prog 86 #[.agg #[a,v]] w fun e w'=>e=.returned (.tuple #[[iV a v],(jN (fU a v) 1)])/\Below w w w':=by
 cases hr:fU a v with
 |false=>
  have Z:iV a v=0:=by unfold iV;rw[iN (by rw[hr];simp)]
  have Y:jN false 1=1:=by simp [jN]
  rw[Z,Y];clear Z Y;have W:=aH hr;clear hr
  go_enter func86,ntmps86
  go_wp2_with (go_at_call 104;refine(nK _ _ _).mono ?_;rintro e T ⟨rfl,X⟩;rw[W.out])
  go_ret2
  exact⟨rfl,Below.trans (by go_grown) (X.mono (by simp))⟩
 |true=>
  have Z:iV a v=a*4294967296+v:=by unfold iV;rw[iP hr]
  have Y:jN true 1=0:=by simp [jN]
  rw[Z,Y];clear Z Y;have V:1<=a/\a<=5/\0<=v/\v<=4294967295/\(a=1\/v=0):=by simpa [fU]using hr
  obtain⟨S,R,Q,P,_⟩:=V;have W:=aH hr;clear hr
  go_enter func86,ntmps86
  go_wp2_with (go_at_call 104;refine(nK _ _ _).mono ?_;rintro e T ⟨rfl,X⟩;rw[W.out];obtain⟨O,N⟩:=cJ X;have U:=X.size;simp only[World.size_alloc]at U)
  go_ret2
  exact⟨rfl,Below.trans (by go_grown) (X.mono (by simp))⟩
def qL(a n:Int):Bool:=decide (1<=n/\n<=64/\0<=a/\a<=64-n)
def JU(x:Nat)(a n:Int):Nat:=if qL a n=true then x/2^a.toNat%2^n.toNat else 0
theorem xG(a n:Int)(w:World):Calls prog 131 #[a,n] w fun e w'=>e=.returned (qL a n)/\Below w w w':=by
 go_enter func131,ntmps131
 go_wp2
 all_goals(go_ret;refine⟨dF ?_,by go_grown⟩;simp_all [qL];try omega)
theorem LA(j:Nat):1<=2^j:=Nat.one_le_two_pow
theorem QO(j:Nat)(w:World)(R:j<=64):Calls prog 132 #[j] w fun e w'=>e=.returned [((2^j-1:Nat):Int)]/\Below w w w':=by
 by_cases h:j=64
 .subst h
  go_enter func132,ntmps132
  go_wp2;go_ret;exact⟨gU aJ,by go_grown⟩
 have X:j<64:=I;have Z:=rX X;have Y:=LA j;have W:IntKind.u64.wrap ((2:Int)^j)=((2^j:Nat):Int):=by
  have V:(2:Int)^j=((2^j:Nat):Int):=by simp
  rw[V];generalize 2^j=q at Z;exact IntWalk.u64_in _ I
 have U:=aH W;clear W;have T:=aH Y;have S:=aH Z;clear Y Z
 go_enter func132,ntmps132
 go_wp2;go_ret;refine⟨gU ?_,by go_grown⟩;have Y:=T.out;have Z:=S.out;rw[U.out];generalize 2^j=q at Y Z;rw[IntWalk.u64_in _ I];omega
theorem SU(x a j:Nat)(Y:x<18446744073709551616)(X:j<=64):bits .and .u64 ((x:Int)/2^a) ((2^j-1:Nat):Int)=((x/2^a%2^j:Nat):Int):=by
 have e:(x:Int)/2^a=((x/2^a:Nat):Int):=by simp
 have Z:2^j-1<18446744073709551616:=by
  have W:2^j<=2^64:=Nat.pow_le_pow_right aJ X;have V:(2:Nat)^64=18446744073709551616:=by decide
  have U:=LA j;omega
 rw[e,u64_and_nat _ _ (Nat.lt_of_le_of_lt (Nat.div_le_self _ _) Y) Z,Nat.and_two_pow_sub_one_eq_mod]
theorem WK(x:Nat)(a n:Int)(w:World)(T:x<18446744073709551616):Calls prog 121 #[[x],a,n] w fun e w'=>e=.returned (.tuple #[[((JU x a n:Nat):Int)],gS (jN (qL a n) 2)])/\Below w w w':=by
 cases hr:qL a n with
 |false=>
  have Z:JU x a n=0:=by unfold JU;rw[iN (by rw[hr];simp)]
  have Y:gS (jN false 2)=.iface 53 (2:Int):=by simp [jN,gS]
  rw[Z,Y];clear Z Y;have W:=aH hr;clear hr
  go_enter func121,ntmps121
  go_wp2_with (go_at_call 131;refine(xG _ _ _).mono ?_;rintro e Q ⟨rfl,X⟩;rw[W.out])
  go_ret2
  exact⟨rfl,X⟩
 |true=>
  have Z:JU x a n=x/2^a.toNat%2^n.toNat:=by unfold JU;rw[iP hr]
  have Y:gS (jN true 2)=.nilIface:=by simp [jN,gS]
  rw[Z,Y];clear Z Y;have S:1<=n/\n<=64/\0<=a/\a<=64-n:=by simpa [qL]using hr
  obtain⟨O,N,P,M⟩:=S;obtain⟨i,rfl⟩:=Int.eq_ofNat_of_zero_le P;obtain⟨j,rfl⟩:=Int.eq_ofNat_of_zero_le (show 0<=n by omega);have V:j<=64:=I;have W:=aH hr;clear hr;have R:=aH T;clear T;have U:(i:Int)<64:=I
  go_enter func121,ntmps121
  go_wp2_with (go_at_call 131;refine(xG _ _ _).mono ?_;rintro e Q ⟨rfl,X⟩;rw[W.out])
  refine aA 7 ?_
  iterate 7
   first
   |(refine aR1 ?_;constructor
     .intro w9 hw9 hc9 hf9;go_simp
      first
      |exact aE
      |(go_at_call 132;exact bS (QO j _ V)))
   |refine aU ?_
  refine bZ ?_;intro w9 hw9 hc9 hf9;go_wp2
  go_ret2
  exact⟨yC (by rw[SU x i j R.out V];simp),X.trans (hw9.same.mono X.size)⟩
theorem wT(x:Nat)(i j:Nat)(p:Nat)(w:World)(V:x<18446744073709551616)(R:1<=j/\i+j<=64)(U:x/2^i%2^j=p)(a n:Int)(T:a=i)(S:n=j):
 Calls prog 121 #[[x],a,n] w fun e w'=>e=.returned (.tuple #[[p],.nilIface])/\Below w w w':=by
 subst T S;have Z:qL i j=true:=by simp [qL];omega
 refine(WK x i j w V).mono fun e w' ⟨X,W⟩=>⟨?_,W⟩
 rw[X,Z];have Y:JU x i j=p:=by unfold JU;rw[iP Z];simpa using U
 rw[Y];simp [jN,gS]
def pF(p q:Int):Int:=if fU p q=true then p else 0
def pC(p q:Int):Int:=if fU p q=true then q else 0
theorem sN(x p q:Nat)(w:World)(F:x<18446744073709551616)(A:x/4294967296=p)(z:x%4294967296=q):
 Calls prog 99 #[[x]] w fun e w'=>e=.returned (.tuple #[.agg #[(pF p q),(pC p q)],gS (jN (fU p q) 3)])/\Below w w w':=by
 have y:(p:Int)<=4294967295:=I;have v:(q:Int)<=4294967295:=I;have U:(2:Nat)^32=4294967296:=by decide
 have E:∀w,_:=fun w=>wT x 32 32 p w F I (by rw[U,A];omega) 32 32 rfl rfl
 have D:∀w,_:=fun w=>wT x 0 32 q w F I (by rw[U,Nat.pow_zero,Nat.div_one,z]) 0 32 rfl rfl
 have C:=aH E;have B:=aH D;clear E D U F A z;cases hr:fU p q with
 |false=>
  have Q:pF p q=0:=by unfold pF;rw[iN (by rw[hr];simp)]
  have P:pC p q=0:=by unfold pC;rw[iN (by rw[hr];simp)]
  have O:gS (jN false 3)=.iface 53 (3:Int):=by simp [jN,gS]
  rw[Q,P,O];clear Q P O;have N:=aH hr;clear hr
  go_enter func99,ntmps99
  go_wp2_with (first
   |(go_at_call 121;(with_reducible refine(C.out _).mono ?_);rintro e L ⟨rfl,X⟩;have M:w.heap.size+1<=L:=(by have:=X.size;simpa using this);have T:=X.mono (show w.heap.size+1<=_ by simp))
   |(go_at_call 121;(with_reducible refine(B.out _).mono ?_);rintro e V ⟨rfl,W⟩;have u:w.heap.size+1<=V:=(by have:=W.size;omega);have S:=T.trans (W.mono M))
   |(go_at_call 122;refine(sX _ _ _).mono ?_;rintro e R ⟨rfl,Z⟩;rw[N.out];have t:V.heap.size+1<=R:=(by have:=Z.size;simpa using this);have Y:=S.trans (Below.trans (by go_grown) (Z.mono (show w.heap.size+1<=_ by simp;omega)));obtain⟨K,n⟩:=cJ Y;obtain⟨H,G⟩:=cJ Z;have s:V.heap.size<R:=I;have r:¬V.heap.size=w:=I;have o:Below w w R:=Below.trans (by go_grown) (Y.mono I)))
  refine bodyPost_ret (by simp [results,results99,go_sem,K];try rfl) rfl ?_;exact⟨rfl,by go_grown⟩
 |true=>
  have Q:pF p q=p:=by unfold pF;rw[iP hr]
  have P:pC p q=q:=by unfold pC;rw[iP hr]
  have O:gS (jN true 3)=.nilIface:=by simp [jN,gS]
  rw[Q,P,O];clear Q P O;have N:=aH hr;clear hr
  go_enter func99,ntmps99
  go_wp2_with (first
   |(go_at_call 121;(with_reducible refine(C.out _).mono ?_);rintro e L ⟨rfl,X⟩;have M:w.heap.size+1<=L:=(by have:=X.size;simpa using this);have T:=X.mono (show w.heap.size+1<=_ by simp))
   |(go_at_call 121;(with_reducible refine(B.out _).mono ?_);rintro e V ⟨rfl,W⟩;have u:w.heap.size+1<=V:=(by have:=W.size;omega);have S:=T.trans (W.mono M))
   |(go_at_call 122;refine(sX _ _ _).mono ?_;rintro e R ⟨rfl,Z⟩;rw[N.out];have t:V.heap.size+1<=R:=(by have:=Z.size;simpa using this);have Y:=S.trans (Below.trans (by go_grown) (Z.mono (show w.heap.size+1<=_ by simp;omega)));obtain⟨K,n⟩:=cJ Y;obtain⟨H,G⟩:=cJ Z;have s:V.heap.size<R:=I;have r:¬V.heap.size=w:=I;have o:Below w w R:=Below.trans (by go_grown) (Y.mono I)))
  refine bodyPost_ret (by simp [results,results99,go_sem,K];try rfl) rfl ?_;exact⟨rfl,by go_grown⟩
def KP(p k q y:Int):Int:=if cB p k q=true then y else 0
theorem aCi(x p k q:Nat)(w:World)(K:x<18446744073709551616)(c:x/65536/4294967296=p)(b:x/4294967296%65536=k)(o:x%4294967296=q):
 Calls prog 96 #[[x]] w fun e w'=>e=.returned (.tuple #[.agg #[(KP p k q p),(KP p k q k),(KP p k q q)],gS (jN (cB p k q) 3)])/\Below w w w':=by
 have n:(p:Int)<=65535:=I;have m:(k:Int)<=65535:=I;have l:(q:Int)<=4294967295:=I;have T:(2:Nat)^32=4294967296:=by decide
 have S:(2:Nat)^16=65536:=by decide
 have N:(2:Nat)^48=281474976710656:=by decide
 have z:∀w,_:=fun w=>wT x 48 16 p w K I (by rw[N,S];omega) 48 16 rfl rfl
 have v:∀w,_:=fun w=>wT x 32 16 k w K I (by rw[T,S];omega) 32 16 rfl rfl
 have u:∀w,_:=fun w=>wT x 0 32 q w K I (by rw[T,Nat.pow_zero,Nat.div_one,o]) 0 32 rfl rfl
 have t:=aH z;have s:=aH u;have r:=aH v;clear z u v T S N K c b o;cases hr:cB p k q with
 |false=>
  have M:∀y,KP p k q y=0:=fun y=>by unfold KP;rw[iN (by rw[hr];simp)]
  have L:gS (jN false 3)=.iface 53 (3:Int):=by simp [jN,gS]
  simp only[M,L];clear M L;have H:=aH hr;clear hr
  go_enter func96,ntmps96
  go_wp2_with (first
   |(go_at_call 121;(with_reducible refine(t.out _).mono ?_);rintro e E ⟨rfl,X⟩;have G:w.heap.size+1<=E:=(by have:=X.size;simpa using this);have R:=X.mono (show w.heap.size+1<=_ by simp))
   |(go_at_call 121;(with_reducible refine(r.out _).mono ?_);rintro e D ⟨rfl,W⟩;have F:w.heap.size+1<=D:=(by have:=W.size;omega);have Q:=R.trans (W.mono G))
   |(go_at_call 121;(with_reducible refine(s.out _).mono ?_);rintro e U ⟨rfl,V⟩;have j:w.heap.size+1<=U:=(by have:=V.size;omega);have P:=Q.trans (V.mono F))
   |(go_at_call 74;refine(nG _ _ _ _).mono ?_;rintro e O ⟨rfl,Z⟩;rw[H.out];have i:U.heap.size+1<=O:=(by have:=Z.size;simpa using this);have Y:=P.trans (Below.trans (by go_grown) (Z.mono (show w.heap.size+1<=_ by simp;omega)));obtain⟨C,d⟩:=cJ Y;obtain⟨B,A⟩:=cJ Z;have h:U.heap.size<O:=I;have g:¬U.heap.size=w:=I;have f:Below w w O:=Below.trans (by go_grown) (Y.mono I)))
  refine bodyPost_ret (by simp [results,results96,go_sem,C];try rfl) rfl ?_;exact⟨rfl,by go_grown⟩
 |true=>
  have M:∀y,KP p k q y=y:=fun y=>by unfold KP;rw[iP hr]
  have L:gS (jN true 3)=.nilIface:=by simp [jN,gS]
  simp only[M,L];clear M L;have H:=aH hr;clear hr
  go_enter func96,ntmps96
  go_wp2_with (first
   |(go_at_call 121;(with_reducible refine(t.out _).mono ?_);rintro e E ⟨rfl,X⟩;have G:w.heap.size+1<=E:=(by have:=X.size;simpa using this);have R:=X.mono (show w.heap.size+1<=_ by simp))
   |(go_at_call 121;(with_reducible refine(r.out _).mono ?_);rintro e D ⟨rfl,W⟩;have F:w.heap.size+1<=D:=(by have:=W.size;omega);have Q:=R.trans (W.mono G))
   |(go_at_call 121;(with_reducible refine(s.out _).mono ?_);rintro e U ⟨rfl,V⟩;have j:w.heap.size+1<=U:=(by have:=V.size;omega);have P:=Q.trans (V.mono F))
   |(go_at_call 74;refine(nG _ _ _ _).mono ?_;rintro e O ⟨rfl,Z⟩;rw[H.out];have i:U.heap.size+1<=O:=(by have:=Z.size;simpa using this);have Y:=P.trans (Below.trans (by go_grown) (Z.mono (show w.heap.size+1<=_ by simp;omega)));obtain⟨C,d⟩:=cJ Y;obtain⟨B,A⟩:=cJ Z;have h:U.heap.size<O:=I;have g:¬U.heap.size=w:=I;have f:Below w w O:=Below.trans (by go_grown) (Y.mono I)))
  refine bodyPost_ret (by simp [results,results96,go_sem,C];try rfl) rfl ?_;exact⟨rfl,by go_grown⟩
theorem vH(x p q:Nat)(w:World)(L:x<18446744073709551616)(K:x/4294967296=p)(H:x%4294967296=q):
 Calls prog 113 #[[x]] w fun e w'=>e=.returned (.tuple #[.agg #[(pF p q),(pC p q)],(jN (fU p q) 3)])/\Below w w w':=by
 have G:(x:Int)/4294967296=(p:Int):=I;have F:(x:Int)%4294967296=(q:Int):=I;have E:(p:Int)<=4294967295:=I;have D:(q:Int)<=4294967295:=I;clear K H;clear L;cases hr:fU p q with
 |false=>
  have W:pF p q=0:=by unfold pF;rw[iN (by rw[hr];simp)]
  have V:pC p q=0:=by unfold pC;rw[iN (by rw[hr];simp)]
  have U:jN false 3=3:=by simp [jN]
  simp only[W,V,U];clear W V U;have T:=aH hr;clear hr
  go_enter func113,ntmps113
  go_wp2_with (go_at_call 104;refine(nK _ _ _).mono ?_;rintro e X ⟨rfl,Z⟩;rw[T.out];have Y:Below (w,1) (w.alloc (.cells (2:Int) 44)) X:=Below.trans (by go_grown) (Z.mono (show w.heap.size+1<=_ by simp));obtain⟨R,M⟩:=cJ Y;obtain⟨Q,P⟩:=cJ Z;have S:=Z.size;simp only[World.size_alloc]at S;have O:w.heap.size+1<X:=I;have N:Below w w X:=Below.trans (by go_grown) (Y.mono I))
  refine bodyPost_ret (by simp [results,results113,go_sem,R];try rfl) rfl ?_;exact⟨rfl,by go_grown⟩
 |true=>
  have W:pF p q=p:=by unfold pF;rw[iP hr]
  have V:pC p q=q:=by unfold pC;rw[iP hr]
  have U:jN true 3=0:=by simp [jN]
  simp only[W,V,U];clear W V U;have T:=aH hr;clear hr
  go_enter func113,ntmps113
  go_wp2_with (go_at_call 104;refine(nK _ _ _).mono ?_;rintro e X ⟨rfl,Z⟩;rw[T.out];have Y:Below (w,1) (w.alloc (.cells (2:Int) 44)) X:=Below.trans (by go_grown) (Z.mono (show w.heap.size+1<=_ by simp));obtain⟨R,M⟩:=cJ Y;obtain⟨Q,P⟩:=cJ Z;have S:=Z.size;simp only[World.size_alloc]at S;have O:w.heap.size+1<X:=I;have N:Below w w X:=Below.trans (by go_grown) (Y.mono I))
  refine bodyPost_ret (by simp [results,results113,go_sem,R];try rfl) rfl ?_;exact⟨rfl,by go_grown⟩
theorem CS(x p k q:Nat)(w:World)(L:x<18446744073709551616)(K:x/65536/4294967296=p)(H:x/4294967296%65536=k)(G:x%4294967296=q):
 Calls prog 154 #[[x]] w fun e w'=>e=.returned (.tuple #[.agg #[(KP p k q p),(KP p k q k),(KP p k q q)],(jN (cB p k q) 3)])/\Below w w w':=by
 have F:(x:Int)/65536/4294967296=(p:Int):=I;have E:(x:Int)/4294967296%65536=(k:Int):=I;have D:(x:Int)%4294967296=(q:Int):=I;have C:(p:Int)<=65535:=I;have B:(k:Int)<=65535:=I;have A:(q:Int)<=4294967295:=I;clear K H G;clear L;cases hr:cB p k q with
 |false=>
  have W:∀y,KP p k q y=0:=fun y=>by unfold KP;rw[iN (by rw[hr];simp)]
  have V:True=True:=rfl;have U:jN false 3=3:=by simp [jN]
  simp only[W,V,U];clear W V U;have T:=aH hr;clear hr
  go_enter func154,ntmps154
  go_wp2_with (go_at_call 20;refine(eK _ _ _ _).mono ?_;rintro e X ⟨rfl,Z⟩;rw[T.out];have Y:Below (w,1) (w.alloc (.cells (3:Int) 39)) X:=Below.trans (by go_grown) (Z.mono (show w.heap.size+1<=_ by simp));obtain⟨R,M⟩:=cJ Y;obtain⟨Q,P⟩:=cJ Z;have S:=Z.size;simp only[World.size_alloc]at S;have O:w.heap.size+1<X:=I;have N:Below w w X:=Below.trans (by go_grown) (Y.mono I))
  refine bodyPost_ret (by simp [results,results154,go_sem,R];try rfl) rfl ?_;exact⟨rfl,by go_grown⟩
 |true=>
  have W:∀y,KP p k q y=y:=fun y=>by unfold KP;rw[iP hr]
  have V:True=True:=rfl;have U:jN true 3=0:=by simp [jN]
  simp only[W,V,U];clear W V U;have T:=aH hr;clear hr
  go_enter func154,ntmps154
  go_wp2_with (go_at_call 20;refine(eK _ _ _ _).mono ?_;rintro e X ⟨rfl,Z⟩;rw[T.out];have Y:Below (w,1) (w.alloc (.cells (3:Int) 39)) X:=Below.trans (by go_grown) (Z.mono (show w.heap.size+1<=_ by simp));obtain⟨R,M⟩:=cJ Y;obtain⟨Q,P⟩:=cJ Z;have S:=Z.size;simp only[World.size_alloc]at S;have O:w.heap.size+1<X:=I;have N:Below w w X:=Below.trans (by go_grown) (Y.mono I))
  refine bodyPost_ret (by simp [results,results154,go_sem,R];try rfl) rfl ?_;exact⟨rfl,by go_grown⟩
end
section
def yI(x:Int):Bool:=fU (x/4294967296) (x%4294967296)
def oz(z:Nat->Int):Nat->Int:=fun i=>z (1+i)
def dH(z:Nat->Int):Int:=if z 0<=4294967296 then z 0 else 4294967296
def FM(z:Nat->Int):Prop:=cK (dH z) (oz z)/\z 26<16/\z 28<=1099511627776/\z 27<=1099511627776
def BL(z:Nat->Int)(t:Nat):Prop:=(yI (z (18+t))=true\/z (18+t)=0)/\z (22+t)<=z 28/\(z (18+t)=0↔z (22+t)=0)
def pV(z:Nat->Int)(t:Nat):Prop:=BL z t/\∀u,u<t->z (22+t)≠0->z (22+u)≠z (22+t)
def eE(z:Nat->Int):Prop:=FM z/\(∀t,t<4->pV z t)/\z 29=0/\z 30=0/\z 31=0
