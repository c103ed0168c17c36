/-
  Part of a proof: ShSy ShSt ShSp ShBg. For all values.
-/
import Derived.Test.YtplpimkgihnmhaaGreatDoorA37
set_option maxRecDepth 100000
set_option maxHeartbeats 2000000
set_option linter.all false
namespace Go.Proofs.YtplpimkgihnmhaaGreatDoor
open Go.Proofs.Tryz Go.RowKit
section
section
variable{X:Nat->Prop}{w w':World}{tag tag':Nat->Nat}{m m':Nat->Int}{s:cN}{th:Nat->cQ}{tgl:Nat->Int}{fins:Nat->Bool}{st st':Nat}{hist:List (List Value)}{of:Nat->List (List Value)}{p gs mp go n:Nat}{pt:Nat->Nat}{H:Option Addr}{ch:Nat}{S:Nat->Prop}{t:Nat}{θ θ':cQ}
theorem RS.shop(h:RS X w tag m s th tgl fins st hist of p gs mp go n pt H ch)(hk:aD (cI p) w w')(hb:aY w' p 68 (yJ gs m' pt (st':Int) (.slice H hist.length ch) (.map (some go)))):RS X w' tag m' s th tgl fins st' hist of p gs mp go n pt H ch:=by
 have h1:∀b,cI p b->tag b=102:=fun b hb=>by rw[show b=p from hb];exact h.tp
 have ht:=bI.refl w tag
 exact⟨hb,(hk.block gs h.st_.lt fun e=>by have:=h1 _ e;have:=h.ts;omega).trans h.st_,h.wm.kept hk (fun e=>by have:=h1 _ e;have:=h.tm;omega),h.om.kept hk ht (fun b e=>by have:=h1 b e;omega),h.hi.keptT hk h.tH (fun b e=>by have:=h1 b e;omega),
  h.tp,h.ts,h.tm,h.tH,fun u hu hx=>(h.th_ u hu hx).kept hk ht (fun b e=>by have:=h1 b e;omega)⟩
theorem RS.setSt(h:RS X w tag m s th tgl fins st hist of p gs mp go n pt H ch)(x:Nat):RS X (w.setCell (p,21) x) tag m s th tgl fins x hist of p gs mp go n pt H ch:=by
 refine h.shop (bP _ _ _ _) ?_
 have:=h.sh.set_ 21 x
 rw[LW]at this
 exact this
theorem RS.event{A':Option Addr}{c':Nat}{row:List Value}(h:RS X w tag m s th tgl fins st hist of p gs mp go n pt H ch)(ho:cU w' 0 61 9 A' (hist.length+1) c' (hist++[row]))(hk:aD (iI H) w w')(hA:∀b,iI A' b->iI H b\/w<=b):
 RS X (w'.setCell (p,22) (.slice A' (hist.length+1) c')) (cG w tag 103) m s th tgl fins st (hist++[row]) of p gs mp go n pt A' c':=by
 have ht:=cO w tag 103
 have h1:=h.tH
 have Hp:=bP w' p 22 (.slice A' (hist.length+1) c')
 have hp:=(ht p h.sh.lt).trans h.tp
 have h2:∀b,cI p b->cG w tag 103 b=102:=fun b hb=>by rw[show b=p from hb];exact hp
 have tA:∀b,iI A' b->cG w tag 103 b=103:=fun b hb=>by
  rcases hA b hb with e|e
  .exact(ht b (by obtain⟨a,ha,rfl⟩:=e;exact(h.hi.lt a ha).2)).trans (h1 b e)
  exact dT _ _ _ e
 have Gs:aY w' p _ _:=(hk.block p h.sh.lt fun e=>by have:=h1 _ e;have:=h.tp;omega).trans h.sh
 have hl:(hist++[row]).length=hist.length+1:=by simp
 have hz:=hk.size
 refine⟨?_,(Hp.block gs (Nat.lt_of_lt_of_le h.st_.lt hz) fun e=>by have:=h2 _ e;have:=(ht gs h.st_.lt).trans h.ts;omega).trans ((hk.block gs h.st_.lt fun e=>by have:=h1 _ e;have:=h.ts;omega).trans h.st_),(h.wm.kept hk (fun e=>by have:=h1 _ e;have:=h.tm;omega)).kept Hp (fun e=>by have:=h2 _ e;have:=(ht mp h.wm.lt).trans h.tm;omega),(h.om.kept hk ht (fun b e=>by have:=h1 b e;omega)).kept Hp (bI.refl _ _) (fun b e=>by have:=h2 b e;omega),?_,hp,(ht gs h.st_.lt).trans h.ts,(ht mp h.wm.lt).trans h.tm,tA,fun u hu hx=>((h.th_ u hu hx).kept hk ht (fun b e=>by have:=h1 b e;omega)).kept Hp (bI.refl _ _) (fun b e=>by have:=h2 b e;omega)⟩
 .have hb:=Gs.set_ 22 (.slice A' (hist.length+1) c')
  rw[ND]at hb
  rw[hl];exact hb
 rw[hl];exact ho.keptT Hp tA (fun b e=>by have:=h2 b e;omega)
theorem RS.same(h:RS X w tag m s th tgl fins st hist of p gs mp go n pt H ch){th':Nat->cQ}{tgl':Nat->Int}{fins':Nat->Bool}(h1:∀u,u<4->th' u=th u)(h2:∀u,u<4->tgl' u=tgl u)(h3:∀u,u<4->fins' u=fins u):RS X w tag m s th' tgl' fins' st hist of p gs mp go n pt H ch:=
 ⟨h.sh,h.st_,h.wm,h.om,h.hi,h.tp,h.ts,h.tm,h.tH,fun u hu hx=>by rw[h1 u hu,h2 u hu,h3 u hu];exact h.th_ u hu hx⟩
theorem lT.cells{last last':Int}{q:Nat}{R:Option Addr}{cr:Nat}{D:Option Addr}{cd:Nat}{rows:List (List Value)}{fin fin':Bool}(h:lT w tag t θ last q R cr D cd rows fin)(hk:aD (cI q) w w')(hb:aY w' q 140 (vN t θ' last' (.slice R rows.length cr) (.slice D θ'.deeds.length cd) fin'))(hd:θ'.deeds=θ.deeds):lT w' tag t θ' last' q R cr D cd rows fin':=by
 have hn:∀b,cI q b->tag b=110+t:=fun b hb=>by rw[show b=q from hb];exact h.tg
 refine⟨hb,h.row.keptT hk h.tR (fun b z=>by have:=hn _ z;omega),?_,h.tg,h.tR,h.tD⟩
 rw[hd]
 exact h.deeds.keptT hk h.tD (fun b z=>by have:=hn _ z;omega)
end
def wM(k:Nat):Prop:=100<=k
def kK(w:World)(tag:Nat->Nat)(σ:pH)(p gs go:Nat)(pt:Nat->Nat):Prop:=
 ∃n mp H ch,n<=σ.steps/\RS IR w tag σ.m σ.s σ.th σ.tgl (fun _=>false) σ.steps σ.hist σ.of p gs mp go n pt H ch
def SI(w:World)(tag:Nat->Nat)(σ':pH)(p gs go:Nat)(pt:Nat->Nat)(w':World):Prop:=∃tag',Kg wM w tag w' tag'/\kK w' tag' σ' p gs go pt
section
variable{w w':World}{tag tag':Nat->Nat}{σ σ':pH}{p gs mp go:Nat}{pt:Nat->Nat}{S:Nat->Prop}
theorem kK.below(h:kK w tag σ p gs go pt)(hb:Below w w w'):kK w' tag σ p gs go pt:=by
 obtain⟨n,mp,H,ch,hn,hr⟩:=h
 exact⟨n,mp,H,ch,hn,hr.below hb (bI.refl _ _)⟩
theorem kK.kept(h:kK w tag σ p gs go pt)(hk:aD S w w')(ht:bI w tag tag')(hS:∀b,S b->tag b<100):kK w' tag' σ p gs go pt:=by
 obtain⟨n,mp,H,ch,hn,hr⟩:=h
 exact⟨n,mp,H,ch,hn,hr.kept hk ht hS⟩
theorem SI.same(h:kK w tag σ p gs go pt)(hb:Below w w w'):SI w tag σ p gs go pt w':=⟨tag,(Kg.refl _ _ _).below hb,h.below hb⟩
theorem kK.th(h:kK w tag σ p gs go pt){t:Nat}(ht:t<4):VQ w tag t (σ.th t) (σ.tgl t) p (pt t) false:=by
 obtain⟨n,mp,H,ch,hn,hr⟩:=h
 exact hr.th_ t ht trivial
theorem KK{θ:cQ}(d:θ.does=0):gF θ=[]:=by unfold gF;simp only[d]
theorem uW{m:Nat->Int}{s:cN}{th:Nat->cQ}{V t:Nat}(h:eX m s th V)(ht:t<4)(d:(th t).does≠0):∃c cs,gF (th t)=c::cs/\c.step=(th t).does:=by
 have Ta:=h.does t ht
 have hH:bO (th t).does->fO m s V t (th t):=fun hin=>(h.holder ht hin).2.1
 generalize hθ:th t=θ at*
 have hd:θ.does=1\/θ.does=2\/θ.does=3\/θ.does=4\/θ.does=5\/θ.does=6\/θ.does=7\/θ.does=8\/θ.does=9\/θ.does=10\/θ.does=11\/θ.does=12\/θ.does=13\/θ.does=14\/θ.does=15\/θ.does=16\/θ.does=17\/θ.does=18\/θ.does=19\/θ.does=20\/θ.does=21:=I
 rcases hd with d|d|d|d|d|d|d|d|d|d|d|d|d|d|d|d|d|d|d|d|d
 case inr.inr.inr.inr.inl=>
  have hh:=hH (by unfold bO;omega)
  unfold fO at hh
  simp only[d]at hh
  rw[d];unfold gF;simp only[d];rw[uT hh.2.2.1];exact⟨_,_,rfl,rfl⟩
 case inr.inr.inr.inr.inr.inr.inr.inl=>
  have hh:=hH (by unfold bO;omega)
  unfold fO at hh
  simp only[d]at hh
  rw[d];unfold gF;simp only[d];rw[uR _ hh.2.2.1];exact⟨_,_,rfl,rfl⟩
 case inr.inr.inr.inr.inr.inr.inr.inr.inl=>
  have hh:=hH (by unfold bO;omega)
  unfold fO at hh
  simp only[d]at hh
  rw[d];unfold gF;simp only[d];rw[uV _ hh.2.2.1];exact⟨_,_,rfl,rfl⟩
 all_goals(rw[d];unfold gF;simp only[d];exact⟨_,_,rfl,rfl⟩)
end
section
variable{X:Nat->Prop}{w w' w1:World}{tag tag':Nat->Nat}{m m':Nat->Int}{s:cN}{th:Nat->cQ}{tgl:Nat->Int}{fins:Nat->Bool}{st st':Nat}{hist:List (List Value)}{of:Nat->List (List Value)}{p gs mp go n:Nat}{pt:Nat->Nat}{H:Option Addr}{ch:Nat}{S:Nat->Prop}{t:Nat}{θ θ':cQ}
theorem iF.own{t:Nat}{θ:cQ}{e:mG}(h:iF w tag t θ e)(ht:t<4)(hk:aD S w w')(htl:bI w tag tag')(hS:∀b,S b->tag b=110+t\/tag b=120+t):iF w' tag' t θ e:=by
 have Qc:∀b,S b->tag b≠130+t:=fun b z=>by have:=hS b z;omega
 have Ux:∀b,S b->tag b≠140+t/\tag b≠160+t:=fun b z=>by have:=hS b z;omega
 have Tb:∀b,S b->tag b≠150+t:=fun b z=>by have:=hS b z;omega
 have Ya:∀b,S b->tag b≠170+t:=fun b z=>by have:=hS b z;omega
 have Yb:∀b,S b->tag b≠180+t:=fun b z=>by have:=hS b z;omega
 have Yc:∀b,S b->tag b≠190+t:=fun b z=>by have:=hS b z;omega
 unfold iF at h⊢
 split at h
 .exact⟨h.1.kept hk htl Qc,h.2.1.kept hk htl Ux,h.2.2.kept hk htl Tb⟩
 .obtain⟨h1,h2,z,h3,h4⟩:=h
  exact⟨h1.kept hk htl Qc,h2.kept hk htl Ux,z,h3.kept hk htl Tb,h4⟩
 .exact⟨h.1.kept hk htl Qc,h.2.1.kept hk htl Ux,h.2.2.kept hk htl Tb⟩
 .exact⟨h.1.kept hk htl Qc,h.2.1.kept hk htl Ux,h.2.2.kept hk htl Tb⟩
 .exact h.kept hk htl Tb
 iterate 5 exact⟨h.1.kept hk htl Qc,h.2.1.kept hk htl Ya,h.2.2.1.kept hk htl Yb,h.2.2.2.kept hk htl Yc⟩
 trivial
theorem RS.go1(h:RS IR w tag m s th tgl fins st hist of p gs mp go n pt H ch)(ht:t<4){e:mG}{R R':Option Addr}{cr cr':Nat}{D:Option Addr}{cd:Nat}{r:List Value}{rows:List (List Value)}{c:Cl}{cs:List Cl}(hth:lT w tag t (th t) (tgl t) (pt t) R cr D cd (r::rows) false)(hat:c.At w tag e r)(hrs:dD w tag e cs rows)(hen:iF w tag t (th t) e)(hp:e.p=p)(hq:e.q=pt t)
 (hb:Below w w w1) (ho:cU w1 w 142 2 R' rows.length cr' rows):
 ∃tag',Kg wM w tag (w1.setCell (pt t,1) (.slice R' rows.length cr')) tag'/\RS (TP t) (w1.setCell (pt t,1) (.slice R' rows.length cr')) tag' m s th tgl fins st hist of p gs mp go n pt H ch/\RC (w1.setCell (pt t,1) (.slice R' rows.length cr')) tag' (w1.setCell (pt t,1) (.slice R' rows.length cr')) tag' t (th t) (tgl t) e gs mp m pt s (st:Int) (.slice H hist.length ch) (.map (some go)) R' cr' D cd rows cs false/\c.At (w1.setCell (pt t,1) (.slice R' rows.length cr')) tag' e r/\iF (w1.setCell (pt t,1) (.slice R' rows.length cr')) tag' t (th t) e:=by
 have htl:=cO w tag (120+t)
 have Ny:aD bN w w1:=aD.of_same hb
 have Ma:=(htl _ hth.blk.lt).trans hth.tg
 have hkc:=bP w1 (pt t) 1 (.slice R' rows.length cr')
 have hn:∀b,cI (pt t) b->cG w tag (120+t) b=110+t:=fun b hb=>by rw[show b=pt t from hb];exact Ma
 have tR:∀b,iI R' b->cG w tag (120+t) b=120+t:=fun b hb=>dT _ _ _ (ho.high hb)
 have h1:=((h.less (TP t)).kept Ny htl (fun _ x=>x.elim))
 have h2:=h1.own ht hkc (bI.refl _ _) (fun b hb=>.inl (hn b hb))
 have Gs:aY w1 (pt t) 140 _:=(Ny.block _ hth.blk.lt (fun x=>x.elim)).trans hth.blk
 have Nd:lT (w1.setCell (pt t,1) (.slice R' rows.length cr')) (cG w tag (120+t)) t (th t) (tgl t) e.q R' cr' D cd rows false:=by
  rw[hq]
  exact⟨Gs.set_ 1 (.slice R' rows.length cr'),(ho.mono (Nat.zero_le _)).keptT hkc tR (fun b z=>by have:=hn _ z;omega),(hth.deeds.keptT Ny hth.tD (fun _ x=>x.elim)).keptT hkc (hth.deeds.tagT htl hth.tD) (fun b z=>by have:=hn _ z;omega),Ma,tR,hth.deeds.tagT htl hth.tD⟩
 have ha2:=(hat.kept Ny htl (fun _ x=>x.elim)).kept hkc (bI.refl _ _) (fun b z=>by have:=hn b z;omega)
 have hr2:=(hrs.kept Ny htl (fun _ x=>x.elim)).kept hkc (bI.refl _ _) (fun b z=>by have:=hn b z;omega)
 have he2:=(hen.kept Ny htl (fun _ x=>x.elim)).own ht hkc (bI.refl _ _) (fun b z=>.inl (hn b z))
 exact⟨_,(Kg.start hb htl).go (bI.refl _ _) hkc (fun b z=>by have:=hn b z;unfold wM;omega),h2,h2.rc ht hp Nd hr2,ha2,he2⟩
theorem RS.ended(h:RS IR w tag m s th tgl fins st hist of p gs mp go n pt H ch)(ht:t<4){x:Int}{f:Bool}(hk:aD (cI (pt t)) w w')(hb:∀Rv Dv,aY w (pt t) 140 (vN t (th t) (tgl t) Rv Dv (fins t))->aY w' (pt t) 140 (vN t (th t) x Rv Dv f)):
 RS IR w' tag m s th (fun u=>if u=t then x else tgl u) (fun u=>if u=t then f else fins u) st hist of p gs mp go n pt H ch:=by
 obtain⟨e,R,cr,D,cd,rows,h1,h2,h3,h4,h5⟩:=h.th_ t ht trivial
 have hn:∀b,cI (pt t) b->tag b=110+t:=fun b hb=>by rw[show b=pt t from hb];exact h1.tg
 have htl:=bI.refl w tag
 have h6:=(h.less (TP t)).own ht hk htl (fun b hb=>.inl (hn b hb))
 have h7:=h6.put (θ:=th t) (last:=x) (fin:=f) ⟨e,R,cr,D,cd,rows,h1.cells hk (hb _ _ h1.blk) rfl,h2.kept hk htl (fun b z=>by have:=hn b z;omega),h3.own ht hk htl (fun b z=>.inl (hn b z)),h4,h5⟩
 refine h7.same (fun u hu=>?_) (fun _ _=>rfl) (fun _ _=>rfl)
 unfold jG
 split
 .rename_i e;rw[e]
 rfl
end
theorem FB{N:Nat}{σ:pH}(hok:lM N σ){t:Nat}(ht:t<4):sE σ.of (σ.th t)=(σ.step t).of:=by
 show _=if(σ.th t).does=11 then AL σ.of (σ.V+1) (σ.th t).deeds else σ.of
 unfold sE
 by_cases e:(σ.th t).does=11
 .rw[iP e,iP e,(hok.inv.deeds ht e).2]
  rfl
 rw[iN e,iN e]
end
section
attribute [local go_sem↓] Go.wp_at_zero Go.wp_at_succ
theorem FI.tailIf{m:Nat}{w:World}{b off n c:Nat}{r:List Value}{rows:List (List Value)}(h:FI m w (some ⟨b,off,none⟩) (n+1) c (r::rows))(hm:1<=m):FI m w (if c=1 then some ⟨b,off,none⟩else some ⟨b,off+m,none⟩) n (c-1) rows:=by
 have hl:=h.len
 simp only[List.length_cons]at hl
 have h1:=h.cap
 have h2:=h.cap63
 refine⟨I,fun x hx=>h.each x (by simp [hx]),I,I,fun hn=>?_⟩
 obtain⟨b',off',e,hlt,hc⟩:=h.at_ I
 cases e
 refine⟨b,off+m,by rw[iN I],hlt,fun i r' hi j v hj=>?_⟩
 have:=hc (i+1) r' (by simpa using hi) j v hj
 rw[show off+m+i*m+j=off+(i+1)*m+j by rw[Nat.add_mul];omega]
 exact this
theorem eC{P:Program}{f:FuncId}{fn:Func}{c:Code}(hf:P.funcs[f]? =some fn)(hname:(fn.name== "runtime.NumGoroutine")=false)(hb:fn.body=some c)(args:Array Value)(w:World):(callFunc f args).run P w=.ok (.enter f args) w:=by
 unfold callFunc
 simp [go_sem,hf,hname,hb]
 intro e
 rw[e]at hname
 simp at hname
theorem Cl.At.enters{w:World}{tag:Nat->Nat}{e:mG}{c:Cl}{r:List Value}(h:c.At w tag e r):∃N caps,r=td c.step (fv N caps)/\∀args W,(callFunc N args).run prog W=.ok (.enter N args) W:=by
 cases c<;>unfold Cl.At at h
 case says1=>obtain⟨a,b,h,_⟩:=h;exact⟨_,_,h,eC (fn:=Tryz.f115) J J rfl⟩
 case says2=>obtain⟨a,b,h,_⟩:=h;exact⟨_,_,h,eC (fn:=Tryz.f117) J J rfl⟩
 case lock=>obtain⟨a,b,h,_⟩:=h;exact⟨_,_,h,eC (fn:=Tryz.f126) J J rfl⟩
 case which=>obtain⟨a,h,_⟩:=h;exact⟨_,_,h,eC (fn:=Tryz.f137) J J rfl⟩
 case copy=>obtain⟨a,b,c,d,h,_⟩:=h;exact⟨_,_,h,eC (fn:=Tryz.f138) J J rfl⟩
 case asks=>obtain⟨a,b,c,d,x,y,h,_⟩:=h;exact⟨_,_,h,eC (fn:=Tryz.f152) J J rfl⟩
 case fetch=>obtain⟨a,b,c,d,x,y,z,h,_⟩:=h;exact⟨_,_,h,eC (fn:=Tryz.f153) J J rfl⟩
 case write=>obtain⟨a,b,c,d,h,_⟩:=h;exact⟨_,_,h,eC (fn:=Tryz.f171) J J rfl⟩
 case wish=>obtain⟨a,b,c,d,h,_⟩:=h;exact⟨_,_,h,eC (fn:=Tryz.f172) J J rfl⟩
 case firm=>obtain⟨a,b,h,_⟩:=h;exact⟨_,_,h,eC (fn:=Tryz.f174) J J rfl⟩
 case index=>obtain⟨a,b,c,h,_⟩:=h;exact⟨_,_,h,eC (fn:=Tryz.f176) J J rfl⟩
 case wish2=>obtain⟨a,b,h,_⟩:=h;exact⟨_,_,h,eC (fn:=Tryz.f177) J J rfl⟩
 case firm2=>obtain⟨a,b,h,_⟩:=h;exact⟨_,_,h,eC (fn:=Tryz.f178) J J rfl⟩
 case tell=>obtain⟨a,b,h,_⟩:=h;exact⟨_,_,h,eC (fn:=Tryz.f179) J J rfl⟩
 case unlock=>obtain⟨a,h,_⟩:=h;exact⟨_,_,h,eC (fn:=Tryz.f180) J J rfl⟩
 case reply=>obtain⟨a,h,_⟩:=h;exact⟨_,_,h,eC (fn:=Tryz.f181) J J rfl⟩
 case look1=>obtain⟨a,h,_⟩:=h;exact⟨_,_,h,eC (fn:=Tryz.f108) J J rfl⟩
 case look2=>obtain⟨a,h,_⟩:=h;exact⟨_,_,h,eC (fn:=Tryz.f109) J J rfl⟩
 case look3=>obtain⟨a,b,h,_⟩:=h;exact⟨_,_,h,eC (fn:=Tryz.f110) J J rfl⟩
 case look4=>obtain⟨a,b,h,_⟩:=h;exact⟨_,_,h,eC (fn:=Tryz.f111) J J rfl⟩
 case look5=>obtain⟨a,b,h,_⟩:=h;exact⟨_,_,h,eC (fn:=Tryz.f112) J J rfl⟩
section
variable{w:World}{tag:Nat->Nat}{σ:pH}{p gs mp go:Nat}{pt:Nat->Nat}{N:Nat}
theorem kK.cth(h:kK w tag σ p gs go pt){t:Nat}(ht:t<4):w.cell? (p,17+t)=(pt t,0)/\p<w:=by
 obtain⟨n,mp,H,ch,hn,hr⟩:=h
 exact⟨by rw[hr.sh.cell,BN _ _ _ _ _ _ ht];rfl,hr.sh.lt⟩
theorem xI(h:kK w tag σ p gs go pt)(hok:lM N σ){t:Nat}(ht:t<4):Calls prog 19 #[(p,0),t] w fun e w'=>e=.returned ((σ.th t).does:Int)/\w=w':=by
 obtain⟨Yq,hlp⟩:=h.cth ht
 obtain⟨e,R,cr,D,cd,rows,hth,hrs,hen,hp,hq⟩:=h.th ht
 have hwi:bV (t:Int) 0 3=true:=by unfold bV;rw[decide_eq_true_eq];omega
 have Mv:=aH hwi
 have q0:¬(t:Int)<0:=I
 have q4:(t:Int)<4:=I
 have Ma:w.cell? (pt t,1)=some (.slice R rows.length cr):=by rw[hth.blk.cell];rfl
 have hlq:=hth.blk.lt
 by_cases d:(σ.th t).does=0
 .rw[KK d]at hrs
  have Zh:rows=[]:=by cases rows with|nil=>rfl|cons _ _=>exact hrs.elim
  subst Zh
  rw[d]
  have hq1':w.cell? (pt t,1)=some (.slice R 0 cr):=Ma
  clear Ma hth hrs hen h hwi d
  go_enter func19,ntmps19
  go_wp2_with (go_at_call 55;refine(bQ _ _ _ _).mono ?_;rintro e w' ⟨rfl,rfl⟩;rw[Mv.out])
  go_ret
  exact⟨rfl,rfl⟩
 obtain⟨c,cs,hcs,hst⟩:=uW hok.inv ht d
 rw[hcs]at hrs
 cases rows with
 |nil=>exact hrs.elim
 |cons r rows=>
  obtain⟨hat,hrs⟩:=hrs
  obtain⟨M,caps,rfl,_⟩:=hat.enters
  rw[hst]at hth
  have hsl:=hth.row.slr
  obtain⟨ga,off,rfl,hgl,hcell⟩:=hsl.at_ (by simp)
  have h0:w.cell? (ga,off)=((σ.th t).does:Int):=by
   have:=hcell 0 _ rfl 0 _ rfl
   simpa using this
  have hq1':w.cell? (pt t,1)=some (.slice (some ⟨ga,off,none⟩) (rows.length+1) cr):=Ma
  have q5:¬rows.length+1=0:=I
  have q6:¬((rows.length+1:Nat):Int)=0:=I
  have q7:¬(rows.length:Int)+1=0:=I
  have q8:(0:Int)<(rows.length:Int)+1:=I
  have hcap:=hsl.cap63
  have Ml:=hsl.cap
  simp only[List.length_cons]at Ml
  clear Ma hth hrs hen h hwi hat hcell hsl hcs hst hok
  go_enter func19,ntmps19
  go_wp2_with (go_at_call 55;refine(bQ _ _ _ _).mono ?_;rintro e w' ⟨rfl,rfl⟩;rw[Mv.out])
  go_ret
  exact⟨rfl,rfl⟩
end
theorem SG{k k' N N':Nat}{c c':Array Value}(h:td k (fv N c)=td k' (fv N' c')):N=N'/\c=c':=by
 unfold td fv at h
 simp only[List.cons.injEq,Value.func.injEq,Fn.func.injEq]at h
 exact⟨h.2.1.1,h.2.1.2.2⟩
section
variable{w:World}{tag:Nat->Nat}{σ:pH}{p gs mp go:Nat}{pt:Nat->Nat}{N:Nat}
def KR(w:World)(tag:Nat->Nat)(σ:pH)(p:Nat)(pt:Nat->Nat)(t:Nat)(e:mG)(ga:Nat)(cr:Nat)(D:Option Addr)(cd:Nat)(M:Nat)(caps:Array Value)(rows:List (List Value))(c:Cl)(cs:List Cl):Prop:=
 lT w tag t (σ.th t) (σ.tgl t) (pt t) (some ⟨ga,0,none⟩) cr D cd (td (σ.th t).does (fv M caps)::rows) false/\c.At w tag e (td (σ.th t).does (fv M caps))/\dD w tag e cs rows/\iF w tag t (σ.th t) e/\e.p=p/\e.q=pt t/\gF (σ.th t)=c::cs/\∀args W,(callFunc M args).run prog W=.ok (.enter M args) W
theorem ZI{st:Nat}{m:Nat->Int}{s:cN}{hist:List (List Value)}{of:Nat->List (List Value)}{n:Nat}{H:Option Addr}{ch:Nat}(h:RS IR w tag m s σ.th σ.tgl (fun _=>false) st hist of p gs mp go n pt H ch)(hok:lM N σ){t:Nat}(ht:t<4)(d:(σ.th t).does≠0):∃e ga cr D cd M caps rows c cs,KR w tag σ p pt t e ga cr D cd M caps rows c cs:=by
 obtain⟨e,R,cr,D,cd,rows,hth,hrs,hen,hp,hq⟩:=h.th_ t ht trivial
 obtain⟨c,cs,hcs,hst⟩:=uW hok.inv ht d
 rw[hcs]at hrs
 cases rows with
 |nil=>exact hrs.elim
 |cons r rows=>
  obtain⟨hat,hrs⟩:=hrs
  obtain⟨M,caps,rfl,hin⟩:=hat.enters
  rw[hst]at hth hat
  rcases hth.row.own.2 with⟨h2,_⟩|⟨g',cap,cur,hv,hb,hg,Iz,Hk,hs,htk⟩
  .exact absurd (congrArg (fun v=>match v with|Value.slice _ n _=>n|_=>0) h2) (by simp)
  .simp only[Value.slice.injEq]at hv
   obtain⟨rfl,_,_⟩:=hv
   exact⟨e,g',cr,D,cd,M,caps,rows,c,cs,hth,hat,hrs,hen,hp,hq,hcs,hin⟩
theorem KR.below{w':World}{tag':Nat->Nat}{t:Nat}{e:mG}{ga:Nat}{cr:Nat}{D:Option Addr}{cd:Nat}{M:Nat}{caps:Array Value}{rows:List (List Value)}{c:Cl}{cs:List Cl}(h:KR w tag σ p pt t e ga cr D cd M caps rows c cs)(hb:Below w w w')(ht:bI w tag tag'):KR w' tag' σ p pt t e ga cr D cd M caps rows c cs:=by
 obtain⟨h1,h2,h3,h4,h5⟩:=h
 have hk:aD bN w w':=aD.of_same hb
 exact⟨h1.below hb ht,h2.kept hk ht (fun _ x=>x.elim),h3.below hb ht,h4.kept hk ht (fun _ x=>x.elim),h5⟩
theorem Kg.keepL{w':World}{tag':Nat->Nat}{b:Nat}{ty:TypeId}{cs:Array Value}(hk:Kg wM w tag w' tag')(h:LB w tag b ty cs):LB w' tag' b ty cs:=h.kept hk.k hk.t (fun b hb=>by have hb':100<=tag b:=hb;omega)
theorem BJ{t:Nat}(ht:t<4):∀k,CM t k->wM k:=fun k h=>by unfold CM yL at h;unfold wM;omega
theorem dD.one{e:mG}:∀{cs:List Cl} {rs:List (List Value)},dD w tag e cs rs->∀r∈rs,∀u∈r,u.oneCell'=true
 |[],[],_,r,hr,_,_=>by cases hr
 |c::cs,x::rs,h,r,hr,u,hu=>by
  rcases List.mem_cons.1 hr with rfl|hr
  .obtain⟨f,caps,rfl⟩:=h.1.name
   simp only[td,List.mem_cons,List.not_mem_nil,or_false]at hu
   rcases hu with rfl|rfl<;>rfl
  .exact dD.one h.2 r hr u hu
theorem tC{P:Program}{ops:Array Oper}{Q:Exit->Act->World->Prop}{rest:List Oper}{o:Oper}{a:Act}{w:World}{v:Value}(hg:o.guard=none)(hr:(execOp a.eval o).run P w=.ok (.value v) w)(h:wpList P ops Q rest (a.put o.dst v) w):wpList P ops Q (o::rest) a w:=by
 refine wpList_step fun K Yx=>?_
 rw[iP (by unfold Region.wanted;rw[hg])]
 unfold Oper.wp
 rw[hr]
 exact Yx _ _ h
theorem YU(w:World):(sizeOf 142).run prog w=.ok 2 w:=J
theorem CL(a:Act)(w:World)(x:Operand)(ga n c:Nat)(XA:Option Addr)(hx:a.eval x=.slice (some ⟨ga,0,none⟩) (n+1) c)(hc:n+1<=c)(hX:XA=if c=1 then some ⟨ga,0,none⟩else some ⟨ga,0+2,none⟩)(o:Oper)(ho:o.op=.slice 138 x (some (.const (1:Int))) none none):
 (execOp a.eval o).run prog w=.ok (.value (.slice XA n (c-1))) w:=by
 unfold execOp
 have he:a.eval (.const (1:Int))=.int .i64 1:=rfl
 simp only[ho,hx,Option.map_some,Option.map_none,he]
 clear he hx
 have q1:(1:Int)<=(n:Int)+1:=I
 have hz:=YU
 by_cases h1:c=1
 .subst h1
  obtain rfl:n=0:=I
  rw[iP rfl]at hX
  subst hX
  go_simp
 rw[iN h1]at hX
 subst hX
 go_simp
theorem wW(θ:cQ):(gF θ).length<=100:=by
 unfold gF
 split<;>simp [kG,kB,jP,qI]<;>omega
theorem YZ(h:kK w tag σ p gs go pt)(hok:lM N σ)(hN:N<=100000000)(hsb:AR σ){t:Nat}(ht:t<4)(d:(σ.th t).does≠0)(hfin:(σ.loc t).fin=false):
 Calls prog 24 #[(p,0),t] w fun e w'=>e=.returned (.tuple #[.agg (2:Int),false,(0:Int)])/\SI w tag (σ.step t) p gs go pt w':=by
 obtain⟨n,mp,H,ch,hn,hr⟩:=h
 have hwi:bV (t:Int) 0 3=true:=by unfold bV;rw[decide_eq_true_eq];omega
 have Mv:=aH hwi
 have Hc:Hid (RS IR (w.alloc (.cells (2:Int) 44)) (cG w tag 0) σ.m σ.s σ.th σ.tgl (fun _=>false) σ.steps σ.hist σ.of p gs mp go n pt H ch):=aH (hr.below ((Below.refl _ _).alloc (Nat.le_refl _) _) (cO _ _ _))
 have Hj:Hid (Kg wM w tag (w.alloc (.cells (2:Int) 44)) (cG w tag 0)):=aH (Kg.start ((Below.refl _ _).alloc (Nat.le_refl _) _) (cO _ _ _))
 have Jx:Hid (LB (w.alloc (.cells (2:Int) 44)) (cG w tag 0) w 44 (2:Int)):=aH ⟨dT _ _ _ (Nat.le_refl _),aY.new _ _ _⟩
 have HD:=aH (xI (t:=t) (⟨n,mp,H,ch,hn,Hc.out⟩:kK (w.alloc (.cells (2:Int) 44)) (cG w tag 0) σ p gs go pt) hok ht)
 have Kw:=aH hok
 have Vk:=Lib.hid hsb
 have HDD:=Lib.hid d
 have HN:=Lib.hid hn
 have q0:¬((σ.th t).does:Int)=0:=by omega
 have Qg:=Lib.hid hfin
 clear hfin
 clear hr hok hsb d hwi hn
 go_enter func24,ntmps24
 go_upto_region 1 with(fail)
 show Code.wp _ _ _ _ (w.alloc (.cells #[.int .i64 0,.int .i64 0] 44))
 generalize(w.alloc (.cells #[.int .i64 0,.int .i64 0] 44))=w1 at*
 generalize cG w tag 0=Ha at*
 obtain⟨b0,Mz⟩:=aO w.heap.size
 have HLW:Hid (w.heap.size<=b0):=Lib.hid (by omega)
 rw[<-Mz]at Jx
 rw[<-Mz]
 clear Mz
 go_wp2_with (go_at_call 55;refine(bQ _ _ _ _).mono ?_;rintro e w' ⟨rfl,rfl⟩;rw[Mv.out])
 with_reducible refine HD.out.mono ?_
 rintro e w1' ⟨rfl,rfl⟩
 have hp1:=Hc.sh.lt
 have Mm:w1.cell? ⟨p,21,none⟩=some (.int .i64 (σ.steps:Int)):=by rw[Hc.sh.cell,xD]
 have f21:=Hc.sh.frozen 21
 have hst:=Kw.stp
 have k1:IntKind.i64.wrap ((σ.steps:Int)+1)=(σ.steps:Int)+1:=dE (by omega) (by omega)
 have Hf:=Lib.hid (Hc.setSt (σ.steps+1))
 have Tp:∀b,cI p b->Ha b=102:=fun b hb=>by rw[show b=p from hb];exact Hc.tp
 have Hy:=Lib.hid (Hj.go (bI.refl _ _) (bP w1 p 21 (.int .i64 ((σ.steps+1:Nat):Int))) (fun b hb=>by unfold wM;rw[Tp b hb];omega))
 have It:=Lib.hid (Jx.kept (bP w1 p 21 (.int .i64 ((σ.steps+1:Nat):Int))) (bI.refl _ _) (fun b hb=>by rw[Tp b hb];omega))
 rw[show((σ.steps+1:Nat):Int)=(σ.steps:Int)+1 by omega]at Hf Hy It
 clear HD Hc Hj Jx Tp
 go_upto_region 6 with(fail)
 show Code.wp _ _ _ _ (w1.setCell ⟨p,21,none⟩ (.int .i64 ((σ.steps:Int)+1)))
 generalize w1.setCell ⟨p,21,none⟩ (.int .i64 ((σ.steps:Int)+1))=w2 at*
 clear hp1 Mm f21 k1 q0
 refine aS ?_
 have Yq:w2.cell? (p,17+t)=(pt t,0):=by rw[Hf.sh.cell,BN _ _ _ _ _ _ ht];rfl
 have Un:=Hf.sh.lt
 obtain⟨e,ga,cr,D,cd,M,caps,rows,c,cs,hra⟩:=ZI Hf Kw ht HDD
 have hsl:=hra.1.row.slr
 have r0:w2.cell? (ga,0)=((σ.th t).does:Int):=by
  obtain⟨b',off',e1,hlt,hc⟩:=hsl.at_ (by simp)
  cases e1
  have:=hc 0 _ rfl 0 _ rfl
  simpa using this
 have r1:w2.cell? (ga,1)=some (.func (.func M) #[] caps):=by
  obtain⟨b',off',e1,hlt,hc⟩:=hsl.at_ (by simp)
  cases e1
  have:=hc 0 _ rfl 1 _ rfl
  simpa [fv]using this
 have hga:ga<w2:=by
  obtain⟨b',off',e1,hlt,hc⟩:=hsl.at_ (by simp)
  cases e1
  exact hlt
 have q1:w2.cell? (pt t,1)=some (.slice (some ⟨ga,0,none⟩) (rows.length+1) cr):=by rw[hra.1.blk.cell];rfl
 have Ol:=hra.1.blk.lt
 have t4:(t:Int)<4:=I
 have q5:¬(rows.length:Int)+1=0:=I
 have q8:(0:Int)<(rows.length:Int)+1:=I
 have hcap:=hsl.cap63
 have Ml:=hsl.cap
 simp only[List.length_cons]at Ml
 have Le:Below w2 w2 (w2.alloc (.cells #[((σ.th t).does:Int),.func (.func M) #[] caps] 142)):=(Below.refl _ _).alloc (Nat.le_refl _) _
 have Vl:=aH ((hsl.tailIf I).below Le)
 have Hi:=aH (Hf.below Le (cO w2 Ha 0))
 have Mt:=aH (Hy.trans (Kg.start Le (cO w2 Ha 0)))
 have Ms:=aH (It.kept (S:=bN) (aD.of_same Le) (cO w2 Ha 0) (fun _ x=>x.elim))
 have HX3:Hid (LB (w2.alloc (.cells #[((σ.th t).does:Int),.func (.func M) #[] caps] 142)) (cG w2 Ha 0) w2 142 #[((σ.th t).does:Int),.func (.func M) #[] caps]):=aH ⟨dT _ _ _ (Nat.le_refl _),aY.new _ _ _⟩
 have Tq:=aH (hra.below Le (cO w2 Ha 0))
 have H1:=aH hra.2.2.1.one
 have hlen:rows.length<=100:=by
  have h1:=hra.2.2.1.len
  have h2:=wW (σ.th t)
  rw[hra.2.2.2.2.2.2.1,List.length_cons]at h2
  omega
 obtain⟨i0,Is,Ib,Io,Hh⟩:=wL
 have HI:=aH Is
 have HZ:=aH Ib
 have HS:=aH Io
 have HY:=aH Hh
 clear Is Ib Io Hh Le
 obtain⟨XA,Za⟩:∃XA,XA=(if cr=1 then some (⟨ga,0,none⟩:Addr)else some ⟨ga,0+2,none⟩):=⟨_,rfl⟩
 rw[<-Za]at Vl
 have HXA:=aH Za
 have Yr:=aH Ml
 clear Za
 have Pu:=hra.2.2.2.2.2.2.2
 clear hsl hra Hf Hy It
 refine aW ?_
 go_upto_region 8 with(fail)
 show Code.wp _ _ _ _ (w2.alloc (.cells #[((σ.th t).does:Int),.func (.func M) #[] caps] 142))
 generalize(w2.alloc (.cells #[((σ.th t).does:Int),.func (.func M) #[] caps] 142))=w3 at*
 generalize w2.heap.size=b3 at*
 generalize cG w2 Ha 0=Kc at*
 have q1c:w3.cell? (pt t,1)=some (.slice (some ⟨ga,0,none⟩) (rows.length+1) cr):=by rw[Tq.out.1.blk.cell];rfl
 have f1c:=Tq.out.1.blk.frozen 1
 have Pr:=Tq.out.1.blk.lt
 clear Yq Un r0 r1 hga q1 Ol
 go_upto_region 9 with(first
  |(refine tC rfl (CL _ _ (.tmp 41) ga rows.length cr XA rfl Yr HXA _ rfl) ?_)
  |(refine pY (.const (.slice none 0 0)) (.tmp 42) rfl rfl underlying138 HI HZ HS HY rfl aJ aJ (A:=none) (n:=0) (c:=0) (rows:=[]) rfl (cU.nil _ w3 _ _) (X:=XA) (k:=rows.length) (d:=cr-1) (xs:=rows) rfl Vl H1 I (Nat.le_refl _) ?_;rintro A1 c1 w4 Vi Hu Zb;have Lh:Below w3 w3 w4:=Hu.below (Nat.le_refl _) (fun b _ hb=>by obtain⟨a,ha,_⟩:=hb;cases ha);have q1b:=(Lh.cell (p:=⟨pt t,1,none⟩) Pr).trans q1c;have Nq:=(Lh.frozen (p:=⟨pt t,1,none⟩) Pr).trans f1c;have hq4:pt t<w4:=Nat.lt_of_lt_of_le Pr Lh.size;have Ug:=aH Vi;have Kj:=aH Lh;clear Vi Hu Zb Lh))
 show Code.wp _ _ _ _ (w4.setCell (pt t,1) (.slice A1 rows.length c1))
 refine aS ?_
 have Rh:Hid (cU w4 w3 142 2 A1 rows.length c1 rows):=aH (by simpa using Ug.out)
 obtain⟨h1,h2,h3,h4,h5,h6,h7,h8⟩:=Tq.out
 obtain⟨Kd,Qj,Zc,Tv,Tw,Tx⟩:=Hi.go1 ht h1 h2 h3 h4 h5 h6 Kj Rh
 have Ri:=aH (Mt.trans Qj)
 have Wh:=aH Zc
 have Qn:=aH (Qj.keepL Ms)
 have Ys:=aH (Qj.keepL HX3)
 have hv:=Kw.ver
 have hs5:=Kw.stp
 have hfl:=Kw.fl
 have hfe:=Kw.fe
 have hn5:=HN.out
 have Yt:=aH (And.intro h5 h6)
 obtain⟨M',caps',he',hcall⟩:=Fs (n:=n) Kw.inv HDD Tv h7 Tw Tx rfl Zc.om I I I I (Vk.out t ht)
 obtain⟨rfl,rfl⟩:=SG he'
 have Hn:=aH hcall
 clear h1 h2 h3 h4 h5 h6 h7 h8 Qj Zc Tv Tw Tx hcall he' Ug Rh Hi Mt Ms HX3 Tq Kj Vl H1 HXA hv hfl hfe hn5
 refine aW ?_
 generalize(w4.setCell (pt t,1) (.slice A1 rows.length c1))=w5 at*
 have x1:w5.cell? (b3,1)=some (.func (.func M) #[] caps):=Ys.cell 1
 have hl3:=Ys.out.2.lt
 clear q1c f1c Pr q1b Nq hq4
 go_wp2_with fail
 (try simp only[Array.empty_append,Array.append_empty])
 with_reducible refine Hn.out.mono ?_
 rintro e' w6 ⟨rfl,hout⟩
 refine aS ?_
 obtain⟨Jb,n6,Xr,Zd,hr6⟩:=Wh.back ht Yt.out.1 Yt.out.2 hout
 have Wo:=aH (Ri.trans (Zd.mono (BJ ht)))
 have Lg:=aH ((Zd.mono (BJ ht)).keepL Qn)
 have HN6:=aH Xr
 have Vm:Hid (RS IR w6 Jb (σ.loc t).m (σ.loc t).s (jG σ.th t (σ.loc t).t) (fun u=>if u=t then σ.tgl t else σ.tgl u) (fun u=>if u=t then(σ.loc t).fin else false) (σ.steps+1) σ.hist (sE σ.of (σ.th t)) p gs mp go n6 pt H ch):=aH hr6
 clear hout Zd hr6 Xr x1 hl3 Ri Wh Qn Ys Hn Yt
 rw[Qg.out]at Vm
 obtain⟨e6,R6,cr6,D6,cd6,Ll,Qk,_⟩:=Vm.th_ t ht trivial
 rw[iP rfl,iP rfl,cD]at Qk
 have Lf:=aH Qk
 clear Qk
 refine aW ?_
 have q12:w6.cell? (pt t,12)=false:=by rw[Lf.blk.cell];rfl
 have hq6:=Lf.blk.lt
 have hl0:=Lg.out.2.lt
 have r0':w6.cell? (b0,0)=(0:Int):=Lg.cell 0
 have r1':w6.cell? (b0,1)=(0:Int):=Lg.cell 1
 have e0:=Lg.out.2.frozen 0
 have e1:=Lg.out.2.frozen 1
 have HKR:Hid (aD (cI b0) w6 ((w6.setCell (b0,0) (0:Int)).setCell (b0,1) (0:Int))):=aH ((bP w6 b0 0 _).setCell (p:=⟨b0,1,none⟩) (.inl rfl) _)
 have Na:=aH ((Lg.out.2.set_ 0 (0:Int)).set_ 1 (0:Int))
 have Ub:∀b,cI b0 b->Jb b=0:=fun b hb=>by rw[show b=b0 from hb];exact Lg.out.1
 have Qh:=aH (Vm.kept HKR (bI.refl _ _) (fun b hb=>by rw[Ub b hb];omega))
 have HK7:Hid (Kg wM w tag ((w6.setCell (b0,0) (0:Int)).setCell (b0,1) (0:Int)) Jb):=aH ⟨Wo.t,(Wo.k.setCell (p:=⟨b0,0,none⟩) (.inr HLW) _).setCell (p:=⟨b0,1,none⟩) (.inr HLW) _⟩
 go_wp2
 refine bodyPost_ret (kR results24 _ _ b0 44 (2:Int) _ false (0:Int) rfl rfl rfl Na underlying44 rfl eU) rfl ⟨rfl,Jb,HK7.out,n6,mp,H,ch,by have:=HN.out;have:=HN6.out;show n6<=σ.steps+1;omega,?_⟩
 have hx:=Qh.same (th':=(σ.step t).th) (tgl':=(σ.step t).tgl) (fins':=fun _=>false) (fun _ _=>rfl) (fun u _=>by
  show(if(σ.loc t).fin=true then _ else σ.tgl) u=_
  rw[Qg.out]
  show σ.tgl u=if u=t then σ.tgl t else σ.tgl u
  by_cases e:u=t
  .rw[iP e,e]
  rw[iN e]) (fun u _=>by split<;>rfl)
 rw[FB Kw.out ht]at hx
 have eh:(σ.step t).hist=σ.hist:=by show(if(σ.loc t).fin=true then _ else _)=_;rw[Qg.out];rfl
 rw[eh]
 exact hx
theorem VG(h:kK w tag σ p gs go pt)(hok:lM N σ)(hN:N<=100000000)(hsb:AR σ){t:Nat}(ht:t<4)(d:(σ.th t).does≠0)(hfin:(σ.loc t).fin=true):
 Calls prog 24 #[(p,0),t] w fun e w'=>e=.returned (.tuple #[.agg #[(σ.loc t).t.o1,(σ.loc t).t.o2],true,(0:Int)])/\SI w tag (σ.step t) p gs go pt w':=by
 obtain⟨θ,hθ⟩:=aO ((σ.loc t).t)
 rw[<-hθ]
 have HTQ:=aH hθ
 clear hθ
 obtain⟨n,mp,H,ch,hn,hr⟩:=h
 have hwi:bV (t:Int) 0 3=true:=by unfold bV;rw[decide_eq_true_eq];omega
 have Mv:=aH hwi
 have Hc:Hid (RS IR (w.alloc (.cells (2:Int) 44)) (cG w tag 0) σ.m σ.s σ.th σ.tgl (fun _=>false) σ.steps σ.hist σ.of p gs mp go n pt H ch):=aH (hr.below ((Below.refl _ _).alloc (Nat.le_refl _) _) (cO _ _ _))
 have Hj:Hid (Kg wM w tag (w.alloc (.cells (2:Int) 44)) (cG w tag 0)):=aH (Kg.start ((Below.refl _ _).alloc (Nat.le_refl _) _) (cO _ _ _))
 have Jx:Hid (LB (w.alloc (.cells (2:Int) 44)) (cG w tag 0) w 44 (2:Int)):=aH ⟨dT _ _ _ (Nat.le_refl _),aY.new _ _ _⟩
 have HD:=aH (xI (t:=t) (⟨n,mp,H,ch,hn,Hc.out⟩:kK (w.alloc (.cells (2:Int) 44)) (cG w tag 0) σ p gs go pt) hok ht)
 have Kw:=aH hok
 have Vk:=aH hsb
 have HDD:=aH d
 have HN:=aH hn
 have q0:¬((σ.th t).does:Int)=0:=I
 have Qg:=aH hfin
 have HHL:=Lib.hid hok.hl
 clear hfin
 obtain⟨j0,Xf,Jq,Hx,Uc⟩:=EH
 have JI:=Lib.hid Xf
 have JZ:=Lib.hid Jq
 have JS:=Lib.hid Hx
 have JY:=Lib.hid Uc
 clear Xf Jq Hx Uc
 clear hr hok hsb d hwi hn
 go_enter func24,ntmps24
 go_upto_region 1 with(fail)
 show Code.wp _ _ _ _ (w.alloc (.cells #[.int .i64 0,.int .i64 0] 44))
 generalize(w.alloc (.cells #[.int .i64 0,.int .i64 0] 44))=w1 at*
 generalize cG w tag 0=Ha at*
 obtain⟨b0,Mz⟩:=aO w.heap.size
 have HLW:Hid (w.heap.size<=b0):=Lib.hid (by omega)
 rw[<-Mz]at Jx
 rw[<-Mz]
 clear Mz
 go_wp2_with (go_at_call 55;refine(bQ _ _ _ _).mono ?_;rintro e w' ⟨rfl,rfl⟩;rw[Mv.out])
 with_reducible refine HD.out.mono ?_
 rintro e w1' ⟨rfl,rfl⟩
 have hp1:=Hc.sh.lt
 have Mm:w1.cell? ⟨p,21,none⟩=some (.int .i64 (σ.steps:Int)):=by rw[Hc.sh.cell,xD]
 have f21:=Hc.sh.frozen 21
 have hst:=Kw.stp
 have k1:IntKind.i64.wrap ((σ.steps:Int)+1)=(σ.steps:Int)+1:=dE (by omega) (by omega)
 have Hf:=Lib.hid (Hc.setSt (σ.steps+1))
 have Tp:∀b,cI p b->Ha b=102:=fun b hb=>by rw[show b=p from hb];exact Hc.tp
 have Hy:=Lib.hid (Hj.go (bI.refl _ _) (bP w1 p 21 (.int .i64 ((σ.steps+1:Nat):Int))) (fun b hb=>by unfold wM;rw[Tp b hb];omega))
 have It:=Lib.hid (Jx.kept (bP w1 p 21 (.int .i64 ((σ.steps+1:Nat):Int))) (bI.refl _ _) (fun b hb=>by rw[Tp b hb];omega))
 rw[show((σ.steps+1:Nat):Int)=(σ.steps:Int)+1 by omega]at Hf Hy It
 clear HD Hc Hj Jx Tp
 go_upto_region 6 with(fail)
 show Code.wp _ _ _ _ (w1.setCell ⟨p,21,none⟩ (.int .i64 ((σ.steps:Int)+1)))
 generalize w1.setCell ⟨p,21,none⟩ (.int .i64 ((σ.steps:Int)+1))=w2 at*
 clear hp1 Mm f21 k1 q0
 refine aS ?_
 have Yq:w2.cell? (p,17+t)=(pt t,0):=by rw[Hf.sh.cell,BN _ _ _ _ _ _ ht];rfl
 have Un:=Hf.sh.lt
 obtain⟨e,ga,cr,D,cd,M,caps,rows,c,cs,hra⟩:=ZI Hf Kw ht HDD
 have hsl:=hra.1.row.slr
 have r0:w2.cell? (ga,0)=((σ.th t).does:Int):=by
  obtain⟨b',off',e1,hlt,hc⟩:=hsl.at_ (by simp)
  cases e1
  have:=hc 0 _ rfl 0 _ rfl
  simpa using this
 have r1:w2.cell? (ga,1)=some (.func (.func M) #[] caps):=by
  obtain⟨b',off',e1,hlt,hc⟩:=hsl.at_ (by simp)
  cases e1
  have:=hc 0 _ rfl 1 _ rfl
  simpa [fv]using this
 have hga:ga<w2:=by
  obtain⟨b',off',e1,hlt,hc⟩:=hsl.at_ (by simp)
  cases e1
  exact hlt
 have q1:w2.cell? (pt t,1)=some (.slice (some ⟨ga,0,none⟩) (rows.length+1) cr):=by rw[hra.1.blk.cell];rfl
 have Ol:=hra.1.blk.lt
 have t4:(t:Int)<4:=I
 have q5:¬(rows.length:Int)+1=0:=I
 have q8:(0:Int)<(rows.length:Int)+1:=I
 have hcap:=hsl.cap63
 have Ml:=hsl.cap
 simp only[List.length_cons]at Ml
 have Le:Below w2 w2 (w2.alloc (.cells #[((σ.th t).does:Int),.func (.func M) #[] caps] 142)):=(Below.refl _ _).alloc (Nat.le_refl _) _
 have Vl:=aH ((hsl.tailIf I).below Le)
 have Hi:=aH (Hf.below Le (cO w2 Ha 0))
 have Mt:=aH (Hy.trans (Kg.start Le (cO w2 Ha 0)))
 have Ms:=aH (It.kept (S:=bN) (aD.of_same Le) (cO w2 Ha 0) (fun _ x=>x.elim))
 have HX3:Hid (LB (w2.alloc (.cells #[((σ.th t).does:Int),.func (.func M) #[] caps] 142)) (cG w2 Ha 0) w2 142 #[((σ.th t).does:Int),.func (.func M) #[] caps]):=aH ⟨dT _ _ _ (Nat.le_refl _),aY.new _ _ _⟩
 have Tq:=aH (hra.below Le (cO w2 Ha 0))
 have H1:=aH hra.2.2.1.one
 have hlen:rows.length<=100:=by
  have h1:=hra.2.2.1.len
  have h2:=wW (σ.th t)
  rw[hra.2.2.2.2.2.2.1,List.length_cons]at h2
  omega
 obtain⟨i0,Is,Ib,Io,Hh⟩:=wL
 have HI:=aH Is
 have HZ:=aH Ib
 have HS:=aH Io
 have HY:=aH Hh
 clear Is Ib Io Hh Le
 obtain⟨XA,Za⟩:∃XA,XA=(if cr=1 then some (⟨ga,0,none⟩:Addr)else some ⟨ga,0+2,none⟩):=⟨_,rfl⟩
 rw[<-Za]at Vl
 have HXA:=aH Za
 have Yr:=aH Ml
 clear Za
 have Pu:=hra.2.2.2.2.2.2.2
 clear hsl hra Hf Hy It
 refine aW ?_
 go_upto_region 8 with(fail)
 show Code.wp _ _ _ _ (w2.alloc (.cells #[((σ.th t).does:Int),.func (.func M) #[] caps] 142))
 generalize(w2.alloc (.cells #[((σ.th t).does:Int),.func (.func M) #[] caps] 142))=w3 at*
 generalize w2.heap.size=b3 at*
 generalize cG w2 Ha 0=Kc at*
 have q1c:w3.cell? (pt t,1)=some (.slice (some ⟨ga,0,none⟩) (rows.length+1) cr):=by rw[Tq.out.1.blk.cell];rfl
 have f1c:=Tq.out.1.blk.frozen 1
 have Pr:=Tq.out.1.blk.lt
 clear Yq Un r0 r1 hga q1 Ol
 go_upto_region 9 with(first
  |(refine tC rfl (CL _ _ (.tmp 41) ga rows.length cr XA rfl Yr HXA _ rfl) ?_)
  |(refine pY (.const (.slice none 0 0)) (.tmp 42) rfl rfl underlying138 HI HZ HS HY rfl aJ aJ (A:=none) (n:=0) (c:=0) (rows:=[]) rfl (cU.nil _ w3 _ _) (X:=XA) (k:=rows.length) (d:=cr-1) (xs:=rows) rfl Vl H1 I (Nat.le_refl _) ?_;rintro A1 c1 w4 Vi Hu Zb;have Lh:Below w3 w3 w4:=Hu.below (Nat.le_refl _) (fun b _ hb=>by obtain⟨a,ha,_⟩:=hb;cases ha);have q1b:=(Lh.cell (p:=⟨pt t,1,none⟩) Pr).trans q1c;have Nq:=(Lh.frozen (p:=⟨pt t,1,none⟩) Pr).trans f1c;have hq4:pt t<w4:=Nat.lt_of_lt_of_le Pr Lh.size;have Ug:=aH Vi;have Kj:=aH Lh;clear Vi Hu Zb Lh))
 show Code.wp _ _ _ _ (w4.setCell (pt t,1) (.slice A1 rows.length c1))
 refine aS ?_
 have Rh:Hid (cU w4 w3 142 2 A1 rows.length c1 rows):=aH (by simpa using Ug.out)
 obtain⟨h1,h2,h3,h4,h5,h6,h7,h8⟩:=Tq.out
 obtain⟨Kd,Qj,Zc,Tv,Tw,Tx⟩:=Hi.go1 ht h1 h2 h3 h4 h5 h6 Kj Rh
 have Ri:=aH (Mt.trans Qj)
 have Wh:=aH Zc
 have Qn:=aH (Qj.keepL Ms)
 have Ys:=aH (Qj.keepL HX3)
 have hv:=Kw.ver
 have hs5:=Kw.stp
 have hfl:=Kw.fl
 have hfe:=Kw.fe
 have hn5:=HN.out
 have Yt:=aH (And.intro h5 h6)
 obtain⟨M',caps',he',hcall⟩:=Fs (n:=n) Kw.inv HDD Tv h7 Tw Tx rfl Zc.om I I I I (Vk.out t ht)
 obtain⟨rfl,rfl⟩:=SG he'
 have Hn:=aH hcall
 clear h1 h2 h3 h4 h5 h6 h7 h8 Qj Zc Tv Tw Tx hcall he' Ug Rh Hi Mt Ms HX3 Tq Kj Vl H1 HXA hv hfl hfe hn5
 refine aW ?_
 generalize(w4.setCell (pt t,1) (.slice A1 rows.length c1))=w5 at*
 have x1:w5.cell? (b3,1)=some (.func (.func M) #[] caps):=Ys.cell 1
 have hl3:=Ys.out.2.lt
 clear q1c f1c Pr q1b Nq hq4
 go_wp2_with fail
 (try simp only[Array.empty_append,Array.append_empty])
 with_reducible refine Hn.out.mono ?_
 rintro e' w6 ⟨rfl,hout⟩
 refine aS ?_
 obtain⟨Jb,n6,Xr,Zd,hr6⟩:=Wh.back ht Yt.out.1 Yt.out.2 hout
 have Wo:=aH (Ri.trans (Zd.mono (BJ ht)))
 have Lg:=aH ((Zd.mono (BJ ht)).keepL Qn)
 have HN6:=aH Xr
 have Vm:Hid (RS IR w6 Jb (σ.loc t).m (σ.loc t).s (jG σ.th t (σ.loc t).t) (fun u=>if u=t then σ.tgl t else σ.tgl u) (fun u=>if u=t then(σ.loc t).fin else false) (σ.steps+1) σ.hist (sE σ.of (σ.th t)) p gs mp go n6 pt H ch):=aH hr6
 clear hout Zd hr6 Xr x1 hl3 Ri Wh Qn Ys Hn Yt
 rw[Qg.out]at Vm
 obtain⟨e6,R6,cr6,D6,cd6,Ll,Qk,_⟩:=Vm.th_ t ht trivial
 rw[iP rfl,iP rfl,cD]at Qk
 have Lf:=aH Qk
 clear Qk
 refine aW ?_
 have q12:w6.cell? (pt t,12)=true:=by rw[Lf.blk.cell];rfl
 have hq6:=Lf.blk.lt
 rw[<-HTQ.out]at Lf Vm
 have q5':w6.cell? (pt t,5)=θ.tg:=by rw[Lf.blk.cell];rfl
 have q6:w6.cell? (pt t,6)=(σ.tgl t):=by rw[Lf.blk.cell];rfl
 have f12:=Lf.blk.frozen 12
 have f6:=Lf.blk.frozen 6
 have hkk:aD (cI (pt t)) w6 ((w6.setCell (pt t,12) false).setCell (pt t,6) θ.tg):=(bP _ _ _ _).trans (bP _ _ _ _)
 have hqk:∀b,cI (pt t) b->Jb b=110+t:=fun b hb=>by rw[show b=pt t from hb];exact Lf.tg
 have Qh:=aH (Vm.ended ht (x:=θ.tg) (f:=false) hkk (fun Rv Dv hb=>(hb.set_ 12 false).set_ 6 θ.tg))
 have HK7:=aH (Wo.go (bI.refl _ _) hkk (fun b hb=>by unfold wM;rw[hqk b hb];omega))
 have HL7:=aH (Lg.kept hkk (bI.refl _ _) (fun b hb=>by rw[hqk b hb];omega))
 have HNQ:=aH Lf.tg
 clear hkk hqk Lf Vm Wo Lg
 go_upto_region 13 with(fail)
 show Code.wp _ _ _ _ ((w6.setCell (pt t,12) false).setCell (pt t,6) θ.tg)
 generalize(w6.setCell ⟨pt t,12,none⟩ (.bool false)).setCell ⟨pt t,6,none⟩ (.int .i64 θ.tg)=w7 at*
 clear q12 hq6 q5' q6 f12 f6
 refine aS ?_
 obtain⟨e7,R7,cr7,D7,cd7,Xb,Nx,_⟩:=Qh.th_ t ht trivial
 rw[cD]at Nx
 have a2:w7.cell? ⟨pt t,2,none⟩=some (.int .i64 θ.a):=by rw[Nx.blk.cell];rfl
 have a3:w7.cell? ⟨pt t,3,none⟩=some (.int .i64 θ.k):=by rw[Nx.blk.cell];rfl
 have a4:w7.cell? ⟨pt t,4,none⟩=some (.int .i64 θ.v):=by rw[Nx.blk.cell];rfl
 have a8:w7.cell? ⟨pt t,8,none⟩=some (.int .i64 θ.o1):=by rw[Nx.blk.cell];rfl
 have a9:w7.cell? ⟨pt t,9,none⟩=some (.int .i64 θ.o2):=by rw[Nx.blk.cell];rfl
 have a10:w7.cell? ⟨pt t,10,none⟩=some (.int .i64 θ.wn):=by rw[Nx.blk.cell];rfl
 have Rp:=Nx.blk.lt
 have Vn:=Qh.sh.lt
 have Nv:w7.cell? ⟨p,22,none⟩=some (.slice H σ.hist.length ch):=by rw[Qh.sh.cell,QW]
 have Mm:w7.cell? ⟨p,21,none⟩=some (.int .i64 ((σ.steps:Int)+1)):=by rw[Qh.sh.cell,xD];rfl
 have hnp:¬iI H p:=fun e=>by have:=Qh.tH p e;have:=Qh.tp;omega
 have hnq:¬iI H (pt t):=fun e=>by have:=Qh.tH _ e;have:=HNQ.out;omega
 have hhl:=HHL.out
 clear Nx
 refine aW ?_
 refine bK 25 (iI H) [24] J J ?_
 iterate 23
  refine aR ?_;constructor
  .intro w9 Gq Gw
   refine aS ?_
   have Ks:=(Gq.cell (p:=⟨p,22,none⟩) Vn hnp).trans Nv
   have Kt:=(Gq.cell (p:=⟨p,21,none⟩) Vn hnp).trans Mm
   have qa2:=(Gq.cell (p:=⟨pt t,2,none⟩) Rp hnq).trans a2
   have qa3:=(Gq.cell (p:=⟨pt t,3,none⟩) Rp hnq).trans a3
   have qa4:=(Gq.cell (p:=⟨pt t,4,none⟩) Rp hnq).trans a4
   have qa8:=(Gq.cell (p:=⟨pt t,8,none⟩) Rp hnq).trans a8
   have qa9:=(Gq.cell (p:=⟨pt t,9,none⟩) Rp hnq).trans a9
   have qa10:=(Gq.cell (p:=⟨pt t,10,none⟩) Rp hnq).trans a10
   refine aW ?_
   go_simp
   first
   |exact aE
 refine bC CK (DM 61 [.int .i64 2,.int .i64 (t:Int),.int .i64 θ.a,.int .i64 θ.k,.int .i64 θ.v,.int .i64 θ.o1,.int .i64 θ.o2,.int .i64 θ.wn,.int .i64 ((σ.steps:Int)+1)]) ⟨_,0,rfl⟩ ?_ ?_
 .intro w9 Gq Gr
  refine aS ?_
  have Ks:=(Gq.cell (p:=⟨p,22,none⟩) Vn hnp).trans Nv
  have Kt:=(Gq.cell (p:=⟨p,21,none⟩) Vn hnp).trans Mm
  have qa2:=(Gq.cell (p:=⟨pt t,2,none⟩) Rp hnq).trans a2
  have qa3:=(Gq.cell (p:=⟨pt t,3,none⟩) Rp hnq).trans a3
  have qa4:=(Gq.cell (p:=⟨pt t,4,none⟩) Rp hnq).trans a4
  have qa8:=(Gq.cell (p:=⟨pt t,8,none⟩) Rp hnq).trans a8
  have qa9:=(Gq.cell (p:=⟨pt t,9,none⟩) Rp hnq).trans a9
  have qa10:=(Gq.cell (p:=⟨pt t,10,none⟩) Rp hnq).trans a10
  refine aW ?_
  go_simp
  exact⟨⟨⟨_,rfl⟩,⟨_,rfl,aY.new _ _ _⟩⟩,aD.of_same ((Below.refl _ _).alloc (Nat.le_refl _) _)⟩
 refine bD (DN (σ.hist.length+1)) (fun vv w'=>∃A' c',vv=.slice A' (σ.hist.length+1) c'/\cU w' 0 61 9 A' (σ.hist.length+1) c' (σ.hist++[[.int .i64 2,.int .i64 (t:Int),.int .i64 θ.a,.int .i64 θ.k,.int .i64 θ.v,.int .i64 θ.o1,.int .i64 θ.o2,.int .i64 θ.wn,.int .i64 ((σ.steps:Int)+1)]])/\∀b,iI A' b->iI H b\/w7<=b) ⟨_,none,0,rfl⟩ ?_ ?_
 .rintro _ ⟨g9,rfl⟩
  refine⟨aF,fun w9 Gq Gr=>?_⟩
  refine aS ?_
  have Hz:=Gr
  have hmet:=Gr.2
  clear Gr
  obtain⟨w0,k0,k1,g',hv,hblk⟩:=hmet.1 J
  cases hv
  have Sc:=Gq.size
  have Kr:=hblk.below (cA k1 J) hblk.lt
  have Yn:=aH (Qh.hi.below (cA Hz.1 J))
  clear hmet Hz hblk k0 k1
  refine aW ?_
  refine iM (.tmp 69) (.tmp 88) rfl underlying65 JI JZ JS JY rfl aJ aJ (A:=H) (n:=σ.hist.length) (c:=ch) (rows:=σ.hist) rfl Yn (g:=g9) (c':=1) rfl (ys:=[.int .i64 2,.int .i64 (t:Int),.int .i64 θ.a,.int .i64 θ.k,.int .i64 θ.v,.int .i64 θ.o1,.int .i64 θ.o2,.int .i64 θ.wn,.int .i64 ((σ.steps:Int)+1)]) rfl ?_ ?_ I (Nat.zero_le _) ?_
  .intro j hj
   rw[Kr.cell j]
   simp
  .intro u hu
   simp only[List.mem_cons,List.not_mem_nil,or_false]at hu
   rcases hu with rfl|rfl|rfl|rfl|rfl|rfl|rfl|rfl|rfl<;>rfl
  intro g' cap w' ho hk' hwh
  refine⟨⟨⟨_,_,rfl⟩,⟨_,_,rfl,ho,fun b hb=>?_⟩⟩,hk'.mono fun b hb=>⟨aJ,hb⟩⟩
  obtain⟨a,ha,rfl⟩:=hb
  cases ha
  rcases hwh with⟨a,ha,e⟩|e
  .exact .inl ⟨a,ha,e⟩
  exact .inr (by show w7<=g';omega)
 refine aZ ?_
 rintro _ ⟨A9,c9,rfl⟩ _ ⟨g9,rfl⟩ w9 Gq hmet
 refine aQ ?_
 refine aS ?_
 obtain⟨w0,k0,k1,A8,c8,Rr,hown,hin⟩:=hmet.2.1 rfl
 cases Rr
 have Qt:=aH (hown.below (cA k1 J))
 have Pu:=aH hin
 clear hmet hown k0 k1 hin w0
 have HBF:=aH (Qh.event Qt Gq Pu)
 have Rq:=Qh.tH
 have htl:=cO w7 Jb 103
 have hpk:∀b,cI p b->cG w7 Jb 103 b=102:=fun b hb=>by rw[show b=p from hb];exact(htl p Vn).trans Qh.tp
 have HKF:=aH ((HK7.go htl Gq (fun b hb=>by unfold wM;rw[Rq b hb];omega)).go (bI.refl _ _) (bP w9 p 22 (.slice A9 (σ.hist.length+1) c9)) (fun b hb=>by unfold wM;rw[hpk b hb];omega))
 have Wp:=aH ((HL7.kept Gq htl (fun b hb=>by rw[Rq b hb];omega)).kept (bP w9 p 22 (.slice A9 (σ.hist.length+1) c9)) (bI.refl _ _) (fun b hb=>by rw[hpk b hb];omega))
 have c22b:=(Gq.cell (p:=⟨p,22,none⟩) Vn hnp).trans Nv
 have f22b:=(Gq.frozen (p:=⟨p,22,none⟩) Vn hnp).trans (Qh.sh.frozen 22)
 have hp9:=Nat.lt_of_lt_of_le Vn Gq.size
 clear Gq Qt Pu htl hpk Rq Qh HK7 HL7 a2 a3 a4 a8 a9 a10 Rp Vn Nv Mm hnp hnq HNQ
 refine aW ?_
 go_upto_region 14 with(fail)
 show Code.wp _ _ _ _ (w9.setCell (p,22) (.slice A9 (σ.hist.length+1) c9))
 generalize w9.setCell (p,22) (.slice A9 (σ.hist.length+1) c9)=wa at*
 generalize cG w7 Jb 103=tag8 at*
 clear c22b f22b hp9
 refine aS ?_
 obtain⟨e8,R8,cr8,D8,cd8,rows8,Ty,_⟩:=HBF.th_ t ht trivial
 rw[cD]at Ty
 have a8:wa.cell? (pt t,8)=θ.o1:=by rw[Ty.blk.cell];rfl
 have a9:wa.cell? (pt t,9)=θ.o2:=by rw[Ty.blk.cell];rfl
 have Tz:=Ty.blk.lt
 have hl0:=Wp.out.2.lt
 have r0':wa.cell? (b0,0)=(0:Int):=Wp.cell 0
 have r1':wa.cell? (b0,1)=(0:Int):=Wp.cell 1
 have e0:=Wp.out.2.frozen 0
 have e1:=Wp.out.2.frozen 1
 have HKR:Hid (aD (cI b0) wa ((wa.setCell (b0,0) θ.o1).setCell (b0,1) θ.o2)):=aH ((bP wa b0 0 _).setCell (p:=⟨b0,1,none⟩) (.inl rfl) _)
 have Na:=aH ((Wp.out.2.set_ 0 θ.o1).set_ 1 θ.o2)
 have Ub:∀b,cI b0 b->tag8 b=0:=fun b hb=>by rw[show b=b0 from hb];exact Wp.out.1
 have Od:=aH (HBF.kept HKR (bI.refl _ _) (fun b hb=>by rw[Ub b hb];omega))
 have Qq:Hid (Kg wM w tag ((wa.setCell (b0,0) θ.o1).setCell (b0,1) θ.o2) tag8):=aH ⟨HKF.t,(HKF.k.setCell (p:=⟨b0,0,none⟩) (.inr HLW) _).setCell (p:=⟨b0,1,none⟩) (.inr HLW) _⟩
 clear Ty Ub HKR HBF HKF Wp
 refine aW ?_
 go_wp2
 refine bodyPost_ret (kR results24 _ _ b0 44 #[θ.o1,θ.o2] _ true (0:Int) rfl rfl rfl Na underlying44 rfl eU) rfl ⟨rfl,tag8,Qq.out,n6,mp,A9,c9,by have:=HN.out;have:=HN6.out;show n6<=σ.steps+1;omega,?_⟩
 obtain⟨o1,o2,o3,o4⟩:=VJ t σ.m σ.s (σ.th t)
 have etg:θ.tg=(σ.th t).tg:=by rw[HTQ.out];exact o4
 have hx:=Od.same (th':=(σ.step t).th) (tgl':=(σ.step t).tgl) (fins':=fun _=>false) (fun u _=>by rw[HTQ.out];rfl) (fun u _=>by
  show(if(σ.loc t).fin=true then(fun u=>if u=t then(σ.th t).tg else σ.tgl u)else σ.tgl) u=_
  rw[Qg.out,iP rfl,etg]
  show(if u=t then _ else σ.tgl u)=if u=t then _ else(if u=t then σ.tgl t else σ.tgl u)
  by_cases e:u=t
  .rw[iP e,iP e]
  .rw[iN e,iN e,iN e]) (fun u _=>by
  by_cases e:u=t
  .rw[iP e]
  rw[iN e,iN e])
 rw[FB Kw.out ht]at hx
 have eh:(σ.step t).hist=σ.hist++[yE 2 t (σ.th t).a (σ.th t).k (σ.th t).v (σ.loc t).t.o1 (σ.loc t).t.o2 (σ.loc t).t.wn (σ.steps+1:Nat)]:=by show(if(σ.loc t).fin=true then _ else _)=_;rw[Qg.out];rfl
 rw[eh]
 have er:[.int .i64 2,.int .i64 (t:Int),.int .i64 θ.a,.int .i64 θ.k,.int .i64 θ.v,.int .i64 θ.o1,.int .i64 θ.o2,.int .i64 θ.wn,.int .i64 ((σ.steps:Int)+1)]=yE 2 t (σ.th t).a (σ.th t).k (σ.th t).v (σ.loc t).t.o1 (σ.loc t).t.o2 (σ.loc t).t.wn (σ.steps+1:Nat):=by
  unfold yE
  rw[show((σ.steps+1:Nat):Int)=(σ.steps:Int)+1 by omega,HTQ.out,show(σ.loc t).t.a=(σ.th t).a from o1,show(σ.loc t).t.k=(σ.th t).k from o2,show(σ.loc t).t.v=(σ.th t).v from o3]
 rw[er]at hx
 exact hx
end
section
variable{w:World}{tag:Nat->Nat}{t:Nat}{θ:cQ}{last:Int}{q:Nat}{R:Option Addr}{cr:Nat}{D:Option Addr}{cd:Nat}{rows:List (List Value)}{fin:Bool}
def Dd(w:World)(q:Nat):World:=((((((w.setCell (q,1) (.slice none 0 0)).setCell (q,7) false).setCell (q,8) (0:Int)).setCell (q,9) (0:Int)).setCell (q,10) (0:Int)).setCell (q,11) (.slice none 0 0)).setCell (q,12) false
theorem XE(w:World)(q:Nat):aD (cI q) w (Dd w q):=
 ((((((bP _ _ _ _).trans (bP _ _ _ _)).trans (bP _ _ _ _)).trans (bP _ _ _ _)).trans (bP _ _ _ _)).trans (bP _ _ _ _)).trans (bP _ _ _ _)
theorem Gi(t:Nat)(θ:cQ)(last:Int)(Rv Dv:Value)(fin again:Bool):(((((((vN t θ last Rv Dv fin).setIfInBounds 1 (.slice none 0 0)).setIfInBounds 7 false).setIfInBounds 8 (0:Int)).setIfInBounds 9 (0:Int)).setIfInBounds 10 (0:Int)).setIfInBounds 11 (.slice none 0 0)).setIfInBounds 12 false=vN t (cQ.call θ.a θ.k θ.v θ.tg again) last (.slice none 0 0) (.slice none 0 0) false:=by
 unfold vN cQ.call
 simp only[List.setIfInBounds_toArray,List.set_cons_succ,List.set_cons_zero]
theorem Fd(h:lT w tag t θ last q R cr D cd rows fin)(again:Bool):lT (Dd w q) tag t (cQ.call θ.a θ.k θ.v θ.tg again) last q none 0 none 0 [] false:=by
 refine⟨?_,cU.nil _ _ _ _,cU.nil _ _ _ _,h.tg,?_,?_⟩
 .have h1:=((((((h.blk.set_ 1 (.slice none 0 0)).set_ 7 false).set_ 8 (0:Int)).set_ 9 (0:Int)).set_ 10 (0:Int)).set_ 11 (.slice none 0 0)).set_ 12 false
  rw[Gi]at h1
  exact h1
 .rintro b ⟨a,ha,_⟩;cases ha
 rintro b ⟨a,ha,_⟩;cases ha
theorem YQ(h:lT w tag t θ last q R cr D cd rows fin)(p:Nat)(ht:t<4)(again:Bool):
 Calls prog 61 #[(p,0),(q,0),again] w fun e w'=>e=.returned (.tuple #[])/\∃tag',Kg (eJ t) w tag w' tag'/\VQ w' tag' t (cQ.call θ.a θ.k θ.v θ.tg again) last p q false:=by
 have HT:=aH (Fd h again)
 have HK:Hid (Kg (eJ t) w tag (Dd w q) tag):=aH ((Kg.refl _ _ _).go (bI.refl _ _) (XE w q) (fun b hb=>.inl (by rw[show b=q from hb];exact h.tg)))
 have c1:w.cell? (q,1)=some (.slice R rows.length cr):=by rw[h.blk.cell];rfl
 have c7:w.cell? (q,7)=θ.said:=by rw[h.blk.cell];rfl
 have c8:w.cell? (q,8)=θ.o1:=by rw[h.blk.cell];rfl
 have c9:w.cell? (q,9)=θ.o2:=by rw[h.blk.cell];rfl
 have c10:w.cell? (q,10)=θ.wn:=by rw[h.blk.cell];rfl
 have Tr:w.cell? (q,11)=some (.slice D θ.deeds.length cd):=by rw[h.blk.cell];rfl
 have c12:w.cell? (q,12)=fin:=by rw[h.blk.cell];rfl
 have f1:=h.blk.frozen 1
 have f7:=h.blk.frozen 7
 have f8:=h.blk.frozen 8
 have f9:=h.blk.frozen 9
 have f10:=h.blk.frozen 10
 have f11:=h.blk.frozen 11
 have f12:=h.blk.frozen 12
 have hlt:=h.blk.lt
 clear h
 obtain⟨a',ha'⟩:∃a',a'=again:=⟨_,rfl⟩
 have HA:=aH ha'
 go_enter func61,ntmps61
 go_upto_region 1 with(fail)
 show Code.wp _ _ _ _ (Dd w q)
 generalize Dd w q=w1 at*
 clear c1 c7 c8 c9 c10 Tr c12 f1 f7 f8 f9 f10 f11 f12
 cases again with
 |true=>
  have HC:=aH (PW HT p ht)
  go_wp2_with fail
  with_reducible refine HC.out.mono ?_
  rintro e w2 ⟨rfl,Kb,env,RA,Sk,Ku,hk,⟨hp,hq⟩,hth,hrs,hv,hg,ha,hn⟩
  have HF:Hid (∃tag',Kg (eJ t) w tag w2 tag'/\VQ w2 tag' t (cQ.call θ.a θ.k θ.v θ.tg true) last p q false):=aH ⟨Kb,HK.trans hk,env,RA,Sk,none,0,Ku,hth,hrs,⟨hv,hg,ha,hn⟩,hp,hq⟩
  clear hk hp hq hth hrs hv hg ha hn HC HT HK
  go_wp2
  exact bodyPost_end (v:=.tuple #[]) (by simp [results,results61,go_sem]) rfl ⟨rfl,HF.out⟩
 |false=>
  have HC:=aH (RQ HT p ht)
  go_wp2_with fail
  with_reducible refine HC.out.mono ?_
  rintro e w2 ⟨rfl,Kb,env,RA,Sk,Ku,hk,⟨hp,hq⟩,hth,hrs⟩
  have HF:Hid (∃tag',Kg (eJ t) w tag w2 tag'/\VQ w2 tag' t (cQ.call θ.a θ.k θ.v θ.tg false) last p q false):=aH ⟨Kb,HK.trans hk,env,RA,Sk,none,0,Ku,hth,hrs,trivial,hp,hq⟩
  clear hk hp hq hth hrs HC HT HK
  go_wp2
  exact bodyPost_end (v:=.tuple #[]) (by simp [results,results61,go_sem]) rfl ⟨rfl,HF.out⟩
end
end
end Go.Proofs.YtplpimkgihnmhaaGreatDoor
