/-
  what a worker that is alone does, step by step, with any object and operations, is what the reference tells. No condition beyond the tied variables.
-/
import Derived.Test.YtplpimkgihnmhaaGreatDoorCards
import Derived.Test.YtplpimkgihnmhaaGreatDoorTie
import Derived.Test.YtplpimkgihnmhaaGreatDoorA40
set_option maxRecDepth 100000
set_option maxHeartbeats 4000000
set_option linter.all false
namespace Go.Proofs.YtplpimkgihnmhaaGreatDoor.lawWorkerSteps
open Go.Proofs.Tryz Go.RowKit
section
open Go.ChangeAt Go.ChangeShapes Go.Joins Go.WideShapes
attribute [local go_sem ↓] Go.wp_at_zero Go.wp_at_succ
def laidE:List (String×DataW Unit):=[("errors.errorType",Rows.laid_errors_errorType),("unicode.White_Space",Rows.laid_unicode_White_Space),("strings.asciiSpace",Rows.laid_strings_asciiSpace)]
def laidP:List (String×DataW Unit):=[("unicode.White_Space",Rows.laid_unicode_White_Space),("strings.asciiSpace",Rows.laid_strings_asciiSpace)]
noncomputable def base (os:Os):World:=
 let w0:=World.holding prog os ⟨#[],#[],[]⟩
 {w0 with heap:=w0.heap.modify 2 fun
   |.cells _ t frozen=>.cells #[.iface 258 (.agg #[.pointer (some ⟨4,27,none⟩)])] t frozen
   |o=>o}
noncomputable def laidWorld (os:Os):World:=(base os).layVars prog laidP
theorem laidWorld_os(os:Os):(laidWorld os).os=os:=World.layVars_os _ _ _
theorem laidWorld_met(os:Os)(args:Array Value):laidMetH prog laidE ((laidWorld os).forCall (fun _ _=>0) ⟨#[],args,[]⟩).memory:=by
 have h:laidMetH prog laidE (laidWorld os):=laidMetH_of_parts (show laidMet prog laidP (laidWorld os)from ZH (by kernel_rfl) (by kernel_rfl)) (by kernel_rfl)
 exact h.of_heap (by simp [World.memory,World.forCall,Input.heap])
theorem factsOf{W:World}(h:laidMetH prog laidE W):Et W.heap.size W/\mR W:=⟨Ga (Cg h (by simp [laidE]) rfl),En h (by simp [laidE])⟩
theorem walk(k:Int)(A:Option Addr)(n c:Nat)(f:Nat->Nat->Int)(thread steps:Int)(w:World)(hl:PQ Gp w A n c f)(hT:Et w.heap.size w)(hE:mR w):
 Calls prog 3 #[.int .i64 k,.slice A n c,.int .i64 thread,.int .i64 steps] w fun e w'=>e=.returned (.bool true)/\Below w.heap.size w w':=by
 have HTT:=Lib.hid hT
 have HE:=Lib.hid hE
 cases hk:oJ k with
 |false=>
  have HN:=Lib.hid (fun W=>Az k W hk)
  have hq:=Fl k hk
  obtain⟨D,hD,Sm⟩:∃D:Array Value,D= #[.int .u64 0,.int .u64 0,.int .u64 0,.int .u64 0,.int .u64 0,.int .u64 0,.int .u64 0,.int .u64 0,.int .u64 0,.int .u64 0,.int .u64 0,.int .u64 0,.int .u64 0,.int .u64 0,.int .u64 0,.int .u64 0,.int .u64 0,.int .u64 0,.int .u64 0,.int .u64 0,.int .u64 0,.int .u64 0,.int .u64 0,.int .u64 0,.int .u64 0,.int .u64 0,.int .u64 0,.int .u64 0,.int .u64 0,.int .u64 0,.int .u64 0,.int .u64 0]/\cH D 32 (fun _=>0):=⟨_,rfl,cH.zero 32⟩
  rw[<-hD]at HN
  have HI:Hid ((prog.info? 25).map (·.size)=some D.size):=by show _=_;rw[Dn,Sm.size]
  have HS:Hid (D.size=32):=Lib.hid Sm.size
  have H1:=Lib.hid Sm.one
  clear hk hD Sm hl hT hE
  go_enter func3,ntmps3
  go_wp2_with fail
  with_reducible refine(HN.out _).mono ?_
  rintro e w1 ⟨rfl,Gs⟩
  have HB:=Lib.hid (aL (Gs.alloc Gs.size (.cells #[.int .u64 0,.int .u64 0,.int .u64 0,.int .u64 0,.int .u64 0,.int .u64 0,.int .u64 0,.int .u64 0,.int .u64 0,.int .u64 0,.int .u64 0,.int .u64 0,.int .u64 0,.int .u64 0,.int .u64 0,.int .u64 0,.int .u64 0,.int .u64 0,.int .u64 0,.int .u64 0,.int .u64 0,.int .u64 0,.int .u64 0,.int .u64 0,.int .u64 0,.int .u64 0,.int .u64 0,.int .u64 0,.int .u64 0,.int .u64 0,.int .u64 0,.int .u64 0] 25)) Gs.size D)
  clear Gs
  go_wp2_with (with_reducible refine fK 25 w1.heap.size D 25 #[.int .u64 0,.int .u64 0,.int .u64 0,.int .u64 0,.int .u64 0,.int .u64 0,.int .u64 0,.int .u64 0,.int .u64 0,.int .u64 0,.int .u64 0,.int .u64 0,.int .u64 0,.int .u64 0,.int .u64 0,.int .u64 0,.int .u64 0,.int .u64 0,.int .u64 0,.int .u64 0,.int .u64 0,.int .u64 0,.int .u64 0,.int .u64 0,.int .u64 0,.int .u64 0,.int .u64 0,.int .u64 0,.int .u64 0,.int .u64 0,.int .u64 0,.int .u64 0] (by kernel_rfl) (by kernel_rfl) (aY.new _ _ _) HI.out (by rw[HS.out];kernel_rfl) H1.out ?_;generalize(w1.alloc (.cells #[.int .u64 0,.int .u64 0,.int .u64 0,.int .u64 0,.int .u64 0,.int .u64 0,.int .u64 0,.int .u64 0,.int .u64 0,.int .u64 0,.int .u64 0,.int .u64 0,.int .u64 0,.int .u64 0,.int .u64 0,.int .u64 0,.int .u64 0,.int .u64 0,.int .u64 0,.int .u64 0,.int .u64 0,.int .u64 0,.int .u64 0,.int .u64 0,.int .u64 0,.int .u64 0,.int .u64 0,.int .u64 0,.int .u64 0,.int .u64 0,.int .u64 0,.int .u64 0] 25)).setRow w1.heap.size D=w2 at*)
  have HKN:=Lib.hid (YB k (HTT.out.on HB.out))
  with_reducible refine HKN.out.mono ?_
  rintro e w3 ⟨rfl,He⟩
  have Hi:=Lib.hid (HB.out.trans (He.mono HB.out.size))
  clear He
  go_wp2
  go_ret
  exact⟨rfl,Hi.out⟩
 |true=>
  have Zd:1<=k/\k<=6:=by simpa [oJ]using hk
  have hDU0:=Gm k Zd.1 Zd.2
  have HN:=Lib.hid (fun W=>Cj k W hk)
  have hq:=Fe k hk
  obtain⟨D,hD⟩:∃D:Array Value,D=wB k:=⟨_,rfl⟩
  rw[<-hD]at HN hDU0
  have Sm:cH D 32 (pL k):=hDU0
  have HU:=Lib.hid Sm
  have HI:Hid ((prog.info? 25).map (·.size)=some D.size):=by show _=_;rw[Dn,Sm.size]
  have HS:Hid (D.size=32):=Lib.hid Sm.size
  have H1:=Lib.hid Sm.one
  have Wo:=Lib.hid Zd
  have HL:=Lib.hid hl
  clear hk hD Sm hDU0 hl hT hE Zd
  go_enter func3,ntmps3
  go_wp2_with fail
  with_reducible refine(HN.out _).mono ?_
  rintro e w1 ⟨rfl,Gs⟩
  have HB:=Lib.hid (aL (Gs.alloc Gs.size (.cells #[.int .u64 0,.int .u64 0,.int .u64 0,.int .u64 0,.int .u64 0,.int .u64 0,.int .u64 0,.int .u64 0,.int .u64 0,.int .u64 0,.int .u64 0,.int .u64 0,.int .u64 0,.int .u64 0,.int .u64 0,.int .u64 0,.int .u64 0,.int .u64 0,.int .u64 0,.int .u64 0,.int .u64 0,.int .u64 0,.int .u64 0,.int .u64 0,.int .u64 0,.int .u64 0,.int .u64 0,.int .u64 0,.int .u64 0,.int .u64 0,.int .u64 0,.int .u64 0] 25)) Gs.size D)
  have HR:=Lib.hid (aY.setRow (aY.new w1 25 #[.int .u64 0,.int .u64 0,.int .u64 0,.int .u64 0,.int .u64 0,.int .u64 0,.int .u64 0,.int .u64 0,.int .u64 0,.int .u64 0,.int .u64 0,.int .u64 0,.int .u64 0,.int .u64 0,.int .u64 0,.int .u64 0,.int .u64 0,.int .u64 0,.int .u64 0,.int .u64 0,.int .u64 0,.int .u64 0,.int .u64 0,.int .u64 0,.int .u64 0,.int .u64 0,.int .u64 0,.int .u64 0,.int .u64 0,.int .u64 0,.int .u64 0,.int .u64 0]) D)
  have HZ9:Hid (w.heap.size<=w1.heap.size):=Lib.hid Gs.size
  clear Gs
  go_wp2_with (with_reducible refine fK 25 w1.heap.size D 25 #[.int .u64 0,.int .u64 0,.int .u64 0,.int .u64 0,.int .u64 0,.int .u64 0,.int .u64 0,.int .u64 0,.int .u64 0,.int .u64 0,.int .u64 0,.int .u64 0,.int .u64 0,.int .u64 0,.int .u64 0,.int .u64 0,.int .u64 0,.int .u64 0,.int .u64 0,.int .u64 0,.int .u64 0,.int .u64 0,.int .u64 0,.int .u64 0,.int .u64 0,.int .u64 0,.int .u64 0,.int .u64 0,.int .u64 0,.int .u64 0,.int .u64 0,.int .u64 0] (by kernel_rfl) (by kernel_rfl) (aY.new _ _ _) HI.out (by rw[HS.out];kernel_rfl) H1.out ?_;generalize(w1.alloc (.cells #[.int .u64 0,.int .u64 0,.int .u64 0,.int .u64 0,.int .u64 0,.int .u64 0,.int .u64 0,.int .u64 0,.int .u64 0,.int .u64 0,.int .u64 0,.int .u64 0,.int .u64 0,.int .u64 0,.int .u64 0,.int .u64 0,.int .u64 0,.int .u64 0,.int .u64 0,.int .u64 0,.int .u64 0,.int .u64 0,.int .u64 0,.int .u64 0,.int .u64 0,.int .u64 0,.int .u64 0,.int .u64 0,.int .u64 0,.int .u64 0,.int .u64 0,.int .u64 0] 25)).setRow w1.heap.size D=w2 at*;generalize w1.heap.size=b9 at*)
  have HKN:=Lib.hid (YB k (HTT.out.on HB.out))
  with_reducible refine HKN.out.mono ?_
  rintro e w3 ⟨rfl,He⟩
  have Hi:=Lib.hid (HB.out.trans (He.mono HB.out.size))
  have Og:=Lib.hid (HR.out.below He HR.out.lt)
  clear He HB HR HKN HN HI HS H1
  by_cases g0:thread<0
  .go_wp2
   all_goals(go_ret;exact⟨rfl,Hi.out⟩)
  by_cases g1:4<=thread
  .go_wp2
   all_goals(go_ret;exact⟨rfl,Hi.out⟩)
  by_cases g2:(6:Int)<n
  .go_wp2
   all_goals(go_ret;exact⟨rfl,Hi.out⟩)
  by_cases g3:steps<0
  .go_wp2
   all_goals(go_ret;exact⟨rfl,Hi.out⟩)
  by_cases g4:700<steps
  .go_wp2
   all_goals(go_ret;exact⟨rfl,Hi.out⟩)
  obtain⟨t,rfl⟩:∃t:Nat,thread=(t:Int):=⟨thread.toNat,by omega⟩
  obtain⟨N,rfl⟩:∃N:Nat,steps=(N:Int):=⟨steps.toNat,by omega⟩
  have Js:t<4:=by omega
  have hN7:N<=700:=by omega
  have Xr:n<=6:=by omega
  have p0:(0:Int)<=t:=by omega
  have p1:(t:Int)<4:=by omega
  have p2:(n:Int)<=6:=by omega
  have p3:(0:Int)<=N:=by omega
  have p4:(N:Int)<=700:=by omega
  clear g0 g1 g2 g3 g4
  have Oh:Below w3.heap.size w3 (((w3.alloc (.cells #[.int .u64 0,.int .u64 0,.int .u64 0,.int .u64 0,.int .u64 0,.int .u64 0,.int .u64 0,.int .u64 0,.int .u64 0,.int .u64 0,.int .u64 0,.int .u64 0,.int .u64 0,.int .u64 0,.int .u64 0,.int .u64 0] 34)).alloc (.cells (nI cN.new) 123)).alloc (.cells (kE t cQ.new (.slice none 0 0) (.slice none 0 0)) 46)):=(((Below.refl _ _).alloc (Nat.le_refl _) _).alloc (by simp) _).alloc (by simp;omega) _
  have Vm:=Lib.hid (Og.out.below Oh Og.out.lt)
  have Oe:=Lib.hid (Hi.out.trans (Oh.mono Hi.out.size))
  have HM6:Hid (aY (((w3.alloc (.cells #[.int .u64 0,.int .u64 0,.int .u64 0,.int .u64 0,.int .u64 0,.int .u64 0,.int .u64 0,.int .u64 0,.int .u64 0,.int .u64 0,.int .u64 0,.int .u64 0,.int .u64 0,.int .u64 0,.int .u64 0,.int .u64 0] 34)).alloc (.cells (nI cN.new) 123)).alloc (.cells (kE t cQ.new (.slice none 0 0) (.slice none 0 0)) 46)) w3.heap.size 34 #[.int .u64 0,.int .u64 0,.int .u64 0,.int .u64 0,.int .u64 0,.int .u64 0,.int .u64 0,.int .u64 0,.int .u64 0,.int .u64 0,.int .u64 0,.int .u64 0,.int .u64 0,.int .u64 0,.int .u64 0,.int .u64 0]):=Lib.hid (((aY.new _ _ _).alloc _).alloc _)
  have Rm:Hid (aY (((w3.alloc (.cells #[.int .u64 0,.int .u64 0,.int .u64 0,.int .u64 0,.int .u64 0,.int .u64 0,.int .u64 0,.int .u64 0,.int .u64 0,.int .u64 0,.int .u64 0,.int .u64 0,.int .u64 0,.int .u64 0,.int .u64 0,.int .u64 0] 34)).alloc (.cells (nI cN.new) 123)).alloc (.cells (kE t cQ.new (.slice none 0 0) (.slice none 0 0)) 46)) (w3.heap.size+1) 123 (nI cN.new)):=Lib.hid ((aY.newAt _ _ _ (by simp)).alloc _)
  have HW6:Hid (aY (((w3.alloc (.cells #[.int .u64 0,.int .u64 0,.int .u64 0,.int .u64 0,.int .u64 0,.int .u64 0,.int .u64 0,.int .u64 0,.int .u64 0,.int .u64 0,.int .u64 0,.int .u64 0,.int .u64 0,.int .u64 0,.int .u64 0,.int .u64 0] 34)).alloc (.cells (nI cN.new) 123)).alloc (.cells (kE t cQ.new (.slice none 0 0) (.slice none 0 0)) 46)) (w3.heap.size+1+1) 46 (kE t cQ.new (.slice none 0 0) (.slice none 0 0))):=Lib.hid (aY.newAt _ _ _ (by simp))
  have HZ3:Hid (w.heap.size<=w3.heap.size/\b9<w3.heap.size):=Lib.hid ⟨Hi.out.size,Og.out.lt⟩
  have hwk:=Cw t
  clear Oh Hi Og
  go_wp2_with fail
  with_reducible refine(Ft _).mono ?_
  rintro e w5 ⟨rfl,rfl⟩
  go_upto_region 7 with(fail)
  rw[<-hwk]
  clear hwk
  generalize(((w3.alloc (.cells #[.int .u64 0,.int .u64 0,.int .u64 0,.int .u64 0,.int .u64 0,.int .u64 0,.int .u64 0,.int .u64 0,.int .u64 0,.int .u64 0,.int .u64 0,.int .u64 0,.int .u64 0,.int .u64 0,.int .u64 0,.int .u64 0] 34)).alloc (.cells (nI cN.new) 123)).alloc (.cells (kE t cQ.new (.slice none 0 0) (.slice none 0 0)) 46))=w6 at*
  generalize w3.heap.size=gm at*
  with_reducible refine cC ?_
  obtain⟨tg0,htg0⟩:∃T,T=Gg w gm (gm+1) (gm+1+1) t:=⟨_,rfl⟩
  have hz3:=HZ3.out
  have e0:∀b,b<w.heap.size->tg0 b=0:=fun b hb=>by rw[htg0];exact if_pos hb
  have e1:tg0 gm=1:=by rw[htg0];unfold Gg;rw[if_neg (by omega),if_pos rfl]
  have e2:tg0 (gm+1)=2:=by rw[htg0];unfold Gg;rw[if_neg (by omega),if_neg (by omega),if_pos rfl]
  have e3:tg0 (gm+1+1)=10+t:=by rw[htg0];unfold Gg;rw[if_neg (by omega),if_neg (by omega),if_neg (by omega),if_pos rfl]
  have e4:tg0 b9=0:=by
   rw[htg0];unfold Gg
   split
   .rfl
   .rw[if_neg (by omega),if_neg (by omega),if_neg (by omega)]
  have HE9:=Lib.hid e4
  have HE0:=Lib.hid e0
  have HRM:Hid (fE w6 tg0 (fun _=>0) gm):=Lib.hid ⟨e1,_,HM6.out,cH.zero 16⟩
  have Id:Hid (iQ w6 tg0 cN.new (gm+1)):=Lib.hid ⟨e2,Rm.out⟩
  have HWK:Hid (gJ w6 tg0 t cQ.new (gm+1+1) none 0 none 0):=Lib.hid ⟨HW6.out,cU.nil _ _ _ _,cU.nil _ _ _ _,e3,fun b hb=>by(obtain⟨a,ha,_⟩:=hb;cases ha),fun b hb=>by(obtain⟨a,ha,_⟩:=hb;cases ha)⟩
  have HNS:=Lib.hid (Ek tg0 k w6 Wo.out.1 Wo.out.2)
  clear htg0 e0 e1 e2 e3 e4 hz3 HM6 Rm HW6
  with_reducible refine cL.mk ?_
  go_wp2_with fail
  with_reducible refine HNS.out.mono ?_
  rintro e w7 ⟨q,qs,go,pt,tag7,rfl,ht7,hr7,hb7⟩
  obtain⟨gw,hgw⟩:∃g,g=gm+1+1:=⟨_,rfl⟩
  obtain⟨gs,hgs⟩:∃g,g=gm+1:=⟨_,rfl⟩
  have hk7:aD bN w6 w7:=aD.of_same hb7
  have HO7:Hid (jO w (fun _=>0) (Db (pL k) 0) cQ.new (pH.new k) t gw gm gs q qs go pt w7 tag7):=Lib.hid (by
   rw[hgw,hgs]
   exact⟨fun b hb=>(ht7 b (Nat.lt_of_lt_of_le hb Oe.out.size)).trans (HE0.out b hb),Oe.out.trans (hb7.mono Oe.out.size),HRM.out.kept hk7 ht7 (fun _ x=>x.elim),by rw[Dh];exact Id.out.kept hk7 ht7 (fun _ x=>x.elim),⟨none,0,none,0,HWK.out.kept hk7 ht7 (fun _ x=>x.elim) (fun _ x=>x.elim) (fun _ x=>x.elim)⟩,hr7⟩)
  have HL7:Hid (LB w7 tag7 b9 25 D):=Lib.hid ⟨(ht7 b9 Vm.out.lt).trans HE9.out,Vm.out.below hb7 Vm.out.lt⟩
  rw[<-hgs]
  rw[show gs+1=gw by rw[hgw,hgs]]
  clear hgw hgs ht7 hr7 hb7 hk7 HNS HRM Id HWK Oe Vm HE9 HE0 HZ3 HZ9
  go_wp2
  go_loopw [15] (fun i wr=>∃u:Nat,u<=32/\i=.int .i64 u/\Hid (jO w (fun _=>0) (Db (pL k) u) cQ.new (pH.new k) t gw gm gs q qs go pt wr tag7/\LB wr tag7 b9 25 D)) (fun i _=>32-(intOf i).toNat)
  case atStart=>exact⟨0,by omega,rfl,Lib.hid ⟨HO7.out,HL7.out⟩⟩
  case round=>
   clear HO7 HL7
   obtain⟨u,hu,rfl,HX⟩:=hrel
   by_cases hu32:u<32
   .have q3:(u:Int)<32:=by omega
    have cr:wr.cell? ⟨b9,u,none⟩=some (.int .u64 (pL k u)):=by rw[HX.out.2.cell,HU.out.get u hu32]
    have hlb:=HX.out.2.2.lt
    have hsv:=PN gs (8+u) (pL k u) (Db (pL k) u) wr HX.out.1.sto.2 (by omega)
    rw[show(((8+u:Nat)):Int)=8+(u:Int) by omega]at hsv
    have HSV:=Lib.hid hsv
    have hsx:=HX.out.1.save (a:=8+u) (by omega) (pL k u)
    rw[Cq]at hsx
    have HXN:Hid (jO w (fun _=>0) (Db (pL k) (u+1)) cQ.new (pH.new k) t gw gm gs q qs go pt (wr.setCell ⟨gs,8+u,none⟩ (.int .u64 (pL k u))) tag7/\LB (wr.setCell ⟨gs,8+u,none⟩ (.int .u64 (pL k u))) tag7 b9 25 D):=Lib.hid ⟨hsx.1,HX.out.2.kept hsx.2 (bI.refl _ _) (fun _ e=>e)⟩
    have k8:IntKind.i64.wrap (8+(u:Int))=8+(u:Int):=dE (by omega) (by omega)
    clear hsv hsx HX
    go_wp2_with fail
    with_reducible refine HSV.out.mono ?_
    rintro e w8 ⟨rfl,rfl⟩
    generalize wr.setCell ⟨gs,8+u,none⟩ (.int .u64 (pL k u))=w8 at*
    clear cr hlb HSV
    go_wp2
    go_roundw
    case rel=>exact⟨u+1,by omega,by go_num,HXN⟩
    case measure=>simp [intOf];omega
   .have q3:¬(u:Int)<32:=by omega
    have e32:u=32:=by omega
    have HX1:=HX.out.1
    rw[e32]at HX1
    clear e32 hu32
    have Ip:Hid (∃tagr σr sr,FT w t gw gm gs q qs go pt 0 0 wr tagr σr sr):=Lib.hid ⟨tag7,pH.new k,Db (pL k) 32,HX1,rfl,⟨Nat.le_refl _,Nat.le_refl _⟩,Ci Wo.out.1 Wo.out.2,De k,.inl rfl,fun _=>rfl,fun h=>absurd rfl h⟩
    clear HX HX1 hu
    go_wp2
    clear q3
    go_loopw [16,17,18] (fun a2 g i wr=>∃(j n2:Nat) (tg:Int),j<=N/\n2<=n/\a2=.int .i64 n2/\g=.int .i64 tg/\i=.int .i64 j/\Hid (∃tagr σr sr,FT w t gw gm gs q qs go pt j tg wr tagr σr sr)) (fun _ _ i _=>N-(intOf i).toNat)
    case atStart=>exact⟨0,0,0,by omega,by omega,rfl,rfl,rfl,Ip⟩
    case round=>
     clear Ip
     obtain⟨j,n2,tg,hj,hn2,rfl,rfl,rfl,hex⟩:=hrel
     obtain⟨tagr,σr,sr,hst⟩:=hex.out
     have HX:=Lib.hid hst
     clear hex hst
     rename World=>wq
     by_cases hjN:j<N
     .have q3:(j:Int)<N:=by omega
      obtain⟨c1,hlg⟩:=HX.out.one.c
      go_wp2
      refine bK 7 bN [] (by kernel_rfl) (by kernel_rfl) ?_
      iterate 6
       first|(with_reducible refine aC (fun K hK=>?_))|(refine aC (fun K hK=>?_))
       refine .inl ?_
       apply Exists.intro
       refine⟨cX,?_,hK _ _ _ _ ?_⟩
       .simp only[bJ,bM]
        refine⟨?_,fun w9 Gq Gw=>?_⟩
        .first|rfl|(go_simp;done)
        with_reducible refine cC ?_
        obtain⟨Gy,Gz⟩:=Gq.all
        with_reducible refine cL.mk ?_
        go_simp
        first
        |exact⟨⟨rfl,trivial⟩,aD.refl _ _⟩
       clear hK K
       try simp only[Act.put,List.setIfInBounds_toArray,List.set_cons_zero,List.set_cons_succ]
      first|(with_reducible refine aC (fun K hK=>?_))|(refine aC (fun K hK=>?_))
      refine .inl ⟨(.int .i64 (((σr.th t).does:Nat):Int)),cX,?_,hK _ _ _ _ ?_⟩
      .simp only[bJ,bM]
       refine⟨?_,fun w9 Gq _=>?_⟩
       .first|rfl|(go_simp;done)
       with_reducible refine cC ?_
       have HP9:Hid (Calls prog 19 #[.pointer (some ⟨q,0,none⟩),.int .i64 (t:Int)] w9 fun e w'=>e=.returned (.int .i64 ((σr.th t).does:Int))/\Below w9.heap.size w9 w'):=Lib.hid ((xI (HX.out.one.rs.below Gq.same) HX.out.ok Js).mono fun e w' h'=>⟨h'.1,by rw[<-h'.2];exact Below.refl _ _⟩)
       with_reducible refine cL.mk ?_
       go_simp
       go_at_call 19
       exact bS HP9.out
      clear hK K
      try simp only[Act.put,List.setIfInBounds_toArray,List.set_cons_zero,List.set_cons_succ]
      refine cP ?_
      simp only[bM]
      rintro w9 Gq _
      simp only[List.drop_succ_cons,List.drop_zero,List.drop,Act.put,List.setIfInBounds_toArray,List.set_cons_zero,List.set_cons_succ]
      with_reducible refine cC ?_
      have Ia:=Gq.same
      have HX9:Hid (FT w t gw gm gs q qs go pt j tg w9 tagr σr sr):=Lib.hid ⟨HX.out.one.below Ia,HX.out.now,HX.out.cost,HX.out.ok,HX.out.sb,HX.out.tgb,HX.out.tg0,HX.out.tg1⟩
      clear Ia Gq HX c1 hlg
      have HX:=Lib.hid HX9.out
      clear HX9
      obtain⟨c1,hlg⟩:=HX.out.one.c
      with_reducible refine cL.mk ?_
      by_cases d:(σr.th t).does=0
      .rw[d]at c1
       have HD:=Lib.hid d
       by_cases hn:n2<n
       .have q4:¬(n2:Int)=n:=by omega
        have q5:(n2:Int)<n:=by omega
        have hlr:=HL.out.below HX.out.one.b
        obtain⟨bl,off,rfl,hblt,hcell⟩:=hlr.at_ (by omega)
        have hcap:=hlr.cap
        have hcap63:=hlr.cap63
        obtain⟨a,ha⟩:∃a,a=f n2 0:=⟨_,rfl⟩
        obtain⟨kk,hkk⟩:∃a,a=f n2 1:=⟨_,rfl⟩
        obtain⟨v,hv⟩:∃a,a=f n2 2:=⟨_,rfl⟩
        have x0:w9.cell? ⟨bl,off+n2*3,none⟩=some (.int .i64 a):=by rw[ha];exact hcell n2 0 hn (by decide)
        have x1:w9.cell? ⟨bl,off+n2*3+1,none⟩=some (.int .i64 kk):=by rw[hkk];exact hcell n2 1 hn (by decide)
        have x2:w9.cell? ⟨bl,off+n2*3+2,none⟩=some (.int .i64 v):=by rw[hv];exact hcell n2 2 hn (by decide)
        have HR:=Lib.hid (fun W=>eK a kk v W)
        have Ph:=Lib.hid (HX.out.one.box (.cells #[.int .i64 a,.int .i64 kk,.int .i64 v] 39))
        have Jx:Hid (LB (w9.alloc (.cells #[.int .i64 a,.int .i64 kk,.int .i64 v] 39)) (cG w9 tagr 0) w9.heap.size 39 #[.int .i64 a,.int .i64 kk,.int .i64 v]):=Lib.hid ⟨dT _ _ _ (Nat.le_refl _),aY.new _ _ _⟩
        clear hcell hlr ha hkk hv
        go_upto_region 24 with(fail)
        show Code.wp _ _ _ _ (w9.alloc (.cells #[.int .i64 a,.int .i64 kk,.int .i64 v] 39))
        generalize w9.alloc (.cells #[.int .i64 a,.int .i64 kk,.int .i64 v] 39)=Qw at*
        generalize w9.heap.size=bo at*
        generalize cG w9 tagr 0=tag10 at*
        have HX1:Hid (FT w t gw gm gs q qs go pt j tg Qw tag10 σr sr):=Lib.hid ⟨Ph.out,HX.out.now,HX.out.cost,HX.out.ok,HX.out.sb,HX.out.tgb,HX.out.tg0,HX.out.tg1⟩
        have o0:Qw.cell? ⟨bo,0,none⟩=some (.int .i64 a):=Jx.out.cell 0
        have o1:Qw.cell? ⟨bo,1,none⟩=some (.int .i64 kk):=Jx.out.cell 1
        have o2:Qw.cell? ⟨bo,2,none⟩=some (.int .i64 v):=Jx.out.cell 2
        have hlo:=Jx.out.2.lt
        clear HX x0 x1 x2 hblt Ph c1 hlg
        go_wp2_with fail
        with_reducible refine(HR.out _).mono ?_
        rintro e w11 ⟨rfl,hb11⟩
        have Nn:=Lib.hid (HX1.out.one.below hb11)
        have It:=Lib.hid (Jx.out.below hb11)
        clear hb11 Jx o0 o1 o2 hlo HR
        cases ho:cB a kk v with
        |false=>
         have HB:=Lib.hid Nn.out.b
         go_wp2
         go_ret
         exact⟨rfl,HB.out⟩
        |true=>
         have Uz:=Lib.hid (eN.1 ho)
         clear ho
         have o0:w11.cell? ⟨bo,0,none⟩=some (.int .i64 a):=It.out.cell 0
         have o1:w11.cell? ⟨bo,1,none⟩=some (.int .i64 kk):=It.out.cell 1
         have o2:w11.cell? ⟨bo,2,none⟩=some (.int .i64 v):=It.out.cell 2
         have hlo:=It.out.2.lt
         have htgb:=HX1.out.tgb
         have k1:IntKind.i64.wrap (1-tg)=1-tg:=dE (by omega) (by omega)
         have k2:IntKind.i64.wrap ((n2:Int)+1)=(n2:Int)+1:=dE (by omega) (by omega)
         have HC:=Lib.hid (Dj Nn.out Js a kk v (1-tg))
         go_wp2_with fail
         with_reducible refine HC.out.mono ?_
         rintro e w12 ⟨rfl,⟨ht12,hk12⟩,ho12⟩
         have Qs:=Lib.hid ho12
         have Ms:=Lib.hid (It.out.kept hk12 ht12 (fun _ e=>e))
         clear ht12 hk12 ho12 It Nn o0 o1 o2 hlo HC
         have o0:w12.cell? ⟨bo,0,none⟩=some (.int .i64 a):=Ms.out.cell 0
         have o1:w12.cell? ⟨bo,1,none⟩=some (.int .i64 kk):=Ms.out.cell 1
         have o2:w12.cell? ⟨bo,2,none⟩=some (.int .i64 v):=Ms.out.cell 2
         have hlo:=Ms.out.2.lt
         have hce:σr.callE (t:Int) a kk v=0:=by
          unfold pH.callE
          rw[if_neg (fun h=>h ⟨by omega,by omega⟩),show((t:Nat):Int).toNat=t by omega,if_neg (fun h=>h HD.out),if_neg (by rw[eN.2 Uz.out];decide)]
         have hrc:=Ge Qs.out.rs HX1.out.ok (by omega) (t:Int) a kk v
         rw[hce,if_pos rfl,show((t:Nat):Int).toNat=t by omega]at hrc
         have HRC:=Lib.hid hrc
         clear hrc hce
         go_wp2_with fail
         with_reducible refine HRC.out.mono ?_
         rintro e w13 ⟨rfl,hg⟩
         obtain⟨tag13,_,ho13⟩:=Qs.out.refr hg Js
         have HXN:Hid (∃tagr σr sr,FT w t gw gm gs q qs go pt (j+1) (1-tg) w13 tagr σr sr):=Lib.hid ⟨tag13,_,sr,HX1.out.asked (by omega) Js HD.out Uz.out ho13⟩
         clear hg ho13 Qs Ms o0 o1 o2 hlo HRC HX1
         go_wp2
         go_roundw
         case rel=>exact⟨j+1,n2+1,1-tg,by omega,by omega,by go_num,rfl,by go_num,HXN⟩
         case measure=>simp [intOf];omega
       .obtain rfl:n2=n:=by omega
        clear hn
        have Ng:Hid (∀i:Nat,i<72->Calls prog 26 #[.pointer (some ⟨gs,0,none⟩),.int .i64 (i:Int)] w9 fun e w'=>e=.returned (.tuple #[.int .u64 (sr.now i),.nilIface])/\w9=w'):=Lib.hid (fun i hi=>PA gs i sr _ HX.out.one.sto.2 hi)
        obtain⟨_,Er,hEr,hUr⟩:=HX.out.one.ram
        have HML:Hid (∀i:Nat,i<16->Calls prog 27 #[.pointer (some ⟨gm,0,none⟩),.int .i64 (i:Int)] w9 fun e w'=>e=.returned (.tuple #[.int .u64 (σr.m i),.nilIface])/\w9=w'):=Lib.hid (fun i hi=>IQ gm i Er σr.m _ hEr hUr hi)
        clear hEr hUr
        obtain⟨n',mp,H',ch',hn',hr'⟩:=HX.out.one.rs
        have c0:(w9).cell? ⟨q,0,none⟩=some (.pointer (some ⟨qs,0,none⟩)):=by rw[hr'.sh.cell,Dq];rfl
        have hqlt:=hr'.sh.lt
        have hqslt:=hr'.st_.lt
        have HCN:Hid (∀i,i<72->(w9).cell? ⟨qs,i,none⟩=some (.int .u64 (sr.now i))):=Lib.hid (fun i hi=>by rw[HX.out.now,hr'.st_.cell,KU _ _ hi])
        have HCM:Hid (∀i,i<16->(w9).cell? ⟨q,1+i,none⟩=some (.int .u64 (σr.m i))):=Lib.hid (fun i hi=>by rw[hr'.sh.cell,YN _ _ _ _ _ _ hi])
        have HB:=Lib.hid HX.out.one.b
        clear hr' hn' HX
        go_wp2
        clear d
        go_loopw [27] (fun i wr=>∃u:Nat,u<=72/\i=.int .i64 u/\w9=wr) (fun i _=>72-(intOf i).toNat)
        case atStart=>exact⟨0,by omega,rfl,rfl⟩
        case round=>
         obtain⟨u,hu,rfl,rfl⟩:=hrel
         by_cases hu7:u<72
         .have q9:(u:Int)<72:=by omega
          have cu:=HCN.out u hu7
          go_wp2_with fail
          with_reducible refine(Ng.out u hu7).mono ?_
          rintro e w9 ⟨rfl,rfl⟩
          go_wp2
          go_roundw
          case rel=>
           exact⟨u+1,by omega,by go_num,trivial⟩
          case measure=>simp [intOf];omega
         .have q9:¬(u:Int)<72:=by omega
          clear hu7 hu
          go_wp2
          go_loopw [30] (fun i wr=>∃u:Nat,u<=16/\i=.int .i64 u/\w9=wr) (fun i _=>16-(intOf i).toNat)
          case atStart=>exact⟨0,by omega,rfl,rfl⟩
          case round=>
           obtain⟨u,Zk,rfl,rfl⟩:=hrel
           by_cases hu7:u<16
           .have q9:(u:Int)<16:=by omega
            have cu:=HCM.out u hu7
            go_wp2_with fail
            with_reducible refine(HML.out u hu7).mono ?_
            rintro e w9 ⟨rfl,rfl⟩
            go_wp2
            go_roundw
            case rel=>exact⟨u+1,by omega,by go_num,trivial⟩
            case measure=>simp [intOf];omega
           .have q8:¬(u:Int)<16:=by omega
            go_wp2
            go_ret
            exact⟨rfl,HB.out⟩
      .have HD:=Lib.hid d
       have q4:¬((σr.th t).does:Int)=0:=by omega
       have HS:=Lib.hid (Ei HX.out (by omega) Js d HE.out)
       have HRS:=Lib.hid (fun W tg2 (hr:kK W tg2 σr q qs go pt)=>Fr hr HX.out.ok (by omega) HX.out.sb Js d)
       clear d
       go_wp2_with fail
       with_reducible refine HS.out.mono ?_
       rintro e Qw ⟨rfl,tag10,_,ho10⟩
       have Ph:=Lib.hid ho10
       clear ho10 HS
       have Xw:=Lib.hid (HRS.out Qw tag10 Ph.out.rs)
       obtain⟨F,hF⟩:∃F,F=(σr.loc t).fin:=⟨_,rfl⟩
       obtain⟨θ,hθ⟩:∃θ,θ=(σr.loc t).t:=⟨_,rfl⟩
       rw[<-hF,<-hθ]at Xw
       rw[<-hF]
       have HFQ:=Lib.hid (And.intro hF hθ)
       clear hF hθ HRS c1 hlg q4
       cases F with
       |false=>
        simp only[Bool.false_eq_true,if_false]at Xw
        go_wp2_with fail
        with_reducible refine Xw.out.mono ?_
        rintro e w11 ⟨rfl,hg⟩
        obtain⟨tag11,_,ho11⟩:=Ph.out.refr hg Js
        have Nn:=Lib.hid (ho11.box (.cells #[.int .i64 0,.int .i64 0] 44))
        have HXN:Hid (∃tagr σr sr,FT w t gw gm gs q qs go pt (j+1) tg (w11.alloc (.cells #[.int .i64 0,.int .i64 0] 44)) tagr σr sr):=Lib.hid ⟨_,_,_,HX.out.next (by omega) Js HD.out Nn.out⟩
        clear hg ho11 Nn Ph HX Xw
        go_wp2
        go_roundw
        case rel=>exact⟨j+1,n2,tg,by omega,by omega,rfl,rfl,by go_num,HXN⟩
        case measure=>simp [intOf];omega
       |true=>
        simp only[if_true]at Xw
        go_wp2_with fail
        with_reducible refine Xw.out.mono ?_
        rintro e w11 ⟨rfl,hg⟩
        obtain⟨tag11,_,ho11⟩:=Ph.out.refr hg Js
        have Nn:=Lib.hid (ho11.box (.cells #[.int .i64 θ.o1,.int .i64 θ.o2] 44))
        have It:Hid (LB (w11.alloc (.cells #[.int .i64 θ.o1,.int .i64 θ.o2] 44)) (cG w11 tag11 0) w11.heap.size 44 #[.int .i64 θ.o1,.int .i64 θ.o2]):=Lib.hid ⟨dT _ _ _ (Nat.le_refl _),aY.new _ _ _⟩
        clear hg ho11 Ph Xw
        go_upto_region 32 with(fail)
        show Code.wp _ _ _ _ (w11.alloc (.cells #[.int .i64 θ.o1,.int .i64 θ.o2] 44))
        generalize w11.alloc (.cells #[.int .i64 θ.o1,.int .i64 θ.o2] 44)=w12 at*
        generalize w11.heap.size=ba at*
        generalize cG w11 tag11 0=tag12 at*
        obtain⟨A2,ca2,D2,cd2,hwk2⟩:=Nn.out.wk
        rw[<-HFQ.out.2]at hwk2
        have HOUT:=Lib.hid (Fw gw t θ _ _ w12 hwk2.blk)
        clear hwk2
        go_wp2_with fail
        with_reducible refine HOUT.out.mono ?_
        rintro e w13 ⟨rfl,Yl⟩
        have Qs:=Lib.hid ((Nn.out.below Yl).box (.cells #[.int .i64 θ.o1,.int .i64 θ.o2] 44))
        have Ms:=Lib.hid ((It.out.below Yl).kept (S:=bN) (w':=w13.alloc (.cells #[.int .i64 θ.o1,.int .i64 θ.o2] 44)) (aD.of_same ((Below.refl _ _).alloc (Nat.le_refl _) _)) (cO w13 tag12 0) (fun _ x=>x.elim))
        have HM3:Hid (LB (w13.alloc (.cells #[.int .i64 θ.o1,.int .i64 θ.o2] 44)) (cG w13 tag12 0) w13.heap.size 44 #[.int .i64 θ.o1,.int .i64 θ.o2]):=Lib.hid ⟨dT _ _ _ (Nat.le_refl _),aY.new _ _ _⟩
        clear Yl Nn It HOUT
        go_upto_region 36 with(fail)
        show Code.wp _ _ _ _ (w13.alloc (.cells #[.int .i64 θ.o1,.int .i64 θ.o2] 44))
        generalize w13.alloc (.cells #[.int .i64 θ.o1,.int .i64 θ.o2] 44)=w8 at*
        generalize w13.heap.size=bb at*
        generalize cG w13 tag12 0=tag8 at*
        obtain⟨nn,mp,H,ch,hnn,hrs⟩:=Qs.out.rs
        have hh:(σr.step t).hist=σr.hist++[yE 2 t (σr.th t).a (σr.th t).k (σr.th t).v θ.o1 θ.o2 θ.wn (σr.steps+1:Nat)]:=by
         show(if(σr.loc t).fin=true then _ else _)=_
         rw[<-HFQ.out.1,HFQ.out.2];rfl
        have hlen:(σr.step t).hist.length=σr.hist.length+1:=by rw[hh];simp
        have Nv:w8.cell? ⟨q,22,none⟩=some (.slice H (σr.hist.length+1) ch):=by rw[hrs.sh.cell,QW,hlen]
        have Tz:=hrs.sh.lt
        have hsl:=hrs.hi.slr
        have hcap:=hsl.cap
        have hcap63:=hsl.cap63
        rw[hlen]at hcap
        obtain⟨bh,ho,rfl,hblt,hcell⟩:=hsl.at_ (by rw[hlen];omega)
        have hrow:(σr.step t).hist[σr.hist.length]? =some (yE 2 t (σr.th t).a (σr.th t).k (σr.th t).v θ.o1 θ.o2 θ.wn (σr.steps+1:Nat)):=by rw[hh];simp
        have y0:w8.cell? ⟨bh,ho+σr.hist.length*9,none⟩=some (.int .i64 2):=by have:=hcell _ _ hrow 0 _ rfl;simpa using this
        have y1:w8.cell? ⟨bh,ho+σr.hist.length*9+1,none⟩=some (.int .i64 (t:Int)):=by have:=hcell _ _ hrow 1 _ rfl;simpa using this
        have y2:w8.cell? ⟨bh,ho+σr.hist.length*9+2,none⟩=some (.int .i64 (σr.th t).a):=by have:=hcell _ _ hrow 2 _ rfl;simpa using this
        have y3:w8.cell? ⟨bh,ho+σr.hist.length*9+3,none⟩=some (.int .i64 (σr.th t).k):=by have:=hcell _ _ hrow 3 _ rfl;simpa using this
        have y4:w8.cell? ⟨bh,ho+σr.hist.length*9+4,none⟩=some (.int .i64 (σr.th t).v):=by have:=hcell _ _ hrow 4 _ rfl;simpa using this
        have y5:w8.cell? ⟨bh,ho+σr.hist.length*9+5,none⟩=some (.int .i64 θ.o1):=by have:=hcell _ _ hrow 5 _ rfl;simpa using this
        have y6:w8.cell? ⟨bh,ho+σr.hist.length*9+6,none⟩=some (.int .i64 θ.o2):=by have:=hcell _ _ hrow 6 _ rfl;simpa using this
        have y7:w8.cell? ⟨bh,ho+σr.hist.length*9+7,none⟩=some (.int .i64 θ.wn):=by have:=hcell _ _ hrow 7 _ rfl;simpa using this
        have y8:w8.cell? ⟨bh,ho+σr.hist.length*9+8,none⟩=some (.int .i64 ((σr.steps+1:Nat):Int)):=by have:=hcell _ _ hrow 8 _ rfl;simpa using this
        clear hcell hrow hsl hh hlen hrs hnn
        have hl63:(σr.hist.length:Int)+1<=9223372036854775807:=by omega
        have k3:IntKind.i64.wrap ((σr.hist.length:Int)+1-1)=(σr.hist.length:Int):=by rw[show(σr.hist.length:Int)+1-1=σr.hist.length by omega];exact dE (by omega) (by omega)
        have k4:IntKind.i64.wrap (σr.hist.length:Int)=(σr.hist.length:Int):=dE (by omega) (by omega)
        have q6:(σr.hist.length:Int)<(σr.hist.length:Int)+1:=by omega
        have Ug:=Lib.hid (fun W (hb:Below w8.heap.size w8 W)=>HX.out.next (by omega) Js HD.out (show jO w (σr.loc t).m (stp t σr.m sr (σr.th t)).s (σr.loc t).t (σr.step t) t gw gm gs q qs go pt W tag8 from Qs.out.below hb))
        clear Qs
        go_wp2
        refine bK 13 bN [] (by kernel_rfl) (by kernel_rfl) ?_
        iterate 12
         first|(with_reducible refine aC (fun K hK=>?_))|(refine aC (fun K hK=>?_))
         refine .inl ?_
         apply Exists.intro
         refine⟨cX,?_,hK _ _ _ _ ?_⟩
         .simp only[bJ,bM]
          refine⟨?_,fun w9 Gq Gw=>?_⟩
          .first|rfl|(go_simp;done)
          with_reducible refine cC ?_
          obtain⟨Gy,Gz⟩:=Gq.all
          with_reducible refine cL.mk ?_
          go_simp
          first
          |exact⟨⟨rfl,trivial⟩,aD.refl _ _⟩
         clear hK K
         try simp only[Act.put,List.setIfInBounds_toArray,List.set_cons_zero,List.set_cons_succ]
        first|(with_reducible refine aC (fun K hK=>?_))|(refine aC (fun K hK=>?_))
        refine .inr (.inr ⟨Fz,(Fy w8 61),⟨_,0,rfl⟩,?_,hK _ _ _ _ ?_⟩)
        .simp only[bJ,bM]
         refine⟨?_,fun w9 Gq Gr=>?_⟩
         .first|rfl|(go_simp;done)
         with_reducible refine cC ?_
         have Sc:=Gq.size
         with_reducible refine cL.mk ?_
         go_simp
         exact⟨⟨⟨_,rfl⟩,⟨_,rfl,Sc,aY.new _ _ _⟩⟩,aD.of_same ((Below.refl _ _).alloc (Nat.le_refl _) _)⟩
        clear hK K
        try simp only[Act.put,List.setIfInBounds_toArray,List.set_cons_zero,List.set_cons_succ]
        refine cP ?_
        simp only[bM]
        rintro _ ⟨g9,rfl⟩ w9 Gq hmet
        simp only[List.drop_succ_cons,List.drop_zero,List.drop,Act.put,List.setIfInBounds_toArray,List.set_cons_zero,List.set_cons_succ]
        with_reducible refine cC ?_
        obtain⟨w0,k0,My,g',hv',Si,hblk⟩:=hmet.1 rfl
        cases hv'
        have HBL:=Lib.hid (hblk.below (cA My (by kernel_rfl)) hblk.lt)
        have HB11:Hid (Below w8.heap.size w8 (w9.setRow g9 #[.int .i64 2,.int .i64 (t:Int),.int .i64 (σr.th t).a,.int .i64 (σr.th t).k,.int .i64 (σr.th t).v,.int .i64 θ.o1,.int .i64 θ.o2,.int .i64 θ.wn,.int .i64 ((σr.steps:Int)+1)])):=Lib.hid (aL Gq.same Si _)
        have HRW:Hid (aY (w9.setRow g9 #[.int .i64 2,.int .i64 (t:Int),.int .i64 (σr.th t).a,.int .i64 (σr.th t).k,.int .i64 (σr.th t).v,.int .i64 θ.o1,.int .i64 θ.o2,.int .i64 θ.wn,.int .i64 ((σr.steps:Int)+1)]) g9 61 #[.int .i64 2,.int .i64 (t:Int),.int .i64 (σr.th t).a,.int .i64 (σr.th t).k,.int .i64 (σr.th t).v,.int .i64 θ.o1,.int .i64 θ.o2,.int .i64 θ.wn,.int .i64 ((σr.steps:Int)+1)]):=Lib.hid (aY.setRow HBL.out _)
        clear hmet hblk k0 My w0 Gq Si
        with_reducible refine cL.mk ?_
        clear y0 y1 y2 y3 y4 y5 y6 y7 y8 Nv k3 k4 q6
        with_reducible refine fK 61 g9 #[.int .i64 2,.int .i64 (t:Int),.int .i64 (σr.th t).a,.int .i64 (σr.th t).k,.int .i64 (σr.th t).v,.int .i64 θ.o1,.int .i64 θ.o2,.int .i64 θ.wn,.int .i64 ((σr.steps:Int)+1)] 61 #[.int .i64 0,.int .i64 0,.int .i64 0,.int .i64 0,.int .i64 0,.int .i64 0,.int .i64 0,.int .i64 0,.int .i64 0] ?hx ?hy HBL.out ?hi ?ho ?h1 ?_
        case hx=>kernel_rfl
        case hy=>kernel_rfl
        case hi=>kernel_rfl
        case ho=>rfl
        case h1=>first|kernel_rfl|(simp [Value.oneCell'];done)|(simp;done)
        generalize w9.setRow g9 #[.int .i64 2,.int .i64 (t:Int),.int .i64 (σr.th t).a,.int .i64 (σr.th t).k,.int .i64 (σr.th t).v,.int .i64 θ.o1,.int .i64 θ.o2,.int .i64 θ.wn,.int .i64 ((σr.steps:Int)+1)]=w11 at*
        have hL5:=Ms.out.below HB11.out
        have hM5:=HM3.out.below HB11.out
        have z0:w11.cell? ⟨ba,0,none⟩=some (.int .i64 θ.o1):=hL5.cell 0
        have z1:w11.cell? ⟨ba,1,none⟩=some (.int .i64 θ.o2):=hL5.cell 1
        have z2:w11.cell? ⟨bb,0,none⟩=some (.int .i64 θ.o1):=hM5.cell 0
        have z3:w11.cell? ⟨bb,1,none⟩=some (.int .i64 θ.o2):=hM5.cell 1
        have z7:w11.cell? ⟨g9,7,none⟩=some (.int .i64 θ.wn):=HRW.out.cell 7
        have l0:=hL5.2.lt
        have l1:=hM5.2.lt
        have l2:=HRW.out.lt
        have HXN:Hid (∃tagr σr sr,FT w t gw gm gs q qs go pt (j+1) tg w11 tagr σr sr):=Lib.hid ⟨_,_,_,Ug.out _ HB11.out⟩
        clear hL5 hM5 Ms HM3 HB11 HRW HBL Ug HX
        go_wp2
        go_roundw
        case rel=>exact⟨j+1,n2,tg,by omega,by omega,rfl,rfl,by go_num,HXN⟩
        case measure=>simp [intOf];omega
     .obtain rfl:j=N:=by omega
      have q3:¬(j:Int)<j:=by omega
      clear hjN
      have Ng:Hid (∀i:Nat,i<72->Calls prog 26 #[.pointer (some ⟨gs,0,none⟩),.int .i64 (i:Int)] wq fun e w'=>e=.returned (.tuple #[.int .u64 (sr.now i),.nilIface])/\wq=w'):=Lib.hid (fun i hi=>PA gs i sr _ HX.out.one.sto.2 hi)
      obtain⟨_,Er,hEr,hUr⟩:=HX.out.one.ram
      have HML:Hid (∀i:Nat,i<16->Calls prog 27 #[.pointer (some ⟨gm,0,none⟩),.int .i64 (i:Int)] wq fun e w'=>e=.returned (.tuple #[.int .u64 (σr.m i),.nilIface])/\wq=w'):=Lib.hid (fun i hi=>IQ gm i Er σr.m _ hEr hUr hi)
      clear hEr hUr
      obtain⟨n',mp,H',ch',hn',hr'⟩:=HX.out.one.rs
      have c0:(wq).cell? ⟨q,0,none⟩=some (.pointer (some ⟨qs,0,none⟩)):=by rw[hr'.sh.cell,Dq];rfl
      have hqlt:=hr'.sh.lt
      have hqslt:=hr'.st_.lt
      have HCN:Hid (∀i,i<72->(wq).cell? ⟨qs,i,none⟩=some (.int .u64 (sr.now i))):=Lib.hid (fun i hi=>by rw[HX.out.now,hr'.st_.cell,KU _ _ hi])
      have HCM:Hid (∀i,i<16->(wq).cell? ⟨q,1+i,none⟩=some (.int .u64 (σr.m i))):=Lib.hid (fun i hi=>by rw[hr'.sh.cell,YN _ _ _ _ _ _ hi])
      have HB:=Lib.hid HX.out.one.b
      clear hr' hn' HX
      go_wp2
      skip
      go_loopw [27] (fun i wr=>∃u:Nat,u<=72/\i=.int .i64 u/\wq=wr) (fun i _=>72-(intOf i).toNat)
      case atStart=>exact⟨0,by omega,rfl,rfl⟩
      case round=>
       obtain⟨u,hu,rfl,rfl⟩:=hrel
       by_cases hu7:u<72
       .have q9:(u:Int)<72:=by omega
        have cu:=HCN.out u hu7
        go_wp2_with fail
        with_reducible refine(Ng.out u hu7).mono ?_
        rintro e w9 ⟨rfl,rfl⟩
        go_wp2
        go_roundw
        case rel=>
         exact⟨u+1,by omega,by go_num,trivial⟩
        case measure=>simp [intOf];omega
       .have q9:¬(u:Int)<72:=by omega
        clear hu7 hu
        go_wp2
        go_loopw [30] (fun i wr=>∃u:Nat,u<=16/\i=.int .i64 u/\wq=wr) (fun i _=>16-(intOf i).toNat)
        case atStart=>exact⟨0,by omega,rfl,rfl⟩
        case round=>
         obtain⟨u,Zk,rfl,rfl⟩:=hrel
         by_cases hu7:u<16
         .have q9:(u:Int)<16:=by omega
          have cu:=HCM.out u hu7
          go_wp2_with fail
          with_reducible refine(HML.out u hu7).mono ?_
          rintro e w9 ⟨rfl,rfl⟩
          go_wp2
          go_roundw
          case rel=>exact⟨u+1,by omega,by go_num,trivial⟩
          case measure=>simp [intOf];omega
         .have q8:¬(u:Int)<16:=by omega
          go_wp2
          go_ret
          exact⟨rfl,HB.out⟩
theorem own:ownKnob prog.godebug=none:=by kernel_rfl
theorem lifted(os:Os)(started:os.Started)(H:Type)(enc:TypeId×Value->H):
 ReturnsInHanded {} Tryz.checked os 3 .any (fun w args=>(Rows.workerStepsSpec.pre enc prog Tryz.f3 [] false w args/\laidMetH prog laidE w)/\sizedMet enc prog Tryz.f3 (OpenSpec.ofChange Rows.workerStepsSpec) false w args) (Rows.workerStepsSpec.post enc prog Tryz.f3 false true false false):=by
 refine VO (C:=Tryz.checked) (X:=fun w _=>laidMetH prog laidE w) (fun _ _ _ hh h=>h.of_heap hh) own started (by kernel_rfl) func3
  (ChangeSpec.witness_shaped (enc:=enc) (C:=Tryz.checked) (os:=os) (X:=fun w _=>laidMetH prog laidE w) false (laidWorld os) #[.int .i64 0,.slice none 0 0,.int .i64 0,.int .i64 0] 8 (laidWorld_os os) (World.shaped_of_ZipB (by kernel_rfl) (by kernel_rfl)) (by kernel_rfl) (by kernel_rfl) (by kernel_rfl) (laidWorld_met os _))
  (by kernel_rfl) (by kernel_rfl) rfl rfl underlying4 ?_
 intro W base args ds ps hval0 hA0 hsz0 hL
 have hg:=factsOf hL
 have hval:∀(j:Nat) t v,Tryz.f3.params[j]? =some t->args[j]? =some v->Value.okWide prog W .any base t v:=hval0
 have hA:DataW.TrodAll enc prog W 0 (fun _=>true) true Tryz.f3.params.toList args.toList ds ps:=hA0
 rw[params3]at hA hval
 obtain⟨v0,v1,v2,v3,d0,d1,d2,d3,p0,p1,p2,p3,rfl,rfl,rfl,h0,h1,h2,h3⟩:=trodAll_four hA
 obtain⟨k,rfl,rfl,rfl,wk⟩:=open_int underlying3 (hval 0 3 v0 rfl rfl) h0
 obtain⟨lA,ln,lc,l,rfl,lh⟩:=Dz (K:=Gp) 4 underlying22 (by kernel_rfl) (by kernel_rfl) (by decide) (hval 1 22 v1 rfl rfl) h1
 obtain⟨thread,rfl,rfl,rfl,wthread⟩:=open_int underlying3 (hval 2 3 v2 rfl rfl) h2
 obtain⟨steps,rfl,rfl,rfl,wsteps⟩:=open_int underlying3 (hval 3 3 v3 rfl rfl) h3
 exact⟨rfl,walk k lA ln lc l thread steps W lh hg.1 hg.2⟩
theorem kinPlace:(Rows.workerStepsRow.inPlace==Tryz.pinned.checked.prog.inPlace 3)=true:=by kernel_rfl
theorem kunfollowed:(Rows.workerStepsRow.unfollowed==Tryz.pinned.checked.prog.unfollowed 3)=true:=by kernel_rfl
theorem krecurses:(Rows.workerStepsRow.recurses==Tryz.pinned.checked.prog.recurses 3)=true:=by kernel_rfl
theorem knamed:(Rows.workerStepsRow.named==Tryz.pinned.checked.prog.varsNamed 3)=true:=by kernel_rfl
theorem closed:joinedFacts Tryz.pinned.checked.prog 3 Tryz.f3 Rows.workerStepsSpec Rows.workerStepsRow=true:=by
 unfold joinedFacts
 simp only[Bool.and_eq_true]
 repeat' apply And.intro
 all_goals first|(with_reducible exact kinPlace)|(with_reducible exact kunfollowed)|(with_reducible exact krecurses)|(with_reducible exact knamed)|(with_reducible exact Cu)|(with_reducible exact Ce)|kernel_rfl
theorem goes:false=Rows.workerStepsRow.goesBy Tryz.pinned.checked.prog:=by kernel_rfl
theorem wfText:Rows.workerStepsRow.wfByText (OpenSpec.ofChange Rows.workerStepsSpec)=true:=by kernel_rfl
theorem row:Rows.WorkerStepsSaid:=
 OpenClaim.holds_of_wide 3 Tryz.f3 rfl rfl rfl rfl rfl rfl rfl ⟨rfl,rfl,rfl,rfl,rfl⟩ rfl rfl rfl rfl rfl (by kernel_rfl) func3 closed
  (of_decide_eq_true (by kernel_rfl)) (by unfold Func.isWrapper;first|(rw[if_pos (by decide+kernel)];kernel_rfl)|(rw[if_neg (by decide+kernel)];exact⟨rfl,rfl⟩))
  (fun os started H enc _=>lifted os started H enc)
theorem holds:Rows.WorkerStepsCardSaid:=
 Claim7.holds_tied_plain_at .later [] [.handle,.listed,.data] true Rows.workerStepsCard.stood.harness true
  row (fun _ h=>by cases h) wfText (fun _ h=>by cases h) workerSteps_row_tie rfl ⟨rfl,rfl⟩ (by kernel_rfl) rfl
  (fun f fn hf hfn=>by
    obtain rfl:f=3:=Option.some.inj ((show prog.funcNamed Rows.workerStepsRow.func=some 3 by kernel_rfl).symm.trans hf)|>.symm
    obtain rfl:fn=Tryz.f3:=(Option.some.inj (func3.symm.trans hfn)).symm
    refine⟨Fa,fun j t ht=>?_⟩
    have hall:(Tryz.f3.params.toList.all fun t=> !(prog.wantsStandIn t))=true:=by kernel_rfl
    have hm:t∈Tryz.f3.params.toList:=List.mem_of_getElem? (by simpa using ht)
    have h:=List.all_eq_true.1 hall t hm
    show prog.wantsStandIn t=false
    simpa using h)
  goes
#print axioms holds
end
end Go.Proofs.YtplpimkgihnmhaaGreatDoor.lawWorkerSteps
