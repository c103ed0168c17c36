/-
  Part of a proof: ShSc ShSr. For all values.
-/
import Derived.Test.YtplpimkgihnmhaaGreatDoorA38
set_option maxRecDepth 100000
set_option maxHeartbeats 1000000
set_option linter.all false
namespace Go.Proofs.YtplpimkgihnmhaaGreatDoor
open Go.Proofs.Tryz Go.RowKit
section
attribute [local go_sem↓] Go.wp_at_zero Go.wp_at_succ
section
variable{w:World}{tag:Nat->Nat}{σ:pH}{p gs mp go:Nat}{pt:Nat->Nat}{N:Nat}
theorem SK(p:Nat)(t a k v:Int)(w:World)(ht:¬(0<=t/\t<4)):Calls prog 22 #[(p,0),t,.agg #[a,k,v]] w fun e w'=>e=.returned (2:Int)/\Below w w w':=by
 have hwi:bV t 0 3=false:=by unfold bV;rw[decide_eq_false_iff_not];omega
 have Mv:=aH hwi
 have HW:Hid (Below w w (w.alloc (.cells #[a,k,v] 39))):=aH ((Below.refl _ _).alloc (Nat.le_refl _) _)
 clear hwi ht
 go_enter func22,ntmps22
 go_wp2_with (go_at_call 55;refine(bQ _ _ _ _).mono ?_;rintro e w' ⟨rfl,rfl⟩;rw[Mv.out])
 go_ret
 exact⟨rfl,HW.out⟩
theorem MA(h:kK w tag σ p gs go pt)(hok:lM N σ){t:Nat}(ht:t<4)(a k v:Int)(d:(σ.th t).does≠0):Calls prog 22 #[(p,0),t,.agg #[a,k,v]] w fun e w'=>e=.returned (6:Int)/\Below w w w':=by
 have hwi:bV (t:Int) 0 3=true:=by unfold bV;rw[decide_eq_true_eq];omega
 have Mv:=aH hwi
 have HW:Hid (Below w w (w.alloc (.cells #[a,k,v] 39))):=aH ((Below.refl _ _).alloc (Nat.le_refl _) _)
 have HD:=aH (xI (h.below ((Below.refl w w).alloc (Nat.le_refl _) (.cells #[a,k,v] 39))) hok ht)
 have q0:¬((σ.th t).does:Int)=0:=I
 clear hwi h hok d
 go_enter func22,ntmps22
 go_wp2_with (go_at_call 55;refine(bQ _ _ _ _).mono ?_;rintro e w' ⟨rfl,rfl⟩;rw[Mv.out])
 with_reducible refine HD.out.mono ?_
 rintro e w1 ⟨rfl,rfl⟩
 go_wp2
 go_ret
 exact⟨rfl,HW.out⟩
theorem JD(h:kK w tag σ p gs go pt)(hok:lM N σ){t:Nat}(ht:t<4)(a k v:Int)(d:(σ.th t).does=0)(ho:cB a k v=false):Calls prog 22 #[(p,0),t,.agg #[a,k,v]] w fun e w'=>e=.returned (1:Int)/\Below w w w':=by
 have hwi:bV (t:Int) 0 3=true:=by unfold bV;rw[decide_eq_true_eq];omega
 have Mv:=aH hwi
 have HW:Hid (Below w w (w.alloc (.cells #[a,k,v] 39))):=aH ((Below.refl _ _).alloc (Nat.le_refl _) _)
 have HD:=aH (xI (h.below ((Below.refl w w).alloc (Nat.le_refl _) (.cells #[a,k,v] 39))) hok ht)
 rw[d]at HD
 have HR:=aH (fun W=>eK a k v W)
 rw[ho]at HR
 clear hwi h hok d
 go_enter func22,ntmps22
 go_wp2_with (go_at_call 55;refine(bQ _ _ _ _).mono ?_;rintro e w' ⟨rfl,rfl⟩;rw[Mv.out])
 with_reducible refine HD.out.mono ?_
 rintro e w1 ⟨rfl,rfl⟩
 go_wp2_with fail
 with_reducible refine(HR.out _).mono ?_
 rintro e w2 ⟨rfl,Gt⟩
 have Hf:=aH (HW.trans (Gt.mono (by simp)))
 clear Gt
 go_wp2
 go_ret
 exact⟨rfl,Hf.out⟩
theorem RS.asked{w':World}{m:Nat->Int}{s:cN}{th:Nat->cQ}{tgl:Nat->Int}{st:Nat}{hist:List (List Value)}{of:Nat->List (List Value)}{n:Nat}{H:Option Addr}{ch:Nat}{t:Nat}{R:Option Addr}{cr:Nat}{D:Option Addr}{cd:Nat}{rows:List (List Value)}(h:RS IR w tag m s th tgl (fun _=>false) st hist of p gs mp go n pt H ch)(ht:t<4)(hth:lT w tag t (th t) (tgl t) (pt t) R cr D cd rows false)(a k v x:Int)(hk:aD (cI (pt t)) w w')(hb:aY w' (pt t) 140 (vN t {th t with a:=a,k:=k,v:=v,tg:=x} (tgl t) (.slice R rows.length cr) (.slice D (th t).deeds.length cd) false)):
 RS (TP t) w' tag m s th tgl (fun _=>false) st hist of p gs mp go n pt H ch/\lT w' tag t {th t with a:=a,k:=k,v:=v,tg:=x} (tgl t) (pt t) R cr D cd rows false:=by
 have hn:∀b,cI (pt t) b->tag b=110+t:=fun b hb=>by rw[show b=pt t from hb];exact hth.tg
 exact⟨(h.less (TP t)).own ht hk (bI.refl _ _) (fun b hb=>.inl (hn b hb)),hth.cells hk hb rfl⟩
theorem XQ{t:Nat}(ht:t<4):∀k,eJ t k->wM k:=fun k h=>by unfold eJ at h;unfold wM;omega
theorem RS.begun{t:Nat}{w':World}{tag':Nat->Nat}{m:Nat->Int}{s:cN}{th:Nat->cQ}{tgl:Nat->Int}{fins:Nat->Bool}{st:Nat}{hist:List (List Value)}{of:Nat->List (List Value)}{n:Nat}{H:Option Addr}{ch:Nat}(h:RS (TP t) w tag m s th tgl fins st hist of p gs mp go n pt H ch)(ht:t<4){θ:cQ}(hk:Kg (eJ t) w tag w' tag')(hr:VQ w' tag' t θ (tgl t) p (pt t) false)(hf:fins t=false):
 RS IR w' tag' m s (jG th t θ) tgl fins st hist of p gs mp go n pt H ch:=by
 have h1:=h.own ht hk.k hk.t (fun b hb=>by unfold eJ at hb;omega)
 refine(h1.put hr).same (fun _ _=>rfl) (fun u _=>?_) (fun u _=>?_)
 .split
  .rename_i e;rw[e]
  rfl
 split
 .rename_i e;rw[e,hf]
 rfl
theorem WX (h : kK w tag σ p gs go pt) (hok : lM N σ) (hN : N <= 100000000) {t : Nat} (ht : t < 4) (a k v : Int) (d : (σ.th t).does = 0) (ho : cB a k v = true) : Calls Tryz.prog 22 #[.pointer (some ⟨p, 0, none⟩), .int .i64 (t : Int), .agg #[.int .i64 a, .int .i64 k, .int .i64 v]] w fun e w' => e = .returned (.int .i64 0) /\ SI w tag (σ.call t a k v) p gs go pt w' := by
  obtain ⟨n, mp, H, ch, hn, hr⟩ := h
  have hwi : bV (t : Int) 0 3 = true := by unfold bV; rw [decide_eq_true_eq]; omega
  have Mv := Lib.hid hwi
  have Hc : Hid (RS IR (w.alloc (.cells #[.int .i64 a, .int .i64 k, .int .i64 v] 39)) (cG w tag 0) σ.m σ.s σ.th σ.tgl (fun _ => false) σ.steps σ.hist σ.of p gs mp go n pt H ch) := Lib.hid (hr.below ((Below.refl _ _).alloc (Nat.le_refl _) _) (cO _ _ _))
  have Hj : Hid (Kg wM w tag (w.alloc (.cells #[.int .i64 a, .int .i64 k, .int .i64 v] 39)) (cG w tag 0)) := Lib.hid (Kg.start ((Below.refl _ _).alloc (Nat.le_refl _) _) (cO _ _ _))
  have Jx : Hid (LB (w.alloc (.cells #[.int .i64 a, .int .i64 k, .int .i64 v] 39)) (cG w tag 0) w.heap.size 39 #[.int .i64 a, .int .i64 k, .int .i64 v]) := Lib.hid ⟨dT _ _ _ (Nat.le_refl _), aY.new _ _ _⟩
  have HD := Lib.hid (xI (t := t) (⟨n, mp, H, ch, hn, Hc.out⟩ : kK (w.alloc (.cells #[.int .i64 a, .int .i64 k, .int .i64 v] 39)) (cG w tag 0) σ p gs go pt) hok ht)
  rw [d] at HD
  have HR := Lib.hid (fun W => eK a k v W)
  rw [ho] at HR
  have Kw := Lib.hid hok
  have HN := Lib.hid hn
  obtain ⟨i0, Is, Ib, Io, Hh⟩ := EH
  have HI := Lib.hid Is
  have HZ := Lib.hid Ib
  have HS := Lib.hid Io
  have HY := Lib.hid Hh
  clear Is Ib Io Hh hr hok d ho hwi hn
  go_enter Tryz.func22, Tryz.ntmps22
  go_upto_region 1 with (fail)
  show Code.wp _ _ _ _ (w.alloc (.cells #[.int .i64 a, .int .i64 k, .int .i64 v] 39))
  generalize (w.alloc (.cells #[.int .i64 a, .int .i64 k, .int .i64 v] 39)) = w1 at *
  generalize cG w tag 0 = Ha at *
  obtain ⟨b0, Mz⟩ : ∃ b0, b0 = w.heap.size := ⟨_, rfl⟩
  rw [<- Mz] at Jx
  rw [<- Mz]
  clear Mz
  go_wp2_with (go_at_call 55; refine (bQ _ _ _ _).mono ?_; rintro e w' ⟨rfl, rfl⟩; rw [Mv.out])
  with_reducible refine HD.out.mono ?_
  rintro e w1' ⟨rfl, rfl⟩
  have Uw := Jx.out.2.lt
  have o0 : w1.cell? ⟨b0, 0, none⟩ = some (.int .i64 a) := Jx.out.cell 0
  have o1 : w1.cell? ⟨b0, 1, none⟩ = some (.int .i64 k) := Jx.out.cell 1
  have o2 : w1.cell? ⟨b0, 2, none⟩ = some (.int .i64 v) := Jx.out.cell 2
  go_wp2_with fail
  with_reducible refine (HR.out _).mono ?_
  rintro e w2 ⟨rfl, Gt⟩
  have Hf := Lib.hid (Hc.out.below Gt (bI.refl _ _))
  have Hy := Lib.hid (Hj.out.below Gt)
  have It := Lib.hid (Jx.out.below Gt)
  clear Gt Hc Hj Jx o0 o1 o2 Uw HD
  have Yq : w2.cell? ⟨p, 17 + t, none⟩ = some (.pointer (some ⟨pt t, 0, none⟩)) := by rw [Hf.out.sh.cell, BN _ _ _ _ _ _ ht]; rfl
  have Un := Hf.out.sh.lt
  have t4 : (t : Int) < 4 := by omega
  have Jn := It.out.2.lt
  have o0 : w2.cell? ⟨b0, 0, none⟩ = some (.int .i64 a) := It.out.cell 0
  have o1 : w2.cell? ⟨b0, 1, none⟩ = some (.int .i64 k) := It.out.cell 1
  have o2 : w2.cell? ⟨b0, 2, none⟩ = some (.int .i64 v) := It.out.cell 2
  obtain ⟨e, R, cr, D, cd, rows, hth, _⟩ := Hf.out.th_ t ht trivial
  have Lq := Lib.hid hth
  have q6 : w2.cell? ⟨pt t, 6, none⟩ = some (.int .i64 (σ.tgl t)) := by rw [hth.blk.cell]; rfl
  have Ol := hth.blk.lt
  have hnq : ¬ cI (pt t) b0 := fun e => by have e' : b0 = pt t := e; have h1 := It.out.1; have h2 := hth.tg; rw [e'] at h1; omega
  clear hth
  have k1 : IntKind.i64.wrap (1 - σ.tgl t) = 1 - σ.tgl t := by rcases Kw.out.tg t ht with e | e <;> rw [e] <;> rfl
  go_upto_region 8 with (fail)
  refine bK 11 (cI (pt t)) [10] (by kernel_rfl) (by kernel_rfl) ?_
  first | (with_reducible refine aC (fun K hK => ?_)) | (refine aC (fun K hK => ?_))
  refine .inl ?_
  apply Exists.intro
  refine ⟨cX, ?_, hK _ _ _ _ ?_⟩
  . simp only [bJ, bM]
    refine ⟨?_, fun w9 Gq Gw => ?_⟩
    . first | rfl | (go_simp; done)
    with_reducible refine cC ?_
    have x0 := (Gq.cell (p := ⟨b0, 0, none⟩) Jn hnq).trans o0
    have x1 := (Gq.cell (p := ⟨b0, 1, none⟩) Jn hnq).trans o1
    have x2 := (Gq.cell (p := ⟨b0, 2, none⟩) Jn hnq).trans o2
    with_reducible refine cL.mk ?_
    go_simp
    first
    | exact ⟨⟨rfl, trivial⟩, aD.refl _ _⟩
  clear hK K
  try simp only [Act.put, List.setIfInBounds_toArray, List.set_cons_zero, List.set_cons_succ]
  first | (with_reducible refine aC (fun K hK => ?_)) | (refine aC (fun K hK => ?_))
  refine .inl ?_
  apply Exists.intro
  refine ⟨cX, ?_, hK _ _ _ _ ?_⟩
  . simp only [bJ, bM]
    refine ⟨?_, fun w9 Gq Gw => ?_⟩
    . first | rfl | (go_simp; done)
    with_reducible refine cC ?_
    have x0 := (Gq.cell (p := ⟨b0, 0, none⟩) Jn hnq).trans o0
    have x1 := (Gq.cell (p := ⟨b0, 1, none⟩) Jn hnq).trans o1
    have x2 := (Gq.cell (p := ⟨b0, 2, none⟩) Jn hnq).trans o2
    with_reducible refine cL.mk ?_
    go_simp
    first
    | exact ⟨⟨rfl, trivial⟩, aD.refl _ _⟩
  clear hK K
  try simp only [Act.put, List.setIfInBounds_toArray, List.set_cons_zero, List.set_cons_succ]
  first | (with_reducible refine aC (fun K hK => ?_)) | (refine aC (fun K hK => ?_))
  refine .inl ?_
  apply Exists.intro
  refine ⟨cX, ?_, hK _ _ _ _ ?_⟩
  . simp only [bJ, bM]
    refine ⟨?_, fun w9 Gq Gw => ?_⟩
    . first | rfl | (go_simp; done)
    with_reducible refine cC ?_
    have x0 := (Gq.cell (p := ⟨b0, 0, none⟩) Jn hnq).trans o0
    have x1 := (Gq.cell (p := ⟨b0, 1, none⟩) Jn hnq).trans o1
    have x2 := (Gq.cell (p := ⟨b0, 2, none⟩) Jn hnq).trans o2
    with_reducible refine cL.mk ?_
    go_simp
    first
    | exact ⟨⟨rfl, trivial⟩, aD.refl _ _⟩
  clear hK K
  try simp only [Act.put, List.setIfInBounds_toArray, List.set_cons_zero, List.set_cons_succ]
  first | (with_reducible refine aC (fun K hK => ?_)) | (refine aC (fun K hK => ?_))
  refine .inl ?_
  apply Exists.intro
  refine ⟨cX, ?_, hK _ _ _ _ ?_⟩
  . simp only [bJ, bM]
    refine ⟨?_, fun w9 Gq Gw => ?_⟩
    . first | rfl | (go_simp; done)
    with_reducible refine cC ?_
    have x0 := (Gq.cell (p := ⟨b0, 0, none⟩) Jn hnq).trans o0
    have x1 := (Gq.cell (p := ⟨b0, 1, none⟩) Jn hnq).trans o1
    have x2 := (Gq.cell (p := ⟨b0, 2, none⟩) Jn hnq).trans o2
    with_reducible refine cL.mk ?_
    go_simp
    first
    | exact ⟨⟨rfl, trivial⟩, aD.refl _ _⟩
  clear hK K
  try simp only [Act.put, List.setIfInBounds_toArray, List.set_cons_zero, List.set_cons_succ]
  first | (with_reducible refine aC (fun K hK => ?_)) | (refine aC (fun K hK => ?_))
  refine .inl ?_
  apply Exists.intro
  refine ⟨cX, ?_, hK _ _ _ _ ?_⟩
  . simp only [bJ, bM]
    refine ⟨?_, fun w9 Gq Gw => ?_⟩
    . first | rfl | (go_simp; done)
    with_reducible refine cC ?_
    have x0 := (Gq.cell (p := ⟨b0, 0, none⟩) Jn hnq).trans o0
    have x1 := (Gq.cell (p := ⟨b0, 1, none⟩) Jn hnq).trans o1
    have x2 := (Gq.cell (p := ⟨b0, 2, none⟩) Jn hnq).trans o2
    with_reducible refine cL.mk ?_
    go_simp
    first
    | exact ⟨⟨rfl, trivial⟩, aD.refl _ _⟩
  clear hK K
  try simp only [Act.put, List.setIfInBounds_toArray, List.set_cons_zero, List.set_cons_succ]
  first | (with_reducible refine aC (fun K hK => ?_)) | (refine aC (fun K hK => ?_))
  refine .inl ?_
  apply Exists.intro
  refine ⟨cX, ?_, hK _ _ _ _ ?_⟩
  . simp only [bJ, bM]
    refine ⟨?_, fun w9 Gq Gw => ?_⟩
    . first | rfl | (go_simp; done)
    with_reducible refine cC ?_
    have x0 := (Gq.cell (p := ⟨b0, 0, none⟩) Jn hnq).trans o0
    have x1 := (Gq.cell (p := ⟨b0, 1, none⟩) Jn hnq).trans o1
    have x2 := (Gq.cell (p := ⟨b0, 2, none⟩) Jn hnq).trans o2
    with_reducible refine cL.mk ?_
    go_simp
    first
    | exact ⟨⟨rfl, trivial⟩, aD.refl _ _⟩
  clear hK K
  try simp only [Act.put, List.setIfInBounds_toArray, List.set_cons_zero, List.set_cons_succ]
  first | (with_reducible refine aC (fun K hK => ?_)) | (refine aC (fun K hK => ?_))
  refine .inl ?_
  apply Exists.intro
  refine ⟨cX, ?_, hK _ _ _ _ ?_⟩
  . simp only [bJ, bM]
    refine ⟨?_, fun w9 Gq Gw => ?_⟩
    . first | rfl | (go_simp; done)
    with_reducible refine cC ?_
    have x6 := ((cA Gw.1 (by kernel_rfl)).cell (p := ⟨pt t, 6, none⟩) Ol).trans q6
    with_reducible refine cL.mk ?_
    go_simp
    first
    | exact ⟨⟨rfl, trivial⟩, aD.refl _ _⟩
  clear hK K
  try simp only [Act.put, List.setIfInBounds_toArray, List.set_cons_zero, List.set_cons_succ]
  first | (with_reducible refine aC (fun K hK => ?_)) | (refine aC (fun K hK => ?_))
  refine .inl ?_
  apply Exists.intro
  refine ⟨cX, ?_, hK _ _ _ _ ?_⟩
  . simp only [bJ, bM]
    refine ⟨?_, fun w9 Gq Gw => ?_⟩
    . first | rfl | (go_simp; done)
    with_reducible refine cC ?_
    have x0 := (Gq.cell (p := ⟨b0, 0, none⟩) Jn hnq).trans o0
    have x1 := (Gq.cell (p := ⟨b0, 1, none⟩) Jn hnq).trans o1
    have x2 := (Gq.cell (p := ⟨b0, 2, none⟩) Jn hnq).trans o2
    with_reducible refine cL.mk ?_
    go_simp
    first
    | exact ⟨⟨rfl, trivial⟩, aD.refl _ _⟩
  clear hK K
  try simp only [Act.put, List.setIfInBounds_toArray, List.set_cons_zero, List.set_cons_succ]
  first | (with_reducible refine aC (fun K hK => ?_)) | (refine aC (fun K hK => ?_))
  refine .inl ?_
  apply Exists.intro
  refine ⟨cX, ?_, hK _ _ _ _ ?_⟩
  . simp only [bJ, bM]
    refine ⟨?_, fun w9 Gq Gw => ?_⟩
    . first | rfl | (go_simp; done)
    with_reducible refine cC ?_
    have x0 := (Gq.cell (p := ⟨b0, 0, none⟩) Jn hnq).trans o0
    have x1 := (Gq.cell (p := ⟨b0, 1, none⟩) Jn hnq).trans o1
    have x2 := (Gq.cell (p := ⟨b0, 2, none⟩) Jn hnq).trans o2
    with_reducible refine cL.mk ?_
    go_simp
    first
    | exact ⟨⟨rfl, trivial⟩, aD.refl _ _⟩
  clear hK K
  try simp only [Act.put, List.setIfInBounds_toArray, List.set_cons_zero, List.set_cons_succ]
  first | (with_reducible refine aC (fun K hK => ?_)) | (refine aC (fun K hK => ?_))
  refine .inl ?_
  apply Exists.intro
  refine ⟨cX, ?_, hK _ _ _ _ ?_⟩
  . simp only [bJ, bM]
    refine ⟨?_, fun w9 Gq Gw => ?_⟩
    . first | rfl | (go_simp; done)
    with_reducible refine cC ?_
    have x0 := (Gq.cell (p := ⟨b0, 0, none⟩) Jn hnq).trans o0
    have x1 := (Gq.cell (p := ⟨b0, 1, none⟩) Jn hnq).trans o1
    have x2 := (Gq.cell (p := ⟨b0, 2, none⟩) Jn hnq).trans o2
    with_reducible refine cL.mk ?_
    go_simp
    first
    | exact ⟨⟨rfl, trivial⟩, aD.refl _ _⟩
  clear hK K
  try simp only [Act.put, List.setIfInBounds_toArray, List.set_cons_zero, List.set_cons_succ]
  first | (with_reducible refine aC (fun K hK => ?_)) | (refine aC (fun K hK => ?_))
  refine .inl ⟨undef, (fun _ w' => aY w' (pt t) 140 (vN t { σ.th t with a := a, k := k, v := v } (σ.tgl t) (.slice R rows.length cr) (.slice D (σ.th t).deeds.length cd) false)), ?_, hK _ _ _ _ ?_⟩
  . simp only [bJ, bM]
    refine ⟨?_, fun w9 Gq Gw => ?_⟩
    . first | rfl | (go_simp; done)
    with_reducible refine cC ?_
    have HX := Lib.hid (Lq.out.blk.below (cA Gw.1 (by kernel_rfl)) Lq.out.blk.lt)
    have r2 : w9.cell? ⟨pt t, 2, none⟩ = some (.int .i64 (σ.th t).a) := by rw [HX.out.cell]; rfl
    have r3 : w9.cell? ⟨pt t, 3, none⟩ = some (.int .i64 (σ.th t).k) := by rw [HX.out.cell]; rfl
    have r4 : w9.cell? ⟨pt t, 4, none⟩ = some (.int .i64 (σ.th t).v) := by rw [HX.out.cell]; rfl
    have e2 := HX.out.frozen 2
    have e3 := HX.out.frozen 3
    have e4 := HX.out.frozen 4
    have hlx := HX.out.lt
    with_reducible refine cL.mk ?_
    go_simp
    exact ⟨⟨rfl, ((HX.out.set_ 2 (.int .i64 a)).set_ 3 (.int .i64 k)).set_ 4 (.int .i64 v)⟩, (((bP _ (pt t) 2 _).setCell (p := ⟨pt t, 3, none⟩) (.inl rfl) _).setCell (p := ⟨pt t, 4, none⟩) (.inl rfl) _).mono fun b hb => by first | exact hb | exact ⟨by decide, hb⟩⟩
  clear hK K
  try simp only [Act.put, List.setIfInBounds_toArray, List.set_cons_zero, List.set_cons_succ]
  refine cP ?_
  simp only [bM]
  rintro w9 Gq hmet
  simp only [List.drop_succ_cons, List.drop_zero, List.drop, Act.put, List.setIfInBounds_toArray, List.set_cons_zero, List.set_cons_succ]
  with_reducible refine cC ?_
  obtain ⟨wx, k0, My, hf⟩ := hmet.1 rfl
  have Hi := Lib.hid (hf.below (cA My (by kernel_rfl)) hf.lt)
  clear hmet hf k0 My wx
  have Pr := Hi.out.lt
  have q5 : w9.cell? ⟨pt t, 5, none⟩ = some (.int .i64 (σ.th t).tg) := by rw [Hi.out.cell]; rfl
  have f5 := Hi.out.frozen 5
  have hkk : aD (cI (pt t)) w2 (w9.setCell ⟨pt t, 5, none⟩ (.int .i64 (1 - σ.tgl t))) := Gq.trans (bP _ _ _ _)
  have HAS := Lib.hid (Hf.out.asked ht Lq.out a k v (1 - σ.tgl t) hkk (Hi.out.set_ 5 (.int .i64 (1 - σ.tgl t))))
  have hqk : ∀ b, cI (pt t) b -> Ha b = 110 + t := fun b hb => by rw [show b = pt t from hb]; exact Lq.out.tg
  have Pi := Lib.hid (Hy.out.go (bI.refl _ _) hkk (fun b hb => by unfold wM; rw [hqk b hb]; omega))
  have Jd := Lib.hid (It.out.kept hkk (bI.refl _ _) (fun b hb => by rw [hqk b hb]; omega))
  clear hkk hqk Hi Gq Yq Un Jn o0 o1 o2 q6 Ol Hf Hy It Lq hnq
  with_reducible refine cL.mk ?_
  go_upto_region 9 with (fail)
  show Code.wp _ _ _ _ (w9.setCell ⟨pt t, 5, none⟩ (.int .i64 (1 - σ.tgl t)))
  generalize w9.setCell ⟨pt t, 5, none⟩ (.int .i64 (1 - σ.tgl t)) = w4 at *
  clear q5 f5 Pr
  with_reducible refine cC ?_
  obtain ⟨hr4, hth4⟩ := HAS.out
  have Uq := Lib.hid hr4
  have HBG := Lib.hid (YQ hth4 p ht false)
  clear hr4 hth4 HAS
  with_reducible refine cL.mk ?_
  go_wp2_with fail
  with_reducible refine HBG.out.mono ?_
  rintro e w5 ⟨rfl, Kd, Qj, hrt⟩
  have Ki := Lib.hid (Uq.out.begun ht Qj hrt rfl)
  have Ri := Lib.hid (Pi.out.trans (Qj.mono (XQ ht)))
  have Qn := Lib.hid (Jd.out.kept Qj.k Qj.t (fun b hb => by unfold eJ at hb; omega))
  clear Qj hrt Uq Pi Jd HBG
  have hp5 := Ki.out.sh.lt
  have Mm : w5.cell? ⟨p, 21, none⟩ = some (.int .i64 (σ.steps : Int)) := by rw [Ki.out.sh.cell, xD]
  have f21 := Ki.out.sh.frozen 21
  have hst := Kw.out.stp
  have hhl := Kw.out.hl
  have k2 : IntKind.i64.wrap ((σ.steps : Int) + 1) = (σ.steps : Int) + 1 := dE (by omega) (by omega)
  have Oe := Lib.hid (Ki.out.setSt (σ.steps + 1))
  have Tp : ∀ b, cI p b -> Kd b = 102 := fun b hb => by rw [show b = p from hb]; exact Ki.out.tp
  have Wo := Lib.hid (Ri.out.go (bI.refl _ _) (bP w5 p 21 (.int .i64 ((σ.steps + 1 : Nat) : Int))) (fun b hb => by unfold wM; rw [Tp b hb]; omega))
  have Lg := Lib.hid (Qn.out.kept (bP w5 p 21 (.int .i64 ((σ.steps + 1 : Nat) : Int))) (bI.refl _ _) (fun b hb => by rw [Tp b hb]; omega))
  rw [show ((σ.steps + 1 : Nat) : Int) = (σ.steps : Int) + 1 by omega] at Oe Wo Lg
  clear Ki Ri Qn Tp
  go_upto_region 11 with (fail)
  show Code.wp _ _ _ _ (w5.setCell ⟨p, 21, none⟩ (.int .i64 ((σ.steps : Int) + 1)))
  generalize w5.setCell ⟨p, 21, none⟩ (.int .i64 ((σ.steps : Int) + 1)) = w6 at *
  clear hp5 Mm f21 k2
  have Kk := Oe.out.sh.lt
  have Ik := Lg.out.2.lt
  have Nv : w6.cell? ⟨p, 22, none⟩ = some (.slice H σ.hist.length ch) := by rw [Oe.out.sh.cell, QW]
  have Mm : w6.cell? ⟨p, 21, none⟩ = some (.int .i64 ((σ.steps : Int) + 1)) := by rw [Oe.out.sh.cell, xD]; rfl
  have o0 : w6.cell? ⟨b0, 0, none⟩ = some (.int .i64 a) := Lg.out.cell 0
  have o1 : w6.cell? ⟨b0, 1, none⟩ = some (.int .i64 k) := Lg.out.cell 1
  have o2 : w6.cell? ⟨b0, 2, none⟩ = some (.int .i64 v) := Lg.out.cell 2
  have hnp : ¬ iI H p := fun e => by have := Oe.out.tH p e; have := Oe.out.tp; omega
  have hnb : ¬ iI H b0 := fun e => by have := Oe.out.tH b0 e; have := Lg.out.1; omega
  refine bK 14 (iI H) [13] (by kernel_rfl) (by kernel_rfl) ?_
  first | (with_reducible refine aC (fun K hK => ?_)) | (refine aC (fun K hK => ?_))
  refine .inl ?_
  apply Exists.intro
  refine ⟨cX, ?_, hK _ _ _ _ ?_⟩
  . simp only [bJ, bM]
    refine ⟨?_, fun w9 Gq Gw => ?_⟩
    . first | rfl | (go_simp; done)
    with_reducible refine cC ?_
    have Ks := (Gq.cell (p := ⟨p, 22, none⟩) Kk hnp).trans Nv
    have Kt := (Gq.cell (p := ⟨p, 21, none⟩) Kk hnp).trans Mm
    have Mi := (Gq.cell (p := ⟨b0, 0, none⟩) Ik hnb).trans o0
    have Mj := (Gq.cell (p := ⟨b0, 1, none⟩) Ik hnb).trans o1
    have Mk := (Gq.cell (p := ⟨b0, 2, none⟩) Ik hnb).trans o2
    with_reducible refine cL.mk ?_
    go_simp
    first
    | exact ⟨⟨rfl, trivial⟩, aD.refl _ _⟩
  clear hK K
  try simp only [Act.put, List.setIfInBounds_toArray, List.set_cons_zero, List.set_cons_succ]
  first | (with_reducible refine aC (fun K hK => ?_)) | (refine aC (fun K hK => ?_))
  refine .inl ?_
  apply Exists.intro
  refine ⟨cX, ?_, hK _ _ _ _ ?_⟩
  . simp only [bJ, bM]
    refine ⟨?_, fun w9 Gq Gw => ?_⟩
    . first | rfl | (go_simp; done)
    with_reducible refine cC ?_
    have Ks := (Gq.cell (p := ⟨p, 22, none⟩) Kk hnp).trans Nv
    have Kt := (Gq.cell (p := ⟨p, 21, none⟩) Kk hnp).trans Mm
    have Mi := (Gq.cell (p := ⟨b0, 0, none⟩) Ik hnb).trans o0
    have Mj := (Gq.cell (p := ⟨b0, 1, none⟩) Ik hnb).trans o1
    have Mk := (Gq.cell (p := ⟨b0, 2, none⟩) Ik hnb).trans o2
    with_reducible refine cL.mk ?_
    go_simp
    first
    | exact ⟨⟨rfl, trivial⟩, aD.refl _ _⟩
  clear hK K
  try simp only [Act.put, List.setIfInBounds_toArray, List.set_cons_zero, List.set_cons_succ]
  first | (with_reducible refine aC (fun K hK => ?_)) | (refine aC (fun K hK => ?_))
  refine .inl ?_
  apply Exists.intro
  refine ⟨cX, ?_, hK _ _ _ _ ?_⟩
  . simp only [bJ, bM]
    refine ⟨?_, fun w9 Gq Gw => ?_⟩
    . first | rfl | (go_simp; done)
    with_reducible refine cC ?_
    have Ks := (Gq.cell (p := ⟨p, 22, none⟩) Kk hnp).trans Nv
    have Kt := (Gq.cell (p := ⟨p, 21, none⟩) Kk hnp).trans Mm
    have Mi := (Gq.cell (p := ⟨b0, 0, none⟩) Ik hnb).trans o0
    have Mj := (Gq.cell (p := ⟨b0, 1, none⟩) Ik hnb).trans o1
    have Mk := (Gq.cell (p := ⟨b0, 2, none⟩) Ik hnb).trans o2
    with_reducible refine cL.mk ?_
    go_simp
    first
    | exact ⟨⟨rfl, trivial⟩, aD.refl _ _⟩
  clear hK K
  try simp only [Act.put, List.setIfInBounds_toArray, List.set_cons_zero, List.set_cons_succ]
  first | (with_reducible refine aC (fun K hK => ?_)) | (refine aC (fun K hK => ?_))
  refine .inl ?_
  apply Exists.intro
  refine ⟨cX, ?_, hK _ _ _ _ ?_⟩
  . simp only [bJ, bM]
    refine ⟨?_, fun w9 Gq Gw => ?_⟩
    . first | rfl | (go_simp; done)
    with_reducible refine cC ?_
    have Ks := (Gq.cell (p := ⟨p, 22, none⟩) Kk hnp).trans Nv
    have Kt := (Gq.cell (p := ⟨p, 21, none⟩) Kk hnp).trans Mm
    have Mi := (Gq.cell (p := ⟨b0, 0, none⟩) Ik hnb).trans o0
    have Mj := (Gq.cell (p := ⟨b0, 1, none⟩) Ik hnb).trans o1
    have Mk := (Gq.cell (p := ⟨b0, 2, none⟩) Ik hnb).trans o2
    with_reducible refine cL.mk ?_
    go_simp
    first
    | exact ⟨⟨rfl, trivial⟩, aD.refl _ _⟩
  clear hK K
  try simp only [Act.put, List.setIfInBounds_toArray, List.set_cons_zero, List.set_cons_succ]
  first | (with_reducible refine aC (fun K hK => ?_)) | (refine aC (fun K hK => ?_))
  refine .inl ?_
  apply Exists.intro
  refine ⟨cX, ?_, hK _ _ _ _ ?_⟩
  . simp only [bJ, bM]
    refine ⟨?_, fun w9 Gq Gw => ?_⟩
    . first | rfl | (go_simp; done)
    with_reducible refine cC ?_
    have Ks := (Gq.cell (p := ⟨p, 22, none⟩) Kk hnp).trans Nv
    have Kt := (Gq.cell (p := ⟨p, 21, none⟩) Kk hnp).trans Mm
    have Mi := (Gq.cell (p := ⟨b0, 0, none⟩) Ik hnb).trans o0
    have Mj := (Gq.cell (p := ⟨b0, 1, none⟩) Ik hnb).trans o1
    have Mk := (Gq.cell (p := ⟨b0, 2, none⟩) Ik hnb).trans o2
    with_reducible refine cL.mk ?_
    go_simp
    first
    | exact ⟨⟨rfl, trivial⟩, aD.refl _ _⟩
  clear hK K
  try simp only [Act.put, List.setIfInBounds_toArray, List.set_cons_zero, List.set_cons_succ]
  first | (with_reducible refine aC (fun K hK => ?_)) | (refine aC (fun K hK => ?_))
  refine .inl ?_
  apply Exists.intro
  refine ⟨cX, ?_, hK _ _ _ _ ?_⟩
  . simp only [bJ, bM]
    refine ⟨?_, fun w9 Gq Gw => ?_⟩
    . first | rfl | (go_simp; done)
    with_reducible refine cC ?_
    have Ks := (Gq.cell (p := ⟨p, 22, none⟩) Kk hnp).trans Nv
    have Kt := (Gq.cell (p := ⟨p, 21, none⟩) Kk hnp).trans Mm
    have Mi := (Gq.cell (p := ⟨b0, 0, none⟩) Ik hnb).trans o0
    have Mj := (Gq.cell (p := ⟨b0, 1, none⟩) Ik hnb).trans o1
    have Mk := (Gq.cell (p := ⟨b0, 2, none⟩) Ik hnb).trans o2
    with_reducible refine cL.mk ?_
    go_simp
    first
    | exact ⟨⟨rfl, trivial⟩, aD.refl _ _⟩
  clear hK K
  try simp only [Act.put, List.setIfInBounds_toArray, List.set_cons_zero, List.set_cons_succ]
  first | (with_reducible refine aC (fun K hK => ?_)) | (refine aC (fun K hK => ?_))
  refine .inl ?_
  apply Exists.intro
  refine ⟨cX, ?_, hK _ _ _ _ ?_⟩
  . simp only [bJ, bM]
    refine ⟨?_, fun w9 Gq Gw => ?_⟩
    . first | rfl | (go_simp; done)
    with_reducible refine cC ?_
    have Ks := (Gq.cell (p := ⟨p, 22, none⟩) Kk hnp).trans Nv
    have Kt := (Gq.cell (p := ⟨p, 21, none⟩) Kk hnp).trans Mm
    have Mi := (Gq.cell (p := ⟨b0, 0, none⟩) Ik hnb).trans o0
    have Mj := (Gq.cell (p := ⟨b0, 1, none⟩) Ik hnb).trans o1
    have Mk := (Gq.cell (p := ⟨b0, 2, none⟩) Ik hnb).trans o2
    with_reducible refine cL.mk ?_
    go_simp
    first
    | exact ⟨⟨rfl, trivial⟩, aD.refl _ _⟩
  clear hK K
  try simp only [Act.put, List.setIfInBounds_toArray, List.set_cons_zero, List.set_cons_succ]
  first | (with_reducible refine aC (fun K hK => ?_)) | (refine aC (fun K hK => ?_))
  refine .inl ?_
  apply Exists.intro
  refine ⟨cX, ?_, hK _ _ _ _ ?_⟩
  . simp only [bJ, bM]
    refine ⟨?_, fun w9 Gq Gw => ?_⟩
    . first | rfl | (go_simp; done)
    with_reducible refine cC ?_
    have Ks := (Gq.cell (p := ⟨p, 22, none⟩) Kk hnp).trans Nv
    have Kt := (Gq.cell (p := ⟨p, 21, none⟩) Kk hnp).trans Mm
    have Mi := (Gq.cell (p := ⟨b0, 0, none⟩) Ik hnb).trans o0
    have Mj := (Gq.cell (p := ⟨b0, 1, none⟩) Ik hnb).trans o1
    have Mk := (Gq.cell (p := ⟨b0, 2, none⟩) Ik hnb).trans o2
    with_reducible refine cL.mk ?_
    go_simp
    first
    | exact ⟨⟨rfl, trivial⟩, aD.refl _ _⟩
  clear hK K
  try simp only [Act.put, List.setIfInBounds_toArray, List.set_cons_zero, List.set_cons_succ]
  first | (with_reducible refine aC (fun K hK => ?_)) | (refine aC (fun K hK => ?_))
  refine .inl ?_
  apply Exists.intro
  refine ⟨cX, ?_, hK _ _ _ _ ?_⟩
  . simp only [bJ, bM]
    refine ⟨?_, fun w9 Gq Gw => ?_⟩
    . first | rfl | (go_simp; done)
    with_reducible refine cC ?_
    have Ks := (Gq.cell (p := ⟨p, 22, none⟩) Kk hnp).trans Nv
    have Kt := (Gq.cell (p := ⟨p, 21, none⟩) Kk hnp).trans Mm
    have Mi := (Gq.cell (p := ⟨b0, 0, none⟩) Ik hnb).trans o0
    have Mj := (Gq.cell (p := ⟨b0, 1, none⟩) Ik hnb).trans o1
    have Mk := (Gq.cell (p := ⟨b0, 2, none⟩) Ik hnb).trans o2
    with_reducible refine cL.mk ?_
    go_simp
    first
    | exact ⟨⟨rfl, trivial⟩, aD.refl _ _⟩
  clear hK K
  try simp only [Act.put, List.setIfInBounds_toArray, List.set_cons_zero, List.set_cons_succ]
  first | (with_reducible refine aC (fun K hK => ?_)) | (refine aC (fun K hK => ?_))
  refine .inl ?_
  apply Exists.intro
  refine ⟨cX, ?_, hK _ _ _ _ ?_⟩
  . simp only [bJ, bM]
    refine ⟨?_, fun w9 Gq Gw => ?_⟩
    . first | rfl | (go_simp; done)
    with_reducible refine cC ?_
    have Ks := (Gq.cell (p := ⟨p, 22, none⟩) Kk hnp).trans Nv
    have Kt := (Gq.cell (p := ⟨p, 21, none⟩) Kk hnp).trans Mm
    have Mi := (Gq.cell (p := ⟨b0, 0, none⟩) Ik hnb).trans o0
    have Mj := (Gq.cell (p := ⟨b0, 1, none⟩) Ik hnb).trans o1
    have Mk := (Gq.cell (p := ⟨b0, 2, none⟩) Ik hnb).trans o2
    with_reducible refine cL.mk ?_
    go_simp
    first
    | exact ⟨⟨rfl, trivial⟩, aD.refl _ _⟩
  clear hK K
  try simp only [Act.put, List.setIfInBounds_toArray, List.set_cons_zero, List.set_cons_succ]
  first | (with_reducible refine aC (fun K hK => ?_)) | (refine aC (fun K hK => ?_))
  refine .inl ?_
  apply Exists.intro
  refine ⟨cX, ?_, hK _ _ _ _ ?_⟩
  . simp only [bJ, bM]
    refine ⟨?_, fun w9 Gq Gw => ?_⟩
    . first | rfl | (go_simp; done)
    with_reducible refine cC ?_
    have Ks := (Gq.cell (p := ⟨p, 22, none⟩) Kk hnp).trans Nv
    have Kt := (Gq.cell (p := ⟨p, 21, none⟩) Kk hnp).trans Mm
    have Mi := (Gq.cell (p := ⟨b0, 0, none⟩) Ik hnb).trans o0
    have Mj := (Gq.cell (p := ⟨b0, 1, none⟩) Ik hnb).trans o1
    have Mk := (Gq.cell (p := ⟨b0, 2, none⟩) Ik hnb).trans o2
    with_reducible refine cL.mk ?_
    go_simp
    first
    | exact ⟨⟨rfl, trivial⟩, aD.refl _ _⟩
  clear hK K
  try simp only [Act.put, List.setIfInBounds_toArray, List.set_cons_zero, List.set_cons_succ]
  first | (with_reducible refine aC (fun K hK => ?_)) | (refine aC (fun K hK => ?_))
  refine .inl ?_
  apply Exists.intro
  refine ⟨cX, ?_, hK _ _ _ _ ?_⟩
  . simp only [bJ, bM]
    refine ⟨?_, fun w9 Gq Gw => ?_⟩
    . first | rfl | (go_simp; done)
    with_reducible refine cC ?_
    have Ks := (Gq.cell (p := ⟨p, 22, none⟩) Kk hnp).trans Nv
    have Kt := (Gq.cell (p := ⟨p, 21, none⟩) Kk hnp).trans Mm
    have Mi := (Gq.cell (p := ⟨b0, 0, none⟩) Ik hnb).trans o0
    have Mj := (Gq.cell (p := ⟨b0, 1, none⟩) Ik hnb).trans o1
    have Mk := (Gq.cell (p := ⟨b0, 2, none⟩) Ik hnb).trans o2
    with_reducible refine cL.mk ?_
    go_simp
    first
    | exact ⟨⟨rfl, trivial⟩, aD.refl _ _⟩
  clear hK K
  try simp only [Act.put, List.setIfInBounds_toArray, List.set_cons_zero, List.set_cons_succ]
  first | (with_reducible refine aC (fun K hK => ?_)) | (refine aC (fun K hK => ?_))
  refine .inr (.inr ⟨CK, (DM 61 [.int .i64 1, .int .i64 (t : Int), .int .i64 a, .int .i64 k, .int .i64 v, .int .i64 0, .int .i64 0, .int .i64 0, .int .i64 ((σ.steps : Int) + 1)]), ⟨_, 0, rfl⟩, ?_, hK _ _ _ _ ?_⟩)
  . simp only [bJ, bM]
    refine ⟨?_, fun w9 Gq Gr => ?_⟩
    . first | rfl | (go_simp; done)
    with_reducible refine cC ?_
    have Ks := (Gq.cell (p := ⟨p, 22, none⟩) Kk hnp).trans Nv
    have Kt := (Gq.cell (p := ⟨p, 21, none⟩) Kk hnp).trans Mm
    have Mi := (Gq.cell (p := ⟨b0, 0, none⟩) Ik hnb).trans o0
    have Mj := (Gq.cell (p := ⟨b0, 1, none⟩) Ik hnb).trans o1
    have Mk := (Gq.cell (p := ⟨b0, 2, none⟩) Ik hnb).trans o2
    with_reducible refine cL.mk ?_
    go_simp
    exact ⟨⟨⟨_, rfl⟩, ⟨_, rfl, aY.new _ _ _⟩⟩, aD.of_same ((Below.refl _ _).alloc (Nat.le_refl _) _)⟩
  clear hK K
  try simp only [Act.put, List.setIfInBounds_toArray, List.set_cons_zero, List.set_cons_succ]
  first | (with_reducible refine aC (fun K hK => ?_)) | (refine aC (fun K hK => ?_))
  refine .inr (.inr ⟨(DN (σ.hist.length + 1)), (fun vv w' => ∃ A' c', vv = .slice A' (σ.hist.length + 1) c' /\ cU w' 0 61 9 A' (σ.hist.length + 1) c' (σ.hist ++ [[.int .i64 1, .int .i64 (t : Int), .int .i64 a, .int .i64 k, .int .i64 v, .int .i64 0, .int .i64 0, .int .i64 0, .int .i64 ((σ.steps : Int) + 1)]]) /\ ∀ b, iI A' b -> iI H b \/ w6.heap.size <= b), ⟨_, none, 0, rfl⟩, ?_, hK _ _ _ _ ?_⟩)
  . simp only [bJ, bM]
    rintro _ ⟨g9, rfl⟩
    refine ⟨?_, fun w9 Gq Gr => ?_⟩
    . first | rfl | (go_simp; done)
    with_reducible refine cC ?_
    have Hz := Gr
    have hmet := Gr.2
    clear Gr
    obtain ⟨w0, k0, k1, g', hv, hblk⟩ := hmet.1 (by kernel_rfl)
    cases hv
    have Sc := Gq.size
    have Kr := hblk.below (cA k1 (by kernel_rfl)) hblk.lt
    have Yn := Lib.hid (Oe.out.hi.below (cA Hz.1 (by kernel_rfl)))
    clear hmet Hz hblk k0 k1
    with_reducible refine cL.mk ?_
    refine iM (.tmp 53) (.tmp 61) rfl Tryz.underlying65 HI.out HZ.out HS.out HY.out rfl (by decide) (by decide) (A := H) (n := σ.hist.length) (c := ch) (rows := σ.hist) rfl Yn.out (g := g9) (c' := 1) rfl (ys := [.int .i64 1, .int .i64 (t : Int), .int .i64 a, .int .i64 k, .int .i64 v, .int .i64 0, .int .i64 0, .int .i64 0, .int .i64 ((σ.steps : Int) + 1)]) rfl ?_ ?_ (by omega) (Nat.zero_le _) ?_
    . intro j hj
      rw [Kr.cell j]
      simp
    . intro u hu
      simp only [List.mem_cons, List.not_mem_nil, or_false] at hu
      rcases hu with rfl | rfl | rfl | rfl | rfl | rfl | rfl | rfl | rfl <;> rfl
    . intro g' cap w' ho hk' hwh
      refine ⟨⟨⟨_, _, rfl⟩, ⟨_, _, rfl, ho, fun b hb => ?_⟩⟩, hk'.mono fun b hb => ⟨by decide, hb⟩⟩
      obtain ⟨a, ha, rfl⟩ := hb
      cases ha
      rcases hwh with ⟨a, ha, e⟩ | e
      . exact .inl ⟨a, ha, e⟩
      . exact .inr (by show w6.heap.size <= g'; omega)
  clear hK K
  try simp only [Act.put, List.setIfInBounds_toArray, List.set_cons_zero, List.set_cons_succ]
  refine cP ?_
  simp only [bM]
  rintro _ ⟨A9, c9, rfl⟩ _ ⟨g9, rfl⟩ w9 Gq hmet
  simp only [List.drop_succ_cons, List.drop_zero, List.drop, Act.put, List.setIfInBounds_toArray, List.set_cons_zero, List.set_cons_succ]
  with_reducible refine cC ?_
  obtain ⟨w0, k0, k1, A8, c8, Rr, hown, hin⟩ := hmet.2.1 rfl
  cases Rr
  have Qt := Lib.hid (hown.below (cA k1 (by kernel_rfl)))
  have Pu := Lib.hid hin
  clear hmet hown k0 k1 hin w0
  have HBF := Lib.hid (Oe.out.event Qt.out Gq Pu.out)
  have Rq := Oe.out.tH
  have htl := cO w6 Kd 103
  have hpk : ∀ b, cI p b -> cG w6 Kd 103 b = 102 := fun b hb => by rw [show b = p from hb]; exact (htl p Kk).trans Oe.out.tp
  have HKF := Lib.hid ((Wo.out.go htl Gq (fun b hb => by unfold wM; rw [Rq b hb]; omega)).go (bI.refl _ _) (bP w9 p 22 (.slice A9 (σ.hist.length + 1) c9)) (fun b hb => by unfold wM; rw [hpk b hb]; omega))
  have c22b := (Gq.cell (p := ⟨p, 22, none⟩) Kk hnp).trans Nv
  have f22b := (Gq.frozen (p := ⟨p, 22, none⟩) Kk hnp).trans (Oe.out.sh.frozen 22)
  have hp9 := Nat.lt_of_lt_of_le Kk Gq.size
  clear Gq Qt Pu htl hpk Rq
  with_reducible refine cL.mk ?_
  go_wp2
  go_ret
  refine ⟨rfl, _, HKF.out, n, mp, A9, c9, by have := HN.out; show n <= σ.steps + 1; omega, ?_⟩
  have hx := HBF.out
  rw [show [.int .i64 1, .int .i64 (t : Int), .int .i64 a, .int .i64 k, .int .i64 v, .int .i64 0, .int .i64 0, .int .i64 0, .int .i64 ((σ.steps : Int) + 1)] = yE 1 t a k v 0 0 0 ((σ.steps + 1 : Nat) : Int) by unfold yE; rw [show ((σ.steps + 1 : Nat) : Int) = (σ.steps : Int) + 1 by omega]] at hx
  exact hx
theorem Ge(h:kK w tag σ p gs go pt)(hok:lM N σ)(hN:N<=100000000)(t a k v:Int):
 Calls prog 22 #[(p,0),t,.agg #[a,k,v]] w fun e w'=>e=.returned (σ.callE t a k v)/\SI w tag (if σ.callE t a k v=0 then σ.call t.toNat a k v else σ) p gs go pt w':=by
 unfold pH.callE
 by_cases ht:0<=t/\t<4
 .have e:((t.toNat:Nat):Int)=t:=I
  rw[iN (fun q=>q ht)]
  by_cases d:(σ.th t.toNat).does=0
  .rw[iN (fun q=>q d)]
   cases ho:cB a k v with
   |false=>
    rw[iP rfl,iN aJ]
    have hx:=JD h hok (t:=t.toNat) I a k v d ho
    rw[e]at hx
    refine hx.mono ?_
    rintro e' w' ⟨rfl,hb⟩
    exact⟨rfl,SI.same h hb⟩
   |true=>
    rw[iN aJ,iP rfl]
    have hx:=WX h hok hN (t:=t.toNat) I a k v d ho
    rw[e]at hx
    exact hx
  rw[iP d,iN aJ]
  have hx:=MA h hok (t:=t.toNat) I a k v d
  rw[e]at hx
  refine hx.mono ?_
  rintro e' w' ⟨rfl,hb⟩
  exact⟨rfl,SI.same h hb⟩
 rw[iP ht,iN aJ]
 refine(SK p t a k v w ht).mono ?_
 rintro e' w' ⟨rfl,hb⟩
 exact⟨rfl,SI.same h hb⟩
end
section
variable{w:World}{tag:Nat->Nat}{σ:pH}{p gs mp go:Nat}{pt:Nat->Nat}{N:Nat}
theorem Fr(h:kK w tag σ p gs go pt)(hok:lM N σ)(hN:N<=100000000)(hsb:AR σ){t:Nat}(ht:t<4)(d:(σ.th t).does≠0):
 Calls prog 24 #[.pointer (some ⟨p,0,none⟩),.int .i64 (t:Int)] w fun e w'=>e=.returned (.tuple #[.agg #[.int .i64 (if(σ.loc t).fin=true then(σ.loc t).t.o1 else 0),.int .i64 (if(σ.loc t).fin=true then(σ.loc t).t.o2 else 0)],.bool (σ.loc t).fin,.int .i64 0])/\SI w tag (σ.step t) p gs go pt w':=by
 cases hf:(σ.loc t).fin with
 |false=>simpa using YZ h hok hN hsb ht d hf
 |true=>simpa using VG h hok hN hsb ht d hf
end
end
end Go.Proofs.YtplpimkgihnmhaaGreatDoor
