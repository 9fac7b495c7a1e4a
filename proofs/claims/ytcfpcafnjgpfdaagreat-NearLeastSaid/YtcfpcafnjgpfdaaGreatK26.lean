import Derived.Test.YtcfpcafnjgpfdaaGreatK25
set_option linter.unusedVariables false
set_option linter.unusedSimpArgs false

namespace Go.Proofs.YtcfpcafnjgpfdaaGreat
open Go.RowKit

set_option maxRecDepth 100000
section
def d05Right:Con where
 f:=89
 g:=fun | [⟨true,[.i x _,.i y _]⟩]=>some (.one (blV (coordB x y)),[])|_=>none
 ok:=by
  intro args res ps h _
  split at h<;>cases h
  intro W vals hv
  simp only[rvs_cons,rvs_nil,rv_t,rl_i,rl_nil] at hv
  obtain⟨_,⟨_,⟨_,_,rfl,_,_,rfl,rfl⟩,rfl⟩,_,rfl,rfl⟩:=hv
  exact (r05_Right _ _ W).mono fun _ _ h=>gv_bl h
theorem nok{e:Ed}(h:¬(e.k=1\/e.k=2\/e.k=3)):e.ok=false:=by
 cases ho:e.ok with
 | false=>rfl
 | true=>exact absurd (kind_of ho) h
theorem lt_T{a b:Int}(h:a<b):decide (a<b)=true:=by simpa using h
theorem lt_F{a b:Int}(h:¬a<b):decide (a<b)=false:=by simpa using h
theorem beq_ne{a b c d:Int}{x:Bool}(h:(a==c&&b==d)=x):(!eqZ [.i a,.i b] [.i c,.i d])=!x:=by rw[<- h];rfl
theorem chk_b{e:Ed}{b:Bool}(hA:coordB e.ax e.ay=true)(hB:coordB e.bx e.by'=true)(hC:coordB e.cx e.cy=true)(h:e.ok=b):checkZ e=cond b 0 11:=by
 cases b with
 | true=>exact checkZ_z h
 | false=>exact checkZ_11c h hA hB hC
def K6:List Con:=[d05Right]
theorem dchk_2(e:Ed)(hk:e.k=2)(hA:coordB e.ax e.ay=true)(hB:coordB e.bx e.by'=true)(hC:coordB e.cx e.cy=true)(k0:decide (e.k<1)=false)(k9:decide (e.k>3)=false):Fok Tryz.prog 52 [edV e lim c26] (.one (inV (checkZ e) lim)):=by
 have k1:(e.k==1)=false:=by simp[hk]
 have k3:(e.k==3)=false:=by simp[hk]
 have E:e.ok=((!((e.ax-e.cx==0)==(e.ay-e.cy==0)))&&(e.bx-e.cx==0-(e.ay-e.cy)&&e.by'-e.cy==e.ax-e.cx)):=by
  simp[Ed.ok,Ed.right,Ed.quarter,quarterB,rot,hA,hB,hC,hk,bne]
 cases hq:((e.ax-e.cx==0)==(e.ay-e.cy==0)) with
 | true =>
  rw[chk_b hA hB hC (b:=false) (by rw[E,hq];rfl)]
  exact fok K6 [false,false,false,false,false,false,false,true] [pF k0,pF k9,pF (not_F hA),pF (not_F hB),pF (not_F hC),pF k1,pF k3,pT hq] (by kernel_rfl)
 | false =>
  cases hz:(e.bx-e.cx==0-(e.ay-e.cy)&&e.by'-e.cy==e.ax-e.cx) with
  | true =>
   rw[chk_b hA hB hC (b:=true) (by rw[E,hq,hz];rfl)]
   exact fok K6 [false,false,false,false,false,false,false,false,false] [pF k0,pF k9,pF (not_F hA),pF (not_F hB),pF (not_F hC),pF k1,pF k3,pF hq,pF (beq_ne hz)] (by kernel_rfl)
  | false =>
   rw[chk_b hA hB hC (b:=false) (by rw[E,hq,hz];rfl)]
   exact fok K6 [false,false,false,false,false,false,false,false,true] [pF k0,pF k9,pF (not_F hA),pF (not_F hB),pF (not_F hC),pF k1,pF k3,pF hq,pT (beq_ne hz)] (by kernel_rfl)
theorem dchk_3(e:Ed)(hk:e.k=3)(hA:coordB e.ax e.ay=true)(hB:coordB e.bx e.by'=true)(hC:coordB e.cx e.cy=true)(k0:decide (e.k<1)=false)(k9:decide (e.k>3)=false):Fok Tryz.prog 52 [edV e lim c26] (.one (inV (checkZ e) lim)):=by
 have k1:(e.k==1)=false:=by simp[hk]
 have k3:(e.k==3)=true:=by simp[hk]
 have E:e.ok=((!((e.ax-e.cx==0)==(e.ay-e.cy==0)))&&(e.bx-e.cx==e.ay-e.cy&&e.by'-e.cy==0-(e.ax-e.cx))):=by
  simp[Ed.ok,Ed.right,Ed.quarter,quarterB,rot,hA,hB,hC,hk,bne]
 cases hq:((e.ax-e.cx==0)==(e.ay-e.cy==0)) with
 | true =>
  rw[chk_b hA hB hC (b:=false) (by rw[E,hq];rfl)]
  exact fok K6 [false,false,false,false,false,false,true,true] [pF k0,pF k9,pF (not_F hA),pF (not_F hB),pF (not_F hC),pF k1,pT k3,pT hq] (by kernel_rfl)
 | false =>
  cases hz:(e.bx-e.cx==e.ay-e.cy&&e.by'-e.cy==0-(e.ax-e.cx)) with
  | true =>
   rw[chk_b hA hB hC (b:=true) (by rw[E,hq,hz];rfl)]
   exact fok K6 [false,false,false,false,false,false,true,false,false] [pF k0,pF k9,pF (not_F hA),pF (not_F hB),pF (not_F hC),pF k1,pT k3,pF hq,pF (beq_ne hz)] (by kernel_rfl)
  | false =>
   rw[chk_b hA hB hC (b:=false) (by rw[E,hq,hz];rfl)]
   exact fok K6 [false,false,false,false,false,false,true,false,true] [pF k0,pF k9,pF (not_F hA),pF (not_F hB),pF (not_F hC),pF k1,pT k3,pF hq,pT (beq_ne hz)] (by kernel_rfl)
theorem dchk_1(e:Ed)(hk:e.k=1)(hA:coordB e.ax e.ay=true)(hB:coordB e.bx e.by'=true)(hC:coordB e.cx e.cy=true)(k0:decide (e.k<1)=false)(k9:decide (e.k>3)=false):Fok Tryz.prog 52 [edV e lim c26] (.one (inV (checkZ e) lim)):=by
 have k1:(e.k==1)=true:=by simp[hk]
 have E:e.ok=(e.cx==0&&e.cy==0):=by simp[Ed.ok,Ed.right,Ed.lone,hA,hB,hC,hk]
 cases hz:(e.cx==0&&e.cy==0) with
 | true =>
  rw[chk_b hA hB hC (b:=true) (by rw[E,hz])]
  exact fok K6 [false,false,false,false,false,true,false] [pF k0,pF k9,pF (not_F hA),pF (not_F hB),pF (not_F hC),pT k1,pF (beq_ne hz)] (by kernel_rfl)
 | false =>
  rw[chk_b hA hB hC (b:=false) (by rw[E,hz])]
  exact fok K6 [false,false,false,false,false,true,true] [pF k0,pF k9,pF (not_F hA),pF (not_F hB),pF (not_F hC),pT k1,pT (beq_ne hz)] (by kernel_rfl)
theorem c26_rt{e:Ed}(hA:coordB e.ax e.ay=true)(hB:coordB e.bx e.by'=true)(hC:coordB e.cx e.cy=true)(W:World)(vals:List Value)(hv:RepVs W W (fun _=>0) 0 [edV e lim lim] vals):RepVs W W (fun _=>0) 0 [edV e lim c26] vals :=
 rvs_1 (ed_rt (toEd_V e lim lim) (by simp[Ed.right,hA,hB,hC])) rvs_0 vals hv
theorem dchk_ok(e:Ed):Fok Tryz.prog 52 [edV e lim lim] (.one (inV (checkZ e) lim)):=by
 by_cases h1:e.k<1
 ·rw [checkZ_11a (nok (by omega)) (by omega)]
  exact fok K6 [true] [pT (lt_T h1)] (by kernel_rfl)
 by_cases h3:3<e.k
 ·rw [checkZ_11b (nok (by omega)) (by omega)]
  exact fok K6 [false,true] [pF (lt_F h1),pT (gt_T h3)] (by kernel_rfl)
 have k0:=lt_F h1
 have k9:=gt_F h3
 cases hA:coordB e.ax e.ay with
 | false =>
  rw[checkZ_10 (okA hA) (by omega) (by omega) (.inl hA)]
  exact fok K6 [false,false,true] [pF k0,pF k9,pT (not_T hA)] (by kernel_rfl)
 | true =>
  cases hB:coordB e.bx e.by' with
  | false =>
   rw[checkZ_10 (okB hB) (by omega) (by omega) (.inr (.inl hB))]
   exact fok K6 [false,false,false,true] [pF k0,pF k9,pF (not_F hA),pT (not_T hB)] (by kernel_rfl)
  | true =>
   cases hC:coordB e.cx e.cy with
   | false =>
    rw[checkZ_10 (okC hC) (by omega) (by omega) (.inr (.inr hC))]
    exact fok K6 [false,false,false,false,true] [pF k0,pF k9,pF (not_F hA),pF (not_F hB),pT (not_T hC)] (by kernel_rfl)
   | true =>
    refine Fok.pre ?_ (c26_rt hA hB hC)
    obtain hk|hk|hk:e.k=1\/e.k=2\/e.k=3:=by omega
    ·exact dchk_1 e hk hA hB hC k0 k9
    ·exact dchk_2 e hk hA hB hC k0 k9
    ·exact dchk_3 e hk hA hB hC k0 k9
def d06Chk:Con where
 f:=52
 g:=fun | [⟨true,l⟩]=>(toEd l).map fun e=>(.one (inV (checkZ e) 11),[])|_=>none
 ok:=by
  intro args res ps h _
  split at h<;>try cases h
  rename_i l
  cases he:toEd l with
  | none=>simp[he] at h
  | some e =>
   simp only[he,Option.map_some,Option.some.injEq,Prod.mk.injEq] at h
   obtain⟨rfl,rfl⟩:=h
   exact ((dchk_ok e).bd (checkZ_64 e).1).pre fun W=>rvs_1 (ed_lim he) rvs_0
theorem radZ_two{e:Ed}(h:e.ok=true)(hk:(e.k==1)=false):radZ e=max (e.ax-e.cx) (0-(e.ax-e.cx))+max (e.ay-e.cy) (0-(e.ay-e.cy)):=by
 rw[radZ_arc h hk]
 have hk':¬e.k=1:=by simpa using hk
 have hq:((e.ax-e.cx==0) != (e.ay-e.cy==0))=true:=by
  simp only[Ed.ok,Bool.and_eq_true,if_neg hk'] at h
  have h2:=h.2
  split at h2
  ·simp only[Ed.quarter,quarterB,Bool.and_eq_true] at h2;exact h2.1
  ·split at h2
   ·simp only[Ed.quarter,quarterB,Bool.and_eq_true] at h2;exact h2.1
   ·cases h2
 by_cases h1:e.ax-e.cx=0
 ·omega
 ·by_cases h2 : e.ay - e.cy = 0
  ·omega
  ·exfalso
   rw[beq_false_of_ne h1,beq_false_of_ne h2] at hq
   cases hq
theorem drad_ok(e:Ed)(ho:e.ok=true):Fok Tryz.prog 23 [edV e 3 c26] (.one (inV (radZ e) lim)):=by
 cases hk:(e.k==1) with
 | true =>
  rw[radZ_line (by simpa using hk)]
  exact fok [d06Chk] [true] [pT hk] (by kernel_rfl)
 | false =>
  rw[radZ_two ho hk]
  exact fok [d06Chk] [false,false] [pF hk,pF (chk_F ho)] (by kernel_rfl)
def d06Rad:Con where
 f:=23
 g:=fun | [⟨true,l⟩]=>(toEd l).map fun e=>(.one (inV (radZ e) 134217728),[e.ok=true])|_=>none
 ok:=by
  intro args res ps h hp
  split at h<;>try cases h
  rename_i l
  cases he:toEd l with
  | none=>simp[he] at h
  | some e =>
   simp only[he,Option.map_some,Option.some.injEq,Prod.mk.injEq] at h
   obtain⟨rfl,rfl⟩:=h
   exact ((drad_ok e hp.1).bd (rad_b hp.1).1).pre fun W=>rvs_1 (ed_ok he hp.1) rvs_0
end

set_option maxRecDepth 100000
section
def sgV(i:Int):Int:=[1,-1].getD i.toNat 0
def hyV(i:Int):Int:=[5,5,13,25,1].getD i.toNat 0
def lxV(i:Int):Int:=[3,4,5,7,0].getD i.toNat 0
def lyV(i:Int):Int:=[4,3,12,24,1].getD i.toNat 0
def shX(L:List Int)(j:Nat)(x y:Int):Int×Int:=if nV L j 2=0 then (x+nV L (j+1) 3-1,y) else (x,y)
def at6(e:Ed)(L:List Int):Int×Int :=
 if nV L 2 6=0 then shX L 3 e.ax e.ay
 else if nV L 2 6=1 then shX L 3 e.bx e.by'
 else if nV L 2 6=2 then shX L 4 (e.ax+((e.bx-e.ax)*nV L 3 5).tdiv 4) (e.ay+((e.by'-e.ay)*nV L 3 5).tdiv 4)
 else if nV L 2 6=3 then shX L 7 (e.cx+(sgV (nV L 5 2)*lxV (nV L 3 5)*radZ e).tdiv (hyV (nV L 4 5))) (e.cy+(sgV (nV L 6 2)*lyV (nV L 3 5)*radZ e).tdiv (hyV (nV L 4 5)))
 else if nV L 2 6=4 then shX L 3 (nV L 0 241-120) e.ay
 else shX L 3 (nV L 0 241-120) (nV L 1 241-120)
theorem hyV_ne{i:Int}(h:0<=i/\i<5):hyV i≠0:=by
 obtain rfl|rfl|rfl|rfl|rfl:i=0\/i=1\/i=2\/i=3\/i=4:=by omega
 all_goals decide
theorem at6_a(e:Ed)(L:List Int)(h:nV L 2 6=0\/nV L 2 6=1\/nV L 2 6=2):Fok Tryz.prog 6 [edV e 3 c26,⟨false,[.ds L]⟩] (.one (ptL (at6 e L))):=by
 unfold at6 shX
 by_cases h0:nV L 2 6=0
 ·rw [if_pos h0]
  by_cases c:nV L 3 2=0
  ·rw [if_pos c]
   exact fokX XD [d06Rad] [true,true] [pT (bq_T h0),pT (bq_T c)] (by kernel_rfl)
  ·rw [if_neg c]
   exact fokX XD [d06Rad] [true,false] [pT (bq_T h0),pF (bq_F c)] (by kernel_rfl)
 rw[if_neg h0]
 by_cases h1:nV L 2 6=1
 ·rw [if_pos h1]
  by_cases c:nV L 3 2=0
  ·rw [if_pos c]
   exact fokX XD [d06Rad] [false,true,true] [pF (bq_F h0),pT (bq_T h1),pT (bq_T c)] (by kernel_rfl)
  ·rw [if_neg c]
   exact fokX XD [d06Rad] [false,true,false] [pF (bq_F h0),pT (bq_T h1),pF (bq_F c)] (by kernel_rfl)
 rw[if_neg h1]
 have h2:nV L 2 6=2:=by omega
 rw[if_pos h2]
 by_cases c:nV L 4 2=0
 ·rw [if_pos c]
  exact fokX XD [d06Rad] [false,false,true,true] [pF (bq_F h0),pF (bq_F h1),pT (bq_T h2),p4,p4,pT (bq_T c)] (by kernel_rfl)
 ·rw [if_neg c]
  exact fokX XD [d06Rad] [false,false,true,false] [pF (bq_F h0),pF (bq_F h1),pT (bq_T h2),p4,p4,pF (bq_F c)] (by kernel_rfl)
theorem at6_b(e:Ed)(L:List Int)(he:e.ok=true)(h0:¬nV L 2 6=0)(h1:¬nV L 2 6=1)(h2:¬nV L 2 6=2):Fok Tryz.prog 6 [edV e 3 c26,⟨false,[.ds L]⟩] (.one (ptL (at6 e L))):=by
 have b3:=nV_bd L 3 (m:=5) (by omega)
 have b4:=nV_bd L 4 (m:=5) (by omega)
 have b5:=nV_bd L 5 (m:=2) (by omega)
 have b6:=nV_bd L 6 (m:=2) (by omega)
 have hn:=hyV_ne b4
 unfold at6 shX
 rw[if_neg h0,if_neg h1,if_neg h2]
 by_cases h3:nV L 2 6=3
 ·rw [if_pos h3]
  by_cases c:nV L 7 2=0
  ·rw [if_pos c]
   exact fokX XD [d06Rad] [false,false,false,true,true] [pF (bq_F h0),pF (bq_F h1),pF (bq_F h2),pT (bq_T h3),pP he,pP b3,pP b4,pP b5,pP hn,pP b6,pP hn,pT (bq_T c)] (by kernel_rfl)
  ·rw [if_neg c]
   exact fokX XD [d06Rad] [false,false,false,true,false] [pF (bq_F h0),pF (bq_F h1),pF (bq_F h2),pT (bq_T h3),pP he,pP b3,pP b4,pP b5,pP hn,pP b6,pP hn,pF (bq_F c)] (by kernel_rfl)
 rw[if_neg h3]
 by_cases h4:nV L 2 6=4
 ·rw [if_pos h4]
  by_cases c:nV L 3 2=0
  ·rw [if_pos c]
   exact fokX XD [d06Rad] [false,false,false,false,true,true] [pF (bq_F h0),pF (bq_F h1),pF (bq_F h2),pF (bq_F h3),pT (bq_T h4),pT (bq_T c)] (by kernel_rfl)
  ·rw [if_neg c]
   exact fokX XD [d06Rad] [false,false,false,false,true,false] [pF (bq_F h0),pF (bq_F h1),pF (bq_F h2),pF (bq_F h3),pT (bq_T h4),pF (bq_F c)] (by kernel_rfl)
 rw[if_neg h4]
 by_cases c:nV L 3 2=0
 ·rw [if_pos c]
  exact fokX XD [d06Rad] [false,false,false,false,false,true] [pF (bq_F h0),pF (bq_F h1),pF (bq_F h2),pF (bq_F h3),pF (bq_F h4),pT (bq_T c)] (by kernel_rfl)
 ·rw [if_neg c]
  exact fokX XD [d06Rad] [false,false,false,false,false,false] [pF (bq_F h0),pF (bq_F h1),pF (bq_F h2),pF (bq_F h3),pF (bq_F h4),pF (bq_F c)] (by kernel_rfl)
def dAt:Con where
 f:=6
 g:=fun | [⟨true,l⟩,⟨false,[.ds L]⟩]=>(toEd l).map fun e=>(.one (ptL (at6 e L)),[e.ok=true])|_=>none
 ok:=by
  intro args res ps h hp
  split at h<;>try cases h
  rename_i l L
  cases he:toEd l with
  | none=>simp[he] at h
  | some e =>
   simp only[he,Option.map_some,Option.some.injEq,Prod.mk.injEq] at h
   obtain⟨rfl,rfl⟩:=h
   refine Fok.pre ?_ fun W=>rvs_1 (ed_ok he hp.1) (rvs_1 (fun _ h=>h) rvs_0)
   by_cases h0:nV L 2 6=0
   ·exact at6_a e L (.inl h0)
   by_cases h1:nV L 2 6=1
   ·exact at6_a e L (.inr (.inl h1))
   by_cases h2:nV L 2 6=2
   ·exact at6_a e L (.inr (.inr h2))
   ·exact at6_b e L hp.1 h0 h1 h2
end

set_option maxRecDepth 100000
section
theorem wi_min(a b:Int):decide (min a b >= 0)=(decide (0<=a)&&decide (0<=b)):=by
 rw[Bool.eq_iff_iff];simp;omega
theorem within_ok(dx dy fx fy tx ty:Int):Fok Tryz.prog 92 [ptV dx dy c27,ptV fx fy c27,ptV tx ty c27] (.one (blV (wiB dx dy fx fy tx ty))):=by
 have h:wiB dx dy fx fy tx ty=decide (min (fx*dy-fy*dx) (dx*ty-dy*tx) >= 0):=(wi_min _ _).symm
 rw[h]
 exact fok [] [] [] (by kernel_rfl)
def cWithin:Con where
 f:=92
 g:=fun | [⟨true,[.i dx A,.i dy B]⟩,⟨true,[.i fx C,.i fy D]⟩,⟨true,[.i tx E,.i ty F]⟩]=>if (A<=c27/\B<=c27)/\(C<=c27/\D<=c27)/\(E<=c27/\F<=c27) then some (.one (blV (wiB dx dy fx fy tx ty)),[]) else none|_=>none
 ok:=by
  intro args res ps h hp
  split at h<;>try cases h
  split at h<;>cases h
  rename_i hb
  exact (within_ok _ _ _ _ _ _).pre fun W=>rvs_1 (pt_low hb.1.1 hb.1.2) (rvs_1 (pt_low hb.2.1.1 hb.2.1.2) (rvs_1 (pt_low hb.2.2.1 hb.2.2.2) rvs_0))
theorem neB_F{x y:Int}(h:(x==0&&y==0)=true):(!eqZ [.i x,.i y] [.i 0,.i 0])=false:=by simpa[eqZ,eqS] using h
theorem neB_T{x y:Int}(h:(x==0&&y==0)=false):(!eqZ [.i x,.i y] [.i 0,.i 0])=true:=by simp only[eqZ,eqS,h];rfl
theorem quarter_ok(e:Ed)(x y:Int)(hok:e.ok=true):Fok Tryz.prog 62 [edV e 3 c26,ptV x y c27] (.one (blV (inQ e x y))):=by
 by_cases hk:e.k=3
 ·have h1 : (e.k == 3) = true := by simpa using hk
  cases hz:(x==0&&y==0) with
  | true =>
   rw[show inQ e x y=false by unfold inQ;rw[hz];rfl]
   exact fok [cRev,cWithin] [true,false] [pT h1,pP hok,pF (neB_F hz)] (by kernel_rfl)
  | false =>
   rw[show inQ e x y=wiB x y (e.bx-e.cx) (e.by'-e.cy) (e.ax-e.cx) (e.ay-e.cy) by unfold inQ;rw[hz,if_pos hk];rfl]
   exact fok [cRev,cWithin] [true,true] [pT h1,pP hok,pT (neB_T hz)] (by kernel_rfl)
 ·have h1 : (e.k == 3) = false := by simpa using hk
  cases hz:(x==0&&y==0) with
  | true =>
   rw[show inQ e x y=false by unfold inQ;rw[hz];rfl]
   exact fok [cRev,cWithin] [false,false] [pF h1,pF (neB_F hz)] (by kernel_rfl)
  | false =>
   rw[show inQ e x y=wiB x y (e.ax-e.cx) (e.ay-e.cy) (e.bx-e.cx) (e.by'-e.cy) by unfold inQ;rw[hz,if_neg hk];rfl]
   exact fok [cRev,cWithin] [false,true] [pF h1,pT (neB_T hz)] (by kernel_rfl)
def cQuarter:Con where
 f:=62
 g:=fun | [⟨true,l⟩,⟨true,[.i x A,.i y B]⟩]=>if A<=c27/\B<=c27 then (toEd l).map fun e=>(.one (blV (inQ e x y)),[e.ok=true]) else none|_=>none
 ok:=by
  intro args res ps h hp
  split at h<;>try cases h
  split at h<;>try cases h
  rename_i hb
  rename_i l x A y B
  cases he:toEd l with
  | none=>simp[he] at h
  | some e =>
   simp only[he,Option.map_some,Option.some.injEq,Prod.mk.injEq] at h
   obtain⟨rfl,rfl⟩:=h
   exact (quarter_ok e x y hp.1).pre fun W=>rvs_1 (ed_ok he hp.1) (rvs_1 (pt_low hb.1 hb.2) rvs_0)
def spV(s:Sp):V1:=⟨true,[.i s.x lim,.i s.y lim,.i s.dx lim,.i s.dy lim,.i s.p lim,.i s.q lim,.i s.len lim]⟩
def rsV(r:Rt×Sp):AV:=.tup [rtV r.1,spV r.2]
theorem zero_sub'(x:Int):0-x = -x:=by omega
end

set_option maxRecDepth 100000
section
theorem coord_F{x y:Int}(h:coordB x y=true):(!coordB x y)=false:=by rw[h];rfl
theorem coord_T{x y:Int}(h:coordB x y=false):(!coordB x y)=true:=by rw[h];rfl
theorem mulP_sq{x:Int}(h:I64 x):(mulP (ofZ x) (ofZ x)).1=ofZ (x*x):=by
 have s0:=(Wd.of64 h).small (by omega)
 have s1:=((Wd.of64 h).mul (Wd.of64 h)).small (by omega)
 rw[mulP_small' s0 s0 s1]
def cPower:Con where
 f:=60
 g:=fun | [⟨false,[.i x _]⟩]=>some (.one (nmV (ofZ (x*x))),[])|_=>none
 ok:=by
  intro args res ps h _
  split at h<;>cases h
  intro W vals hv
  have hx:=hv
  simp only[rvs_cons,rvs_nil,rv_i] at hx
  obtain⟨_,⟨⟨_,hi⟩,rfl⟩,_,rfl,rfl⟩:=hx
  rw[<- mulP_sq hi]
  exact fok [cNOf,cMul] [] [] (by kernel_rfl) W _ hv
def KP:List Con:=[cNOf,cPower,cRtOf,cChk,cVRight,cRad,cQuarter]
theorem point_ok(e:Ed)(x y:Int)(hok:e.ok=true)(hc:coordB x y=true):Fok Tryz.prog 7 [edV e 3 c26,ptV x y c26] (rsV (pointR e x y)):=by
 have P1:=pF (chk_F hok)
 have P2:=pF (coord_F hc)
 have e0:pointR e x y=if e.k=1 then lineR e x y else arcR e x y:=by unfold pointR;rw[hok,hc];rfl
 rw[e0]
 by_cases hk:e.k=1
 ·have hk1 : (e.k == 1) = true := by simpa using hk
  rw[if_pos hk]
  unfold lineR
  split
  ·rename_i h1
   exact fok KP [false,false,true,true] [P1,P2,pT hk1,pT (decide_eq_true h1)] (by kernel_rfl)
  ·rename_i h1
   split
   ·rename_i h2
    exact fok KP [false,false,true,false,true] [P1,P2,pT hk1,pF (decide_eq_false h1),pT (ge_T h2)] (by kernel_rfl)
   ·rename_i h2
    exact fok KP [false,false,true,false,false] [P1,P2,pT hk1,pF (decide_eq_false h1),pF (ge_F h2)] (by kernel_rfl)
 ·have hk1 : (e.k == 1) = false := by simpa using hk
  rw[if_neg hk]
  unfold arcR
  split
  ·rename_i hq
   by_cases h2:radZ e*radZ e<=sqI (x-e.cx) (y-e.cy)
   ·rw [if_pos h2, <- zero_sub' (radZ e)]
    exact fok KP [false,false,false,true,true] [P1,P2,pF hk1,pP hok,pP hok,pT hq,pT (ge_T h2)] (by kernel_rfl)
   ·rw [if_neg h2]
    exact fok KP [false,false,false,true,false,true] [P1,P2,pF hk1,pP hok,pP hok,pT hq,pF (ge_F h2),pP hok,pT hq] (by kernel_rfl)
  ·rename_i hq
   replace hq:=Bool.eq_false_iff.2 hq
   split
   ·rename_i h2
    exact fok KP [false,false,false,false,false,true] [P1,P2,pF hk1,pP hok,pP hok,pF hq,pP hok,pF hq,pT (decide_eq_true h2)] (by kernel_rfl)
   ·rename_i h2
    exact fok KP [false,false,false,false,false,false] [P1,P2,pF hk1,pP hok,pP hok,pF hq,pP hok,pF hq,pF (decide_eq_false h2)] (by kernel_rfl)
theorem point_no(e:Ed)(x y:Int)(h:(e.ok&&coordB x y)=false):Fok Tryz.prog 7 [edV e lim lim,ptV x y lim] (rsV (pointR e x y)):=by
 rw[show pointR e x y=(Rt.no,Sp.no) by unfold pointR;rw[h];rfl]
 cases ho:e.ok with
 | false=>exact fok KP [true] [pT (chk_T ho)] (by kernel_rfl)
 | true =>
  rw[ho] at h
  exact fok KP [false,true] [pF (chk_F ho),pT (coord_T h)] (by kernel_rfl)
def cPoint:Con where
 f:=7
 g:=fun | [⟨true,l⟩,⟨true,[.i x _,.i y _]⟩]=>(toEd l).map fun e=>(rsV (pointR e x y),[])|_=>none
 ok:=by
  intro args res ps h hp
  split at h<;>try cases h
  rename_i l x A y B
  cases he:toEd l with
  | none=>simp[he] at h
  | some e =>
   simp only[he,Option.map_some,Option.some.injEq,Prod.mk.injEq] at h
   obtain⟨rfl,rfl⟩:=h
   cases hc:(e.ok&&coordB x y) with
   | false=>exact (point_no e x y hc).pre fun W=>rvs_1 (ed_lim he) (rvs_1 pt_lim rvs_0)
   | true =>
    simp only[Bool.and_eq_true] at hc
    exact (point_ok e x y hc.1 hc.2).pre fun W=>rvs_1 (ed_ok he hc.1) (rvs_1 (pt_co (coordB_iff.1 hc.2)) rvs_0)
end
theorem sideZ_neg(a b:Int)(c:Nat):sideZ (-a) (-b) (c:Int) = -sideZ a b (c:Int):=Sg.uniq (side_sg (-a) (-b) c) (Sg.eq (side_sg a b c).neg fun k=>(lin_neg a b c k).symm)
theorem sgn_mul{g:Int}(h:0<g)(a:Int):sgn (g*a)=sgn a:=by
 rcases sgn_cases a with⟨h1,h2⟩|⟨h1,h2⟩|⟨h1,h2⟩
 ·have := Int.mul_pos h h2
  rcases sgn_cases (g*a) with⟨h3,h4⟩|⟨h3,h4⟩|⟨h3,h4⟩<;>omega
 ·rw[h2,Int.mul_zero]
 ·have := Int.mul_neg_of_pos_of_neg h h2
  rcases sgn_cases (g*a) with⟨h3,h4⟩|⟨h3,h4⟩|⟨h3,h4⟩<;>omega
theorem cmpZ_sub(a b:Int):cmpZ a b=sgn (a-b):=by
 rcases cmpZ_case a b with⟨h1,h2⟩|⟨h1,h2⟩|⟨h1,h2⟩<;>rcases sgn_cases (a-b) with⟨h3,h4⟩|⟨h3,h4⟩|⟨h3,h4⟩<;>omega
theorem cmpZ_mul{g:Int}(h:0<g)(a b:Int):cmpZ (g*a) (g*b)=cmpZ a b:=by
 rw[cmpZ_sub,cmpZ_sub,<- Int.mul_sub,sgn_mul h]
theorem sideZ_scale{g:Int}(h:0<g)(a b c:Int):sideZ (g*a) b (g*g*c)=sideZ a b c:=by
 have h2:=Int.mul_pos h h
 unfold sideZ
 rw[sgn_mul h,sgn_mul h2]
 have e1:g*a*(g*a)=g*g*(a*a):=by grind
 have e2:b*b*(g*g*c)=g*g*(b*b*c):=by grind
 rw[e1,e2,cmpZ_mul h2]
theorem sideZ_bd(a b c:Int) : -1<=sideZ a b c/\sideZ a b c<=1:=by
 unfold sideZ
 split
 ·omega
 ·rcases sgn_cases a with⟨h1,h2⟩|⟨h1,h2⟩|⟨h1,h2⟩<;>rcases cmpZ_case (a*a) (b*b*c) with⟨h3,h4⟩|⟨h3,h4⟩|⟨h3,h4⟩<;>rw[h1,h3]<;>decide
theorem cmpR_whole(A s n d:Int):cmpR A s n d 0 0 1=sideZ (A*d) s (n*d):=by
 have:=sideZ_bd (A*d) s (n*d)
 unfold cmpR
 split
 ·omega
 ·rename_i h
  have:sideZ (A*d) s (n*d)=0:=by omega
  rw[this,Int.zero_mul]
theorem side_whole{f d n:Int}(hf:0<=f)(hd:0<d)(hn:0<=n):sideZ (-f*d) 1 (n*d)=sgn (n-d*f*f):=by
 have s1:sgn 1=1:=rfl
 unfold sideZ
 rw[s1,Int.one_mul,Int.mul_comm n d,sgn_mul hd,Int.mul_comm (-f) d,sgn_mul hd]
 rcases sgn_cases n with⟨h1,h2⟩|⟨h1,h2⟩|⟨h1,h2⟩
 ·rcases sgn_cases (-f) with ⟨h3, h4⟩ | ⟨h3, h4⟩ | ⟨h3, h4⟩
  ·omega
  ·obtain rfl : f = 0 := by omega
   rw[h1,h3,if_pos (by decide),Int.mul_zero,Int.sub_zero,h1]
   decide
  ·rw [h1, h3, if_neg (by decide)]
   have e:d * -f*(d * -f)=d*(d*f*f):=by grind
   rw[e,Int.mul_one,Int.one_mul,cmpZ_mul hd,cmpZ_sub]
   have e2:n-d*f*f = -(d*f*f-n):=by omega
   rw[e2]
   rcases sgn_cases (d*f*f-n) with⟨h5,h6⟩|⟨h5,h6⟩|⟨h5,h6⟩<;>rcases sgn_cases (-(d*f*f-n)) with⟨h7,h8⟩|⟨h7,h8⟩|⟨h7,h8⟩<;>omega
 ·subst h2
  rw[h1,Int.mul_zero,if_pos (Int.le_refl 0),Int.zero_sub]
  have e : -(d*f*f)=d*(f * -f):=by grind
  rw[e,sgn_mul hd]
  rcases sgn_cases (-f) with⟨h3,h4⟩|⟨h3,h4⟩|⟨h3,h4⟩
  ·omega
  ·obtain rfl : f = 0 := by omega
   rfl
  ·rw [h3, sgn_mul (show 0 < f by omega), h3]
   decide
 ·omega
def rootOf(add s:Int)(n d:Nat):Rt:=if s=0\/n=0 then ⟨add,0,zero,ofZ 1⟩ else ⟨add,s,ofZ ((n/Nat.gcd n d:Nat):Int),ofZ ((d/Nat.gcd n d:Nat):Int)⟩
theorem small_nat{n k:Nat}(h:n<4294967296 ^ k)(hk:k<=64):small (n:Int)=true:=small_of_lt (k:=k) (by rw[Int.natAbs_natCast];exact h) hk
theorem ofZ_len{n k:Nat}(h:n<4294967296 ^ k):(ofZ (n:Int)).d.length<=k:=by
 simp only[ofZ,Int.natAbs_natCast]
 exact (digs_length_le _ _).2 h
theorem ofP_nat{add s:Int}{n d:Nat}(hs : -1<=s/\s<=1)(hn:n<4294967296 ^ 8)(hd:d<4294967296 ^ 8)(h0:0<d):ofP add s (ofZ (n:Int)) (ofZ (d:Int))=(rootOf add s n d,true):=by
 have sn:=small_nat hn (by decide)
 have sd:=small_nat hd (by decide)
 have vn:val (ofZ (n:Int)).d=n:=by rw[val_ofZ];rfl
 have vd:val (ofZ (d:Int)).d=d:=by rw[val_ofZ];rfl
 have hb:ofBad s (ofZ (n:Int)) (ofZ (d:Int))=false:=ofBad_of hs.1 hs.2 (ofZ_right sn) (ofZ_right sd) neg_ofZ (by rw[ofZ_z];omega)
 unfold rootOf
 by_cases hz:s=0\/n=0
 ·rw [if_pos hz]
  unfold ofP
  rw[hb,if_neg (by simp),if_pos (by rw[ofZ_z];omega)]
 ·rw [if_neg hz, ofP_main neg_ofZ (by rw [ofZ_z]; omega) hb (by rw [ofZ_z]; omega), vn, vd, if_neg]
  have h1:=ofZ_len (Nat.lt_of_le_of_lt (Nat.div_le_self n (Nat.gcd n d)) hn)
  have h2:=ofZ_len (Nat.lt_of_le_of_lt (Nat.div_le_self d (Nat.gcd n d)) hd)
  omega
theorem whole_ok{add s:Int}{n d:Nat}(hs : -1<=s/\s<=1)(hn:n<4294967296 ^ 8)(hd:d<4294967296 ^ 8)(h0:0<d):(rootOf add s n d).Ok/\(rootOf add s n d).right=true:=by
 have dg:∀z,Dig (ofZ z).d:=fun z=>dig_digs _
 obtain⟨h1,h2,_⟩:=ofP_ok (dg n) (dg d) (ofP_nat (add:=add) hs hn hd h0)
 exact⟨h1,right_of h2 h1.nr h1.dr⟩
theorem cmp_int{add s x:Int}{n d:Nat}(h0:0<d)(hs:s=0->n=0):cmpR ((rootOf add s n d).add-x) (rootOf add s n d).s (rootOf add s n d).n.z (rootOf add s n d).d.z 0 0 1=sideZ ((add-x)*d) s ((n:Int)*d):=by
 rw[cmpR_whole]
 unfold rootOf
 by_cases hz:s=0\/n=0
 ·have hn : n = 0 := by rcases hz with h | h; exact hs h; exact h
  rw[if_pos hz,hn]
  simp only
  rw[ofZ_z,zero_z]
  have e:∀y t:Int,sideZ y t 0=sgn y:=fun y t=>by
   have:sgn 0=0:=rfl
   unfold sideZ
   rw[this,Int.mul_zero,Int.mul_zero,if_pos (Int.le_refl 0)]
   rcases sgn_cases y with⟨h,_⟩|⟨h,_⟩|⟨h,_⟩<;>rw[h]<;>decide
  rw[Int.zero_mul,e,show ((0:Nat):Int)*(d:Int)=0 by simp,e,Int.mul_one,Int.mul_comm,sgn_mul (by omega)]
 ·rw [if_neg hz]
  simp only
  rw[ofZ_z,ofZ_z]
  have hg:0<Nat.gcd n d:=Nat.gcd_pos_of_pos_right _ h0
  have e1:Nat.gcd n d*(n/Nat.gcd n d)=n:=Nat.mul_div_cancel' (Nat.gcd_dvd_left _ _)
  have e2:Nat.gcd n d*(d/Nat.gcd n d)=d:=Nat.mul_div_cancel' (Nat.gcd_dvd_right _ _)
  have e1':(n:Int)=(Nat.gcd n d:Int)*((n/Nat.gcd n d:Nat):Int):=by rw[<- Int.natCast_mul,e1]
  have e2':(d:Int)=(Nat.gcd n d:Int)*((d/Nat.gcd n d:Nat):Int):=by rw[<- Int.natCast_mul,e2]
  have hg2:(0:Int)<(Nat.gcd n d:Int):=by omega
  generalize (Nat.gcd n d:Int)=g at *
  generalize ((n/Nat.gcd n d:Nat):Int)=N at *
  generalize ((d/Nat.gcd n d:Nat):Int)=D at *
  rw[e1',e2',show (add-x)*(g*D)=g*((add-x)*D) by grind,show g*N*(g*D)=g*g*(N*D) by grind,sideZ_scale hg2]
theorem addP_z{x y:Int}(hx:small x=true)(hy:small y=true)(hs:small (x+y)=true):addP (ofZ x) (ofZ y)=(ofZ (x+y),true):=by
 unfold addP fit
 rw[ofZ_right hx,ofZ_right hy,ofZ_z,ofZ_z,hs]
 rfl
theorem zadd_c(x y:Int)(A B:Nat)(h:decide (A+B<c2048)=true)(b1:x.natAbs<=A)(b2:y.natAbs<=B):(x+y).natAbs<=A+B/\addP (ofZ x) (ofZ y)=(ofZ (x+y),true):=by
 have h:=of_decide_eq_true h
 have b3:(x+y).natAbs<=A+B:=by omega
 exact⟨b3,addP_z (small_c b1 (by omega)) (small_c b2 (by omega)) (small_c b3 h)⟩
theorem cmpZ_b(a b:Int):(cmpZ a b).natAbs<=1/\I64 (cmpZ a b):=by
 have:=cmpZ_bd a b
 exact⟨by omega,by unfold I64;omega⟩
def zCmpC(f:FuncId)(H:∀(a b:Nm) (n m:Bool) (p q:Option Addr) (l c k d:Nat) (w:World),NR w n p l c a->NR w m q k d b->Calls Tryz.prog f #[NmV n p l c,NmV m q k d] w fun e w'=>e=.returned (.int .i64 (cmpP a b))/\Ext w w'):Con where
 f:=f
 g:=fun | [⟨true,l⟩,⟨true,m⟩]=>(match toZi l,toZi m with|some (x,A),some (y,B)=>if A<c2048/\B<c2048 then some (.one (inV (cmpZ x y) 1),[]) else none|_,_=>none)|_=>none
 ok:=by
  intro args res ps h hp
  split at h<;>try cases h
  split at h<;>try cases h
  split at h<;>cases h
  rename_i x A y B hx hy hb
  intro W vals hv
  obtain⟨v1,g1,l1,rfl,hv1⟩:=rvs_cons.1 hv
  obtain⟨v2,g2,l2,rfl,hv2⟩:=rvs_cons.1 hv1
  cases hv2
  obtain⟨b1,_,_,_,_,rfl,h1⟩:=toZi_rep hx g1
  obtain⟨b2,_,_,_,_,rfl,h2⟩:=toZi_rep hy g2
  exact (H _ _ _ _ _ _ _ _ _ _ W h1 h2).mono fun _ _ h=>gv_in (cmpZ_b _ _) (cmpP_side (small_c b1 hb.1) (small_c b2 hb.2) ▸ h)
def d1ZRight:Con where
 f:=79
 g:=fun | [⟨true,[.d (.zi x A)]⟩]=>if A<c2048 then some (.one ⟨false,[.b true]⟩,[]) else none|_=>none
 ok:=by
  intro args res ps h hp
  split at h<;>try cases h
  split at h<;>cases h
  rename_i x A hb
  intro W vals hv
  simp only[rvs_cons,rvs_nil,rv_t,rl_zi,rl_nil] at hv
  obtain⟨_,⟨_,⟨b1,n,p,l,c,h1,_,rfl,rfl⟩,rfl⟩,_,rfl,rfl⟩:=hv
  have e:(ofZ x).right=true:=ofZ_right (small_c b1 hb)
  exact (r01_Right _ _ _ _ _ W h1).mono fun _ _ h=>⟨_,h.1,RepI.val (i:=.b true) (by show [_]=[_];rw[e]),h.2⟩
def c672:Nat:=4294967296 ^ 21
theorem zi_up{V W:World}{r:Nat->Nat}{k:Nat}{z:Int}{A B:Nat}(h:A<=B):∀v,RepV V W r k ⟨true,[.d (.zi z A)]⟩ v->RepV V W r k (ziV z B) v:=by
 intro v hv
 obtain⟨_,hw,rfl⟩:=rv_t.1 hv
 obtain⟨b1,h2⟩:=rl_zi.1 hw
 exact rv_t.2 ⟨_,rl_zi.2 ⟨Nat.le_trans b1 h,h2⟩,rfl⟩
def sideC(f:FuncId)(M:Nat)(H:∀a b c:Int,a.natAbs<=M->b.natAbs<=M->c.natAbs<=M->0<=c->Fok Tryz.prog f [ziV a M,ziV b M,ziV c M] (.one (inV (sideZ a b c) lim))):Con where
 f:=f
 g:=fun | [⟨true,[.d (.zi x A)]⟩,⟨true,[.d (.zi y B)]⟩,⟨true,[.d (.zi d D)]⟩]=>if A<=M/\B<=M/\D<=M then some (.one (inV (sideZ x y d) 1),[0<=d]) else none|_=>none
 ok:=by
  intro args res ps h hp
  split at h<;>try cases h
  split at h<;>cases h
  rename_i x A y B d D hb
  intro W vals hv
  obtain⟨v1,g1,l1,e1,hv1⟩:=rvs_cons.1 hv
  obtain⟨v2,g2,l2,e2,hv2⟩:=rvs_cons.1 hv1
  obtain⟨v3,g3,_⟩:=rvs_cons.1 hv2
  have bd:∀ {z:Int} {A:Nat} {v:Value},RepV W W (fun _=>0) 0 ⟨true,[.d (.zi z A)]⟩ v->z.natAbs<=A:=fun h=>by
   obtain⟨_,hw,_⟩:=rv_t.1 h
   exact (rl_zi.1 hw).1
  have hs:=sideZ_bd x y d
  exact Fok.bd (H x y d (Nat.le_trans (bd g1) hb.1) (Nat.le_trans (bd g2) hb.2.1) (Nat.le_trans (bd g3) hb.2.2) hp.1) (by omega) W vals (rvs_1 (zi_up hb.1) (rvs_1 (zi_up hb.2.1) (rvs_1 (zi_up hb.2.2) fun _ h=>h)) _ hv)
def rightZC(f:FuncId)(H:∀a:Rt,Dig a.n.d/\Dig a.d.d->Fok Tryz.prog f [rtV a] (.one (blV a.right))):Con where
 f:=f
 g:=fun | [⟨true,[.i a _,.i s _,.d (.zi n _),.d (.zi d _)]⟩]=>some (.one (blV (Rt.right ⟨a,s,ofZ n,ofZ d⟩)),[])|_=>none
 ok:=by
  intro args res ps h hp
  split at h<;>cases h
  rename_i a _ s _ n N d D
  refine Fok.pre (H ⟨a,s,ofZ n,ofZ d⟩ ⟨dig_digs _,dig_digs _⟩) fun W=>rvs_1 (fun v hv=>?_) fun _ h=>h
  simp only[rv_t,rl_i,rl_zi,rl_nil] at hv
  obtain⟨_,⟨⟨_,i1⟩,_,rfl,⟨_,i2⟩,_,rfl,_,n1,p1,l1,c1,h1,_,rfl,_,m1,q1,k1,d1,h2,_,rfl,rfl⟩,rfl⟩:=hv
  exact rv_t.2 ⟨_,rl_i.2 ⟨lim64 i1,_,rfl,rl_i.2 ⟨lim64 i2,_,rfl,rl_num.2 ⟨n1,p1,l1,c1,h1,_,rfl,rl_num.2 ⟨m1,q1,k1,d1,h2,_,rfl,rfl⟩⟩⟩⟩,rfl⟩
def c8:Nat:=4294967296 ^ 8
def rzV(a s n d:Int):V1:=⟨true,[.i a lim,.i s 1,.d (.zi n c8),.d (.zi d c8)]⟩
theorem cmpRt_bd(a b:Rt):(cmpRt a b).natAbs<=1/\I64 (cmpRt a b):=by
 have sg3:∀ {x:Int},-1<=x/\x<=1->x = -1\/x=0\/x=1:=fun h=>by omega
 have key : -1<=cmpRt a b/\cmpRt a b<=1:=by
  unfold cmpRt
  split
  ·unfold cmpR
   split
   ·omega
   ·have h := sg3 (sideZ_bd ((a.add - b.add) * a.d.z) a.s (a.n.z * a.d.z))
    have g:=sg3 (sideZ_bd ((a.add-b.add)*(a.add-b.add)*a.d.z*b.d.z+a.n.z*b.d.z-b.n.z*a.d.z) (2*(a.add-b.add)*a.s*b.d.z) (a.n.z*a.d.z))
    generalize sideZ ((a.add-b.add)*a.d.z) a.s (a.n.z*a.d.z)=u at h
    generalize sideZ ((a.add-b.add)*(a.add-b.add)*a.d.z*b.d.z+a.n.z*b.d.z-b.n.z*a.d.z) (2*(a.add-b.add)*a.s*b.d.z) (a.n.z*a.d.z)=v at g
    rcases h with rfl|rfl|rfl<;>rcases g with rfl|rfl|rfl<;>decide
  ·decide
 exact⟨by omega,by unfold I64;omega⟩
theorem rz_of{V W:World}{r:Nat->Nat}{k:Nat}{a s:Int}{A S:Nat}{n d:Nm}(h:Rt.right ⟨a,s,n,d⟩=true)(dn:Dig n.d)(dd:Dig d.d):(n=ofZ n.z/\d=ofZ d.z/\0<=n.z*d.z)/\∀v,RepV V W r k ⟨true,[.i a A,.i s S,.d (.num n),.d (.num d)]⟩ v->RepV V W r k (rzV a s n.z d.z) v:=by
 have ok:=(right_ok (a:=⟨a,s,n,d⟩) dn dd h).1
 have en:=ofZ_of_right dn ok.nr
 have ed:=ofZ_of_right dd ok.dr
 have zn:n.z=(val n.d:Int):=ok.zs.1
 have zd:d.z=(val d.d:Int):=ok.zs.2
 have bd:∀ {x:List Nat},Dig x->x.length<=8->val x<=c8:=fun hx hl=>Nat.le_trans (Nat.le_of_lt (val_lt hx)) (Nat.pow_le_pow_right (by decide) hl)
 refine⟨⟨en.symm,ed.symm,by rw[zn,zd];exact Int.mul_nonneg (by omega) (by omega)⟩,fun v hv=>?_⟩
 simp only[rv_t,rl_i,rl_num,rl_nil] at hv
 obtain⟨_,⟨⟨_,i1⟩,_,rfl,⟨_,i2⟩,_,rfl,n1,p1,l1,c1,h1,_,rfl,m1,q1,k1,d1,h2,_,rfl,rfl⟩,rfl⟩:=hv
 have b1:=bd dn ok.nl
 have b2:=bd dd ok.dl
 have sl:=ok.sl
 have su:=ok.su
 simp only at sl su
 exact rv_t.2 ⟨_,rl_i.2 ⟨lim64 i1,_,rfl,rl_i.2 ⟨⟨by omega,i2⟩,_,rfl,rl_zi.2 ⟨by omega,n1,p1,l1,c1,en.symm ▸ h1,_,rfl,rl_zi.2 ⟨by omega,m1,q1,k1,d1,ed.symm ▸ h2,_,rfl,rfl⟩⟩⟩⟩,rfl⟩
def cmpC(f:FuncId)(N:∀a b:Rt,Dig a.n.d/\Dig a.d.d->Dig b.n.d/\Dig b.d.d->(a.right&&b.right)=false->Fok Tryz.prog f [rtV a,rtV b] (.one (inV 0 lim)))
  (H:∀a s n d b t m e:Int,Rt.right ⟨a,s,ofZ n,ofZ d⟩=true->Rt.right ⟨b,t,ofZ m,ofZ e⟩=true->0<=n*d->Fok Tryz.prog f [rzV a s n d,rzV b t m e] (.one (inV (cmpR (a-b) s n d t m e) lim))):Con where
 f:=f
 g:=fun | [⟨true,[.i a _,.i s _,.d (.num n),.d (.num d)]⟩,⟨true,[.i b _,.i t _,.d (.num m),.d (.num e)]⟩]=>some (.one (inV (cmpRt ⟨a,s,n,d⟩ ⟨b,t,m,e⟩) 1),[])|_=>none
 ok:=by
  intro args res ps h hp
  split at h<;>cases h
  rename_i a A s S n d b B t T m e
  intro W vals hv
  obtain⟨v1,g1,l1,rfl,hv1⟩:=rvs_cons.1 hv
  obtain⟨v2,g2,l2,rfl,hv2⟩:=rvs_cons.1 hv1
  obtain⟨k1,dn,dd,_⟩:=rt_at g1
  obtain⟨k2,dm,de,_⟩:=rt_at g2
  have b0:=(cmpRt_bd ⟨a,s,n,d⟩ ⟨b,t,m,e⟩).1
  cases hr:(Rt.right ⟨a,s,n,d⟩&&Rt.right ⟨b,t,m,e⟩) with
  | false =>
   have e0:cmpRt ⟨a,s,n,d⟩ ⟨b,t,m,e⟩=0:=by unfold cmpRt;rw[hr];rfl
   rw[e0]
   exact (N _ _ ⟨dn,dd⟩ ⟨dm,de⟩ hr).bd (by decide) W _ (rvs_cons.2 ⟨_,k1,_,rfl,rvs_cons.2 ⟨_,k2,_,rfl,hv2⟩⟩)
  | true =>
   have e0:cmpRt ⟨a,s,n,d⟩ ⟨b,t,m,e⟩=cmpR (a-b) s n.z d.z t m.z e.z:=by unfold cmpRt;rw[hr];rfl
   rw[e0] at b0 ⊢
   simp only[Bool.and_eq_true] at hr
   obtain⟨⟨x1,x2,x3⟩,x4⟩:=rz_of (V:=W) (W:=W) (r:=fun _=>0) (k:=0) (A:=A) (S:=S) hr.1 dn dd
   obtain⟨⟨y1,y2,_⟩,y4⟩:=rz_of (V:=W) (W:=W) (r:=fun _=>0) (k:=0) (A:=B) (S:=T) hr.2 dm de
   exact (H a s n.z d.z b t m.z e.z (by rw[<- x1,<- x2];exact hr.1) (by rw[<- y1,<- y2];exact hr.2) x3).bd b0 W _ (rvs_cons.2 ⟨_,x4 _ g1,_,rfl,rvs_cons.2 ⟨_,y4 _ g2,_,rfl,hv2⟩⟩)

set_option maxRecDepth 100000
section
def cZAdd:Con:=zBinC 68 addP (·+·) (·+·) (fun A B=>decide (A+B<c2048)) num_Add zadd_c
def cZCmp:Con:=zCmpC 49 fun a b _ _ _ _ _ _ _ _ w h1 h2=>num_Cmp a b _ _ _ _ _ _ _ _ w h1 h2
def cRightZ:Con:=rightZC 19 fun a _=>rtRight_fok a
def KZ:List Con:=[cZOf,cZMul,cZAdd,cZCmp]
theorem rtSide_fok(a b c:Int):Fok Tryz.prog 37 [ziV a c672,ziV b c672,ziV c c672] (.one (inV (sideZ a b c) lim)):=by
 unfold sideZ
 by_cases h:0<=sgn a*(sgn b*sgn c)
 ·rw [if_pos h]
  exact fok KZ [true] [pT (decide_eq_true h)] (by kernel_rfl)
 ·rw [if_neg h, show a * a = 1 * a * a by rw [Int.one_mul], show b * b * c = 1 * b * b * c by rw [Int.one_mul]]
  exact fok KZ [false] [pF (decide_eq_false h)] (by kernel_rfl)
def cZSide:Con:=sideC 37 c672 fun a b c _ _ _ _=>rtSide_fok a b c
def KRt:List Con:=cRightZ::cZSide::KZ
theorem rtCmp_z(a s n d b t m e:Int)(h1:Rt.right ⟨a,s,ofZ n,ofZ d⟩=true)(h2:Rt.right ⟨b,t,ofZ m,ofZ e⟩=true)(h0:0<=n*d):Fok Tryz.prog 9 [rzV a s n d,rzV b t m e] (.one (inV (cmpR (a-b) s n d t m e) lim)):=by
 have h3:0<=1*n*d:=by rw[Int.one_mul];exact h0
 have hU:sideZ (1*(0+a+1 * -1*b)*d) s (1*n*d)=sideZ ((a-b)*d) s (n*d):=by
  rw[show 1*(0+a+1 * -1*b)*d=(a-b)*d by grind,Int.one_mul]
 have hV:sideZ (0+1*(0+a+1 * -1*b)*(0+a+1 * -1*b)*d*e+1*n*e+1 * -1*(1*m*d)) (1*2*(0+a+1 * -1*b)*s*e) (1*n*d)=sideZ ((a-b)*(a-b)*d*e+n*e-m*d) (2*(a-b)*s*e) (n*d):=by
  rw[show 0+1*(0+a+1 * -1*b)*(0+a+1 * -1*b)*d*e+1*n*e+1 * -1*(1*m*d)=(a-b)*(a-b)*d*e+n*e-m*d by grind,show 1*2*(0+a+1 * -1*b)*s*e=2*(a-b)*s*e by grind,Int.one_mul]
 unfold cmpR
 rw[<- hU,<- hV]
 by_cases h:sideZ (1*(0+a+1 * -1*b)*d) s (1*n*d)≠t
 ·rw [if_pos h]
  exact fok KRt [false,false,true] [pF (nt_F h1),pF (nt_F h2),pP h3,pT (ne_T h)] (by kernel_rfl)
 ·rw [if_neg h]
  exact fok KRt [false,false,false] [pF (nt_F h1),pF (nt_F h2),pP h3,pF (ne_F h),pP h3] (by kernel_rfl)
theorem rtCmp_no(a b:Rt)(h:(a.right&&b.right)=false):Fok Tryz.prog 9 [rtV a,rtV b] (.one (inV 0 lim)):=by
 cases h1:a.right with
 | false=>exact fok [cRight] [true] [pT (nt_T h1)] (by kernel_rfl)
 | true =>
  rw[h1] at h
  exact fok [cRight] [false,true] [pF (nt_F h1),pT (nt_T h)] (by kernel_rfl)
def cCmp:Con:=cmpC 9 (fun a b _ _ h=>rtCmp_no a b h) rtCmp_z
theorem rtCmpInt_fok(a:Rt)(z:Int):Fok Tryz.prog 13 [rtV a,inV z lim] (.one (inV (cmpRt a ⟨z,0,zero,ofZ 1⟩) lim)):=fok [cCmp,cNOf] [] [] (by kernel_rfl)
def cCmpInt:Con where
 f:=13
 g:=fun | [⟨true,[.i a _,.i s _,.d (.num n),.d (.num d)]⟩,⟨false,[.i z _]⟩]=>some (.one (inV (cmpRt ⟨a,s,n,d⟩ ⟨z,0,zero,ofZ 1⟩) 1),[])|_=>none
 ok:=by
  intro args res ps h hp
  split at h<;>cases h
  rename_i a _ s _ n d z _
  exact ((rtCmpInt_fok ⟨a,s,n,d⟩ z).bd (cmpRt_bd _ _).1).pre fun W=>rvs_1 (fun _ h=>(rt_at h).1) (rvs_1 in_lim fun _ h=>h)
end
end Go.Proofs.YtcfpcafnjgpfdaaGreat
