import Derived.Test.YtceemiodpccbhaaGreatQ21
import Derived.ChangeKeysEq
set_option linter.unusedVariables false
set_option linter.unusedSimpArgs false

namespace Go.Proofs.YtceemiodpccbhaaGreat
open Go.RowKit

set_option maxRecDepth 100000
section
theorem pt_c26{V W:World}{r:Nat->Nat}{k:Nat}{x y:Int}{A B:Nat}(h1:A<=c26)(h2:B<=c26):∀v,RepV V W r k ⟨true,[.i x A,.i y B]⟩ v->RepV V W r k (ptV x y c26) v:=pt_low h1 h2
theorem on_1(ax ay bx by' cx cy px py:Int)(ho:(Ed.mk 1 ax ay bx by' cx cy).ok=true):Fok Tryz.prog 147 [edV ⟨1,ax,ay,bx,by',cx,cy⟩ 3 c26,ptV px py c26] (.one (blV (onE ⟨1,ax,ay,bx,by',cx,cy⟩ px py))):=by
 have E:onE ⟨1,ax,ay,bx,by',cx,cy⟩ px py=(inB (min ax bx) (min ay by') (max ax bx) (max ay by') px py&&(sideI ((bx-ax)*(py-ay)-(by'-ay)*(px-ax))==0)):=by unfold onE;rw[ho];rfl
 rw[E]
 unfold inB
 cases h0:decide (min ax bx<=px) with
 | false=>exact fok [cOfE,cSide] [true,false] [pT ho,pF h0] (by kernel_rfl)
 | true =>
  cases h1:decide (px<=max ax bx) with
  | false=>exact fok [cOfE,cSide] [true,true,false] [pT ho,pT h0,pF h1] (by kernel_rfl)
  | true =>
   cases h2:decide (min ay by'<=py) with
   | false=>exact fok [cOfE,cSide] [true,true,true,false] [pT ho,pT h0,pT h1,pF h2] (by kernel_rfl)
   | true =>
    cases h3:decide (py<=max ay by') with
    | false=>exact fok [cOfE,cSide] [true,true,true,true,false] [pT ho,pT h0,pT h1,pT h2,pF h3] (by kernel_rfl)
    | true =>
     exact fok [cOfE,cSide] [true,true,true,true,true] [pT ho,pT h0,pT h1,pT h2,pT h3] (by kernel_rfl)
theorem on_2(ax ay bx by' cx cy px py:Int)(ho:(Ed.mk 2 ax ay bx by' cx cy).ok=true):Fok Tryz.prog 147 [edV ⟨2,ax,ay,bx,by',cx,cy⟩ 3 c26,ptV px py c26] (.one (blV (onE ⟨2,ax,ay,bx,by',cx,cy⟩ px py))):=by
 have E:onE ⟨2,ax,ay,bx,by',cx,cy⟩ px py=(inB (min ax bx) (min ay by') (max ax bx) (max ay by') px py&&(powerI (px-cx) (py-cy) (ax-cx) (ay-cy)==0)):=by unfold onE;rw[ho];rfl
 rw[E]
 unfold inB
 cases h0:decide (min ax bx<=px) with
 | false=>exact fok [cOfE,cSide] [true,false] [pT ho,pF h0] (by kernel_rfl)
 | true =>
  cases h1:decide (px<=max ax bx) with
  | false=>exact fok [cOfE,cSide] [true,true,false] [pT ho,pT h0,pF h1] (by kernel_rfl)
  | true =>
   cases h2:decide (min ay by'<=py) with
   | false=>exact fok [cOfE,cSide] [true,true,true,false] [pT ho,pT h0,pT h1,pF h2] (by kernel_rfl)
   | true =>
    cases h3:decide (py<=max ay by') with
    | false=>exact fok [cOfE,cSide] [true,true,true,true,false] [pT ho,pT h0,pT h1,pT h2,pF h3] (by kernel_rfl)
    | true =>
     exact fok [cOfE,cSide] [true,true,true,true,true] [pT ho,pT h0,pT h1,pT h2,pT h3] (by kernel_rfl)
theorem on_3(ax ay bx by' cx cy px py:Int)(ho:(Ed.mk 3 ax ay bx by' cx cy).ok=true):Fok Tryz.prog 147 [edV ⟨3,ax,ay,bx,by',cx,cy⟩ 3 c26,ptV px py c26] (.one (blV (onE ⟨3,ax,ay,bx,by',cx,cy⟩ px py))):=by
 have E:onE ⟨3,ax,ay,bx,by',cx,cy⟩ px py=(inB (min ax bx) (min ay by') (max ax bx) (max ay by') px py&&(powerI (px-cx) (py-cy) (ax-cx) (ay-cy)==0)):=by unfold onE;rw[ho];rfl
 rw[E]
 unfold inB
 cases h0:decide (min ax bx<=px) with
 | false=>exact fok [cOfE,cSide] [true,false] [pT ho,pF h0] (by kernel_rfl)
 | true =>
  cases h1:decide (px<=max ax bx) with
  | false=>exact fok [cOfE,cSide] [true,true,false] [pT ho,pT h0,pF h1] (by kernel_rfl)
  | true =>
   cases h2:decide (min ay by'<=py) with
   | false=>exact fok [cOfE,cSide] [true,true,true,false] [pT ho,pT h0,pT h1,pF h2] (by kernel_rfl)
   | true =>
    cases h3:decide (py<=max ay by') with
    | false=>exact fok [cOfE,cSide] [true,true,true,true,false] [pT ho,pT h0,pT h1,pT h2,pF h3] (by kernel_rfl)
    | true =>
     exact fok [cOfE,cSide] [true,true,true,true,true] [pT ho,pT h0,pT h1,pT h2,pT h3] (by kernel_rfl)
def cOn:Con where
 f:=147
 g:=fun | [⟨true,l⟩,⟨true,[.i x A,.i y B]⟩]=>if A<=c26/\B<=c26 then (toEd l).map fun e=>(.one (blV (onE e x y)),[e.ok=true]) else none|_=>none
 ok:=by
  intro args res ps h hp
  split at h<;>try cases h
  rename_i l x A y B
  split at h<;>try cases h
  rename_i hb
  cases he:toEd l with
  | none=>simp[he] at h
  | some e =>
   simp only[he,Option.map_some,Option.some.injEq,Prod.mk.injEq] at h
   obtain⟨rfl,rfl⟩:=h
   have ho:=hp.1
   refine Fok.pre ?_ fun W=>rvs_1 (ed_ok he ho) (rvs_1 (pt_c26 hb.1 hb.2) rvs_0)
   obtain⟨k,ax,ay,bx,by',cx,cy⟩:=e
   rcases kind_of ho with h|h|h
   ·obtain rfl : k = 1 := h
    exact on_1 ax ay bx by' cx cy x y ho
   ·obtain rfl : k = 2 := h
    exact on_2 ax ay bx by' cx cy x y ho
   ·obtain rfl : k = 3 := h
    exact on_3 ax ay bx by' cx cy x y ho
def KC:List Con:=[cChk,cRad,cOn,cLines,cLineArc,cArcs]
theorem arcsZ_eq(e f:Ed):arcsZ e f=arcsG e.cx e.cy (radZ e) e.ux e.uy e.vx e.vy f.cx f.cy (radZ f) f.ux f.uy f.vx f.vy:=by
 unfold arcsZ arcsG
 by_cases h:e.cx=f.cx/\e.cy=f.cy
 ·rw[if_pos h,if_pos (by simpa using h)]
 ·rw [if_neg h, if_neg (by simpa using h)]
  unfold aaE aaG
  simp only[Int.zero_sub]
theorem pt_eq(e:Ed):e.pt=(e.ax==e.bx&&e.ay==e.by'):=rfl
theorem countE_v{e f:Ed}(h1:e.ok=true)(h2:f.ok=true):countE e f=if e.k=1 then
  if e.pt then onZ f e.ax e.ay
  else if f.k=1 then (if f.pt then onZ e f.ax f.ay else linesZ e.ax e.ay e.bx e.by' f.ax f.ay f.bx f.by')
  else crossZ e f
 else if f.k=1 then (if f.pt then onZ e f.ax f.ay else crossZ f e)
 else arcsZ e f:=by
 unfold countE
 rw[h1,h2]
 rfl
theorem rad_ne{e:Ed}(h:e.ok=true)(hk:¬e.k=1):radZ e≠0:=by have:=rad_pos h hk;omega
theorem neq_F{a b:Int}(h:a=b):(a != b)=false:=by simpa using h
theorem count_arc_arc(e f:Ed)(h1:e.ok=true)(h2:f.ok=true)(ke:¬e.k=1)(kf:¬f.k=1):Fok Tryz.prog 91 [edV e 3 c26,edV f 3 c26] (.one (inV (countE e f) lim)):=by
 rw[show countE e f=arcsZ e f by rw[countE_v h1 h2];simp only[if_neg ke,if_neg kf]]
 rw[arcsZ_eq]
 exact fok KC [false,false,true,true] [pF (chk_F h1),pF (chk_F h2),pT (ne_T ke),pP h1,pP (rad_ne h1 ke),pP (rad_ne h1 ke),pP (rad_ne h1 ke),pP (rad_ne h1 ke),pT (ne_T kf),pP h2,pP (rad_ne h2 kf),pP (rad_ne h2 kf),pP (rad_ne h2 kf),pP (rad_ne h2 kf)] (by kernel_rfl)
theorem count_arc_pt(e f:Ed)(h1:e.ok=true)(h2:f.ok=true)(ke:¬e.k=1)(kf:f.k=1)(pf:(f.ax==f.bx&&f.ay==f.by')=true):Fok Tryz.prog 91 [edV e 3 c26,edV f 3 c26] (.one (inV (countE e f) lim)):=by
 rw[show countE e f=onZ e f.ax f.ay by rw[countE_v h1 h2];simp only[if_neg ke,if_pos kf,pt_eq f,pf,if_true]]
 unfold onZ
 cases ho:onE e f.ax f.ay with
 | true=>exact fok KC [false,false,true,false,true,true] [pF (chk_F h1),pF (chk_F h2),pT (ne_T ke),pP h1,pP (rad_ne h1 ke),pP (rad_ne h1 ke),pP (rad_ne h1 ke),pP (rad_ne h1 ke),pF (neq_F kf),pT pf,pP h1,pT ho] (by kernel_rfl)
 | false=>exact fok KC [false,false,true,false,true,false] [pF (chk_F h1),pF (chk_F h2),pT (ne_T ke),pP h1,pP (rad_ne h1 ke),pP (rad_ne h1 ke),pP (rad_ne h1 ke),pP (rad_ne h1 ke),pF (neq_F kf),pT pf,pP h1,pF ho] (by kernel_rfl)
theorem count_arc_line(e f:Ed)(h1:e.ok=true)(h2:f.ok=true)(ke:¬e.k=1)(kf:f.k=1)(pf:(f.ax==f.bx&&f.ay==f.by')=false):Fok Tryz.prog 91 [edV e 3 c26,edV f 3 c26] (.one (inV (countE e f) lim)):=by
 rw[show countE e f=crossZ f e by rw[countE_v h1 h2];simp only[if_neg ke,if_pos kf,pt_eq f,pf,Bool.false_eq_true,if_false]]
 exact fok KC [false,false,true,false,false] [pF (chk_F h1),pF (chk_F h2),pT (ne_T ke),pP h1,pP (rad_ne h1 ke),pP (rad_ne h1 ke),pP (rad_ne h1 ke),pP (rad_ne h1 ke),pF (neq_F kf),pF pf] (by kernel_rfl)
theorem count_pt_arc(e f:Ed)(h1:e.ok=true)(h2:f.ok=true)(ke:e.k=1)(pe:(e.ax==e.bx&&e.ay==e.by')=true)(kf:¬f.k=1):Fok Tryz.prog 91 [edV e 3 c26,edV f 3 c26] (.one (inV (countE e f) lim)):=by
 rw[show countE e f=onZ f e.ax e.ay by rw[countE_v h1 h2];simp only[if_pos ke,pt_eq e,pe,if_true]]
 unfold onZ
 cases ho:onE f e.ax e.ay with
 | true=>exact fok KC [false,false,false,true,true,true] [pF (chk_F h1),pF (chk_F h2),pF (neq_F ke),pT pe,pT (ne_T kf),pP h2,pP (rad_ne h2 kf),pP (rad_ne h2 kf),pP (rad_ne h2 kf),pP (rad_ne h2 kf),pP h2,pT ho] (by kernel_rfl)
 | false=>exact fok KC [false,false,false,true,true,false] [pF (chk_F h1),pF (chk_F h2),pF (neq_F ke),pT pe,pT (ne_T kf),pP h2,pP (rad_ne h2 kf),pP (rad_ne h2 kf),pP (rad_ne h2 kf),pP (rad_ne h2 kf),pP h2,pF ho] (by kernel_rfl)
theorem count_pt_pt(e f:Ed)(h1:e.ok=true)(h2:f.ok=true)(ke:e.k=1)(pe:(e.ax==e.bx&&e.ay==e.by')=true)(kf:f.k=1)(pf:(f.ax==f.bx&&f.ay==f.by')=true):Fok Tryz.prog 91 [edV e 3 c26,edV f 3 c26] (.one (inV (countE e f) lim)):=by
 rw[show countE e f=onZ f e.ax e.ay by rw[countE_v h1 h2];simp only[if_pos ke,pt_eq e,pe,if_true]]
 unfold onZ
 cases ho:onE f e.ax e.ay with
 | true=>exact fok KC [false,false,false,true,false,true,true] [pF (chk_F h1),pF (chk_F h2),pF (neq_F ke),pT pe,pF (neq_F kf),pT pf,pP h2,pT ho] (by kernel_rfl)
 | false=>exact fok KC [false,false,false,true,false,true,false] [pF (chk_F h1),pF (chk_F h2),pF (neq_F ke),pT pe,pF (neq_F kf),pT pf,pP h2,pF ho] (by kernel_rfl)
theorem count_pt_line(e f:Ed)(h1:e.ok=true)(h2:f.ok=true)(ke:e.k=1)(pe:(e.ax==e.bx&&e.ay==e.by')=true)(kf:f.k=1)(pf:(f.ax==f.bx&&f.ay==f.by')=false):Fok Tryz.prog 91 [edV e 3 c26,edV f 3 c26] (.one (inV (countE e f) lim)):=by
 rw[show countE e f=onZ f e.ax e.ay by rw[countE_v h1 h2];simp only[if_pos ke,pt_eq e,pe,if_true]]
 unfold onZ
 cases ho:onE f e.ax e.ay with
 | true=>exact fok KC [false,false,false,true,false,false,true] [pF (chk_F h1),pF (chk_F h2),pF (neq_F ke),pT pe,pF (neq_F kf),pF pf,pP h2,pT ho] (by kernel_rfl)
 | false=>exact fok KC [false,false,false,true,false,false,false] [pF (chk_F h1),pF (chk_F h2),pF (neq_F ke),pT pe,pF (neq_F kf),pF pf,pP h2,pF ho] (by kernel_rfl)
theorem count_line_arc(e f:Ed)(h1:e.ok=true)(h2:f.ok=true)(ke:e.k=1)(pe:(e.ax==e.bx&&e.ay==e.by')=false)(kf:¬f.k=1):Fok Tryz.prog 91 [edV e 3 c26,edV f 3 c26] (.one (inV (countE e f) lim)):=by
 rw[show countE e f=crossZ e f by rw[countE_v h1 h2];simp only[if_pos ke,pt_eq e,pe,Bool.false_eq_true,if_false,if_neg kf]]
 exact fok KC [false,false,false,false,true] [pF (chk_F h1),pF (chk_F h2),pF (neq_F ke),pF pe,pT (ne_T kf),pP h2,pP (rad_ne h2 kf),pP (rad_ne h2 kf),pP (rad_ne h2 kf),pP (rad_ne h2 kf)] (by kernel_rfl)
theorem count_line_pt(e f:Ed)(h1:e.ok=true)(h2:f.ok=true)(ke:e.k=1)(pe:(e.ax==e.bx&&e.ay==e.by')=false)(kf:f.k=1)(pf:(f.ax==f.bx&&f.ay==f.by')=true):Fok Tryz.prog 91 [edV e 3 c26,edV f 3 c26] (.one (inV (countE e f) lim)):=by
 rw[show countE e f=onZ e f.ax f.ay by rw[countE_v h1 h2];simp only[if_pos ke,pt_eq e,pe,Bool.false_eq_true,if_false,if_pos kf,pt_eq f,pf,if_true]]
 unfold onZ
 cases ho:onE e f.ax f.ay with
 | true=>exact fok KC [false,false,false,false,false,true,true] [pF (chk_F h1),pF (chk_F h2),pF (neq_F ke),pF pe,pF (neq_F kf),pT pf,pP h1,pT ho] (by kernel_rfl)
 | false=>exact fok KC [false,false,false,false,false,true,false] [pF (chk_F h1),pF (chk_F h2),pF (neq_F ke),pF pe,pF (neq_F kf),pT pf,pP h1,pF ho] (by kernel_rfl)
theorem count_line_line(e f:Ed)(h1:e.ok=true)(h2:f.ok=true)(ke:e.k=1)(pe:(e.ax==e.bx&&e.ay==e.by')=false)(kf:f.k=1)(pf:(f.ax==f.bx&&f.ay==f.by')=false):Fok Tryz.prog 91 [edV e 3 c26,edV f 3 c26] (.one (inV (countE e f) lim)):=by
 rw[show countE e f=linesZ e.ax e.ay e.bx e.by' f.ax f.ay f.bx f.by' by rw[countE_v h1 h2];simp only[if_pos ke,pt_eq e,pe,Bool.false_eq_true,if_false,if_pos kf,pt_eq f,pf]]
 exact fok KC [false,false,false,false,false,false] [pF (chk_F h1),pF (chk_F h2),pF (neq_F ke),pF pe,pF (neq_F kf),pF pf] (by kernel_rfl)
theorem count_no(e f:Ed)(h:(e.ok&&f.ok)=false):Fok Tryz.prog 91 [edV e lim lim,edV f lim lim] (.one (inV (countE e f) lim)):=by
 rw[show countE e f=0 by unfold countE;rw[h];rfl]
 cases h1:e.ok with
 | false=>exact fok KC [true] [pT (chk_T h1)] (by kernel_rfl)
 | true =>
  rw[h1,Bool.true_and] at h
  exact fok KC [false,true] [pF (chk_F h1),pT (chk_T h)] (by kernel_rfl)
theorem count_ok(e f:Ed)(h1:e.ok=true)(h2:f.ok=true):Fok Tryz.prog 91 [edV e 3 c26,edV f 3 c26] (.one (inV (countE e f) lim)):=by
 by_cases ke:e.k=1
 ·cases pe : (e.ax == e.bx && e.ay == e.by') with
  | true =>
   by_cases kf:f.k=1
   ·cases pf : (f.ax == f.bx && f.ay == f.by') with
    | true=>exact count_pt_pt e f h1 h2 ke pe kf pf
    | false=>exact count_pt_line e f h1 h2 ke pe kf pf
   ·exact count_pt_arc e f h1 h2 ke pe kf
  | false =>
   by_cases kf:f.k=1
   ·cases pf : (f.ax == f.bx && f.ay == f.by') with
    | true=>exact count_line_pt e f h1 h2 ke pe kf pf
    | false=>exact count_line_line e f h1 h2 ke pe kf pf
   ·exact count_line_arc e f h1 h2 ke pe kf
 ·by_cases kf : f.k = 1
  ·cases pf : (f.ax == f.bx && f.ay == f.by') with
   | true=>exact count_arc_pt e f h1 h2 ke kf pf
   | false=>exact count_arc_line e f h1 h2 ke kf pf
  ·exact count_arc_arc e f h1 h2 ke kf
theorem countE_bd(e f:Ed):(countE e f).natAbs<=4:=by
 cases h:(e.ok&&f.ok) with
 | false=>rw[show countE e f=0 by unfold countE;rw[h];rfl];decide
 | true =>
  simp only[Bool.and_eq_true] at h
  have b1:=onZ_bd e f.ax f.ay
  have b2:=onZ_bd f e.ax e.ay
  have b3:=linesZ_bd e.ax e.ay e.bx e.by' f.ax f.ay f.bx f.by'
  have b4:=countZ_bd (laE e f).delta (laE e f).list
  have b5:=countZ_bd (laE f e).delta (laE f e).list
  have b6 : -1<=arcsZ e f/\arcsZ e f<=4:=by
   unfold arcsZ
   split
   ·exact sameZ_bd _ _ _ _ _
   ·have:=countZ_bd (aaE e f).delta (aaE e f).list;omega
  rw[countE_v h.1 h.2]
  unfold crossZ
  (repeat' split)<;>omega
def cCountE:Con where
 f:=91
 g:=fun | [⟨true,l⟩,⟨true,m⟩]=>(match toEd l,toEd m with|some e,some f=>some (.one (inV (countE e f) 4),[])|_,_=>none)|_=>none
 ok:=by
  intro args res ps h hp
  split at h<;>try cases h
  split at h<;>cases h
  rename_i e f he hf
  cases h:(e.ok&&f.ok) with
  | false=>exact ((count_no e f h).bd (countE_bd e f)).pre fun W=>rvs_1 (ed_lim he) (rvs_1 (ed_lim hf) rvs_0)
  | true =>
   simp only[Bool.and_eq_true] at h
   exact ((count_ok e f h.1 h.2).bd (countE_bd e f)).pre fun W=>rvs_1 (ed_ok he h.1) (rvs_1 (ed_ok hf h.2) rvs_0)
theorem meetEdges_ok(e f:Ed):Fok Tryz.prog 50 [edV e lim lim,edV f lim lim] (.one (blV (countE e f != 0))):=fok [cCountE] [] [] (by kernel_rfl)
def cMeet:Con where
 f:=50
 g:=fun | [⟨true,l⟩,⟨true,m⟩]=>(match toEd l,toEd m with|some e,some f=>some (.one (blV (!(countE e f==0))),[])|_,_=>none)|_=>none
 ok:=by
  intro args res ps h hp
  split at h<;>try cases h
  split at h<;>cases h
  rename_i e f he hf
  exact (meetEdges_ok e f).pre fun W=>rvs_1 (ed_lim he) (rvs_1 (ed_lim hf) rvs_0)
end

set_option maxRecDepth 100000
section
theorem okk{e:Ed}(hr:e.right=true):e.ok=(if e.k=1 then e.lone else if e.k=2 then e.quarter 1 else if e.k=3 then e.quarter 3 else false):=by unfold Ed.ok;rw[hr,Bool.true_and]
end

set_option maxRecDepth 100000
section
def errN(e:Nat->Ed):Nat->Int
 | 0=>0
 | n+1=>if errN e n=0 then checkZ (e n) else errN e n
theorem errN_0{e:Nat->Ed}:∀ {n:Nat},errN e n=0->∀k,k<n->checkZ (e k)=0
 | 0,_,k,hk=>absurd hk (Nat.not_lt_zero k)
 | n+1,h,k,hk=>by
  unfold errN at h
  split at h
  ·rename_i h1
   rcases Nat.lt_or_eq_of_le (Nat.le_of_lt_succ hk) with g|g
   ·exact errN_0 h1 k g
   ·rw[g];exact h
  ·rename_i h1;exact absurd h h1
theorem errN_n{e:Nat->Ed}:∀ {n:Nat},errN e n≠0->∃m,m<n/\errN e n=checkZ (e m)/\∀k,k<m->checkZ (e k)=0
 | 0,h=>absurd rfl h
 | n+1,h=>by
  unfold errN at h ⊢
  by_cases h1:errN e n=0
  ·rw [if_pos h1] at h ⊢
   exact⟨n,by omega,rfl,errN_0 h1⟩
  ·rw [if_neg h1] at h ⊢
   obtain⟨m,k1,k2⟩:=errN_n h1
   exact⟨m,by omega,k2⟩
def clsB(s:Sh):Bool:=(s.e 0).ax==(s.e (s.n-1)).bx&&(s.e 0).ay==(s.e (s.n-1)).by'
def fewS(s:Sh):Int:=if s.k=1 then 1 else 2
def chkS(s:Sh):Int :=
 if s.k≠1/\s.k≠2 then 12 else if (s.n:Int)<fewS s then 12 else if 40<s.n then 2 else if errN s.e s.n≠0 then errN s.e s.n else if allB (jn s.e) (s.n-1)=false\/(s.k=2/\clsB s=false) then 12 else if s.k=2/\s.r≠0\/s.r<0\/4194304<s.r then 3 else 0
def shB(s:Sh):List (Option Mb):=[some ⟨24,(shpV s).l⟩]
def pSh(s:Sh):List Pf:=[⟨s.k=s.k,rfl⟩,⟨roE s.n s.e=roE s.n s.e,rfl⟩,⟨s.r=s.r,rfl⟩]
def pEd(s:Sh):Pf:=⟨∀i,i<s.n->isEd (edI (s.e i))=true,fun _ _=>rfl⟩
theorem lt_tt{a b:Int}(h:a<b):decide (a<b)=true:=by simpa using h
theorem lt_ff{a b:Int}(h:¬a<b):decide (a<b)=false:=by simpa using h
theorem Fok.vS{f:FuncId}{args:List V1}{a b:Int}{B:Nat}(h:a=b)(H:Fok Tryz.prog f args (.one (inV b B))):Fok Tryz.prog f args (.one (inV a B)):=h ▸ H
end

set_option maxRecDepth 100000
section
def x0N(e:Nat->Ed):Nat->Int
 | 0=>min (e 0).ax (e 0).bx
 | k+1=>min (x0N e k) (min (e (k+1)).ax (e (k+1)).bx)
def y0N(e:Nat->Ed):Nat->Int
 | 0=>min (e 0).ay (e 0).by'
 | k+1=>min (y0N e k) (min (e (k+1)).ay (e (k+1)).by')
def x1N(e:Nat->Ed):Nat->Int
 | 0=>max (e 0).ax (e 0).bx
 | k+1=>max (x1N e k) (max (e (k+1)).ax (e (k+1)).bx)
def y1N(e:Nat->Ed):Nat->Int
 | 0=>max (e 0).ay (e 0).by'
 | k+1=>max (y1N e k) (max (e (k+1)).ay (e (k+1)).by')
def rcV(a b c d:Int):V1:=⟨true,[.i a lim,.i b lim,.i c lim,.i d lim]⟩
def boxV(s:Sh):V1:=if s.n=0 then rcV 0 0 0 0 else
 rcV (IntKind.i64.wrap (x0N s.e (s.n-1)-s.r)) (IntKind.i64.wrap (y0N s.e (s.n-1)-s.r)) (IntKind.i64.wrap (x1N s.e (s.n-1)+s.r)) (IntKind.i64.wrap (y1N s.e (s.n-1)+s.r))
def rcB(a b c d:Int):Option Mb:=some ⟨49,(rcV a b c d).l⟩
def rcZ:Option Mb:=some ⟨49,[.k 0,.k 0,.k 0,.k 0]⟩
def ptrN(b:Nat):V1:=⟨false,[.p b 0]⟩
def bxR(e:Nat->Ed)(k:Nat):List Pf:=[⟨x0N e k=x0N e k,rfl⟩,⟨y0N e k=y0N e k,rfl⟩,⟨x1N e k=x1N e k,rfl⟩,⟨y1N e k=y1N e k,rfl⟩]
def bxB(e:Nat->Ed)(k:Nat):Option Mb:=rcB (x0N e k) (y0N e k) (x1N e k) (y1N e k)
theorem eq_tt{a b:Int}(h:a=b):(a==b)=true:=by simpa using h
theorem eq_ff{a b:Int}(h:a≠b):(a==b)=false:=by simpa using h
end

set_option maxRecDepth 100000
section
def tlE(s:Sh):V1:=⟨false,[.ro 7 (s.n-1) fun j=>edI (s.e (1+j))]⟩
def lnE(n:Nat):V1:=⟨false,[.i (n:Int) lim]⟩
def sbD(s:Sh)(j:Nat):Ds:=⟨[(21,.le (inV (j:Int) 2000)),(1,.eq (ptrN 0)),(2,.eq (ptrN 1)),(3,.eq (ptrN 2)),(19,.eq (tlE s)),(20,.eq (lnE (s.n-1)))],shB s++[rcZ,bxB s.e j]⟩
def bxS(e:Nat->Ed)(k:Nat):List Pf:=[⟨min (x0N e k) (min (e (1+k)).ax (e (1+k)).bx)=x0N e (k+1),by rw[Nat.add_comm];rfl⟩,⟨min (y0N e k) (min (e (1+k)).ay (e (1+k)).by')=y0N e (k+1),by rw[Nat.add_comm];rfl⟩,⟨max (x1N e k) (max (e (1+k)).ax (e (1+k)).bx)=x1N e (k+1),by rw[Nat.add_comm];rfl⟩,⟨max (y1N e k) (max (e (1+k)).ay (e (1+k)).by')=y1N e (k+1),by rw[Nat.add_comm];rfl⟩]
theorem sbox_ok(s:Sh)(hn:s.n<=1000):Fok Tryz.prog 29 [shpV s] (.one (boxV s)):=by
 by_cases h0:s.n=0
 ·unfold boxV
  rw[if_pos h0]
  exact fok [] [true] [pT (eq_tt (show (s.n:Int)=0 by omega))] (by kernel_rfl)
 ·unfold boxV
  rw[if_neg h0]
  have o:=orc (X:=[]) (K:=[]) (f:=29) (id:=10) (n:=nF 29) (s.n-1) (sbD s) (fun _=>[]) (e:=.ex 0) (d1:=⟨[(1,.eq (ptrN 0)),(2,.eq (ptrN 1)),(3,.eq (ptrN 2))],shB s++[rcZ,bxB s.e (s.n-1)]⟩) (by kernel_rfl) (fun _=>by kernel_rfl) (fun _ _=>LT.nil)
   (fun k hk=>⟨[true],[pT (lt_tt (show (k:Int)<((s.n-1:Nat):Int) by omega)),pP (show 0<=(k:Int)/\(k:Int)<(s.n-1:Nat) by omega),pI k (by omega),pR (ptrN 0),pR (ptrN 1),pR (ptrN 2),pR (tlE s),pR (lnE (s.n-1))]++pSh s++bxS s.e k,by kernel_rfl⟩)
   ⟨[false],[pF (lt_ff (show ¬((s.n-1:Nat):Int)<((s.n-1:Nat):Int) by omega)),pR (ptrN 0),pR (ptrN 1),pR (ptrN 2)]++pSh s++bxR s.e (s.n-1),by kernel_rfl⟩ nofun
  exact fokL [] [] _ (LT.cons o LT.nil) [false] ([pF (eq_ff (show (s.n:Int)≠0 by omega)),pP (show (0:Int)<=0/\(0:Int)<s.n by omega),pP (show (0:Int)<=1/\(1:Int)<=s.n by omega),⟨(0:Int)=((0:Nat):Int),rfl⟩,pR (ptrN 0),pR (ptrN 1),pR (ptrN 2),pR (tlE s),pR (lnE (s.n-1))]++pSh s++bxR s.e 0) (by kernel_rfl)
end

set_option maxHeartbeats 1000000
set_option maxRecDepth 100000
section
theorem shape_product(x y:Nat)(w:World)(hx:x<9223372036854775808)(hy:y<9223372036854775808):Calls Tryz.prog 118 #[.int .i64 x,.int .i64 y] w fun e w'=>e=.returned (.agg #[.int .u64 ((x:Int)*y/18446744073709551616),.int .u64 ((x:Int)*y%18446744073709551616)])/\Ext w w':=by
 have c1:IntKind.u64.wrap (x:Int)=x:=by rw[IntKind.wrap_u64];omega
 have c2:IntKind.u64.wrap (y:Int)=y:=by rw[IntKind.wrap_u64];omega
 go_enter Tryz.func118,Tryz.ntmps118
 go_wp2_with fail
 refine (Tryz.bits_Mul64 x y (by omega) (by omega) _).mono ?_
 rintro e w1 ⟨rfl,rfl⟩
 go_wp2
 refine bodyPost_ret (v:=.agg #[.int .u64 ((x:Int)*y/18446744073709551616),.int .u64 ((x:Int)*y%18446744073709551616)]) (by simp only[results,Tryz.results118];go_simp) rfl ?_
 exact⟨rfl,bxx⟩
theorem shape_atMost(a b c d:Int)(w:World):Calls Tryz.prog 119 #[.agg #[.int .u64 a,.int .u64 b],.agg #[.int .u64 c,.int .u64 d]] w fun e w'=>e=.returned (.bool (decide (a<c\/(a=c/\b<=d))))/\Ext w w':=by
 have hq:∀w,(Op.equalIn 10000 164 (.agg #[.int .u64 a,.int .u64 b]) (.agg #[.int .u64 c,.int .u64 d])).run Tryz.prog w=.ok (a==c&&b==d) w:=fun w=>by
  obtain⟨i,hi⟩:=Option.isSome_iff_exists.1 (show (Tryz.prog.info? 139).isSome=true by kernel_rfl)
  have hc:Tryz.prog.cellsOf 139=1:=by kernel_rfl
  rw[run_equalIn_array w 9999 (n:=2) _ _ (by kernel_rfl) hi,hc]
  simp only[show List.range 2=[0,1] from rfl,Op.eqItems]
  have hs:szT Tryz.prog 139=some 1:=by kernel_rfl
  have ha:agT Tryz.prog 139=some false:=by kernel_rfl
  have q0:∀x y:Int,(part 139 #[.int .u64 x,.int .u64 y] 0).run Tryz.prog w=.ok (.int .u64 x) w:=fun x y=>by
   simpa[cellsV] using run_partT (cs:=[.int .u64 x,.int .u64 y]) (o:=0) (W:=w) hs ha (by simp) (by simp)
  have q1:∀x y:Int,(part 139 #[.int .u64 x,.int .u64 y] 1).run Tryz.prog w=.ok (.int .u64 y) w:=fun x y=>by
   simpa[cellsV] using run_partT (cs:=[.int .u64 x,.int .u64 y]) (o:=1) (W:=w) hs ha (by simp) (by simp)
  have q2:∀x y:Int,(Op.equalIn 9999 139 (.int .u64 x) (.int .u64 y)).run Tryz.prog w=.ok (x==y) w:=fun x y=>run_equalIn_int w 9998 139 .u64 .u64 _ _ (by kernel_rfl)
  simp only[Nat.zero_mul,Nat.one_mul,Sem.run_bind,q0,q1,q2,Result.andThen_ok]
  cases h0:(a==c)<;>cases h1:(b==d)<;>simp[Sem.run_bind,q1,q2,h1]
 obtain⟨z,hz⟩:∃z,decide (a<c\/(a=c/\b<=d))=z:=⟨_,rfl⟩
 rw[hz]
 have hz:=Lib.hid hz
 cases h0:(a==c)<;>cases h1:decide (a<c)<;>cases h2:(b==d)<;>cases h3:decide (b<d)
 all_goals
  go_enter Tryz.func119,Tryz.ntmps119
  go_wp2_with fail
  go_ret
  refine⟨?_,bxx⟩
  have hz:=hz.out
  simp at h0 h1 h2 h3
  rw[<- hz]
  simp
  omega
def wdV(x y:Int):V1:=⟨true,[.v (.int .u64 (x*y/18446744073709551616)),.v (.int .u64 (x*y%18446744073709551616))]⟩
def cProd:Con where
 f:=118
 g:=fun | [⟨false,[.i x _]⟩,⟨false,[.i y _]⟩]=>some (.one (wdV x y),[0<=x,0<=y])|_=>none
 ok:=by
  intro args res ps h hp
  split at h<;>cases h
  rename_i x A y B
  intro W vals hv
  simp only[rvs_cons,rvs_nil,rv_i] at hv
  obtain⟨_,⟨⟨_,b1⟩,rfl⟩,_,rfl,_,⟨⟨_,b2⟩,rfl⟩,_,rfl,rfl⟩:=hv
  obtain⟨x,rfl⟩:=Int.eq_ofNat_of_zero_le hp.1
  obtain⟨y,rfl⟩:=Int.eq_ofNat_of_zero_le hp.2.1
  unfold I64 at b1 b2
  exact (shape_product x y W (by omega) (by omega)).mono fun _ _ h=>⟨_,h.1,rv_t.2 ⟨_,rl_v.2 ⟨rfl,_,rfl,rl_v.2 ⟨rfl,_,rfl,rfl⟩⟩,rfl⟩,h.2⟩
def cAtM:Con where
 f:=119
 g:=fun | [⟨true,[.v (.int .u64 a),.v (.int .u64 b)]⟩,⟨true,[.v (.int .u64 c),.v (.int .u64 d)]⟩]=>some (.one (blV (decide (a<c\/(a=c/\b<=d)))),[])|_=>none
 ok:=by
  intro args res ps h hp
  split at h<;>cases h
  intro W vals hv
  simp only[rvs_cons,rvs_nil,rv_t,rl_v,rl_nil] at hv
  obtain⟨_,⟨_,⟨_,_,rfl,_,_,rfl,rfl⟩,rfl⟩,_,rfl,_,⟨_,⟨_,_,rfl,_,_,rfl,rfl⟩,rfl⟩,_,rfl,rfl⟩:=hv
  exact (shape_atMost _ _ _ _ W).mono fun _ _ h=>gv_bl h
theorem words_le{u v:Int}(hu:0<=u)(hv:0<=v):(u/18446744073709551616<v/18446744073709551616\/(u/18446744073709551616=v/18446744073709551616/\u%18446744073709551616<=v%18446744073709551616)) <-> u<=v:=by omega
end
theorem ok_xor{e:Ed}(h:e.ok=true)(hk:¬e.k=1):e.ax-e.cx=0\/e.ay-e.cy=0:=by
 have hq:((e.ax-e.cx==0) != (e.ay-e.cy==0))=true:=by
  simp only[Ed.ok,Bool.and_eq_true,if_neg hk] at h
  have h2:=h.2
  split at h2
  ·simp only [Ed.quarter, quarterB, Bool.and_eq_true] at h2
   exact h2.1
  ·split at h2
   ·simp only [Ed.quarter, quarterB, Bool.and_eq_true] at h2
    exact h2.1
   ·cases h2
 by_cases h1:e.ax-e.cx=0
 ·exact .inl h1
 ·by_cases h2 : e.ay - e.cy = 0
  ·exact .inr h2
  ·have e1 : (e.ax - e.cx == 0) = false := by simpa using h1
   have e2:(e.ay-e.cy==0)=false:=by simpa using h2
   rw[e1,e2] at hq
   cases hq
theorem radZ_sum{e:Ed}(h:e.ok=true)(hk:¬e.k=1):max (e.ax-e.cx) (-(e.ax-e.cx))+max (e.ay-e.cy) (-(e.ay-e.cy))=radZ e:=by
 have hkb:(e.k==1)=false:=by simpa using hk
 unfold radZ
 rw[h,hkb]
 simp only[Bool.not_false,Bool.and_self,if_true]
 have:=ok_xor h hk
 omega
theorem radZ_sq{e:Ed}(h:e.ok=true)(hk:¬e.k=1):(e.ax-e.cx)*(e.ax-e.cx)+(e.ay-e.cy)*(e.ay-e.cy)=radZ e*radZ e:=by
 rw[<- radZ_sum h hk]
 have mm:∀x:Int,max x (-x)*max x (-x)=x*x:=by
  intro x
  rcases Int.le_total 0 x with h|h
  ·rw[show max x (-x)=x by omega]
  ·rw[show max x (-x) = -x by omega,Int.neg_mul_neg]
 rcases ok_xor h hk with h0|h0<;>rw[h0]
 ·rw [show max (0 : Int) (-0) = 0 by decide]
  simp only[Int.zero_add,Int.zero_mul]
  exact (mm _).symm
 ·rw [show max (0 : Int) (-0) = 0 by decide]
  simp only[Int.add_zero,Int.zero_mul]
  exact (mm _).symm

set_option maxRecDepth 100000
section
def b27:Nat:=134217728
def beyL(e:Ed)(px py:Int):Bool:=if e.ay>e.by' then decide ((px-e.bx)*(e.ay-e.by')<(py-e.by')*(e.ax-e.bx)) else decide ((px-e.ax)*(e.by'-e.ay)<(py-e.ay)*(e.bx-e.ax))
def beyA(e:Ed)(px py:Int):Bool:=if e.ax+e.bx>2*e.cx then decide ((px-e.cx)*(px-e.cx)+(py-e.cy)*(py-e.cy)<radZ e*radZ e) else decide ((px-e.cx)*(px-e.cx)+(py-e.cy)*(py-e.cy)>radZ e*radZ e)&&decide (px-e.cx<0)
def beyZ(e:Ed)(px py:Int):Bool:=if px<min e.ax e.bx then true else if px >= max e.ax e.bx then false else if e.k=1 then beyL e px py else beyA e px py
def rayZ(e:Ed)(px py:Int):Int:=if e.ay<=py/\py<e.by'/\beyZ e px py=true then 1 else if e.by'<=py/\py<e.ay/\beyZ e px py=true then -1 else 0
theorem ge_tt{a b:Int}(h:a >= b):decide (a >= b)=true:=by simpa using h
theorem ge_ff{a b:Int}(h:¬a >= b):decide (a >= b)=false:=by simpa using h
theorem le_tt{a b:Int}(h:a<=b):decide (a<=b)=true:=by simpa using h
theorem le_ff{a b:Int}(h:¬a<=b):decide (a<=b)=false:=by simpa using h
theorem Fok.bb{f:FuncId}{args:List V1}{a b:Bool}(h:a=b)(H:Fok Tryz.prog f args (.one (blV b))):Fok Tryz.prog f args (.one (blV a)):=h ▸ H
def ptB(l:List It):Option (Int×Int):=match l with | [.i x _,.i y _]=>some (x,y)|_=>none
def Bd(B:Nat)(x y:Int):Prop:=x.natAbs<=B/\y.natAbs<=B
theorem ptB_rep{V W:World}{r:Nat->Nat}{k:Nat}{l:List It}{p:Int×Int}{B:Nat}(h:ptB l=some p)(hb:Bd B p.1 p.2):∀v,RepV V W r k ⟨true,l⟩ v->RepV V W r k (ptV p.1 p.2 B) v:=by
 unfold ptB at h
 split at h<;>cases h
 intro v ⟨cs,⟨c,d,e,h1,c2,d2,e2,h2,h3⟩,h4,h5⟩
 cases h3
 exact⟨cs,⟨c,d,e,⟨h1.1,hb.1,h1.2.2⟩,c2,[],e2,⟨h2.1,hb.2,h2.2.2⟩,rfl⟩,h4,h5⟩
def epC(f:FuncId)(B:Nat)(g:Ed->Int->Int->AV)(h:∀e px py,e.ok=true->Bd B px py->Fok Tryz.prog f [edV e 3 c26,ptV px py B] (g e px py)):Con where
 f:=f
 g:=fun | [⟨true,l⟩,⟨true,m⟩]=>(match toEd l,ptB m with|some e,some p=>some (g e p.1 p.2,[e.ok=true,Bd B p.1 p.2])|_,_=>none)|_=>none
 ok:=by
  intro args res ps h' hp
  split at h'<;>try cases h'
  split at h'<;>cases h'
  rename_i he hq
  exact (h _ _ _ hp.1 hp.2.1).pre fun W=>rvs_1 (ed_ok he hp.1) (rvs_1 (ptB_rep hq hp.2.1) rvs_0)
theorem rayZ_bd(e:Ed)(px py:Int):(rayZ e px py).natAbs<=1:=by unfold rayZ;split;decide;split<;>decide
end

set_option maxRecDepth 100000
section
def upZ(e:Ed):Int:=if e.ay<e.by' then 1 else -1
theorem rayZ_out{e:Ed}{px py:Int}(h:py<min e.ay e.by'\/py >= max e.ay e.by'\/px >= max e.ax e.bx):rayZ e px py=0:=by
 unfold rayZ
 have hb:px >= max e.ax e.bx->¬beyZ e px py=true:=fun h=>by unfold beyZ;rw[if_neg (by omega),if_pos h];decide
 rcases h with h|h|h
 ·rw[if_neg (by omega),if_neg (by omega)]
 ·rw[if_neg (by omega),if_neg (by omega)]
 ·rw[if_neg (fun g=>hb h g.2.2),if_neg (fun g=>hb h g.2.2)]
theorem rayZ_in{e:Ed}{px py:Int}(h1:¬py<min e.ay e.by')(h2:¬py >= max e.ay e.by'):rayZ e px py=if beyZ e px py=true then upZ e else 0:=by
 unfold rayZ upZ
 by_cases h:e.ay<e.by'
 ·rw [if_pos h]
  by_cases hb:beyZ e px py=true
  ·rw[if_pos ⟨by omega,by omega,hb⟩,if_pos hb]
  ·rw[if_neg (fun g=>hb g.2.2),if_neg (fun g=>hb g.2.2),if_neg hb]
 ·rw [if_neg h, if_neg (by omega)]
  by_cases hb:beyZ e px py=true
  ·rw[if_pos ⟨by omega,by omega,hb⟩,if_pos hb]
  ·rw[if_neg (fun g=>hb g.2.2),if_neg hb]
theorem bey_l{e:Ed}{px py:Int}(hk:e.k=1)(h1:¬px<min e.ax e.bx)(h2:¬px >= max e.ax e.bx)(h:e.ay≠e.by'):(beyZ e px py=true) <-> (if e.ay<e.by' then 0<(e.bx-e.ax)*(py-e.ay)-(e.by'-e.ay)*(px-e.ax) else (e.bx-e.ax)*(py-e.ay)-(e.by'-e.ay)*(px-e.ax)<0):=by
 unfold beyZ beyL
 rw[if_neg h1,if_neg h2,if_pos hk]
 by_cases g:e.ay<e.by'
 ·rw [if_neg (by omega), if_pos g, decide_eq_true_eq]
  have e1:(px-e.ax)*(e.by'-e.ay)=(e.by'-e.ay)*(px-e.ax):=Int.mul_comm ..
  have e2:(py-e.ay)*(e.bx-e.ax)=(e.bx-e.ax)*(py-e.ay):=Int.mul_comm ..
  omega
 ·rw [if_pos (by omega), if_neg g, decide_eq_true_eq]
  have e1:(py-e.by')*(e.ax-e.bx)-(px-e.bx)*(e.ay-e.by') = -((e.bx-e.ax)*(py-e.ay)-(e.by'-e.ay)*(px-e.ax)):=by grind
  omega
theorem cray_1(ax ay bx by' cx cy px py:Int)(ho:(Ed.mk 1 ax ay bx by' cx cy).ok=true):Fok Tryz.prog 70 [edV ⟨1,ax,ay,bx,by',cx,cy⟩ 3 c26,ptV px py b27] (.one (inV (rayZ ⟨1,ax,ay,bx,by',cx,cy⟩ px py) lim)):=by
 by_cases h1:py<min ay by'
 ·rw[rayZ_out (.inl h1)];exact fok [cOfE] [false,true] [pF (not_F ho),pT (lt_tt h1)] (by kernel_rfl)
 by_cases h2:py >= max ay by'
 ·rw[rayZ_out (.inr (.inl h2))];exact fok [cOfE] [false,false,true] [pF (not_F ho),pF (lt_ff h1),pT (ge_tt h2)] (by kernel_rfl)
 by_cases h3:px >= max ax bx
 ·rw[rayZ_out (.inr (.inr h3))];exact fok [cOfE] [false,false,false,true] [pF (not_F ho),pF (lt_ff h1),pF (ge_ff h2),pT (ge_tt h3)] (by kernel_rfl)
 rw[rayZ_in (e:=⟨1,ax,ay,bx,by',cx,cy⟩) h1 h2]
 have hne:ay≠by':=by omega
 by_cases h4:px<min ax bx
 ·rw [if_pos (show beyZ ⟨1, ax, ay, bx, by', cx, cy⟩ px py = true by unfold beyZ; rw [if_pos h4])]
  unfold upZ
  by_cases h5:ay<by'
  ·rw[if_pos h5];exact fok [cOfE] [false,false,false,false,true,true] [pF (not_F ho),pF (lt_ff h1),pF (ge_ff h2),pF (ge_ff h3),pT (lt_tt h4),pT (lt_tt h5)] (by kernel_rfl)
  ·rw[if_neg h5];exact fok [cOfE] [false,false,false,false,true,false,true] [pF (not_F ho),pF (lt_ff h1),pF (ge_ff h2),pF (ge_ff h3),pT (lt_tt h4),pF (lt_ff h5),pT (gt_T (show by'<ay by omega))] (by kernel_rfl)
 have hb:=bey_l (e:=⟨1,ax,ay,bx,by',cx,cy⟩) (px:=px) (py:=py) rfl h4 h3 hne
 unfold upZ
 by_cases h5:ay<by'
 ·simp only [if_pos h5] at hb ⊢
  by_cases h6:(bx-ax)*(py-ay)-(by'-ay)*(px-ax)>0
  ·rw[if_pos (hb.2 h6)];exact fok [cOfE] [false,false,false,false,false,true,true,true] [pF (not_F ho),pF (lt_ff h1),pF (ge_ff h2),pF (ge_ff h3),pF (lt_ff h4),pT (gt_T h6),pT (lt_tt h5),pT (lt_tt h5)] (by kernel_rfl)
  ·rw [if_neg (fun g => h6 (hb.1 g))]
   by_cases h7:(bx-ax)*(py-ay)-(by'-ay)*(px-ax)<0
   ·exact fok [cOfE] [false,false,false,false,false,false,true,true] [pF (not_F ho),pF (lt_ff h1),pF (ge_ff h2),pF (ge_ff h3),pF (lt_ff h4),pF (gt_F h6),pT (lt_tt h7),pT (lt_tt h5)] (by kernel_rfl)
   ·exact fok [cOfE] [false,false,false,false,false,false,false,true] [pF (not_F ho),pF (lt_ff h1),pF (ge_ff h2),pF (ge_ff h3),pF (lt_ff h4),pF (gt_F h6),pF (lt_ff h7),pT (lt_tt h5)] (by kernel_rfl)
 ·simp only [if_neg h5] at hb ⊢
  have h8:by'<ay:=by omega
  by_cases h6:(bx-ax)*(py-ay)-(by'-ay)*(px-ax)>0
  ·rw[if_neg (fun g=>by have:=hb.1 g;omega)];exact fok [cOfE] [false,false,false,false,false,true,false,true] [pF (not_F ho),pF (lt_ff h1),pF (ge_ff h2),pF (ge_ff h3),pF (lt_ff h4),pT (gt_T h6),pF (lt_ff h5),pT (gt_T h8)] (by kernel_rfl)
  ·by_cases h7 : (bx - ax) * (py - ay) - (by' - ay) * (px - ax) < 0
   ·rw[if_pos (hb.2 h7)];exact fok [cOfE] [false,false,false,false,false,false,true,false,true,false,true] [pF (not_F ho),pF (lt_ff h1),pF (ge_ff h2),pF (ge_ff h3),pF (lt_ff h4),pF (gt_F h6),pT (lt_tt h7),pF (lt_ff h5),pT (gt_T h8),pF (lt_ff h5),pT (gt_T h8)] (by kernel_rfl)
   ·rw[if_neg (fun g=>h7 (hb.1 g))];exact fok [cOfE] [false,false,false,false,false,false,false,false,true] [pF (not_F ho),pF (lt_ff h1),pF (ge_ff h2),pF (ge_ff h3),pF (lt_ff h4),pF (gt_F h6),pF (lt_ff h7),pF (lt_ff h5),pT (gt_T h8)] (by kernel_rfl)
theorem arc_ax{e:Ed}(h:e.ok=true)(hk:¬e.k=1):(e.ax=e.cx/\e.bx≠e.cx/\e.ay≠e.by')\/(e.ax≠e.cx/\e.bx=e.cx/\e.ay≠e.by'):=by
 have hk':=kind_of h
 unfold Ed.ok at h
 simp only[Bool.and_eq_true] at h
 obtain⟨_,h2⟩:=h
 rcases hk' with k|k|k
 ·exact absurd k hk
 ·rw [k] at h2
  simp only[show ¬(2:Int)=1 by decide,if_false,if_true,Ed.quarter,quarterB,Bool.and_eq_true,beq_iff_eq,rot,bne_iff_ne,ne_eq] at h2
  obtain⟨h1,h3,h4⟩:=h2
  by_cases g:e.ax-e.cx=0<;>by_cases f:e.ay-e.cy=0<;>first|omega|exact (h1 (by rw[g,f])).elim|exact (h1 (by rw[beq_eq_false_iff_ne.2 g,beq_eq_false_iff_ne.2 f])).elim
 ·rw [k] at h2
  simp only[show ¬(3:Int)=1 by decide,show ¬(3:Int)=2 by decide,if_false,if_true,Ed.quarter,quarterB,Bool.and_eq_true,beq_iff_eq,rot,bne_iff_ne,ne_eq] at h2
  obtain⟨h1,h3,h4⟩:=h2
  by_cases g:e.ax-e.cx=0<;>by_cases f:e.ay-e.cy=0<;>first|omega|exact (h1 (by rw[g,f])).elim|exact (h1 (by rw[beq_eq_false_iff_ne.2 g,beq_eq_false_iff_ne.2 f])).elim
def pwZ(e:Ed)(px py:Int):Int:=((px-e.cx)*(px-e.cx)+(py-e.cy)*(py-e.cy))-((e.ax-e.cx)*(e.ax-e.cx)+(e.ay-e.cy)*(e.ay-e.cy))
theorem bey_a{e:Ed}{px py:Int}(ho:e.ok=true)(hk:¬e.k=1)(h1:¬px<min e.ax e.bx)(h2:¬px >= max e.ax e.bx):(beyZ e px py=true) <-> (if e.ax>e.cx\/e.bx>e.cx then pwZ e px py<0 else pwZ e px py>0):=by
 have hx:=arc_ax ho hk
 have hr:=radZ_sq ho hk
 unfold beyZ beyA pwZ
 rw[if_neg h1,if_neg h2,if_neg hk,<- hr]
 by_cases g:e.ax>e.cx\/e.bx>e.cx
 ·rw [if_pos (by omega), if_pos g, decide_eq_true_eq]
  omega
 ·rw [if_neg (by omega), if_neg g, Bool.and_eq_true, decide_eq_true_eq, decide_eq_true_eq]
  omega
theorem cray_a(k ax ay bx by' cx cy px py:Int)(hk:k=2\/k=3)(ho:(Ed.mk k ax ay bx by' cx cy).ok=true):Fok Tryz.prog 70 [edV ⟨k,ax,ay,bx,by',cx,cy⟩ 3 c26,ptV px py b27] (.one (inV (rayZ ⟨k,ax,ay,bx,by',cx,cy⟩ px py) lim)):=by
 have hk1:¬k=1:=by omega
 by_cases h1:py<min ay by'
 ·rw[rayZ_out (.inl h1)];rcases hk with rfl|rfl<;>exact fok [cOfE] [false,true] [pF (not_F ho),pT (lt_tt h1)] (by kernel_rfl)
 by_cases h2:py >= max ay by'
 ·rw[rayZ_out (.inr (.inl h2))];rcases hk with rfl|rfl<;>exact fok [cOfE] [false,false,true] [pF (not_F ho),pF (lt_ff h1),pT (ge_tt h2)] (by kernel_rfl)
 by_cases h3:px >= max ax bx
 ·rw[rayZ_out (.inr (.inr h3))];rcases hk with rfl|rfl<;>exact fok [cOfE] [false,false,false,true] [pF (not_F ho),pF (lt_ff h1),pF (ge_ff h2),pT (ge_tt h3)] (by kernel_rfl)
 rw[rayZ_in (e:=⟨k,ax,ay,bx,by',cx,cy⟩) h1 h2]
 by_cases h4:px<min ax bx
 ·rw [if_pos (show beyZ ⟨k, ax, ay, bx, by', cx, cy⟩ px py = true by unfold beyZ; rw [if_pos h4])]
  unfold upZ
  by_cases h5:ay<by'
  ·rw[if_pos h5];rcases hk with rfl|rfl<;>exact fok [cOfE] [false,false,false,false,true,true] [pF (not_F ho),pF (lt_ff h1),pF (ge_ff h2),pF (ge_ff h3),pT (lt_tt h4),pT (lt_tt h5)] (by kernel_rfl)
  ·rw[if_neg h5];rcases hk with rfl|rfl<;>exact fok [cOfE] [false,false,false,false,true,false,true] [pF (not_F ho),pF (lt_ff h1),pF (ge_ff h2),pF (ge_ff h3),pT (lt_tt h4),pF (lt_ff h5),pT (gt_T (show by'<ay by omega))] (by kernel_rfl)
 have hb:=bey_a (e:=⟨k,ax,ay,bx,by',cx,cy⟩) (px:=px) (py:=py) ho hk1 h4 h3
 have hx:=arc_ax ho hk1
 unfold upZ
 simp only[pwZ] at hb hx ⊢
 by_cases h5:ax>cx
 ·rw [if_pos (.inl h5)] at hb
  have h9:¬px<cx:=by omega
  by_cases h6:((px-cx)*(px-cx)+(py-cy)*(py-cy))-((ax-cx)*(ax-cx)+(ay-cy)*(ay-cy))<0
  ·rw [if_pos (hb.2 h6)]
   by_cases h7:ay<by'
   ·rw[if_pos h7];rcases hk with rfl|rfl<;>exact fok [cOfE] [false,false,false,false,false,true,false,true,true] [pF (not_F ho),pF (lt_ff h1),pF (ge_ff h2),pF (ge_ff h3),pF (lt_ff h4),pT (gt_T h5),pF (lt_ff h9),pT (lt_tt h6),pT (lt_tt h7)] (by kernel_rfl)
   ·rw[if_neg h7];rcases hk with rfl|rfl<;>exact fok [cOfE] [false,false,false,false,false,true,false,true,false,true] [pF (not_F ho),pF (lt_ff h1),pF (ge_ff h2),pF (ge_ff h3),pF (lt_ff h4),pT (gt_T h5),pF (lt_ff h9),pT (lt_tt h6),pF (lt_ff h7),pT (gt_T (show by'<ay by omega))] (by kernel_rfl)
  ·rw[if_neg (fun g=>h6 (hb.1 g))];rcases hk with rfl|rfl<;>exact fok [cOfE] [false,false,false,false,false,true,false,false] [pF (not_F ho),pF (lt_ff h1),pF (ge_ff h2),pF (ge_ff h3),pF (lt_ff h4),pT (gt_T h5),pF (lt_ff h9),pF (lt_ff h6)] (by kernel_rfl)
 by_cases h5':bx>cx
 ·rw [if_pos (.inr h5')] at hb
  have h9:¬px<cx:=by omega
  by_cases h6:((px-cx)*(px-cx)+(py-cy)*(py-cy))-((ax-cx)*(ax-cx)+(ay-cy)*(ay-cy))<0
  ·rw [if_pos (hb.2 h6)]
   by_cases h7:ay<by'
   ·rw[if_pos h7];rcases hk with rfl|rfl<;>exact fok [cOfE] [false,false,false,false,false,false,true,false,true,true] [pF (not_F ho),pF (lt_ff h1),pF (ge_ff h2),pF (ge_ff h3),pF (lt_ff h4),pF (gt_F h5),pT (gt_T h5'),pF (lt_ff h9),pT (lt_tt h6),pT (lt_tt h7)] (by kernel_rfl)
   ·rw[if_neg h7];rcases hk with rfl|rfl<;>exact fok [cOfE] [false,false,false,false,false,false,true,false,true,false,true] [pF (not_F ho),pF (lt_ff h1),pF (ge_ff h2),pF (ge_ff h3),pF (lt_ff h4),pF (gt_F h5),pT (gt_T h5'),pF (lt_ff h9),pT (lt_tt h6),pF (lt_ff h7),pT (gt_T (show by'<ay by omega))] (by kernel_rfl)
  ·rw[if_neg (fun g=>h6 (hb.1 g))];rcases hk with rfl|rfl<;>exact fok [cOfE] [false,false,false,false,false,false,true,false,false] [pF (not_F ho),pF (lt_ff h1),pF (ge_ff h2),pF (ge_ff h3),pF (lt_ff h4),pF (gt_F h5),pT (gt_T h5'),pF (lt_ff h9),pF (lt_ff h6)] (by kernel_rfl)
 rw[if_neg (by omega)] at hb
 have h9:px<cx:=by omega
 by_cases h6:((px-cx)*(px-cx)+(py-cy)*(py-cy))-((ax-cx)*(ax-cx)+(ay-cy)*(ay-cy))>0
 ·rw [if_pos (hb.2 h6)]
  by_cases h7:ay<by'
  ·rw[if_pos h7];rcases hk with rfl|rfl<;>exact fok [cOfE] [false,false,false,false,false,false,false,true,true,true] [pF (not_F ho),pF (lt_ff h1),pF (ge_ff h2),pF (ge_ff h3),pF (lt_ff h4),pF (gt_F h5),pF (gt_F h5'),pT (lt_tt h9),pT (gt_T h6),pT (lt_tt h7)] (by kernel_rfl)
  ·rw[if_neg h7];rcases hk with rfl|rfl<;>exact fok [cOfE] [false,false,false,false,false,false,false,true,true,false,true] [pF (not_F ho),pF (lt_ff h1),pF (ge_ff h2),pF (ge_ff h3),pF (lt_ff h4),pF (gt_F h5),pF (gt_F h5'),pT (lt_tt h9),pT (gt_T h6),pF (lt_ff h7),pT (gt_T (show by'<ay by omega))] (by kernel_rfl)
 ·rw[if_neg (fun g=>h6 (hb.1 g))];rcases hk with rfl|rfl<;>exact fok [cOfE] [false,false,false,false,false,false,false,true,false] [pF (not_F ho),pF (lt_ff h1),pF (ge_ff h2),pF (ge_ff h3),pF (lt_ff h4),pF (gt_F h5),pF (gt_F h5'),pT (lt_tt h9),pF (gt_F h6)] (by kernel_rfl)
theorem cray_ok(e:Ed)(px py:Int)(ho:e.ok=true):Fok Tryz.prog 70 [edV e 3 c26,ptV px py b27] (.one (inV (rayZ e px py) lim)):=by
 obtain⟨k,ax,ay,bx,by',cx,cy⟩:=e
 rcases kind_of ho with h|h|h
 ·obtain rfl : k = 1 := h
  exact cray_1 ax ay bx by' cx cy px py ho
 ·exact cray_a k ax ay bx by' cx cy px py (.inl h) ho
 ·exact cray_a k ax ay bx by' cx cy px py (.inr h) ho
def cRay:Con:=epC 70 b27 (fun e px py=>.one (inV (rayZ e px py) 1)) fun e px py h _=>(cray_ok e px py h).bd (rayZ_bd e px py)
end

set_option maxRecDepth 100000
section
def frZ(x y a b:Int):Int:=(x-a)*(x-a)+(y-b)*(y-b)
def wiZ(e:Ed)(px py:Int):Int:=if e.k=3 then min ((e.bx-e.cx)*(py-e.cy)-(e.by'-e.cy)*(px-e.cx)) ((px-e.cx)*(e.ay-e.cy)-(py-e.cy)*(e.ax-e.cx)) else min ((e.ax-e.cx)*(py-e.cy)-(e.ay-e.cy)*(px-e.cx)) ((px-e.cx)*(e.by'-e.cy)-(py-e.cy)*(e.bx-e.cx))
def alZ(e:Ed)(px py:Int):Int:=(px-e.ax)*(e.bx-e.ax)+(py-e.ay)*(e.by'-e.ay)
def loZ(e:Ed):Int:=(e.bx-e.ax)*(e.bx-e.ax)+(e.by'-e.ay)*(e.by'-e.ay)
def crZ(e:Ed)(px py:Int):Int:=(e.bx-e.ax)*(py-e.ay)-(e.by'-e.ay)*(px-e.ax)
def nearC(e:Ed)(px py r:Int):Bool :=
 if frZ px py e.ax e.ay<=r*r then true else if frZ px py e.bx e.by'<=r*r then true else
 if e.k=1 then (if alZ e px py<=0 then false else if alZ e px py >= loZ e then false else decide (crZ e px py*crZ e px py<=r*r*loZ e))
 else if wiZ e px py >= 0 then (if frZ px py e.cx e.cy<=(radZ e+r)*(radZ e+r) then decide (frZ px py e.cx e.cy >= max (radZ e-r) 0*max (radZ e-r) 0) else false) else false
theorem sq0(x:Int):0<=x*x:=by rw[<- Int.natAbs_mul_self];omega
theorem ab_sq(c:Int):max c (0-c)*max c (0-c)=c*c:=by
 rcases Int.le_total 0 c with h|h
 ·rw[show max c (0-c)=c by omega]
 ·rw[show max c (0-c) = -c by omega,Int.neg_mul_neg]
theorem wd_eq(c r l:Int)(hl:0<=l):decide (max c (0-c)*max c (0-c)/18446744073709551616<r*r*l/18446744073709551616\/(max c (0-c)*max c (0-c)/18446744073709551616=r*r*l/18446744073709551616/\max c (0-c)*max c (0-c)%18446744073709551616<=r*r*l%18446744073709551616))=decide (c*c<=r*r*l):=by
 rw[ab_sq]
 exact decide_eq_decide.2 (words_le (sq0 c) (Int.mul_nonneg (sq0 r) hl))
def KN:List Con:=[cRad,cProd,cAtM]
theorem near_ok(e:Ed)(px py r:Int)(ho:e.ok=true):Fok Tryz.prog 69 [edV e 3 c26,ptV px py b27,inV r 4194304] (.one (blV (nearC e px py r))):=by
 unfold nearC
 by_cases h1:frZ px py e.ax e.ay<=r*r
 ·rw[if_pos h1];exact fok KN [true] [pT (le_tt h1)] (by kernel_rfl)
 rw[if_neg h1]
 by_cases h2:frZ px py e.bx e.by'<=r*r
 ·rw[if_pos h2];exact fok KN [false,true] [pF (le_ff h1),pT (le_tt h2)] (by kernel_rfl)
 rw[if_neg h2]
 by_cases h3:e.k=1
 ·rw [if_pos h3]
  by_cases h4:alZ e px py<=0
  ·rw[if_pos h4];exact fok KN [false,false,false,true] [pF (le_ff h1),pF (le_ff h2),pF (ne_F (by simpa using h3)),pT (le_tt h4)] (by kernel_rfl)
  rw[if_neg h4]
  by_cases h5:alZ e px py >= loZ e
  ·rw[if_pos h5];exact fok KN [false,false,false,false,true] [pF (le_ff h1),pF (le_ff h2),pF (ne_F (by simpa using h3)),pF (le_ff h4),pT (ge_tt h5)] (by kernel_rfl)
  rw[if_neg h5]
  have hl:0<=loZ e:=by have:=sq0 (e.bx-e.ax);have:=sq0 (e.by'-e.ay);unfold loZ;omega
  have ha:0<=max (crZ e px py) (0-crZ e px py):=by omega
  rw[<- wd_eq _ _ _ hl]
  exact fok KN [false,false,false,false,false] [pF (le_ff h1),pF (le_ff h2),pF (ne_F (by simpa using h3)),pF (le_ff h4),pF (ge_ff h5),pP ha,pP ha,pP (show 0<=r*r from sq0 r),pP hl] (by kernel_rfl)
 rw[if_neg h3]
 have g3:(e.k != 1)=true:=by simpa using h3
 unfold wiZ
 by_cases h4:e.k=3
 ·rw [if_pos h4]
  by_cases h5:min ((e.bx-e.cx)*(py-e.cy)-(e.by'-e.cy)*(px-e.cx)) ((px-e.cx)*(e.ay-e.cy)-(py-e.cy)*(e.ax-e.cx)) >= 0
  ·rw [if_pos h5]
   by_cases h6:frZ px py e.cx e.cy<=(radZ e+r)*(radZ e+r)
   ·rw[if_pos h6];exact fok KN [false,false,true,true,true,true] [pF (le_ff h1),pF (le_ff h2),pT g3,pT (eq_tt h4),pP ho,pT (ge_tt h5),pT (le_tt h6)] (by kernel_rfl)
   ·rw[if_neg h6];exact fok KN [false,false,true,true,true,false] [pF (le_ff h1),pF (le_ff h2),pT g3,pT (eq_tt h4),pP ho,pT (ge_tt h5),pF (le_ff h6)] (by kernel_rfl)
  ·rw[if_neg h5];exact fok KN [false,false,true,true,false] [pF (le_ff h1),pF (le_ff h2),pT g3,pT (eq_tt h4),pP ho,pF (ge_ff h5)] (by kernel_rfl)
 ·rw [if_neg h4]
  by_cases h5:min ((e.ax-e.cx)*(py-e.cy)-(e.ay-e.cy)*(px-e.cx)) ((px-e.cx)*(e.by'-e.cy)-(py-e.cy)*(e.bx-e.cx)) >= 0
  ·rw [if_pos h5]
   by_cases h6:frZ px py e.cx e.cy<=(radZ e+r)*(radZ e+r)
   ·rw[if_pos h6];exact fok KN [false,false,true,false,true,true] [pF (le_ff h1),pF (le_ff h2),pT g3,pF (eq_ff h4),pP ho,pT (ge_tt h5),pT (le_tt h6)] (by kernel_rfl)
   ·rw[if_neg h6];exact fok KN [false,false,true,false,true,false] [pF (le_ff h1),pF (le_ff h2),pT g3,pF (eq_ff h4),pP ho,pT (ge_tt h5),pF (le_ff h6)] (by kernel_rfl)
  ·rw[if_neg h5];exact fok KN [false,false,true,false,false] [pF (le_ff h1),pF (le_ff h2),pT g3,pF (eq_ff h4),pP ho,pF (ge_ff h5)] (by kernel_rfl)
def eprC(f:FuncId)(g:Ed->Int->Int->Int->AV)(h:∀e px py r,e.ok=true->Bd b27 px py->(0<=r/\r<=4194304)->Fok Tryz.prog f [edV e 3 c26,ptV px py b27,inV r 4194304] (g e px py r)):Con where
 f:=f
 g:=fun | [⟨true,l⟩,⟨true,m⟩,⟨false,[.i r _]⟩]=>(match toEd l,ptB m with|some e,some p=>some (g e p.1 p.2 r,[e.ok=true,Bd b27 p.1 p.2,0<=r/\r<=4194304])|_,_=>none)|_=>none
 ok:=by
  intro args res ps h' hp
  split at h'<;>try cases h'
  split at h'<;>cases h'
  rename_i he hq
  exact (h _ _ _ _ hp.1 hp.2.1 hp.2.2.1).pre fun W=>rvs_1 (ed_ok he hp.1) (rvs_1 (ptB_rep hq hp.2.1) (rvs_1 (fun v hv=>RepI.val ⟨hv.scal.1,by have:=hp.2.2.1;omega,hv.scal.2.2⟩) rvs_0))
def cNear:Con:=eprC 69 (fun e px py r=>.one (blV (nearC e px py r))) fun e px py r ho _ _=>near_ok e px py r ho
end
end Go.Proofs.YtceemiodpccbhaaGreat
