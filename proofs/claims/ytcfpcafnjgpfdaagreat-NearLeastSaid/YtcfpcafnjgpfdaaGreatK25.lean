import Derived.Test.YtcfpcafnjgpfdaaGreatK24
set_option linter.unusedVariables false
set_option linter.unusedSimpArgs false

namespace Go.Proofs.YtcfpcafnjgpfdaaGreat
open Go.RowKit

set_option maxRecDepth 100000
section
theorem pt_c26{V W:World}{r:Nat->Nat}{k:Nat}{x y:Int}{A B:Nat}(h1:A<=c26)(h2:B<=c26):∀v,RepV V W r k ⟨true,[.i x A,.i y B]⟩ v->RepV V W r k (ptV x y c26) v:=pt_low h1 h2
theorem on_1(ax ay bx by' cx cy px py:Int)(ho:(Ed.mk 1 ax ay bx by' cx cy).ok=true):Fok Tryz.prog 28 [edV ⟨1,ax,ay,bx,by',cx,cy⟩ 3 c26,ptV px py c26] (.one (blV (onE ⟨1,ax,ay,bx,by',cx,cy⟩ px py))):=by
 have E:onE ⟨1,ax,ay,bx,by',cx,cy⟩ px py=(inB (min ax bx) (min ay by') (max ax bx) (max ay by') px py&&(sideI ((bx-ax)*(py-ay)-(by'-ay)*(px-ax))==0)):=by unfold onE;rw[ho];rfl
 rw[E]
 unfold inB
 cases h0:decide (min ax bx<=px) with
 | false=>exact fok [cOfE,cSide] [true,false] [pT ho,pF h0] (by kernel_rfl)
 | true =>
  cases h1:decide (px<=max ax bx) with
  | false=>exact fok [cOfE,cSide] [true,true,false] [pT ho,pT h0,pF h1] (by kernel_rfl)
  | true =>
   cases h2:decide (min ay by'<=py) with
   | false=>exact fok [cOfE,cSide] [true,true,true,false] [pT ho,pT h0,pT h1,pF h2] (by kernel_rfl)
   | true =>
    cases h3:decide (py<=max ay by') with
    | false=>exact fok [cOfE,cSide] [true,true,true,true,false] [pT ho,pT h0,pT h1,pT h2,pF h3] (by kernel_rfl)
    | true =>
     exact fok [cOfE,cSide] [true,true,true,true,true] [pT ho,pT h0,pT h1,pT h2,pT h3] (by kernel_rfl)
theorem on_2(ax ay bx by' cx cy px py:Int)(ho:(Ed.mk 2 ax ay bx by' cx cy).ok=true):Fok Tryz.prog 28 [edV ⟨2,ax,ay,bx,by',cx,cy⟩ 3 c26,ptV px py c26] (.one (blV (onE ⟨2,ax,ay,bx,by',cx,cy⟩ px py))):=by
 have E:onE ⟨2,ax,ay,bx,by',cx,cy⟩ px py=(inB (min ax bx) (min ay by') (max ax bx) (max ay by') px py&&(powerI (px-cx) (py-cy) (ax-cx) (ay-cy)==0)):=by unfold onE;rw[ho];rfl
 rw[E]
 unfold inB
 cases h0:decide (min ax bx<=px) with
 | false=>exact fok [cOfE,cSide] [true,false] [pT ho,pF h0] (by kernel_rfl)
 | true =>
  cases h1:decide (px<=max ax bx) with
  | false=>exact fok [cOfE,cSide] [true,true,false] [pT ho,pT h0,pF h1] (by kernel_rfl)
  | true =>
   cases h2:decide (min ay by'<=py) with
   | false=>exact fok [cOfE,cSide] [true,true,true,false] [pT ho,pT h0,pT h1,pF h2] (by kernel_rfl)
   | true =>
    cases h3:decide (py<=max ay by') with
    | false=>exact fok [cOfE,cSide] [true,true,true,true,false] [pT ho,pT h0,pT h1,pT h2,pF h3] (by kernel_rfl)
    | true =>
     exact fok [cOfE,cSide] [true,true,true,true,true] [pT ho,pT h0,pT h1,pT h2,pT h3] (by kernel_rfl)
theorem on_3(ax ay bx by' cx cy px py:Int)(ho:(Ed.mk 3 ax ay bx by' cx cy).ok=true):Fok Tryz.prog 28 [edV ⟨3,ax,ay,bx,by',cx,cy⟩ 3 c26,ptV px py c26] (.one (blV (onE ⟨3,ax,ay,bx,by',cx,cy⟩ px py))):=by
 have E:onE ⟨3,ax,ay,bx,by',cx,cy⟩ px py=(inB (min ax bx) (min ay by') (max ax bx) (max ay by') px py&&(powerI (px-cx) (py-cy) (ax-cx) (ay-cy)==0)):=by unfold onE;rw[ho];rfl
 rw[E]
 unfold inB
 cases h0:decide (min ax bx<=px) with
 | false=>exact fok [cOfE,cSide] [true,false] [pT ho,pF h0] (by kernel_rfl)
 | true =>
  cases h1:decide (px<=max ax bx) with
  | false=>exact fok [cOfE,cSide] [true,true,false] [pT ho,pT h0,pF h1] (by kernel_rfl)
  | true =>
   cases h2:decide (min ay by'<=py) with
   | false=>exact fok [cOfE,cSide] [true,true,true,false] [pT ho,pT h0,pT h1,pF h2] (by kernel_rfl)
   | true =>
    cases h3:decide (py<=max ay by') with
    | false=>exact fok [cOfE,cSide] [true,true,true,true,false] [pT ho,pT h0,pT h1,pT h2,pF h3] (by kernel_rfl)
    | true =>
     exact fok [cOfE,cSide] [true,true,true,true,true] [pT ho,pT h0,pT h1,pT h2,pT h3] (by kernel_rfl)
def cOn:Con where
 f:=28
 g:=fun | [⟨true,l⟩,⟨true,[.i x A,.i y B]⟩]=>if A<=c26/\B<=c26 then (toEd l).map fun e=>(.one (blV (onE e x y)),[e.ok=true]) else none|_=>none
 ok:=by
  intro args res ps h hp
  split at h<;>try cases h
  rename_i l x A y B
  split at h<;>try cases h
  rename_i hb
  cases he:toEd l with
  | none=>simp[he] at h
  | some e =>
   simp only[he,Option.map_some,Option.some.injEq,Prod.mk.injEq] at h
   obtain⟨rfl,rfl⟩:=h
   have ho:=hp.1
   refine Fok.pre ?_ fun W=>rvs_1 (ed_ok he ho) (rvs_1 (pt_c26 hb.1 hb.2) rvs_0)
   obtain⟨k,ax,ay,bx,by',cx,cy⟩:=e
   rcases kind_of ho with h|h|h
   ·obtain rfl : k = 1 := h
    exact on_1 ax ay bx by' cx cy x y ho
   ·obtain rfl : k = 2 := h
    exact on_2 ax ay bx by' cx cy x y ho
   ·obtain rfl : k = 3 := h
    exact on_3 ax ay bx by' cx cy x y ho
def KC:List Con:=[cChk,cRad,cOn,cLines,cLineArc,cArcs]
theorem arcsZ_eq(e f:Ed):arcsZ e f=arcsG e.cx e.cy (radZ e) e.ux e.uy e.vx e.vy f.cx f.cy (radZ f) f.ux f.uy f.vx f.vy:=by
 unfold arcsZ arcsG
 by_cases h:e.cx=f.cx/\e.cy=f.cy
 ·rw[if_pos h,if_pos (by simpa using h)]
 ·rw [if_neg h, if_neg (by simpa using h)]
  unfold aaE aaG
  simp only[Int.zero_sub]
theorem pt_eq(e:Ed):e.pt=(e.ax==e.bx&&e.ay==e.by'):=rfl
theorem countE_v{e f:Ed}(h1:e.ok=true)(h2:f.ok=true):countE e f=if e.k=1 then
  if e.pt then onZ f e.ax e.ay
  else if f.k=1 then (if f.pt then onZ e f.ax f.ay else linesZ e.ax e.ay e.bx e.by' f.ax f.ay f.bx f.by')
  else crossZ e f
 else if f.k=1 then (if f.pt then onZ e f.ax f.ay else crossZ f e)
 else arcsZ e f:=by
 unfold countE
 rw[h1,h2]
 rfl
theorem rad_ne{e:Ed}(h:e.ok=true)(hk:¬e.k=1):radZ e≠0:=by have:=rad_pos h hk;omega
theorem neq_F{a b:Int}(h:a=b):(a != b)=false:=by simpa using h
theorem count_arc_arc(e f:Ed)(h1:e.ok=true)(h2:f.ok=true)(ke:¬e.k=1)(kf:¬f.k=1):Fok Tryz.prog 40 [edV e 3 c26,edV f 3 c26] (.one (inV (countE e f) lim)):=by
 rw[show countE e f=arcsZ e f by rw[countE_v h1 h2];simp only[if_neg ke,if_neg kf]]
 rw[arcsZ_eq]
 exact fok KC [false,false,true,true] [pF (chk_F h1),pF (chk_F h2),pT (ne_T ke),pP h1,pP (rad_ne h1 ke),pP (rad_ne h1 ke),pP (rad_ne h1 ke),pP (rad_ne h1 ke),pT (ne_T kf),pP h2,pP (rad_ne h2 kf),pP (rad_ne h2 kf),pP (rad_ne h2 kf),pP (rad_ne h2 kf)] (by kernel_rfl)
theorem count_arc_pt(e f:Ed)(h1:e.ok=true)(h2:f.ok=true)(ke:¬e.k=1)(kf:f.k=1)(pf:(f.ax==f.bx&&f.ay==f.by')=true):Fok Tryz.prog 40 [edV e 3 c26,edV f 3 c26] (.one (inV (countE e f) lim)):=by
 rw[show countE e f=onZ e f.ax f.ay by rw[countE_v h1 h2];simp only[if_neg ke,if_pos kf,pt_eq f,pf,if_true]]
 unfold onZ
 cases ho:onE e f.ax f.ay with
 | true=>exact fok KC [false,false,true,false,true,true] [pF (chk_F h1),pF (chk_F h2),pT (ne_T ke),pP h1,pP (rad_ne h1 ke),pP (rad_ne h1 ke),pP (rad_ne h1 ke),pP (rad_ne h1 ke),pF (neq_F kf),pT pf,pP h1,pT ho] (by kernel_rfl)
 | false=>exact fok KC [false,false,true,false,true,false] [pF (chk_F h1),pF (chk_F h2),pT (ne_T ke),pP h1,pP (rad_ne h1 ke),pP (rad_ne h1 ke),pP (rad_ne h1 ke),pP (rad_ne h1 ke),pF (neq_F kf),pT pf,pP h1,pF ho] (by kernel_rfl)
theorem count_arc_line(e f:Ed)(h1:e.ok=true)(h2:f.ok=true)(ke:¬e.k=1)(kf:f.k=1)(pf:(f.ax==f.bx&&f.ay==f.by')=false):Fok Tryz.prog 40 [edV e 3 c26,edV f 3 c26] (.one (inV (countE e f) lim)):=by
 rw[show countE e f=crossZ f e by rw[countE_v h1 h2];simp only[if_neg ke,if_pos kf,pt_eq f,pf,Bool.false_eq_true,if_false]]
 exact fok KC [false,false,true,false,false] [pF (chk_F h1),pF (chk_F h2),pT (ne_T ke),pP h1,pP (rad_ne h1 ke),pP (rad_ne h1 ke),pP (rad_ne h1 ke),pP (rad_ne h1 ke),pF (neq_F kf),pF pf] (by kernel_rfl)
theorem count_pt_arc(e f:Ed)(h1:e.ok=true)(h2:f.ok=true)(ke:e.k=1)(pe:(e.ax==e.bx&&e.ay==e.by')=true)(kf:¬f.k=1):Fok Tryz.prog 40 [edV e 3 c26,edV f 3 c26] (.one (inV (countE e f) lim)):=by
 rw[show countE e f=onZ f e.ax e.ay by rw[countE_v h1 h2];simp only[if_pos ke,pt_eq e,pe,if_true]]
 unfold onZ
 cases ho:onE f e.ax e.ay with
 | true=>exact fok KC [false,false,false,true,true,true] [pF (chk_F h1),pF (chk_F h2),pF (neq_F ke),pT pe,pT (ne_T kf),pP h2,pP (rad_ne h2 kf),pP (rad_ne h2 kf),pP (rad_ne h2 kf),pP (rad_ne h2 kf),pP h2,pT ho] (by kernel_rfl)
 | false=>exact fok KC [false,false,false,true,true,false] [pF (chk_F h1),pF (chk_F h2),pF (neq_F ke),pT pe,pT (ne_T kf),pP h2,pP (rad_ne h2 kf),pP (rad_ne h2 kf),pP (rad_ne h2 kf),pP (rad_ne h2 kf),pP h2,pF ho] (by kernel_rfl)
theorem count_pt_pt(e f:Ed)(h1:e.ok=true)(h2:f.ok=true)(ke:e.k=1)(pe:(e.ax==e.bx&&e.ay==e.by')=true)(kf:f.k=1)(pf:(f.ax==f.bx&&f.ay==f.by')=true):Fok Tryz.prog 40 [edV e 3 c26,edV f 3 c26] (.one (inV (countE e f) lim)):=by
 rw[show countE e f=onZ f e.ax e.ay by rw[countE_v h1 h2];simp only[if_pos ke,pt_eq e,pe,if_true]]
 unfold onZ
 cases ho:onE f e.ax e.ay with
 | true=>exact fok KC [false,false,false,true,false,true,true] [pF (chk_F h1),pF (chk_F h2),pF (neq_F ke),pT pe,pF (neq_F kf),pT pf,pP h2,pT ho] (by kernel_rfl)
 | false=>exact fok KC [false,false,false,true,false,true,false] [pF (chk_F h1),pF (chk_F h2),pF (neq_F ke),pT pe,pF (neq_F kf),pT pf,pP h2,pF ho] (by kernel_rfl)
theorem count_pt_line(e f:Ed)(h1:e.ok=true)(h2:f.ok=true)(ke:e.k=1)(pe:(e.ax==e.bx&&e.ay==e.by')=true)(kf:f.k=1)(pf:(f.ax==f.bx&&f.ay==f.by')=false):Fok Tryz.prog 40 [edV e 3 c26,edV f 3 c26] (.one (inV (countE e f) lim)):=by
 rw[show countE e f=onZ f e.ax e.ay by rw[countE_v h1 h2];simp only[if_pos ke,pt_eq e,pe,if_true]]
 unfold onZ
 cases ho:onE f e.ax e.ay with
 | true=>exact fok KC [false,false,false,true,false,false,true] [pF (chk_F h1),pF (chk_F h2),pF (neq_F ke),pT pe,pF (neq_F kf),pF pf,pP h2,pT ho] (by kernel_rfl)
 | false=>exact fok KC [false,false,false,true,false,false,false] [pF (chk_F h1),pF (chk_F h2),pF (neq_F ke),pT pe,pF (neq_F kf),pF pf,pP h2,pF ho] (by kernel_rfl)
theorem count_line_arc(e f:Ed)(h1:e.ok=true)(h2:f.ok=true)(ke:e.k=1)(pe:(e.ax==e.bx&&e.ay==e.by')=false)(kf:¬f.k=1):Fok Tryz.prog 40 [edV e 3 c26,edV f 3 c26] (.one (inV (countE e f) lim)):=by
 rw[show countE e f=crossZ e f by rw[countE_v h1 h2];simp only[if_pos ke,pt_eq e,pe,Bool.false_eq_true,if_false,if_neg kf]]
 exact fok KC [false,false,false,false,true] [pF (chk_F h1),pF (chk_F h2),pF (neq_F ke),pF pe,pT (ne_T kf),pP h2,pP (rad_ne h2 kf),pP (rad_ne h2 kf),pP (rad_ne h2 kf),pP (rad_ne h2 kf)] (by kernel_rfl)
theorem count_line_pt(e f:Ed)(h1:e.ok=true)(h2:f.ok=true)(ke:e.k=1)(pe:(e.ax==e.bx&&e.ay==e.by')=false)(kf:f.k=1)(pf:(f.ax==f.bx&&f.ay==f.by')=true):Fok Tryz.prog 40 [edV e 3 c26,edV f 3 c26] (.one (inV (countE e f) lim)):=by
 rw[show countE e f=onZ e f.ax f.ay by rw[countE_v h1 h2];simp only[if_pos ke,pt_eq e,pe,Bool.false_eq_true,if_false,if_pos kf,pt_eq f,pf,if_true]]
 unfold onZ
 cases ho:onE e f.ax f.ay with
 | true=>exact fok KC [false,false,false,false,false,true,true] [pF (chk_F h1),pF (chk_F h2),pF (neq_F ke),pF pe,pF (neq_F kf),pT pf,pP h1,pT ho] (by kernel_rfl)
 | false=>exact fok KC [false,false,false,false,false,true,false] [pF (chk_F h1),pF (chk_F h2),pF (neq_F ke),pF pe,pF (neq_F kf),pT pf,pP h1,pF ho] (by kernel_rfl)
theorem count_line_line(e f:Ed)(h1:e.ok=true)(h2:f.ok=true)(ke:e.k=1)(pe:(e.ax==e.bx&&e.ay==e.by')=false)(kf:f.k=1)(pf:(f.ax==f.bx&&f.ay==f.by')=false):Fok Tryz.prog 40 [edV e 3 c26,edV f 3 c26] (.one (inV (countE e f) lim)):=by
 rw[show countE e f=linesZ e.ax e.ay e.bx e.by' f.ax f.ay f.bx f.by' by rw[countE_v h1 h2];simp only[if_pos ke,pt_eq e,pe,Bool.false_eq_true,if_false,if_pos kf,pt_eq f,pf]]
 exact fok KC [false,false,false,false,false,false] [pF (chk_F h1),pF (chk_F h2),pF (neq_F ke),pF pe,pF (neq_F kf),pF pf] (by kernel_rfl)
theorem count_no(e f:Ed)(h:(e.ok&&f.ok)=false):Fok Tryz.prog 40 [edV e lim lim,edV f lim lim] (.one (inV (countE e f) lim)):=by
 rw[show countE e f=0 by unfold countE;rw[h];rfl]
 cases h1:e.ok with
 | false=>exact fok KC [true] [pT (chk_T h1)] (by kernel_rfl)
 | true =>
  rw[h1,Bool.true_and] at h
  exact fok KC [false,true] [pF (chk_F h1),pT (chk_T h)] (by kernel_rfl)
theorem count_ok(e f:Ed)(h1:e.ok=true)(h2:f.ok=true):Fok Tryz.prog 40 [edV e 3 c26,edV f 3 c26] (.one (inV (countE e f) lim)):=by
 by_cases ke:e.k=1
 ·cases pe : (e.ax == e.bx && e.ay == e.by') with
  | true =>
   by_cases kf:f.k=1
   ·cases pf : (f.ax == f.bx && f.ay == f.by') with
    | true=>exact count_pt_pt e f h1 h2 ke pe kf pf
    | false=>exact count_pt_line e f h1 h2 ke pe kf pf
   ·exact count_pt_arc e f h1 h2 ke pe kf
  | false =>
   by_cases kf:f.k=1
   ·cases pf : (f.ax == f.bx && f.ay == f.by') with
    | true=>exact count_line_pt e f h1 h2 ke pe kf pf
    | false=>exact count_line_line e f h1 h2 ke pe kf pf
   ·exact count_line_arc e f h1 h2 ke pe kf
 ·by_cases kf : f.k = 1
  ·cases pf : (f.ax == f.bx && f.ay == f.by') with
   | true=>exact count_arc_pt e f h1 h2 ke kf pf
   | false=>exact count_arc_line e f h1 h2 ke kf pf
  ·exact count_arc_arc e f h1 h2 ke kf
theorem countE_bd(e f:Ed):(countE e f).natAbs<=4:=by
 cases h:(e.ok&&f.ok) with
 | false=>rw[show countE e f=0 by unfold countE;rw[h];rfl];decide
 | true =>
  simp only[Bool.and_eq_true] at h
  have b1:=onZ_bd e f.ax f.ay
  have b2:=onZ_bd f e.ax e.ay
  have b3:=linesZ_bd e.ax e.ay e.bx e.by' f.ax f.ay f.bx f.by'
  have b4:=countZ_bd (laE e f).delta (laE e f).list
  have b5:=countZ_bd (laE f e).delta (laE f e).list
  have b6 : -1<=arcsZ e f/\arcsZ e f<=4:=by
   unfold arcsZ
   split
   ·exact sameZ_bd _ _ _ _ _
   ·have:=countZ_bd (aaE e f).delta (aaE e f).list;omega
  rw[countE_v h.1 h.2]
  unfold crossZ
  (repeat' split)<;>omega
def cCountE:Con where
 f:=40
 g:=fun | [⟨true,l⟩,⟨true,m⟩]=>(match toEd l,toEd m with|some e,some f=>some (.one (inV (countE e f) 4),[])|_,_=>none)|_=>none
 ok:=by
  intro args res ps h hp
  split at h<;>try cases h
  split at h<;>cases h
  rename_i e f he hf
  cases h:(e.ok&&f.ok) with
  | false=>exact ((count_no e f h).bd (countE_bd e f)).pre fun W=>rvs_1 (ed_lim he) (rvs_1 (ed_lim hf) rvs_0)
  | true =>
   simp only[Bool.and_eq_true] at h
   exact ((count_ok e f h.1 h.2).bd (countE_bd e f)).pre fun W=>rvs_1 (ed_ok he h.1) (rvs_1 (ed_ok hf h.2) rvs_0)
theorem meetEdges_ok(e f:Ed):Fok Tryz.prog 11 [edV e lim lim,edV f lim lim] (.one (blV (countE e f != 0))):=fok [cCountE] [] [] (by kernel_rfl)
def cMeet:Con where
 f:=11
 g:=fun | [⟨true,l⟩,⟨true,m⟩]=>(match toEd l,toEd m with|some e,some f=>some (.one (blV (!(countE e f==0))),[])|_,_=>none)|_=>none
 ok:=by
  intro args res ps h hp
  split at h<;>try cases h
  split at h<;>cases h
  rename_i e f he hf
  exact (meetEdges_ok e f).pre fun W=>rvs_1 (ed_lim he) (rvs_1 (ed_lim hf) rvs_0)
end
def cmpRt(a b:Rt):Int:=if a.right&&b.right then cmpR (a.add-b.add) a.s a.n.z a.d.z b.s b.n.z b.d.z else 0
def rv(a:Rt):Re:=lin (a.add*(val a.d.d:Int)) a.s (val a.n.d*val a.d.d)
theorem rv_f(a:Rt)(k:Nat):(rv a).f k=(a.add:Rat)*(val a.d.d:Rat)+(a.s:Rat)*rtf (val a.n.d*val a.d.d) k:=by
 unfold rv
 rw[lin_f,Rat.intCast_mul,Rat.intCast_natCast]
def mul(z:Int)(x:Re):Re:=(Re.int z).mul x
theorem mul_f(z:Int)(x:Re)(k:Nat):(mul z x).f k=(z:Rat)*x.f k:=rfl
theorem add_f(x y:Re)(k:Nat):(x.add y).f k=x.f k+y.f k:=rfl
theorem neg_f(x:Re)(k:Nat):x.neg.f k = -x.f k:=rfl
def df(a b:Rt):Re:=(mul (val b.d.d:Int) (rv a)).add (mul (val a.d.d:Int) (rv b)).neg
theorem df_f(a b:Rt)(k:Nat):(df a b).f k=(val b.d.d:Rat)*((a.add:Rat)*(val a.d.d:Rat)+(a.s:Rat)*rtf (val a.n.d*val a.d.d) k)-(val a.d.d:Rat)*((b.add:Rat)*(val b.d.d:Rat)+(b.s:Rat)*rtf (val b.n.d*val b.d.d) k):=by
 unfold df
 rw[add_f,neg_f,mul_f,mul_f,rv_f,rv_f,Rat.intCast_natCast,Rat.intCast_natCast]
 grind
theorem Rt.Ok.shape{a:Rt}(h:a.Ok):(a.s=1/\0<val a.n.d)\/(a.s = -1/\0<val a.n.d)\/(a.s=0/\val a.n.d=0):=by
 have h1:=h.sl
 have h2:=h.su
 by_cases h0:a.s=0
 ·exact .inr (.inr ⟨h0,(h.n0 h0).1⟩)
 ·have := h.n1 h0
  omega
theorem Rt.Ok.zs{a:Rt}(h:a.Ok):a.n.z=(val a.n.d:Int)/\a.d.z=(val a.d.d:Int):=⟨z_pos h.nn,z_pos h.dn⟩
theorem cmpRt_sg{a b:Rt}(ha:a.Ok)(hb:b.Ok):Sg (cmpR (a.add-b.add) a.s a.n.z a.d.z b.s b.n.z b.d.z) (df a b):=by
 rw[ha.zs.1,ha.zs.2,hb.zs.1,hb.zs.2]
 refine Sg.eq (cmp_sg ha.dp hb.dp ha.shape hb.shape) fun k=>?_
 rw[dif_f,df_f,Rat.intCast_sub]
 simp only[Rat.intCast_natCast]
 grind
theorem Sg.zero{x:Re}(h:∀k,x.f k=0):Sg 0 x:=.inr (.inl ⟨rfl,nn_of fun k=>by rw[h];exact Rat.le_refl,nn_of fun k=>by show 0 <= -x.f k;rw[h];decide⟩)
theorem cmp_trans{a b c:Rt}(ha:a.Ok)(hb:b.Ok)(hc:c.Ok){x y z:Int}(hx:Sg x (df a b))(hy:Sg y (df b c))(hz:Sg z (df a c)) :
  (x<=0->y<=0->z<=0/\(z=0->x=0/\y=0))/\(0<=x->0<=y->0<=z/\(z=0->x=0/\y=0)):=by
 have pa:=ha.dp
 have pb:=hb.dp
 have pc:=hc.dp
 have hz':=hz.mul (m:=(val b.d.d:Int)) (by omega)
 have hx':=hx.mul (m:=(val c.d.d:Int)) (by omega)
 have hy':=hy.mul (m:=(val a.d.d:Int)) (by omega)
 have e:∀k,(((Re.int (val c.d.d:Int)).mul (df a b)).add ((Re.int (val a.d.d:Int)).mul (df b c))).f k=((Re.int (val b.d.d:Int)).mul (df a c)).f k:=fun k=>by
  show ((val c.d.d:Int):Rat)*(df a b).f k+((val a.d.d:Int):Rat)*(df b c).f k=((val b.d.d:Int):Rat)*(df a c).f k
  rw[df_f,df_f,df_f,Rat.intCast_natCast,Rat.intCast_natCast,Rat.intCast_natCast]
  grind
 have bx:=sg_bd hx
 have by':=sg_bd hy
 have bz:=sg_bd hz
 have key:∀r,(x=1/\0<=y/\r=1)\/(0<=x/\y=1/\r=1)\/(x=0/\y=0/\r=0)\/(x = -1/\y<=0/\r = -1)\/(x<=0/\y = -1/\r = -1)->z=r:=fun r h=>Sg.uniq hz' (Sg.eq (Sg.plus hx' hy' h) e)
 constructor
 ·intro h1 h2
  by_cases h3:x=0/\y=0
  ·have:=key 0 (by omega);omega
  ·have:=key (-1) (by omega);omega
 ·intro h1 h2
  by_cases h3:x=0/\y=0
  ·have:=key 0 (by omega);omega
  ·have:=key 1 (by omega);omega
structure Sp where
 x:Int
 y:Int
 dx:Int
 dy:Int
 p:Int
 q:Int
 len:Int
def Sp.no:Sp:=⟨0,0,0,0,0,0,0⟩
def spP(x y:Int):Sp:=⟨x,y,0,0,0,1,0⟩
def sqI(x y:Int):Int:=x*x+y*y
def dR(add s n d:Int):Rt:=(ofP add s (ofZ n) (ofZ d)).1
def endR(px py qx qy:Int):Rt×Sp:=(dR 0 1 (sqI (px-qx) (py-qy)) 1,spP qx qy)
def lineR(e:Ed)(px py:Int):Rt×Sp :=
 if (px-e.ax)*(e.bx-e.ax)+(py-e.ay)*(e.by'-e.ay)<=0 then endR px py e.ax e.ay
 else if sqI (e.bx-e.ax) (e.by'-e.ay)<=(px-e.ax)*(e.bx-e.ax)+(py-e.ay)*(e.by'-e.ay) then endR px py e.bx e.by'
 else (dR 0 1 (((e.bx-e.ax)*(py-e.ay)-(e.by'-e.ay)*(px-e.ax))*((e.bx-e.ax)*(py-e.ay)-(e.by'-e.ay)*(px-e.ax))) (sqI (e.bx-e.ax) (e.by'-e.ay)),
  ⟨e.ax,e.ay,e.bx-e.ax,e.by'-e.ay,(px-e.ax)*(e.bx-e.ax)+(py-e.ay)*(e.by'-e.ay),sqI (e.bx-e.ax) (e.by'-e.ay),0⟩)
def wiB(dx dy fx fy tx ty:Int):Bool:=decide (0<=fx*dy-fy*dx)&&decide (0<=dx*ty-dy*tx)
def inQ(e:Ed)(vx vy:Int):Bool :=
 !(vx==0&&vy==0)&&(if e.k=3 then wiB vx vy (e.bx-e.cx) (e.by'-e.cy) (e.ax-e.cx) (e.ay-e.cy) else wiB vx vy (e.ax-e.cx) (e.ay-e.cy) (e.bx-e.cx) (e.by'-e.cy))
def arcR(e:Ed)(px py:Int):Rt×Sp :=
 if inQ e (px-e.cx) (py-e.cy) then
  (if radZ e*radZ e<=sqI (px-e.cx) (py-e.cy) then dR (-radZ e) 1 (sqI (px-e.cx) (py-e.cy)) 1 else dR (radZ e) (-1) (sqI (px-e.cx) (py-e.cy)) 1,⟨e.cx,e.cy,px-e.cx,py-e.cy,0,0,radZ e⟩)
 else if sqI (px-e.bx) (py-e.by')<sqI (px-e.ax) (py-e.ay) then endR px py e.bx e.by' else endR px py e.ax e.ay
def pointR(e:Ed)(px py:Int):Rt×Sp :=
 if !(e.ok&&coordB px py) then (Rt.no,Sp.no) else if e.k=1 then lineR e px py else arcR e px py
structure Pr where
 d:Rt
 a:Sp
 b:Sp
def Pr.swap(p:Pr):Pr:=⟨p.d,p.b,p.a⟩
def footR(l a:Ed):List Pr :=
 let dx:=l.bx-l.ax
 let dy:=l.by'-l.ay
 let t:=(a.cx-l.ax)*dx+(a.cy-l.ay)*dy
 let c:=dx*(a.cy-l.ay)-dy*(a.cx-l.ax)
 let nx:=if 0<c then dy else -dy
 let ny:=if 0<c then -dx else dx
 if t<=0\/sqI dx dy<=t\/c*c<=radZ a*radZ a*sqI dx dy\/inQ a nx ny=false then []
 else [⟨dR (-radZ a) 1 (c*c) (sqI dx dy),⟨l.ax,l.ay,dx,dy,t,sqI dx dy,0⟩,⟨a.cx,a.cy,nx,ny,0,0,radZ a⟩⟩]
def centR(a b:Ed):List Pr :=
 let vx:=b.cx-a.cx
 let vy:=b.cy-a.cy
 let r:=radZ a
 let s:=radZ b
 let n:=sqI vx vy
 if (r+s)*(r+s)<n then (if inQ a vx vy&&inQ b (-vx) (-vy) then [⟨dR (-r-s) 1 n 1,⟨a.cx,a.cy,vx,vy,0,0,r⟩,⟨b.cx,b.cy,-vx,-vy,0,0,s⟩⟩] else [])
 else if (r-s)*(r-s)<=n then []
 else if s<r then (if inQ a vx vy&&inQ b vx vy then [⟨dR (r-s) (-1) n 1,⟨a.cx,a.cy,vx,vy,0,0,r⟩,⟨b.cx,b.cy,vx,vy,0,0,s⟩⟩] else [])
 else (if inQ a (-vx) (-vy)&&inQ b (-vx) (-vy) then [⟨dR (s-r) (-1) n 1,⟨a.cx,a.cy,-vx,-vy,0,0,r⟩,⟨b.cx,b.cy,-vx,-vy,0,0,s⟩⟩] else [])
def innerR(a b:Ed):List Pr :=
 if a.k=1 then (if b.k=1 then [] else footR a b) else if b.k=1 then (footR b a).map Pr.swap else centR a b
def candR(a b:Ed):List Pr :=
 [⟨(pointR b a.ax a.ay).1,spP a.ax a.ay,(pointR b a.ax a.ay).2⟩,⟨(pointR b a.bx a.by').1,spP a.bx a.by',(pointR b a.bx a.by').2⟩,
  ⟨(pointR a b.ax b.ay).1,(pointR a b.ax b.ay).2,spP b.ax b.ay⟩,⟨(pointR a b.bx b.by').1,(pointR a b.bx b.by').2,spP b.bx b.by'⟩]++innerR a b
def betterP(x y:Pr):Pr:=if cmpRt y.d x.d<0 then y else x
def leastP:List Pr->Pr
 | []=>⟨Rt.no,Sp.no,Sp.no⟩
 | x::l=>l.foldl betterP x
def edgesR(a b:Ed):Pr:=if !(a.ok&&b.ok) || !(countE a b==0) then ⟨Rt.no,Sp.no,Sp.no⟩ else leastP (candR a b)
theorem sqz_nn(x:Int):0<=x*x:=by
 rcases Int.le_total 0 x with h|h
 ·exact Int.mul_nonneg h h
 ·rw[<- Int.neg_mul_neg];exact Int.mul_nonneg (by omega) (by omega)
theorem sqI_nn(x y:Int):0<=sqI x y:=by
 have:=sqz_nn x
 have:=sqz_nn y
 unfold sqI
 omega
theorem sqI_pos{x y:Int}(h:¬(x=0/\y=0)):0<sqI x y:=by
 have h1:=sqz_nn x
 have h2:=sqz_nn y
 have h3:¬(x*x=0/\y*y=0):=fun ⟨a,b⟩=>h ⟨by rcases Int.mul_eq_zero.1 a with h|h<;>exact h,by rcases Int.mul_eq_zero.1 b with h|h<;>exact h⟩
 unfold sqI
 omega
theorem Di.sq{x y:Int}(hx:Di x)(hy:Di y):I64 (sqI x y):=hx.dot hx hy hy
def cMul:Con:=nBinC 70 mulP (fun _ _=>[]) fun a b _ _ _ _ _ _ _ _ w _ h1 h2=>num_Mul a b _ _ _ _ _ _ _ _ w h1 h2

set_option maxHeartbeats 2000000
set_option maxRecDepth 100000
section
attribute [local go_sem] Gives givesU
def DrawH(w:World)(B:Nat)(v:Value)(d:List Value)(T:TypeId)(k:Nat):Prop:=w.heap[B]? = some (.cells (v::.int .i64 (k:Nat)::d).toArray T)
theorem DrawH.at{w:World}{B len cp k:Nat}{a:Option Addr}{d:List Value}{T:TypeId}(h:DrawH w B (.slice a len cp) d T k):DrawAt w B a len cp k:=by
 unfold DrawH at h
 refine⟨(Array.getElem?_eq_some_iff.1 h).1,?_,?_,fun o=>by simp[World.frozen?,h]⟩
 ·rw[cell_of_row _ _ _ _ _ _ h];simp
 ·rw[cell_of_row _ _ _ _ _ _ h];simp
theorem DrawH.ext{w w':World}{B k:Nat}{v:Value}{d:List Value}{T:TypeId}(h:DrawH w B v d T k)(hx:Ext w w'):DrawH w' B v d T k:=heap_ext h hx
theorem DrawH.set{w:World}{B k:Nat}{v:Value}{d:List Value}{T:TypeId}(h:DrawH w B v d T k)(j:Nat):DrawH (w.setCell ⟨B,1,none⟩ (.int .i64 (j:Nat))) B v d T j:=by
 unfold DrawH at *
 have hB:=(Array.getElem?_eq_some_iff.1 h).1
 have e:=(Array.getElem?_eq_some_iff.1 h).2
 rw[Array.getElem?_eq_some_iff]
 refine⟨by simpa[World.setCell] using hB,?_⟩
 simp only[World.setCell,Array.getElem_modify,if_true,e]
 simp
theorem r01_NextH(L:List Int)(B:Nat)(a:Option Addr)(len cp k:Nat)(n:Int)(d:List Value)(T:TypeId)(w:World)(hH:DrawH w B (.slice a len cp) d T k)(hL:Ints w a len L)(hne:0<len->∀x,a=some x->x.block≠B)(hn:0<n/\n<=4294967296)(hk:k<=len) :
  Calls Tryz.prog 20 #[.pointer (some ⟨B,0,none⟩),.int .i64 n] w fun e w'=>e=.returned (.int .i64 (nextV L k n))/\DrawH w' B (.slice a len cp) d T (nextK L k)/\Past B w w':=by
 have hd:=hH.at
 obtain⟨hB,c0,c1,hf⟩:=hd
 obtain⟨hl,hm,hrow⟩:=hL
 by_cases hlt:k<len
 ·have e1 : nextV L k n = modZ (L[k]?.getD 0) n := by unfold nextV; rw [if_pos (by omega)]
  have e2:nextK L k=k+1:=by unfold nextK;rw[if_pos (by omega)]
  rw[e1,e2]
  obtain⟨b,o,rfl,hb,hc⟩:=hrow (by omega)
  have hck:=hc k hlt
  have hbB:b≠B:=hne (by omega) _ rfl
  obtain⟨x,X⟩:∃x,L[k]?.getD 0=x:=⟨_,rfl⟩
  rw[X] at hck ⊢
  have MC:=Lib.hid (fun w=>r01_Mod x n w hn)
  replace hH:=Lib.hid hH
  clear e1 e2 hc hrow hl hne X hn
  have w1:IntKind.i64.wrap ((k:Int)+1)=((k+1:Nat):Int):=by rw[wrap_in];rfl;unfold I64;omega
  have w2:IntKind.i64.wrap (((k+1:Nat):Int)-1)=(k:Int):=by rw[wrap_in];omega;unfold I64;omega
  have g1:decide ((len:Int)<=(k:Int))=false:=by rw[decide_eq_false_iff_not];omega
  have i0:(0:Int)<=(k:Int):=by omega
  have i1:(k:Int)<(len:Int):=by omega
  go_enter Tryz.func20,Tryz.ntmps20
  have w3:IntKind.i64.wrap (k:Int)=(k:Int):=by rw[wrap_in];unfold I64;omega
  have ts:(k:Int).toNat=k:=by omega
  go_wp2_with fail
  refine wp_FSc (fun W=>W.cell? ⟨B,0,none⟩=some (.slice (some ⟨b,o,none⟩) len cp)/\W.cell? ⟨B,1,none⟩=some (.int .i64 k)) ?_
  repeat (first|refine F_s ?_|refine F_r ?_)
  rintro W ⟨hx,hc0,hc1⟩
  have hdW:DrawAt W B (some ⟨b,o,none⟩) len cp k:=DrawAt.ext ⟨hB,c0,c1,hf⟩ hx
  have hfW:=hdW.2.2.2
  have hkW:W.cell? ⟨b,o+k,none⟩=some (.int .i64 x):=(hx.cell (p:=⟨b,o+k,none⟩) hb).trans hck
  have hBW:B<W.heap.size:=Nat.lt_of_lt_of_le hB hx.size
  have hbW:b<W.heap.size:=Nat.lt_of_lt_of_le hb hx.size
  have hxs:=hx.size
  clear hdW
  have HD:=Lib.hid (hH.out.ext hx)
  have HX:Hid (Ext w W):=hx
  clear hx
  go_wp2_with fail
  refine wp_FSc (fun W=>W.cell? ⟨B,0,none⟩=some (.slice (some ⟨b,o,none⟩) len cp)/\W.cell? ⟨B,1,none⟩=some (.int .i64 (k+1:Nat))/\W.cell? ⟨b,o+k,none⟩=some (.int .i64 x)) ?_
  repeat (first|refine F_s ?_|refine F_r ?_)
  refine F_c (.int .i64 (modZ x n)) (fun W hW=>MC.out _) ?_
  repeat (first|refine F_s ?_|refine F_r ?_)
  rintro W2 ⟨hx2,hc2⟩
  go_wp2
  go_ret
  exact⟨rfl,(HD.out.set _).ext hx2,((Past.of_ext HX.out).step (Past.set W 1 _)).step (Past.of_ext hx2)⟩
 ·have e1 : nextV L k n = 0 := by unfold nextV; rw [if_neg (by omega)]
  have e2:nextK L k=k:=by unfold nextK;rw[if_neg (by omega)]
  rw[e1,e2]
  have g1:decide ((len:Int)<=(k:Int))=true:=by rw[decide_eq_true_iff];omega
  have hdh:=Lib.hid hH
  clear hH
  clear e1 e2 hl hne hn hrow
  go_enter Tryz.func20,Tryz.ntmps20
  go_wp2_with fail
  refine wp_FSc (fun W=>W.cell? ⟨B,0,none⟩=some (.slice a len cp)/\W.cell? ⟨B,1,none⟩=some (.int .i64 k)) ?_
  repeat (first|refine F_s ?_|refine F_r ?_)
  rintro W ⟨hx,hc0,hc1⟩
  go_wp2
  go_ret
  exact⟨rfl,hdh.out.ext hx,Past.of_ext hx⟩
theorem ints_ne{w:World}{L:List Int}{v:Value}{B:Nat}(h:IntsC w L v)(hne:∀a len c,v=.slice a len c->0<len->∀x,a=some x->x.block≠B):∃a len c,v=.slice a len c/\Ints w a len L/\(0<len->∀x,a=some x->x.block≠B):=by
 obtain⟨a,len,c,e,h1,h2,h3⟩:=h
 exact⟨a,len,c,e,h1,hne a len c e⟩
theorem nextK_le{L:List Int}{k:Nat}(h:k<=L.length):nextK L k<=L.length:=by unfold nextK;split<;>omega
def xNext:Eff where
 f:=20
 g:=fun L k args=>match args with | [⟨false,[.i n _]⟩]=>if 0<n/\n<=4294967296 then some (⟨false,[.i (nextV L k n) n.natAbs]⟩,nextK L k,[]) else none|_=>none
 ok:=by
  intro L k args res k' ps h hp W B v d T vals hg hL hne hk hv
  simp only at h
  split at h<;>(try (cases h;done))
  split at h<;>cases h
  rename_i n A hn
  simp only[rvs_cons,rvs_nil,rv_i] at hv
  obtain⟨_,⟨_,rfl⟩,_,rfl,rfl⟩:=hv
  obtain⟨a,len,c,rfl,h1,h2⟩:=ints_ne hL hne
  refine (r01_NextH L B a len c k n d T W hg h1 h2 hn (by rw[h1.1];exact hk)).mono fun e w' ⟨e1,h3,h4⟩=>⟨_,e1,?_,h3,nextK_le hk,h4⟩
  have:=nextV_bd L k hn.1
  exact rv_i.2 ⟨⟨by omega,by unfold I64;omega⟩,rfl⟩
end
def nK(L:List Int):Nat->Nat
 | 0=>0
 | n+1=>nextK L (nK L n)
def nV(L:List Int)(n:Nat)(m:Int):Int:=nextV L (nK L n) m
theorem nV_bd(L:List Int)(n:Nat){m:Int}(h:0<m):0<=nV L n m/\nV L n m<m:=nextV_bd _ _ h

set_option maxRecDepth 100000
section
def c40:Nat:=1099511627776
abbrev p4:Pf:=⟨(4:Int)≠0,by decide⟩
def moV(ax ay n:Int)(m:Bool)(A:Nat):V1:=⟨true,[.i ax A,.i ay A,.i n A,.v (.bool m)]⟩
def ptL(p:Int×Int):V1:=⟨true,[.i p.1 lim,.i p.2 lim]⟩
def applyQ(ax ay n:Int)(m:Bool)(x y:Int):Int×Int:=applyP ax ay (modZ n 4) m x y
theorem tn0{n x y ax ay:Int}{m:Bool}(h:modZ n 4=0):applyQ ax ay n m x y=((if m then 0-x else x)+ax,y+ay):=by
 unfold applyQ applyP;rw[h];cases m<;>simp[rot,mir]
theorem tn1{n x y ax ay:Int}{m:Bool}(h:modZ n 4=1):applyQ ax ay n m x y=(0-y+ax,(if m then 0-x else x)+ay):=by
 unfold applyQ applyP;rw[h];cases m<;>simp[rot,mir]
theorem tn2{n x y ax ay:Int}{m:Bool}(h:modZ n 4=2):applyQ ax ay n m x y=(0-(if m then 0-x else x)+ax,0-y+ay):=by
 unfold applyQ applyP;rw[h];cases m<;>simp[rot,mir]
theorem tn3{n x y ax ay:Int}{m:Bool}(h:modZ n 4=3):applyQ ax ay n m x y=(y+ax,0-(if m then 0-x else x)+ay):=by
 unfold applyQ applyP;rw[h];cases m<;>simp[rot,mir]
theorem dapply_ok(ax ay n x y:Int)(m:Bool):Fok Tryz.prog 30 [moV ax ay n m c40,ptV x y c40] (.one (ptL (applyQ ax ay n m x y))):=by
 have hb:=modZ_bd n (m:=4) (by omega)
 by_cases h1:modZ n 4=1
 ·rw [tn1 h1]
  cases m with
  | true=>exact fok [] [true,true] [pT rfl,p4,p4,pT (bq_T h1)] (by kernel_rfl)
  | false=>exact fok [] [false,true] [pF rfl,p4,p4,pT (bq_T h1)] (by kernel_rfl)
 by_cases h2:modZ n 4=2
 ·rw [tn2 h2]
  cases m with
  | true=>exact fok [] [true,false,true] [pT rfl,p4,p4,pF (bq_F h1),pT (bq_T h2)] (by kernel_rfl)
  | false=>exact fok [] [false,false,true] [pF rfl,p4,p4,pF (bq_F h1),pT (bq_T h2)] (by kernel_rfl)
 by_cases h3:modZ n 4=3
 ·rw [tn3 h3]
  cases m with
  | true=>exact fok [] [true,false,false,true] [pT rfl,p4,p4,pF (bq_F h1),pF (bq_F h2),pT (bq_T h3)] (by kernel_rfl)
  | false=>exact fok [] [false,false,false,true] [pF rfl,p4,p4,pF (bq_F h1),pF (bq_F h2),pT (bq_T h3)] (by kernel_rfl)
 ·rw [tn0 (by omega)]
  cases m with
  | true=>exact fok [] [true,false,false,false] [pT rfl,p4,p4,pF (bq_F h1),pF (bq_F h2),pF (bq_F h3)] (by kernel_rfl)
  | false=>exact fok [] [false,false,false,false] [pF rfl,p4,p4,pF (bq_F h1),pF (bq_F h2),pF (bq_F h3)] (by kernel_rfl)
theorem rot_bd(t:Nat){x y:Int}{D E:Nat}(h1:x.natAbs<=D)(h2:y.natAbs<=E):(rot t (x,y)).1.natAbs<=D+E/\(rot t (x,y)).2.natAbs<=D+E:=by
 induction t with
 | zero=>exact⟨by simp only[rot];omega,by simp only[rot];omega⟩
 | succ t ih =>
  obtain⟨a,b⟩:=ih
  simp only[rot]
  omega
theorem applyQ_bd{ax ay n x y:Int}{m:Bool}{A B D E:Nat}(a1:ax.natAbs<=A)(a2:ay.natAbs<=B)(h1:x.natAbs<=D)(h2:y.natAbs<=E):(applyQ ax ay n m x y).1.natAbs<=A+B+D+E/\(applyQ ax ay n m x y).2.natAbs<=A+B+D+E:=by
 unfold applyQ applyP mir
 cases m
 ·obtain ⟨u1, u2⟩ := rot_bd (modZ n 4).toNat h1 h2
  simp only[Bool.false_eq_true,if_false]
  omega
 ·obtain ⟨u1, u2⟩ := rot_bd (D := D) (modZ n 4).toNat (x := -x) (by omega) h2
  simp only[if_true]
  omega
def appC(f:FuncId)(S:Int->List Prop)(H:∀(ax ay n x y:Int) (m:Bool),All (S n)->Fok Tryz.prog f [moV ax ay n m c40,ptV x y c40] (.one (ptL (applyQ ax ay n m x y)))):Con where
 f:=f
 g:=fun | [⟨true,[.i ax A,.i ay B,.i n C,.v (.bool m)]⟩,⟨true,[.i x D,.i y E]⟩]=>if (A<=c40/\B<=c40/\C<=c40)/\D<=c40/\E<=c40 then some (.one ⟨true,[.i (applyQ ax ay n m x y).1 (A+B+D+E),.i (applyQ ax ay n m x y).2 (A+B+D+E)]⟩,S n) else none|_=>none
 ok:=by
  intro args res ps h hp
  split at h<;>try cases h
  split at h<;>cases h
  rename_i ax A ay B n C m x D y E hb
  intro W vals hv
  have hv2:=hv
  simp only[rvs_cons,rvs_nil,rv_t,rl_i,rl_v,rl_nil] at hv2
  obtain⟨_,⟨_,⟨⟨a1,i1⟩,_,rfl,⟨a2,i2⟩,_,rfl,⟨a3,i3⟩,_,rfl,_,_,rfl,rfl⟩,rfl⟩,_,rfl,_,⟨_,⟨⟨a4,i4⟩,_,rfl,⟨a5,i5⟩,_,rfl,rfl⟩,rfl⟩,_,rfl,rfl⟩:=hv2
  have hb2:=hb
  unfold c40 at hb2
  obtain⟨q1,q2⟩:=applyQ_bd (n:=n) (m:=m) a1 a2 a4 a5
  refine (H ax ay n x y m hp W _ (rvs_cons.2 ⟨_,rv_t.2 ⟨_,rl_i.2 ⟨⟨by omega,i1⟩,_,rfl,rl_i.2 ⟨⟨by omega,i2⟩,_,rfl,rl_i.2 ⟨⟨by omega,i3⟩,_,rfl,rl_v.2 ⟨rfl,_,rfl,rfl⟩⟩⟩⟩,rfl⟩,_,rfl,rvs_cons.2 ⟨_,rv_t.2 ⟨_,rl_i.2 ⟨⟨by omega,i4⟩,_,rfl,rl_i.2 ⟨⟨by omega,i5⟩,_,rfl,rfl⟩⟩,rfl⟩,_,rfl,rfl⟩⟩)).mono fun e w' ⟨v,e1,h1,h2⟩=>⟨v,e1,?_,h2⟩
  simp only[RepA,ptL,rv_t,rl_i,rl_nil] at h1 ⊢
  obtain⟨cs,⟨⟨_,g1⟩,_,rfl,⟨_,g2⟩,_,rfl,rfl⟩,e2⟩:=h1
  exact⟨_,⟨⟨q1,g1⟩,_,rfl,⟨q2,g2⟩,_,rfl,rfl⟩,e2⟩
def dApply:Con:=appC 30 (fun _=>[]) fun ax ay n x y m _=>dapply_ok ax ay n x y m
end

set_option maxHeartbeats 1000000
set_option maxRecDepth 100000
section
attribute [local go_sem] Gives givesU
theorem Past.drawH{B g:Nat}{w w':World}(h:Past B w w'){cs:Array Value}{T:TypeId}(hg:w.heap[g]? = some (.cells cs T))(hne:g≠B):w'.heap[g]? = some (.cells cs T):=by
 rw[h.block g (Array.getElem?_eq_some_iff.1 hg).1 hne];exact hg
theorem Past.new{B g:Nat}{w V V':World}(h:Past B w V)(hg:w.heap.size<=g)(p:Past g V V'):Past B w V' :=
 ⟨p.os.trans h.os,p.tape.trans h.tape,p.output.trans h.output,Nat.le_trans h.size p.size,fun k hk hB=>(p.block k (Nat.lt_of_lt_of_le hk h.size) (by omega)).trans (h.block k hk hB)⟩
theorem r06_Near(L:List Int)(B k:Nat)(a:Option Addr)(len cp:Nat)(d:List Value)(T:TypeId)(width:Int)(w:World)(hw:0<=width/\width<=100000)(hH:DrawH w B (.slice a len cp) d T k)(hL:Ints w a len L)(hne:0<len->∀x,a=some x->x.block≠B)(hk:k<=len) :
  Calls Tryz.prog 21 #[.pointer (some ⟨B,0,none⟩),.int .i64 width] w fun e w'=>e=.returned (.agg #[.int .i64 (nextV L k (2*width+1)-width),.int .i64 (nextV L (nextK L k) (2*width+1)-width)])/\DrawH w' B (.slice a len cp) d T (nextK L (nextK L k))/\Past B w w':=by
 have w1:IntKind.i64.wrap (2*width)=2*width:=wrap_in (by unfold I64;omega)
 have w2:IntKind.i64.wrap (2*width+1)=2*width+1:=wrap_in (by unfold I64;omega)
 have b1:=nextV_bd L k (n:=2*width+1) (by omega)
 have b2:=nextV_bd L (nextK L k) (n:=2*width+1) (by omega)
 have hn:0<2*width+1/\2*width+1<=4294967296:=by omega
 have w3:IntKind.i64.wrap (nextV L k (2*width+1)-width)=nextV L k (2*width+1)-width:=wrap_in (by unfold I64;omega)
 have w4:IntKind.i64.wrap (nextV L (nextK L k) (2*width+1)-width)=nextV L (nextK L k) (2*width+1)-width:=wrap_in (by unfold I64;omega)
 have hB:B<w.heap.size:=(Array.getElem?_eq_some_iff.1 hH).1
 have hk2:nextK L k<=len:=by have:=hL.1;unfold nextK;split<;>omega
 have NX:=Lib.hid (fun (k:Nat) (n:Int) (W:World) (hd:DrawH W B (.slice a len cp) d T k) (hL':Ints W a len L) (hn:0<n/\n<=4294967296) (hk:k<=len)=>r01_NextH L B a len cp k n d T W hd hL' hne hn hk)
 have HH:=Lib.hid hH
 have HL:=Lib.hid hL
 have HN:=Lib.hid hn
 have HK:=Lib.hid hk
 have HE:=Lib.hid hne
 have HK2:=Lib.hid hk2
 clear hH hL hn hk hk2 hw b1 b2 hne
 obtain⟨u1,U1⟩:∃u,Hid (nextV L k (2*width+1)=u):=⟨_,rfl⟩
 obtain⟨u2,U2⟩:∃u,Hid (nextV L (nextK L k) (2*width+1)=u):=⟨_,rfl⟩
 rw[U1.out] at w3 ⊢
 rw[U2.out] at w4 ⊢
 go_enter Tryz.func21,Tryz.ntmps21
 go_wp2_with fail
 refine (NX.out k _ _ (HH.out.ext bxx) (HL.out.ext bxx) HN.out HK.out).mono ?_
 rintro e V1 ⟨rfl,h1,p1⟩
 rw[U1.out]
 have s1:=p1.size
 simp at s1
 have c1:=p1.drawH (g:=w.heap.size) (heap_new rfl) (by omega)
 have x1:Past B w V1:=(Past.of_ext bxx).step p1
 have y1:=pt_block c1
 have L1:=Lib.hid (x1.ints HL.out HE.out)
 replace h1:=Lib.hid h1
 replace x1:=Lib.hid x1
 clear p1
 go_wp2_with fail
 refine (NX.out _ _ _ h1.out L1.out HN.out HK2.out).mono ?_
 rintro e V2 ⟨rfl,h2,p2⟩
 rw[U2.out]
 have s2:=p2.size
 have c2:=p2.drawH (g:=w.heap.size) c1 (by omega)
 have y2:=pt_block c2
 replace h2:=Lib.hid h2
 have x2:=Lib.hid (x1.out.step p2)
 clear p2 c1 y1
 have hne2:B≠w.heap.size:=by omega
 go_wp2_with fail
 refine bodyPost_ret (v:=.agg #[.int .i64 (u1-width),.int .i64 (u2-width)]) (by simp only[results,Tryz.results21];go_simp) rfl ?_
 exact⟨rfl,(Past.set _ 1 _).drawH ((Past.set _ 0 _).drawH h2.out hne2) hne2,((x2.out.new (Nat.le_refl _) (Past.set _ 0 _)).new (Nat.le_refl _) (Past.set _ 1 _))⟩
def xNear:Eff where
 f:=21
 g:=fun L k args=>match args with | [⟨false,[.i n _]⟩]=>if 0<=n/\n<=100000 then some (⟨true,[.i (nextV L k (2*n+1)-n) n.natAbs,.i (nextV L (nextK L k) (2*n+1)-n) n.natAbs]⟩,nextK L (nextK L k),[]) else none|_=>none
 ok:=by
  intro L k args res k' ps h hp W B v d T vals hg hL hne hk hv
  simp only at h
  split at h<;>(try (cases h;done))
  split at h<;>cases h
  rename_i n A hn
  simp only[rvs_cons,rvs_nil,rv_i] at hv
  obtain⟨_,⟨_,rfl⟩,_,rfl,rfl⟩:=hv
  obtain⟨a,len,c,rfl,h1,h2⟩:=ints_ne hL hne
  refine (r06_Near L B k a len c d T n W hn hg h1 h2 (by rw[h1.1];exact hk)).mono fun e w' ⟨e1,h3,h4⟩=>⟨_,e1,?_,h3,nextK_le (nextK_le hk),h4⟩
  have b1:=nextV_bd L k (n:=2*n+1) (by omega)
  have b2:=nextV_bd L (nextK L k) (n:=2*n+1) (by omega)
  exact rv_t.2 ⟨_,rl_i.2 ⟨⟨by omega,by unfold I64;omega⟩,_,rfl,rl_i.2 ⟨⟨by omega,by unfold I64;omega⟩,_,rfl,rfl⟩⟩,rfl⟩
end

set_option maxRecDepth 100000
section
def arc6(cx cy r t k:Int):Ed :=
 ⟨k,cx+(applyQ 0 0 t false r 0).1,cy+(applyQ 0 0 t false r 0).2,cx+(applyQ 0 0 (t+if k=3 then 3 else 1) false r 0).1,cy+(applyQ 0 0 (t+if k=3 then 3 else 1) false r 0).2,cx,cy⟩
def mad6(L:List Int):Ed :=
 let x:=nV L 1 201-100
 let y:=nV L 2 201-100
 if nV L 0 6=0 then ⟨1,x,y,x,y+nV L 3 41-20,0,0⟩
 else if nV L 0 6=1 then ⟨1,x,y,x+nV L 3 41-20,y,0,0⟩
 else if nV L 0 6=2\/nV L 0 6=3 then ⟨1,x,y,nV L 3 201-100,nV L 4 201-100,0,0⟩
 else if nV L 4 3=0 then arc6 x y (1+nV L 5 90) (nV L 6 4) (2+nV L 7 2)
 else arc6 x y ([5,10,13,25,65].getD (nV L 3 5).toNat 0) (nV L 5 4) (2+nV L 6 2)
def edL(e:Ed):V1:=edV e lim lim
def XD:List Eff:=[xNext,xNear]
theorem mad6_line(L:List Int)(h:nV L 0 6<4):Fok Tryz.prog 5 [⟨false,[.ds L]⟩] (.one (edL (mad6 L))):=by
 have hb:=nV_bd L 0 (m:=6) (by omega)
 unfold mad6
 by_cases h0:nV L 0 6=0
 ·simp only [if_pos h0]
  exact fokX XD [dApply] [true] [pT (bq_T h0)] (by kernel_rfl)
 by_cases h1:nV L 0 6=1
 ·simp only [if_neg h0, if_pos h1]
  exact fokX XD [dApply] [false,true] [pF (bq_F h0),pT (bq_T h1)] (by kernel_rfl)
 simp only[if_neg h0,if_neg h1]
 rw[if_pos (by omega)]
 by_cases h2:nV L 0 6=2
 ·exact fokX XD [dApply] [false,false,true,true] [pF (bq_F h0),pF (bq_F h1),pT (bq_T h2),pT (bq_T h2)] (by kernel_rfl)
 ·have h3 : nV L 0 6 = 3 := by omega
  exact fokX XD [dApply] [false,false,false,true] [pF (bq_F h0),pF (bq_F h1),pF (bq_F h2),pT (bq_T h3)] (by kernel_rfl)
theorem mad6_arc(L:List Int)(h:¬nV L 0 6<4):Fok Tryz.prog 5 [⟨false,[.ds L]⟩] (.one (edL (mad6 L))):=by
 have hb:=nV_bd L 3 (m:=5) (by omega)
 have h0:¬nV L 0 6=0:=by omega
 have h1:¬nV L 0 6=1:=by omega
 have h2:¬nV L 0 6=2:=by omega
 have h3:¬nV L 0 6=3:=by omega
 unfold mad6 arc6
 simp only[if_neg h0,if_neg h1]
 rw[if_neg (by omega)]
 by_cases h4:nV L 4 3=0
 ·rw [if_pos h4]
  by_cases h5:2+nV L 7 2=3
  ·rw [if_pos h5]
   exact fokX XD [dApply] [false,false,false,false,true,true] [pF (bq_F h0),pF (bq_F h1),pF (bq_F h2),pF (bq_F h3),pP hb,pT (bq_T h4),pT (bq_T h5)] (by kernel_rfl)
  ·rw [if_neg h5]
   exact fokX XD [dApply] [false,false,false,false,true,false] [pF (bq_F h0),pF (bq_F h1),pF (bq_F h2),pF (bq_F h3),pP hb,pT (bq_T h4),pF (bq_F h5)] (by kernel_rfl)
 ·rw [if_neg h4]
  by_cases h5:2+nV L 6 2=3
  ·rw [if_pos h5]
   exact fokX XD [dApply] [false,false,false,false,false,true] [pF (bq_F h0),pF (bq_F h1),pF (bq_F h2),pF (bq_F h3),pP hb,pF (bq_F h4),pT (bq_T h5)] (by kernel_rfl)
  ·rw [if_neg h5]
   exact fokX XD [dApply] [false,false,false,false,false,false] [pF (bq_F h0),pF (bq_F h1),pF (bq_F h2),pF (bq_F h3),pP hb,pF (bq_F h4),pF (bq_F h5)] (by kernel_rfl)
def dMade:Con where
 f:=5
 g:=fun | [⟨false,[.ds L]⟩]=>some (.one (edL (mad6 L)),[])|_=>none
 ok:=by
  intro args res ps h hp
  split at h<;>cases h
  rename_i L
  by_cases h:nV L 0 6<4
  ·exact mad6_line L h
  ·exact mad6_arc L h
end
theorem ok_line{a b c d:Int}(ha : -1000<=a/\a<=1000)(hb : -1000<=b/\b<=1000)(hc : -1000<=c/\c<=1000)(hd : -1000<=d/\d<=1000):(⟨1,a,b,c,d,0,0⟩:Ed).ok=true:=by
  simp only[Ed.ok,Ed.right,Bool.and_eq_true]
  refine⟨⟨⟨coordB_iff.2 ?_,coordB_iff.2 ?_⟩,coordB_iff.2 ?_⟩,?_⟩
  . unfold Co;omega
  . unfold Co;omega
  . unfold Co;omega
  . simp[Ed.lone]
theorem aq_rot(t x y:Int):applyQ 0 0 t false x y=rot (modZ t 4).toNat (x,y):=by unfold applyQ applyP;simp[mir]
theorem ok_arc6{cx cy r t k:Int}(hx : -1000<=cx/\cx<=1000)(hy : -1000<=cy/\cy<=1000)(hr:1<=r/\r<=1000)(ht:0<=t/\t<4)(hk:k=2\/k=3):(arc6 cx cy r t k).ok=true:=by
  have ca:∀a b:Int,a+b-a=b:=fun a b=>by omega
  have cb:∀a b:Int,a-b-a = -b:=fun a b=>by omega
  have cc:∀a b:Int,a + -b-a = -b:=fun a b=>by omega
  have n0:¬r=0:=by omega
  have n1:¬ -r=0:=by omega
  have q0:(modZ 0 4).toNat=0:=by decide
  have q1:(modZ 1 4).toNat=1:=by decide
  have q2:(modZ 2 4).toNat=2:=by decide
  have q3:(modZ 3 4).toNat=3:=by decide
  have q4:(modZ 4 4).toNat=0:=by decide
  have q5:(modZ 5 4).toNat=1:=by decide
  have q6:(modZ 6 4).toNat=2:=by decide
  unfold arc6
  simp only[aq_rot]
  obtain rfl|rfl|rfl|rfl:t=0\/t=1\/t=2\/t=3:=by omega
  all_goals
    rcases hk with rfl|rfl <;>
      (simp only [Ed.ok, Ed.right, Bool.and_eq_true, if_true, show ((2 : Int) = 3) = False by simp, if_false, show (0 : Int) + 1 = 1 by rfl, show (0 : Int) + 3 = 3 by rfl, show (1 : Int) + 1 = 2 by rfl, show (1 : Int) + 3 = 4 by rfl, show (2 : Int) + 1 = 3 by rfl, show (2 : Int) + 3 = 5 by rfl, show (3 : Int) + 1 = 4 by rfl, show (3 : Int) + 3 = 6 by rfl, q0, q1, q2, q3, q4, q5, q6, rot]
       refine⟨⟨⟨coordB_iff.2 ?_,coordB_iff.2 ?_⟩,coordB_iff.2 ?_⟩,?_⟩
       . unfold Co;omega
       . unfold Co;omega
       . unfold Co;omega
       . simp [Ed.quarter, quarterB, rot, ca, cb, cc, n0, n1]
         try omega)
theorem mad6_ok(L:List Int):(mad6 L).ok=true:=by
  have b0:=nV_bd L 0 (m:=6) (by omega)
  have b1:=nV_bd L 1 (m:=201) (by omega)
  have b2:=nV_bd L 2 (m:=201) (by omega)
  have b3:=nV_bd L 3 (m:=201) (by omega)
  have b4:=nV_bd L 4 (m:=201) (by omega)
  have c3:=nV_bd L 3 (m:=41) (by omega)
  unfold mad6
  simp only
  split
  . exact ok_line (by omega) (by omega) (by omega) (by omega)
  split
  . exact ok_line (by omega) (by omega) (by omega) (by omega)
  split
  . exact ok_line (by omega) (by omega) (by omega) (by omega)
  split
  . have d5 := nV_bd L 5 (m := 90) (by omega)
    have d6:=nV_bd L 6 (m:=4) (by omega)
    have d7:=nV_bd L 7 (m:=2) (by omega)
    exact ok_arc6 (by omega) (by omega) (by omega) (by omega) (by omega)
  . have d5 := nV_bd L 5 (m := 4) (by omega)
    have d6:=nV_bd L 6 (m:=2) (by omega)
    have d3:=nV_bd L 3 (m:=5) (by omega)
    refine ok_arc6 (by omega) (by omega) ?_ (by omega) (by omega)
    obtain⟨n,hn⟩:∃n:Nat,nV L 3 5=n:=⟨(nV L 3 5).toNat,by omega⟩
    rw[hn] at d3 ⊢
    obtain rfl|rfl|rfl|rfl|rfl:n=0\/n=1\/n=2\/n=3\/n=4:=by omega
    all_goals decide
end Go.Proofs.YtcfpcafnjgpfdaaGreat
