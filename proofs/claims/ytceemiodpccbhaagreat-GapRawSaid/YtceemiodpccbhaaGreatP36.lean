import Derived.Test.YtceemiodpccbhaaGreatP35
set_option linter.unusedVariables false
set_option linter.unusedSimpArgs false

namespace Go.Proofs.YtceemiodpccbhaaGreat
open Go.RowKit

set_option maxRecDepth 100000
section
theorem dwithin_ok(dx dy fx fy tx ty:Int):Fok Tryz.prog 239 [ptV dx dy c27,ptV fx fy c27,ptV tx ty c27] (.one (blV (wiB dx dy fx fy tx ty))):=by
 unfold wiB
 by_cases h:0<=fx*dy-fy*dx
 ·rw [decide_eq_true h, Bool.true_and]
  exact fok [] [true] [pT (ge_T h)] (by kernel_rfl)
 ·rw [decide_eq_false h]
  exact fok [] [false] [pF (ge_F h)] (by kernel_rfl)
def dWithin:Con where
 f:=239
 g:=fun | [⟨true,[.i dx A,.i dy B]⟩,⟨true,[.i fx C,.i fy D]⟩,⟨true,[.i tx E,.i ty F]⟩]=>if (A<=c27/\B<=c27)/\(C<=c27/\D<=c27)/\(E<=c27/\F<=c27) then some (.one (blV (wiB dx dy fx fy tx ty)),[]) else none|_=>none
 ok:=by
  intro args res ps h hp
  split at h<;>try cases h
  split at h<;>cases h
  rename_i hb
  exact (dwithin_ok _ _ _ _ _ _).pre fun W=>rvs_1 (pt_low hb.1.1 hb.1.2) (rvs_1 (pt_low hb.2.1.1 hb.2.1.2) (rvs_1 (pt_low hb.2.2.1 hb.2.2.2) rvs_0))
theorem dquarter_ok(e:Ed)(x y:Int):Fok Tryz.prog 231 [edV e 3 c26,ptV x y c27] (.one (blV (inQ e x y))):=by
 by_cases hk:e.k=3
 ·have h1 : (e.k == 3) = true := by simpa using hk
  cases hz:(x==0&&y==0) with
  | true =>
   rw[show inQ e x y=false by unfold inQ;rw[hz];rfl]
   exact fok [dWithin] [true,false] [pT h1,pF (neB_F hz)] (by kernel_rfl)
  | false =>
   rw[show inQ e x y=wiB x y (e.bx-e.cx) (e.by'-e.cy) (e.ax-e.cx) (e.ay-e.cy) by unfold inQ;rw[hz,if_pos hk];rfl]
   exact fok [dWithin] [true,true] [pT h1,pT (neB_T hz)] (by kernel_rfl)
 ·have h1 : (e.k == 3) = false := by simpa using hk
  cases hz:(x==0&&y==0) with
  | true =>
   rw[show inQ e x y=false by unfold inQ;rw[hz];rfl]
   exact fok [dWithin] [false,false] [pF h1,pF (neB_F hz)] (by kernel_rfl)
  | false =>
   rw[show inQ e x y=wiB x y (e.ax-e.cx) (e.ay-e.cy) (e.bx-e.cx) (e.by'-e.cy) by unfold inQ;rw[hz,if_neg hk];rfl]
   exact fok [dWithin] [false,true] [pF h1,pT (neB_T hz)] (by kernel_rfl)
def dQuarter:Con where
 f:=231
 g:=fun | [⟨true,l⟩,⟨true,[.i x A,.i y B]⟩]=>if A<=c27/\B<=c27 then (toEd l).map fun e=>(.one (blV (inQ e x y)),[e.ok=true]) else none|_=>none
 ok:=by
  intro args res ps h hp
  split at h<;>try cases h
  split at h<;>try cases h
  rename_i hb
  rename_i l x A y B
  cases he:toEd l with
  | none=>simp[he] at h
  | some e =>
   simp only[he,Option.map_some,Option.some.injEq,Prod.mk.injEq] at h
   obtain⟨rfl,rfl⟩:=h
   exact (dquarter_ok e x y).pre fun W=>rvs_1 (ed_ok he hp.1) (rvs_1 (pt_low hb.1 hb.2) rvs_0)
def fracD(add s c d:Int):Rt:=(ofP add s (mulP (ofZ c) (ofZ c)).1 (ofZ d)).1
theorem fracD_eq{add s c d:Int}(h:I64 c):fracD add s c d=dR add s (c*c) d:=by
 unfold fracD dR
 rw[mulP_sq h]
def KRP:List Con:=[d01Of,d01Mul,d02Of,d06Chk,d06Rad,d05Right,dQuarter]
theorem le_T{a b:Int}(h:a<=b):decide (a<=b)=true:=by simpa using h
theorem le_F{a b:Int}(h:¬a<=b):decide (a<=b)=false:=by simpa using h
theorem dpoint_ok(e:Ed)(x y:Int)(hok:e.ok=true)(hc:coordB x y=true):Fok Tryz.prog 133 [edV e 3 c26,ptV x y c26] (rsV (pointR e x y)):=by
 have P1:=pF (chk_F hok)
 have P2:=pF (coord_F hc)
 have e0:pointR e x y=if e.k=1 then lineR e x y else arcR e x y:=by unfold pointR;rw[hok,hc];rfl
 rw[e0]
 by_cases hk:e.k=1
 ·have hk1 : (e.k == 1) = true := by simpa using hk
  obtain⟨⟨l1,l2⟩,⟨l3,l4⟩,_⟩:=ok_right hok
  obtain⟨x1,y1⟩:=coordB_iff.1 hc
  have iC:I64 ((e.bx-e.ax)*(y-e.ay)-(e.by'-e.ay)*(x-e.ax)):=(l3.sub l1).cross (y1.sub l2) (l4.sub l2) (x1.sub l1)
  rw[if_pos hk]
  unfold lineR
  split
  ·rename_i h1
   exact fok KRP [false,false,true,false,true] [P2,P1,pT hk1,pF (gt_F (Int.not_lt.2 h1)),pT (le_T h1)] (by kernel_rfl)
  ·rename_i h1
   split
   ·rename_i h2
    exact fok KRP [false,false,true,true,false,false] [P2,P1,pT hk1,pT (gt_T (Int.not_le.1 h1)),pF (lt_F (Int.not_lt.2 h2)),pF (le_F h1)] (by kernel_rfl)
   ·rename_i h2
    rw[<- fracD_eq iC]
    exact fok KRP [false,false,true,true,true] [P2,P1,pT hk1,pT (gt_T (Int.not_le.1 h1)),pT (lt_T (Int.not_le.1 h2))] (by kernel_rfl)
 ·have hk1 : (e.k == 1) = false := by simpa using hk
  rw[if_neg hk]
  unfold arcR
  split
  ·rename_i hq
   by_cases h2:radZ e*radZ e<=sqI (x-e.cx) (y-e.cy)
   ·rw [if_pos h2, <- zero_sub' (radZ e)]
    exact fok KRP [false,false,false,true,true] [P2,P1,pF hk1,pP hok,pP hok,pT hq,pT (ge_T h2)] (by kernel_rfl)
   ·rw [if_neg h2]
    exact fok KRP [false,false,false,true,false] [P2,P1,pF hk1,pP hok,pP hok,pT hq,pF (ge_F h2)] (by kernel_rfl)
  ·rename_i hq
   replace hq:=Bool.eq_false_iff.2 hq
   split
   ·rename_i h2
    exact fok KRP [false,false,false,false,true] [P2,P1,pF hk1,pP hok,pP hok,pF hq,pT (decide_eq_true h2)] (by kernel_rfl)
   ·rename_i h2
    exact fok KRP [false,false,false,false,false] [P2,P1,pF hk1,pP hok,pP hok,pF hq,pF (decide_eq_false h2)] (by kernel_rfl)
theorem dpoint_no(e:Ed)(x y:Int)(h:(e.ok&&coordB x y)=false):Fok Tryz.prog 133 [edV e lim lim,ptV x y lim] (rsV (pointR e x y)):=by
 rw[show pointR e x y=(Rt.no,Sp.no) by unfold pointR;rw[h];rfl]
 cases hc:coordB x y with
 | false=>exact fok KRP [true] [pT (coord_T hc)] (by kernel_rfl)
 | true =>
  rw[hc,Bool.and_true] at h
  exact fok KRP [false,true] [pF (coord_F hc),pT (chk_T h)] (by kernel_rfl)
def dPoint:Con where
 f:=133
 g:=fun | [⟨true,l⟩,⟨true,[.i x _,.i y _]⟩]=>(toEd l).map fun e=>(rsV (pointR e x y),[])|_=>none
 ok:=by
  intro args res ps h hp
  split at h<;>try cases h
  rename_i l x A y B
  cases he:toEd l with
  | none=>simp[he] at h
  | some e =>
   simp only[he,Option.map_some,Option.some.injEq,Prod.mk.injEq] at h
   obtain⟨rfl,rfl⟩:=h
   cases hc:(e.ok&&coordB x y) with
   | false=>exact (dpoint_no e x y hc).pre fun W=>rvs_1 (ed_lim he) (rvs_1 pt_lim rvs_0)
   | true =>
    simp only[Bool.and_eq_true] at hc
    exact (dpoint_ok e x y hc.1 hc.2).pre fun W=>rvs_1 (ed_ok he hc.1) (rvs_1 (pt_co (coordB_iff.1 hc.2)) rvs_0)
end

set_option maxHeartbeats 4000000
set_option maxRecDepth 100000
section
def KF:List Con:=[d01Of,d01Mul,d01Cmp,d02Of,d06Rad,dQuarter]
def hdP:List Pr->Pr
 | []=>⟨Rt.no,Sp.no,Sp.no⟩
 | p::_=>p
def someP:List Pr->Bool
 | []=>false
 | _::_=>true
def inP(l:List Pr):AV:=.tup [prI (hdP l),blV (someP l)]
theorem inP_swap(l:List Pr):inP (l.map Pr.swap)=.tup [prI (hdP l).swap,blV (someP l)]:=by
 cases l<;>rfl
def farD(l a:Ed):Nm:=(mulP (ofZ (cF l a)) (ofZ (cF l a))).1
def nearD(l a:Ed):Nm:=(mulP (ofZ (radZ a*radZ a)) (ofZ (qF l))).1
def footD(l a:Ed)(nx ny:Int):List Pr :=
 cond (decide (tF l a<=0)) [] (cond (decide (tF l a >= qF l)) [] (cond (decide (cmpP (farD l a) (nearD l a)<=0)) [] (cond (!inQ a nx ny) []
  [⟨fracD (0-radZ a) 1 (cF l a) (qF l),⟨l.ax,l.ay,l.bx-l.ax,l.by'-l.ay,tF l a,qF l,0⟩,⟨a.cx,a.cy,nx,ny,0,0,radZ a⟩⟩])))
theorem mulP_of64{x y:Int}(h:I64 x)(k:I64 y):(mulP (ofZ x) (ofZ y)).1=ofZ (x*y):=by
 rw[mulP_small' ((Wd.of64 h).small (by omega)) ((Wd.of64 k).small (by omega)) (((Wd.of64 h).mul (Wd.of64 k)).small (by omega))]
theorem radSq{a:Ed}(ha:a.ok=true):I64 (radZ a*radZ a):=by
 have h:=(rad_b ha).1
 have h2:=Nat.mul_le_mul h h
 unfold I64
 have:(radZ a*radZ a).natAbs=(radZ a).natAbs*(radZ a).natAbs:=Int.natAbs_mul _ _
 omega
theorem footD_eq{l a:Ed}(hl:l.ok=true)(ha:a.ok=true){nx ny:Int}(hx:nx=if 0<cF l a then l.by'-l.ay else 0-(l.by'-l.ay))(hy:ny=if 0<cF l a then 0-(l.bx-l.ax) else l.bx-l.ax):footD l a nx ny=footR l a:=by
 have E:=footR_eq l a nx ny hx hy
 obtain⟨⟨l1,l2⟩,⟨l3,l4⟩,_⟩:=ok_right hl
 obtain⟨_,_,a5,a6⟩:=ok_right ha
 have iC:I64 (cF l a):=(l3.sub l1).cross (a6.sub l2) (l4.sub l2) (a5.sub l1)
 have iQ:I64 (qF l):=(l3.sub l1).sq (l4.sub l2)
 have iR:=radSq ha
 have hc:cmpP (farD l a) (nearD l a)<=0 <-> cF l a*cF l a<=radZ a*radZ a*qF l:=by
  unfold farD nearD
  rw[mulP_of64 iC iC,mulP_of64 iR iQ,cmpP_side (((Wd.of64 iC).mul (Wd.of64 iC)).small (by omega)) (((Wd.of64 iR).mul (Wd.of64 iQ)).small (by omega))]
  unfold cmpZ
  (repeat' split)<;>omega
 rw[E]
 unfold footD
 rw[fracD_eq iC,zero_sub']
 by_cases h1:tF l a<=0
 ·rw[if_pos (.inl h1),decide_eq_true h1];rfl
 by_cases h2:qF l<=tF l a
 ·rw[if_pos (.inr (.inl h2)),decide_eq_false h1,ge_T h2];rfl
 by_cases h3:cF l a*cF l a<=radZ a*radZ a*qF l
 ·rw[if_pos (.inr (.inr (.inl h3))),decide_eq_false h1,ge_F h2,decide_eq_true (hc.2 h3)];rfl
 have h3':¬cmpP (farD l a) (nearD l a)<=0:=fun h=>h3 (hc.1 h)
 cases h4:inQ a nx ny with
 | false=>rw[if_pos (.inr (.inr (.inr rfl))),decide_eq_false h1,ge_F h2,decide_eq_false h3'];rfl
 | true=>rw[if_neg (by rintro (h|h|h|h);exact h1 h;exact h2 h;exact h3 h;cases h),decide_eq_false h1,ge_F h2,decide_eq_false h3'];rfl
theorem dfoot_T(l a:Ed)(ha:a.ok=true)(G0:decide (cF l a>0)=true):Fok Tryz.prog 184 [edV l 3 c26,edV a 3 c26] (inP (footD l a (0-(0-(l.by'-l.ay))) (0-(l.bx-l.ax)))):=by
 unfold footD
 cases G1:decide (tF l a<=0) with
 | true =>
  exact fok KF [true,true] [pT G0,pP ha,pT G1] (by kernel_rfl)
 | false =>
  cases G2:decide (tF l a >= qF l) with
  | true =>
   exact fok KF [true,false,true] [pT G0,pP ha,pF G1,pT G2] (by kernel_rfl)
  | false =>
   cases G3:decide (cmpP (farD l a) (nearD l a)<=0) with
   | true =>
    exact fok KF [true,false,false,true] [pT G0,pP ha,pF G1,pF G2,pT G3] (by kernel_rfl)
   | false =>
    cases G4:(!inQ a (0-(0-(l.by'-l.ay))) (0-(l.bx-l.ax))) with
    | true =>
     exact fok KF [true,false,false,false,true] [pT G0,pP ha,pF G1,pF G2,pF G3,pP ha,pT G4] (by kernel_rfl)
    | false =>
     exact fok KF [true,false,false,false,false] [pT G0,pP ha,pF G1,pF G2,pF G3,pP ha,pF G4] (by kernel_rfl)
theorem dfoot_F(l a:Ed)(ha:a.ok=true)(G0:decide (cF l a>0)=false):Fok Tryz.prog 184 [edV l 3 c26,edV a 3 c26] (inP (footD l a (0-(l.by'-l.ay)) (l.bx-l.ax))):=by
 unfold footD
 cases G1:decide (tF l a<=0) with
 | true =>
  exact fok KF [false,true] [pF G0,pP ha,pT G1] (by kernel_rfl)
 | false =>
  cases G2:decide (tF l a >= qF l) with
  | true =>
   exact fok KF [false,false,true] [pF G0,pP ha,pF G1,pT G2] (by kernel_rfl)
  | false =>
   cases G3:decide (cmpP (farD l a) (nearD l a)<=0) with
   | true =>
    exact fok KF [false,false,false,true] [pF G0,pP ha,pF G1,pF G2,pT G3] (by kernel_rfl)
   | false =>
    cases G4:(!inQ a (0-(l.by'-l.ay)) (l.bx-l.ax)) with
    | true =>
     exact fok KF [false,false,false,false,true] [pF G0,pP ha,pF G1,pF G2,pF G3,pP ha,pT G4] (by kernel_rfl)
    | false =>
     exact fok KF [false,false,false,false,false] [pF G0,pP ha,pF G1,pF G2,pF G3,pP ha,pF G4] (by kernel_rfl)
def dFoot:Con where
 f:=184
 g:=fun | [⟨true,l⟩,⟨true,m⟩]=>(match toEd l,toEd m with|some e,some f=>some (inP (footR e f),[e.ok=true,f.ok=true])|_,_=>none)|_=>none
 ok:=by
  intro args res ps h hp
  split at h<;>try cases h
  split at h<;>cases h
  rename_i e f he hf
  obtain⟨h1,h2,_⟩:=hp
  refine Fok.pre ?_ fun W=>rvs_1 (ed_ok he h1) (rvs_1 (ed_ok hf h2) rvs_0)
  by_cases hc:0<cF e f
  ·rw [<- footD_eq h1 h2 (nx := 0 - (0 - (e.by' - e.ay))) (ny := 0 - (e.bx - e.ax)) (by rw [if_pos hc]; omega) (by rw [if_pos hc])]
   exact dfoot_T e f h2 (gt_T hc)
  ·rw [<- footD_eq h1 h2 (nx := 0 - (e.by' - e.ay)) (ny := e.bx - e.ax) (by rw [if_neg hc]) (by rw [if_neg hc])]
   exact dfoot_F e f h2 (gt_F hc)
def oneD(e f:Ed)(x y u v:Int)(d:Rt):Pr:=⟨d,⟨e.cx,e.cy,x,y,0,0,radZ e⟩,⟨f.cx,f.cy,u,v,0,0,radZ f⟩⟩
def centD(e f:Ed):List Pr :=
 cond (decide (nFr e f>(radZ e+radZ f)*(radZ e+radZ f))&&(inQ e (f.cx-e.cx) (f.cy-e.cy)&&inQ f (0-(f.cx-e.cx)) (0-(f.cy-e.cy))))
  [oneD e f (f.cx-e.cx) (f.cy-e.cy) (0-(f.cx-e.cx)) (0-(f.cy-e.cy)) (dR (0-radZ e-radZ f) 1 (nFr e f) 1)]
 (cond (decide (radZ e > radZ f) && (decide (nFr e f < (radZ e - radZ f) * (radZ e - radZ f)) && (inQ e (f.cx - e.cx) (f.cy - e.cy) && inQ f (f.cx - e.cx) (f.cy - e.cy))))
  [oneD e f (f.cx-e.cx) (f.cy-e.cy) (f.cx-e.cx) (f.cy-e.cy) (dR (radZ e-radZ f) (-1) (nFr e f) 1)]
 (cond (decide (radZ f > radZ e) && (decide (nFr e f < (radZ f - radZ e) * (radZ f - radZ e)) && (inQ e (0 - (f.cx - e.cx)) (0 - (f.cy - e.cy)) && inQ f (0 - (f.cx - e.cx)) (0 - (f.cy - e.cy)))))
  [oneD e f (0-(f.cx-e.cx)) (0-(f.cy-e.cy)) (0-(f.cx-e.cx)) (0-(f.cy-e.cy)) (dR (radZ f-radZ e) (-1) (nFr e f) 1)] []))
theorem sub_sq(r s:Int):(s-r)*(s-r)=(r-s)*(r-s):=by
 rw[show s-r = -(r-s) by omega,Int.neg_mul_neg]
theorem add_sq{r s:Int}(hr:0<=r)(hs:0<=s):(r-s)*(r-s)<=(r+s)*(r+s):=by
 have h:=Int.mul_nonneg hr hs
 have e1:(r+s)*(r+s)=(r-s)*(r-s)+4*(r*s):=by grind
 omega
theorem centD_eq{e f:Ed}(h1:e.ok=true)(h2:f.ok=true)(k1:¬e.k=1)(k2:¬f.k=1):centD e f=centR e f:=by
 have hr:=rad_pos h1 k1
 have hs:=rad_pos h2 k2
 have A:=add_sq (r:=radZ e) (s:=radZ f) (by omega) (by omega)
 rw[centR_eq]
 unfold centD wF oneD
 rw[sub_sq (radZ e) (radZ f)]
 by_cases g:(radZ e+radZ f)*(radZ e+radZ f)<nFr e f
 ·rw [if_pos g, gt_T g]
  have g2:¬nFr e f<(radZ e-radZ f)*(radZ e-radZ f):=by omega
  rw[decide_eq_false g2]
  cases inQ e (f.cx-e.cx) (f.cy-e.cy)<;>cases inQ f (0-(f.cx-e.cx)) (0-(f.cy-e.cy))<;>simp
 ·rw [if_neg g, gt_F g]
  by_cases g2:(radZ e-radZ f)*(radZ e-radZ f)<=nFr e f
  ·rw [if_pos g2, decide_eq_false (Int.not_lt.2 g2)]
   simp
  ·rw [if_neg g2, decide_eq_true (Int.not_le.1 g2)]
   by_cases g3:radZ f<radZ e
   ·rw [if_pos g3, gt_T g3, gt_F (a := radZ f) (b := radZ e) (by omega)]
    cases inQ e (f.cx-e.cx) (f.cy-e.cy)<;>cases inQ f (f.cx-e.cx) (f.cy-e.cy)<;>simp
   ·have g4:radZ e<radZ f:=by
     rcases Int.lt_or_eq_of_le (Int.not_lt.1 g3) with h|h
     ·exact h
     ·exfalso
      rw[h] at g2
      have:=sqI_nn (f.cx-e.cx) (f.cy-e.cy)
      unfold nFr at g2
      simp at g2
      omega
    rw[if_neg g3,gt_F g3,gt_T g4]
    cases inQ e (0-(f.cx-e.cx)) (0-(f.cy-e.cy))<;>cases inQ f (0-(f.cx-e.cx)) (0-(f.cy-e.cy))<;>simp
theorem dcent_a(e f:Ed)(h1:e.ok=true)(h2:f.ok=true)(G0:decide (nFr e f>(radZ e+radZ f)*(radZ e+radZ f))=true)(G2:decide (nFr e f<(radZ e-radZ f)*(radZ e-radZ f))=false)(H2:decide (nFr e f<(radZ f-radZ e)*(radZ f-radZ e))=false):Fok Tryz.prog 185 [edV e 3 c26,edV f 3 c26] (inP (centD e f)):=by
 unfold centD
 rw[G0,G2,H2]
 cases Q1:inQ e (f.cx-e.cx) (f.cy-e.cy) with
 | true =>
  cases Q2:inQ f (0-(f.cx-e.cx)) (0-(f.cy-e.cy)) with
  | true =>
   exact fok KF [true,true,true] [pP h1,pP h2,pT G0,pP h1,pT Q1,pP h2,pT Q2] (by kernel_rfl)
  | false =>
   cases G1:decide (radZ e>radZ f) with
   | true =>
    cases H1:decide (radZ f>radZ e) with
    | true =>
     exact fok KF [true,true,false,true,false,true,false] [pP h1,pP h2,pT G0,pP h1,pT Q1,pP h2,pF Q2,pT G1,pF G2,pT H1,pF H2] (by kernel_rfl)
    | false =>
     exact fok KF [true,true,false,true,false,false] [pP h1,pP h2,pT G0,pP h1,pT Q1,pP h2,pF Q2,pT G1,pF G2,pF H1] (by kernel_rfl)
   | false =>
    cases H1:decide (radZ f>radZ e) with
    | true =>
     exact fok KF [true,true,false,false,true,false] [pP h1,pP h2,pT G0,pP h1,pT Q1,pP h2,pF Q2,pF G1,pT H1,pF H2] (by kernel_rfl)
    | false =>
     exact fok KF [true,true,false,false,false] [pP h1,pP h2,pT G0,pP h1,pT Q1,pP h2,pF Q2,pF G1,pF H1] (by kernel_rfl)
 | false =>
  cases G1:decide (radZ e>radZ f) with
  | true =>
   cases H1:decide (radZ f>radZ e) with
   | true =>
    exact fok KF [true,false,true,false,true,false] [pP h1,pP h2,pT G0,pP h1,pF Q1,pT G1,pF G2,pT H1,pF H2] (by kernel_rfl)
   | false =>
    exact fok KF [true,false,true,false,false] [pP h1,pP h2,pT G0,pP h1,pF Q1,pT G1,pF G2,pF H1] (by kernel_rfl)
  | false =>
   cases H1:decide (radZ f>radZ e) with
   | true =>
    exact fok KF [true,false,false,true,false] [pP h1,pP h2,pT G0,pP h1,pF Q1,pF G1,pT H1,pF H2] (by kernel_rfl)
   | false =>
    exact fok KF [true,false,false,false] [pP h1,pP h2,pT G0,pP h1,pF Q1,pF G1,pF H1] (by kernel_rfl)
theorem dcent_b(e f:Ed)(h1:e.ok=true)(h2:f.ok=true)(G0:decide (nFr e f>(radZ e+radZ f)*(radZ e+radZ f))=false)(G1:decide (radZ e>radZ f)=true)(H1:decide (radZ f>radZ e)=false):Fok Tryz.prog 185 [edV e 3 c26,edV f 3 c26] (inP (centD e f)):=by
 unfold centD
 rw[G0,G1,H1]
 cases G2:decide (nFr e f<(radZ e-radZ f)*(radZ e-radZ f)) with
 | true =>
  cases Q3:inQ e (f.cx-e.cx) (f.cy-e.cy) with
  | true =>
   cases Q4:inQ f (f.cx-e.cx) (f.cy-e.cy) with
   | true =>
    exact fok KF [false,true,true,true,true] [pP h1,pP h2,pF G0,pT G1,pT G2,pP h1,pT Q3,pP h2,pT Q4] (by kernel_rfl)
   | false =>
    exact fok KF [false,true,true,true,false,false] [pP h1,pP h2,pF G0,pT G1,pT G2,pP h1,pT Q3,pP h2,pF Q4,pF H1] (by kernel_rfl)
  | false =>
   exact fok KF [false,true,true,false,false] [pP h1,pP h2,pF G0,pT G1,pT G2,pP h1,pF Q3,pF H1] (by kernel_rfl)
 | false =>
  exact fok KF [false,true,false,false] [pP h1,pP h2,pF G0,pT G1,pF G2,pF H1] (by kernel_rfl)
theorem dcent_c(e f:Ed)(h1:e.ok=true)(h2:f.ok=true)(G0:decide (nFr e f>(radZ e+radZ f)*(radZ e+radZ f))=false)(G1:decide (radZ e>radZ f)=false):Fok Tryz.prog 185 [edV e 3 c26,edV f 3 c26] (inP (centD e f)):=by
 unfold centD
 rw[G0,G1]
 cases H1:decide (radZ f>radZ e) with
 | true =>
  cases H2:decide (nFr e f<(radZ f-radZ e)*(radZ f-radZ e)) with
  | true =>
   cases Q5:inQ e (0-(f.cx-e.cx)) (0-(f.cy-e.cy)) with
   | true =>
    cases Q6:inQ f (0-(f.cx-e.cx)) (0-(f.cy-e.cy)) with
    | true =>
     exact fok KF [false,false,true,true,true,true] [pP h1,pP h2,pF G0,pF G1,pT H1,pT H2,pP h1,pT Q5,pP h2,pT Q6] (by kernel_rfl)
    | false =>
     exact fok KF [false,false,true,true,true,false] [pP h1,pP h2,pF G0,pF G1,pT H1,pT H2,pP h1,pT Q5,pP h2,pF Q6] (by kernel_rfl)
   | false =>
    exact fok KF [false,false,true,true,false] [pP h1,pP h2,pF G0,pF G1,pT H1,pT H2,pP h1,pF Q5] (by kernel_rfl)
  | false =>
   exact fok KF [false,false,true,false] [pP h1,pP h2,pF G0,pF G1,pT H1,pF H2] (by kernel_rfl)
 | false =>
  exact fok KF [false,false,false] [pP h1,pP h2,pF G0,pF G1,pF H1] (by kernel_rfl)
def dCent:Con where
 f:=185
 g:=fun | [⟨true,l⟩,⟨true,m⟩]=>(match toEd l,toEd m with|some e,some f=>some (inP (centR e f),[(e.ok=true/\¬e.k=1)/\f.ok=true/\¬f.k=1])|_,_=>none)|_=>none
 ok:=by
  intro args res ps h hp
  split at h<;>try cases h
  split at h<;>cases h
  rename_i e f he hf
  obtain⟨⟨⟨h1,k1⟩,h2,k2⟩,_⟩:=hp
  refine Fok.pre ?_ fun W=>rvs_1 (ed_ok he h1) (rvs_1 (ed_ok hf h2) rvs_0)
  rw[<- centD_eq h1 h2 k1 k2]
  have A:=add_sq (r:=radZ e) (s:=radZ f) (by have:=rad_pos h1 k1;omega) (by have:=rad_pos h2 k2;omega)
  by_cases g:(radZ e+radZ f)*(radZ e+radZ f)<nFr e f
  ·exact dcent_a e f h1 h2 (gt_T g) (decide_eq_false (by omega)) (decide_eq_false (by rw[sub_sq (radZ e) (radZ f)];omega))
  ·by_cases g3 : radZ f < radZ e
   ·exact dcent_b e f h1 h2 (gt_F g) (gt_T g3) (gt_F (by omega))
   ·exact dcent_c e f h1 h2 (gt_F g) (gt_F g3)
theorem dinner_ok(e f:Ed)(h1:e.ok=true)(h2:f.ok=true):Fok Tryz.prog 135 [edV e 3 c26,edV f 3 c26] (inP (innerR e f)):=by
 by_cases ke:e.k=1
 ·have b1 : (e.k == 1) = true := by simpa using ke
  by_cases kf:f.k=1
  ·have b2 : (f.k == 1) = true := by simpa using kf
   rw[show innerR e f=[] by unfold innerR;rw[if_pos ke,if_pos kf]]
   exact fok [dFoot,dCent] [true,true] [pT b1,pT b2] (by kernel_rfl)
  ·have b2 : (f.k == 1) = false := by simpa using kf
   rw[show innerR e f=footR e f by unfold innerR;rw[if_pos ke,if_neg kf]]
   exact fok [dFoot,dCent] [true,false,true] [pT b1,pF b2,pT b1,pP h1,pP h2] (by kernel_rfl)
 ·have b1 : (e.k == 1) = false := by simpa using ke
  by_cases kf:f.k=1
  ·have b2 : (f.k == 1) = true := by simpa using kf
   rw[show innerR e f=(footR f e).map Pr.swap by unfold innerR;rw[if_neg ke,if_pos kf],inP_swap]
   exact fok [dFoot,dCent] [false,false,true] [pF b1,pF b1,pT b2,pP h2,pP h1] (by kernel_rfl)
  ·have b2 : (f.k == 1) = false := by simpa using kf
   rw[show innerR e f=centR e f by unfold innerR;rw[if_neg ke,if_neg kf]]
   exact fok [dFoot,dCent] [false,false,false] [pF b1,pF b1,pF b2,pP (And.intro (And.intro h1 ke) (And.intro h2 kf))] (by kernel_rfl)
def dInner:Con where
 f:=135
 g:=fun | [⟨true,l⟩,⟨true,m⟩]=>(match toEd l,toEd m with|some e,some f=>some (inP (innerR e f),[e.ok=true/\f.ok=true])|_,_=>none)|_=>none
 ok:=by
  intro args res ps h hp
  split at h<;>try cases h
  split at h<;>cases h
  rename_i e f he hf
  obtain⟨⟨h1,h2⟩,_⟩:=hp
  exact (dinner_ok e f h1 h2).pre fun W=>rvs_1 (ed_ok he h1) (rvs_1 (ed_ok hf h2) rvs_0)
end

set_option maxHeartbeats 4000000
set_option maxRecDepth 100000
section
def KH:List Con:=[dPoint,dInner,d02Cmp,d06Chk,d07Edges]
theorem dedges_no(e f:Ed)(h:(e.ok&&f.ok&&(countE e f==0))=false):Fok Tryz.prog 82 [edV e lim lim,edV f lim lim] (edgV ⟨Rt.no,Sp.no,Sp.no⟩):=by
 cases h1:e.ok with
 | false=>exact fok KH [true] [pT (chk_T h1)] (by kernel_rfl)
 | true =>
  cases h2:f.ok with
  | false=>exact fok KH [false,true] [pF (chk_F h1),pT (chk_T h2)] (by kernel_rfl)
  | true =>
   rw[h1,h2] at h
   have h3:(!(countE e f==0))=true:=by simpa using h
   exact fok KH [false,false,true] [pF (chk_F h1),pF (chk_F h2),pT h3] (by kernel_rfl)
def ca1(e f:Ed):Pr:=⟨(pointR f e.ax e.ay).1,spP e.ax e.ay,(pointR f e.ax e.ay).2⟩
def ca2(e f:Ed):Pr:=⟨(pointR f e.bx e.by').1,spP e.bx e.by',(pointR f e.bx e.by').2⟩
def ca3(e f:Ed):Pr:=⟨(pointR e f.ax f.ay).1,(pointR e f.ax f.ay).2,spP f.ax f.ay⟩
def ca4(e f:Ed):Pr:=⟨(pointR e f.bx f.by').1,(pointR e f.bx f.by').2,spP f.bx f.by'⟩
def ca5(e f:Ed):Pr:=hdP (innerR e f)
theorem one_of{l:List Pr}(h:l.length<=1):l=[]\/l=[hdP l]:=by
 cases l with
 | nil=>exact .inl rfl
 | cons p l =>
  cases l with
  | nil=>exact .inr rfl
  | cons q l=>simp at h
theorem footR_one(l a:Ed):(footR l a).length<=1:=by
 unfold footR
 simp only
 (repeat' split)<;>first|exact Nat.zero_le _|exact Nat.le_refl _
theorem centR_one(e f:Ed):(centR e f).length<=1:=by
 rw[centR_eq]
 unfold wF
 (repeat' split)<;>first|exact Nat.zero_le _|exact Nat.le_refl _
theorem innerR_len(e f:Ed):(innerR e f).length<=1:=by
 unfold innerR
 split
 ·split
  ·exact Nat.zero_le _
  ·exact footR_one _ _
 ·split
  ·rw[List.length_map];exact footR_one _ _
  ·exact centR_one _ _
theorem innerR_one(e f:Ed):innerR e f=[]\/innerR e f=[ca5 e f]:=one_of (innerR_len e f)
theorem candR_0{e f:Ed}(h:innerR e f=[]):candR e f=[ca1 e f,ca2 e f,ca3 e f,ca4 e f]:=by unfold candR;rw[h];rfl
theorem candR_1{e f:Ed}(h:innerR e f=[ca5 e f]):candR e f=[ca1 e f,ca2 e f,ca3 e f,ca4 e f,ca5 e f]:=by unfold candR;rw[h];rfl
theorem dedges_4TT(e f:Ed)(h1:e.ok=true)(h2:f.ok=true)(h3:(!(countE e f==0))=false)(hs:someP (innerR e f)=false)(H2:lessP (ca1 e f) (ca2 e f)=true)(H3:lessP (ca2 e f) (ca3 e f)=true):Fok Tryz.prog 82 [edV e 3 c26,edV f 3 c26] (edgV (leastP [ca1 e f,ca2 e f,ca3 e f,ca4 e f])):=by
 cases H4:lessP (ca3 e f) (ca4 e f) with
 | true =>
  rw[show leastP [ca1 e f,ca2 e f,ca3 e f,ca4 e f]=ca4 e f by simp only[leastP,List.foldl_cons,List.foldl_nil,betterP_T H2,betterP_T H3,betterP_T H4]]
  exact fok KH [false,false,false,false,true,true,true] [pF (chk_F h1),pF (chk_F h2),pF h3,pP (And.intro h1 h2),pF hs,pT H2,pT H3,pT H4] (by kernel_rfl)
 | false =>
  rw[show leastP [ca1 e f,ca2 e f,ca3 e f,ca4 e f]=ca3 e f by simp only[leastP,List.foldl_cons,List.foldl_nil,betterP_T H2,betterP_T H3,betterP_F H4]]
  exact fok KH [false,false,false,false,true,true,false] [pF (chk_F h1),pF (chk_F h2),pF h3,pP (And.intro h1 h2),pF hs,pT H2,pT H3,pF H4] (by kernel_rfl)
theorem dedges_4TF(e f:Ed)(h1:e.ok=true)(h2:f.ok=true)(h3:(!(countE e f==0))=false)(hs:someP (innerR e f)=false)(H2:lessP (ca1 e f) (ca2 e f)=true)(H3:lessP (ca2 e f) (ca3 e f)=false):Fok Tryz.prog 82 [edV e 3 c26,edV f 3 c26] (edgV (leastP [ca1 e f,ca2 e f,ca3 e f,ca4 e f])):=by
 cases H4:lessP (ca2 e f) (ca4 e f) with
 | true =>
  rw[show leastP [ca1 e f,ca2 e f,ca3 e f,ca4 e f]=ca4 e f by simp only[leastP,List.foldl_cons,List.foldl_nil,betterP_T H2,betterP_F H3,betterP_T H4]]
  exact fok KH [false,false,false,false,true,false,true] [pF (chk_F h1),pF (chk_F h2),pF h3,pP (And.intro h1 h2),pF hs,pT H2,pF H3,pT H4] (by kernel_rfl)
 | false =>
  rw[show leastP [ca1 e f,ca2 e f,ca3 e f,ca4 e f]=ca2 e f by simp only[leastP,List.foldl_cons,List.foldl_nil,betterP_T H2,betterP_F H3,betterP_F H4]]
  exact fok KH [false,false,false,false,true,false,false] [pF (chk_F h1),pF (chk_F h2),pF h3,pP (And.intro h1 h2),pF hs,pT H2,pF H3,pF H4] (by kernel_rfl)
theorem dedges_4FT(e f:Ed)(h1:e.ok=true)(h2:f.ok=true)(h3:(!(countE e f==0))=false)(hs:someP (innerR e f)=false)(H2:lessP (ca1 e f) (ca2 e f)=false)(H3:lessP (ca1 e f) (ca3 e f)=true):Fok Tryz.prog 82 [edV e 3 c26,edV f 3 c26] (edgV (leastP [ca1 e f,ca2 e f,ca3 e f,ca4 e f])):=by
 cases H4:lessP (ca3 e f) (ca4 e f) with
 | true =>
  rw[show leastP [ca1 e f,ca2 e f,ca3 e f,ca4 e f]=ca4 e f by simp only[leastP,List.foldl_cons,List.foldl_nil,betterP_F H2,betterP_T H3,betterP_T H4]]
  exact fok KH [false,false,false,false,false,true,true] [pF (chk_F h1),pF (chk_F h2),pF h3,pP (And.intro h1 h2),pF hs,pF H2,pT H3,pT H4] (by kernel_rfl)
 | false =>
  rw[show leastP [ca1 e f,ca2 e f,ca3 e f,ca4 e f]=ca3 e f by simp only[leastP,List.foldl_cons,List.foldl_nil,betterP_F H2,betterP_T H3,betterP_F H4]]
  exact fok KH [false,false,false,false,false,true,false] [pF (chk_F h1),pF (chk_F h2),pF h3,pP (And.intro h1 h2),pF hs,pF H2,pT H3,pF H4] (by kernel_rfl)
theorem dedges_4FF(e f:Ed)(h1:e.ok=true)(h2:f.ok=true)(h3:(!(countE e f==0))=false)(hs:someP (innerR e f)=false)(H2:lessP (ca1 e f) (ca2 e f)=false)(H3:lessP (ca1 e f) (ca3 e f)=false):Fok Tryz.prog 82 [edV e 3 c26,edV f 3 c26] (edgV (leastP [ca1 e f,ca2 e f,ca3 e f,ca4 e f])):=by
 cases H4:lessP (ca1 e f) (ca4 e f) with
 | true =>
  rw[show leastP [ca1 e f,ca2 e f,ca3 e f,ca4 e f]=ca4 e f by simp only[leastP,List.foldl_cons,List.foldl_nil,betterP_F H2,betterP_F H3,betterP_T H4]]
  exact fok KH [false,false,false,false,false,false,true] [pF (chk_F h1),pF (chk_F h2),pF h3,pP (And.intro h1 h2),pF hs,pF H2,pF H3,pT H4] (by kernel_rfl)
 | false =>
  rw[show leastP [ca1 e f,ca2 e f,ca3 e f,ca4 e f]=ca1 e f by simp only[leastP,List.foldl_cons,List.foldl_nil,betterP_F H2,betterP_F H3,betterP_F H4]]
  exact fok KH [false,false,false,false,false,false,false] [pF (chk_F h1),pF (chk_F h2),pF h3,pP (And.intro h1 h2),pF hs,pF H2,pF H3,pF H4] (by kernel_rfl)
theorem dedges_5TT(e f:Ed)(h1:e.ok=true)(h2:f.ok=true)(h3:(!(countE e f==0))=false)(hs:someP (innerR e f)=true)(H2:lessP (ca1 e f) (ca2 e f)=true)(H3:lessP (ca2 e f) (ca3 e f)=true):Fok Tryz.prog 82 [edV e 3 c26,edV f 3 c26] (edgV (leastP [ca1 e f,ca2 e f,ca3 e f,ca4 e f,ca5 e f])):=by
 cases H4:lessP (ca3 e f) (ca4 e f) with
 | true =>
  cases H5:lessP (ca4 e f) (ca5 e f) with
  | true =>
   rw[show leastP [ca1 e f,ca2 e f,ca3 e f,ca4 e f,ca5 e f]=ca5 e f by simp only[leastP,List.foldl_cons,List.foldl_nil,betterP_T H2,betterP_T H3,betterP_T H4,betterP_T H5]]
   exact fok KH [false,false,false,true,true,true,true,true] [pF (chk_F h1),pF (chk_F h2),pF h3,pP (And.intro h1 h2),pT hs,pT H2,pT H3,pT H4,pT H5] (by kernel_rfl)
  | false =>
   rw[show leastP [ca1 e f,ca2 e f,ca3 e f,ca4 e f,ca5 e f]=ca4 e f by simp only[leastP,List.foldl_cons,List.foldl_nil,betterP_T H2,betterP_T H3,betterP_T H4,betterP_F H5]]
   exact fok KH [false,false,false,true,true,true,true,false] [pF (chk_F h1),pF (chk_F h2),pF h3,pP (And.intro h1 h2),pT hs,pT H2,pT H3,pT H4,pF H5] (by kernel_rfl)
 | false =>
  cases H5:lessP (ca3 e f) (ca5 e f) with
  | true =>
   rw[show leastP [ca1 e f,ca2 e f,ca3 e f,ca4 e f,ca5 e f]=ca5 e f by simp only[leastP,List.foldl_cons,List.foldl_nil,betterP_T H2,betterP_T H3,betterP_F H4,betterP_T H5]]
   exact fok KH [false,false,false,true,true,true,false,true] [pF (chk_F h1),pF (chk_F h2),pF h3,pP (And.intro h1 h2),pT hs,pT H2,pT H3,pF H4,pT H5] (by kernel_rfl)
  | false =>
   rw[show leastP [ca1 e f,ca2 e f,ca3 e f,ca4 e f,ca5 e f]=ca3 e f by simp only[leastP,List.foldl_cons,List.foldl_nil,betterP_T H2,betterP_T H3,betterP_F H4,betterP_F H5]]
   exact fok KH [false,false,false,true,true,true,false,false] [pF (chk_F h1),pF (chk_F h2),pF h3,pP (And.intro h1 h2),pT hs,pT H2,pT H3,pF H4,pF H5] (by kernel_rfl)
theorem dedges_5TF(e f:Ed)(h1:e.ok=true)(h2:f.ok=true)(h3:(!(countE e f==0))=false)(hs:someP (innerR e f)=true)(H2:lessP (ca1 e f) (ca2 e f)=true)(H3:lessP (ca2 e f) (ca3 e f)=false):Fok Tryz.prog 82 [edV e 3 c26,edV f 3 c26] (edgV (leastP [ca1 e f,ca2 e f,ca3 e f,ca4 e f,ca5 e f])):=by
 cases H4:lessP (ca2 e f) (ca4 e f) with
 | true =>
  cases H5:lessP (ca4 e f) (ca5 e f) with
  | true =>
   rw[show leastP [ca1 e f,ca2 e f,ca3 e f,ca4 e f,ca5 e f]=ca5 e f by simp only[leastP,List.foldl_cons,List.foldl_nil,betterP_T H2,betterP_F H3,betterP_T H4,betterP_T H5]]
   exact fok KH [false,false,false,true,true,false,true,true] [pF (chk_F h1),pF (chk_F h2),pF h3,pP (And.intro h1 h2),pT hs,pT H2,pF H3,pT H4,pT H5] (by kernel_rfl)
  | false =>
   rw[show leastP [ca1 e f,ca2 e f,ca3 e f,ca4 e f,ca5 e f]=ca4 e f by simp only[leastP,List.foldl_cons,List.foldl_nil,betterP_T H2,betterP_F H3,betterP_T H4,betterP_F H5]]
   exact fok KH [false,false,false,true,true,false,true,false] [pF (chk_F h1),pF (chk_F h2),pF h3,pP (And.intro h1 h2),pT hs,pT H2,pF H3,pT H4,pF H5] (by kernel_rfl)
 | false =>
  cases H5:lessP (ca2 e f) (ca5 e f) with
  | true =>
   rw[show leastP [ca1 e f,ca2 e f,ca3 e f,ca4 e f,ca5 e f]=ca5 e f by simp only[leastP,List.foldl_cons,List.foldl_nil,betterP_T H2,betterP_F H3,betterP_F H4,betterP_T H5]]
   exact fok KH [false,false,false,true,true,false,false,true] [pF (chk_F h1),pF (chk_F h2),pF h3,pP (And.intro h1 h2),pT hs,pT H2,pF H3,pF H4,pT H5] (by kernel_rfl)
  | false =>
   rw[show leastP [ca1 e f,ca2 e f,ca3 e f,ca4 e f,ca5 e f]=ca2 e f by simp only[leastP,List.foldl_cons,List.foldl_nil,betterP_T H2,betterP_F H3,betterP_F H4,betterP_F H5]]
   exact fok KH [false,false,false,true,true,false,false,false] [pF (chk_F h1),pF (chk_F h2),pF h3,pP (And.intro h1 h2),pT hs,pT H2,pF H3,pF H4,pF H5] (by kernel_rfl)
theorem dedges_5FT(e f:Ed)(h1:e.ok=true)(h2:f.ok=true)(h3:(!(countE e f==0))=false)(hs:someP (innerR e f)=true)(H2:lessP (ca1 e f) (ca2 e f)=false)(H3:lessP (ca1 e f) (ca3 e f)=true):Fok Tryz.prog 82 [edV e 3 c26,edV f 3 c26] (edgV (leastP [ca1 e f,ca2 e f,ca3 e f,ca4 e f,ca5 e f])):=by
 cases H4:lessP (ca3 e f) (ca4 e f) with
 | true =>
  cases H5:lessP (ca4 e f) (ca5 e f) with
  | true =>
   rw[show leastP [ca1 e f,ca2 e f,ca3 e f,ca4 e f,ca5 e f]=ca5 e f by simp only[leastP,List.foldl_cons,List.foldl_nil,betterP_F H2,betterP_T H3,betterP_T H4,betterP_T H5]]
   exact fok KH [false,false,false,true,false,true,true,true] [pF (chk_F h1),pF (chk_F h2),pF h3,pP (And.intro h1 h2),pT hs,pF H2,pT H3,pT H4,pT H5] (by kernel_rfl)
  | false =>
   rw[show leastP [ca1 e f,ca2 e f,ca3 e f,ca4 e f,ca5 e f]=ca4 e f by simp only[leastP,List.foldl_cons,List.foldl_nil,betterP_F H2,betterP_T H3,betterP_T H4,betterP_F H5]]
   exact fok KH [false,false,false,true,false,true,true,false] [pF (chk_F h1),pF (chk_F h2),pF h3,pP (And.intro h1 h2),pT hs,pF H2,pT H3,pT H4,pF H5] (by kernel_rfl)
 | false =>
  cases H5:lessP (ca3 e f) (ca5 e f) with
  | true =>
   rw[show leastP [ca1 e f,ca2 e f,ca3 e f,ca4 e f,ca5 e f]=ca5 e f by simp only[leastP,List.foldl_cons,List.foldl_nil,betterP_F H2,betterP_T H3,betterP_F H4,betterP_T H5]]
   exact fok KH [false,false,false,true,false,true,false,true] [pF (chk_F h1),pF (chk_F h2),pF h3,pP (And.intro h1 h2),pT hs,pF H2,pT H3,pF H4,pT H5] (by kernel_rfl)
  | false =>
   rw[show leastP [ca1 e f,ca2 e f,ca3 e f,ca4 e f,ca5 e f]=ca3 e f by simp only[leastP,List.foldl_cons,List.foldl_nil,betterP_F H2,betterP_T H3,betterP_F H4,betterP_F H5]]
   exact fok KH [false,false,false,true,false,true,false,false] [pF (chk_F h1),pF (chk_F h2),pF h3,pP (And.intro h1 h2),pT hs,pF H2,pT H3,pF H4,pF H5] (by kernel_rfl)
theorem dedges_5FF(e f:Ed)(h1:e.ok=true)(h2:f.ok=true)(h3:(!(countE e f==0))=false)(hs:someP (innerR e f)=true)(H2:lessP (ca1 e f) (ca2 e f)=false)(H3:lessP (ca1 e f) (ca3 e f)=false):Fok Tryz.prog 82 [edV e 3 c26,edV f 3 c26] (edgV (leastP [ca1 e f,ca2 e f,ca3 e f,ca4 e f,ca5 e f])):=by
 cases H4:lessP (ca1 e f) (ca4 e f) with
 | true =>
  cases H5:lessP (ca4 e f) (ca5 e f) with
  | true =>
   rw[show leastP [ca1 e f,ca2 e f,ca3 e f,ca4 e f,ca5 e f]=ca5 e f by simp only[leastP,List.foldl_cons,List.foldl_nil,betterP_F H2,betterP_F H3,betterP_T H4,betterP_T H5]]
   exact fok KH [false,false,false,true,false,false,true,true] [pF (chk_F h1),pF (chk_F h2),pF h3,pP (And.intro h1 h2),pT hs,pF H2,pF H3,pT H4,pT H5] (by kernel_rfl)
  | false =>
   rw[show leastP [ca1 e f,ca2 e f,ca3 e f,ca4 e f,ca5 e f]=ca4 e f by simp only[leastP,List.foldl_cons,List.foldl_nil,betterP_F H2,betterP_F H3,betterP_T H4,betterP_F H5]]
   exact fok KH [false,false,false,true,false,false,true,false] [pF (chk_F h1),pF (chk_F h2),pF h3,pP (And.intro h1 h2),pT hs,pF H2,pF H3,pT H4,pF H5] (by kernel_rfl)
 | false =>
  cases H5:lessP (ca1 e f) (ca5 e f) with
  | true =>
   rw[show leastP [ca1 e f,ca2 e f,ca3 e f,ca4 e f,ca5 e f]=ca5 e f by simp only[leastP,List.foldl_cons,List.foldl_nil,betterP_F H2,betterP_F H3,betterP_F H4,betterP_T H5]]
   exact fok KH [false,false,false,true,false,false,false,true] [pF (chk_F h1),pF (chk_F h2),pF h3,pP (And.intro h1 h2),pT hs,pF H2,pF H3,pF H4,pT H5] (by kernel_rfl)
  | false =>
   rw[show leastP [ca1 e f,ca2 e f,ca3 e f,ca4 e f,ca5 e f]=ca1 e f by simp only[leastP,List.foldl_cons,List.foldl_nil,betterP_F H2,betterP_F H3,betterP_F H4,betterP_F H5]]
   exact fok KH [false,false,false,true,false,false,false,false] [pF (chk_F h1),pF (chk_F h2),pF h3,pP (And.intro h1 h2),pT hs,pF H2,pF H3,pF H4,pF H5] (by kernel_rfl)
theorem dedges_ok(e f:Ed)(h1:e.ok=true)(h2:f.ok=true)(h3:(!(countE e f==0))=false):Fok Tryz.prog 82 [edV e 3 c26,edV f 3 c26] (edgV (leastP (candR e f))):=by
 rcases innerR_one e f with hi|hi
 ·have hs : someP (innerR e f) = false := by rw [hi]; rfl
  rw[candR_0 hi]
  cases H2:lessP (ca1 e f) (ca2 e f) with
  | true =>
   cases H3:lessP (ca2 e f) (ca3 e f) with
   | true=>exact dedges_4TT e f h1 h2 h3 hs H2 H3
   | false=>exact dedges_4TF e f h1 h2 h3 hs H2 H3
  | false =>
   cases H3:lessP (ca1 e f) (ca3 e f) with
   | true=>exact dedges_4FT e f h1 h2 h3 hs H2 H3
   | false=>exact dedges_4FF e f h1 h2 h3 hs H2 H3
 ·have hs : someP (innerR e f) = true := by rw [hi]; rfl
  rw[candR_1 hi]
  cases H2:lessP (ca1 e f) (ca2 e f) with
  | true =>
   cases H3:lessP (ca2 e f) (ca3 e f) with
   | true=>exact dedges_5TT e f h1 h2 h3 hs H2 H3
   | false=>exact dedges_5TF e f h1 h2 h3 hs H2 H3
  | false =>
   cases H3:lessP (ca1 e f) (ca3 e f) with
   | true=>exact dedges_5FT e f h1 h2 h3 hs H2 H3
   | false=>exact dedges_5FF e f h1 h2 h3 hs H2 H3
def dEdges:Con where
 f:=82
 g:=fun | [⟨true,l⟩,⟨true,m⟩]=>(match toEd l,toEd m with|some e,some f=>some (edgV (edgesR e f),[])|_,_=>none)|_=>none
 ok:=by
  intro args res ps h hp
  split at h<;>try cases h
  split at h<;>cases h
  rename_i e f he hf
  cases hc:(e.ok&&f.ok&&(countE e f==0)) with
  | false =>
   rw[show edgesR e f=⟨Rt.no,Sp.no,Sp.no⟩ by unfold edgesR;rw[if_pos];revert hc;cases e.ok<;>cases f.ok<;>simp]
   exact (dedges_no e f hc).pre fun W=>rvs_1 (ed_lim he) (rvs_1 (ed_lim hf) rvs_0)
  | true =>
   simp only[Bool.and_eq_true] at hc
   rw[show edgesR e f=leastP (candR e f) by unfold edgesR;rw[if_neg];rw[hc.1.1,hc.1.2,hc.2];decide]
   exact (dedges_ok e f hc.1.1 hc.1.2 (by rw[hc.2];rfl)).pre fun W=>rvs_1 (ed_ok he hc.1.1) (rvs_1 (ed_ok hf hc.1.2) rvs_0)
end

set_option maxRecDepth 100000
section
def KOh:List Con:=[d09Ins]
theorem r10holds_fok(a b:Sh)(ha:a.n<=1000)(hb:0<b.n):Fok Tryz.prog 80 [shpV a,shpV b] (.one (blV (aroB a b))):=by
 unfold aroB
 cases h:a.k==2 with
 | true=>exact fok KOh [true] [pT h,pP (show 0<=(0:Int)/\(0:Int)<b.n by omega),pEd a,pP ha] (by kernel_rfl)
 | false=>exact fok KOh [false] [pF h] (by kernel_rfl)
def d10Hol:Con where
 f:=80
 g:=fun | [⟨true,l⟩,⟨true,m⟩]=>(match toShF l,toShF m with|some z,some y=>some (.one (blV (aroB z.1 y.1)),z.2++(y.2++[z.1.n<=1000,0<y.1.n]))|_,_=>none)|_=>none
 ok:=by
  intro args res ps h' hp
  split at h'<;>try cases h'
  split at h'<;>cases h'
  rename_i he hq
  obtain⟨p1,p2⟩:=All.app hp
  obtain⟨p2,p3⟩:=All.app p2
  exact (r10holds_fok _ _ p3.1 p3.2.1).pre fun W=>rvs_1 (fun v hv=>toShF_rep he p1 hv) (rvs_1 (fun v hv=>toShF_rep hq p2 hv) rvs_0)
def KOo:List Con:=[d09Chk,d10Hol,d02Of,d01Of,d07Edges,dEdges,d02Cmp,d02Plus]
end
end Go.Proofs.YtceemiodpccbhaaGreat
