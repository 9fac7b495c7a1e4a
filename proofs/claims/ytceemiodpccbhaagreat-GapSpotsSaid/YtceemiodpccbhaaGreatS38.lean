import Derived.Test.YtceemiodpccbhaaGreatS37
set_option linter.unusedVariables false
set_option linter.unusedSimpArgs false

namespace Go.Proofs.YtceemiodpccbhaaGreat

section
open Go.RowKit
theorem common_apart {e f:Ed} {x y:Int} (hk:¬ e.k=1) (hk':¬ f.k=1) (hc:¬ (e.cx=f.cx/\e.cy=f.cy)) (h:onE e x y=true) (h':onE f x y=true):countZ (aaE e f).delta (aaE e f).list ≠ 0:=by
 obtain ⟨_,hr,g1,g2⟩:=onE_arc hk h
 obtain ⟨_,hq,g3,g4⟩:=onE_arc hk' h'
 have hS:0<=(f.cx - e.cx)*(f.cx - e.cx)+(f.cy - e.cy)*(f.cy - e.cy):=by
  have a1:0<=(f.cx - e.cx)*(f.cx - e.cx):=by rw [<- Int.natAbs_mul_self];omega
  have a2:0<=(f.cy - e.cy)*(f.cy - e.cy):=by rw [<- Int.natAbs_mul_self];omega
  omega
 obtain ⟨m,hm⟩:∃ m,2*(-(f.cy - e.cy)*(x - e.cx)+(f.cx - e.cx)*(y - e.cy))=m:=⟨_,rfl⟩
 have hkk:(aaE e f).k=2*((f.cx - e.cx)*(x - e.cx)+(f.cy - e.cy)*(y - e.cy)):=by
  unfold AA.k aaE
  simp only
  rw [<- hr,<- hq]
  grind
 rw [countZ_eq]
 have hd:(aaE e f).delta=m*m:=by
  unfold AA.delta
  rw [hkk]
  unfold aaE
  simp only
  rw [<- hr,<- hm]
  grind
 rw [hd]
 have:=countC_root (m:=m) (l:=(aaE e f).list) (by
  intro p hp
  unfold AA.list at hp
  rw [hkk] at hp
  unfold aaE at hp
  simp only [List.mem_cons,List.not_mem_nil,or_false] at hp
  rcases hp with rfl | rfl | rfl | rfl
  ·have e1 : 2 * ((f.cx - e.cx) * (x - e.cx) + (f.cy - e.cy) * (y - e.cy)) * ((f.cx - e.cx) * e.ux + (f.cy - e.cy) * e.uy) + (-(f.cy - e.cy) * e.ux + (f.cx - e.cx) * e.uy) * m = 2 * (((f.cx - e.cx) * (f.cx - e.cx) + (f.cy - e.cy) * (f.cy - e.cy)) * ((x - e.cx) * e.ux + (y - e.cy) * e.uy)) := by rw [<- hm]; grind
   simp only
   rw [e1]
   have:=Int.mul_nonneg hS g1
   omega
  ·have e1 : 2 * ((f.cx - e.cx) * (x - e.cx) + (f.cy - e.cy) * (y - e.cy)) * ((f.cx - e.cx) * e.vx + (f.cy - e.cy) * e.vy) + (-(f.cy - e.cy) * e.vx + (f.cx - e.cx) * e.vy) * m = 2 * (((f.cx - e.cx) * (f.cx - e.cx) + (f.cy - e.cy) * (f.cy - e.cy)) * ((x - e.cx) * e.vx + (y - e.cy) * e.vy)) := by rw [<- hm]; grind
   simp only
   rw [e1]
   have:=Int.mul_nonneg hS g2
   omega
  ·have e1 : (2 * ((f.cx - e.cx) * (x - e.cx) + (f.cy - e.cy) * (y - e.cy)) - 2 * ((f.cx - e.cx) * (f.cx - e.cx) + (f.cy - e.cy) * (f.cy - e.cy))) * ((f.cx - e.cx) * f.ux + (f.cy - e.cy) * f.uy) + (-(f.cy - e.cy) * f.ux + (f.cx - e.cx) * f.uy) * m = 2 * (((f.cx - e.cx) * (f.cx - e.cx) + (f.cy - e.cy) * (f.cy - e.cy)) * ((x - f.cx) * f.ux + (y - f.cy) * f.uy)) := by rw [<- hm]; grind
   simp only
   rw [e1]
   have:=Int.mul_nonneg hS g3
   omega
  ·have e1 : (2 * ((f.cx - e.cx) * (x - e.cx) + (f.cy - e.cy) * (y - e.cy)) - 2 * ((f.cx - e.cx) * (f.cx - e.cx) + (f.cy - e.cy) * (f.cy - e.cy))) * ((f.cx - e.cx) * f.vx + (f.cy - e.cy) * f.vy) + (-(f.cy - e.cy) * f.vx + (f.cx - e.cx) * f.vy) * m = 2 * (((f.cx - e.cx) * (f.cx - e.cx) + (f.cy - e.cy) * (f.cy - e.cy)) * ((x - f.cx) * f.vx + (y - f.cy) * f.vy)) := by rw [<- hm]; grind
   simp only
   rw [e1]
   have:=Int.mul_nonneg hS g4
   omega)
 omega
theorem same_axes {wx wy ux uy vx vy sx sy tx ty:Int} (hw:¬ (wx=0/\wy=0))
  (hu:(ux=1/\uy=0)\/(ux = -1/\uy=0)\/(ux=0/\uy=1)\/(ux=0/\uy = -1)) (hv:(vx = -uy/\vy=ux)\/(vx=uy/\vy = -ux))
  (hs:(sx=1/\sy=0)\/(sx = -1/\sy=0)\/(sx=0/\sy=1)\/(sx=0/\sy = -1)) (ht:(tx = -sy/\ty=sx)\/(tx=sy/\ty = -sx))
  (g1:0<=wx*ux+wy*uy) (g2:0<=wx*vx+wy*vy) (g3:0<=wx*sx+wy*sy) (g4:0<=wx*tx+wy*ty) :
  sameZ true (ux==sx&&uy==sy) (ux==tx&&uy==ty) (vx==sx&&vy==sy) (vx==tx&&vy==ty) ≠ 0:=by
 have n0 : -(0:Int)=0:=rfl
 have n1 : -(-1:Int)=1:=rfl
 rcases hu with ⟨rfl,rfl⟩ | ⟨rfl,rfl⟩ | ⟨rfl,rfl⟩ | ⟨rfl,rfl⟩<;>rcases hv with ⟨rfl,rfl⟩ | ⟨rfl,rfl⟩<;>rcases hs with ⟨rfl,rfl⟩ | ⟨rfl,rfl⟩ | ⟨rfl,rfl⟩ | ⟨rfl,rfl⟩<;>rcases ht with ⟨rfl,rfl⟩ | ⟨rfl,rfl⟩ <;>
  first
   | decide
   | (exfalso;simp only [n0,n1,Int.mul_zero,Int.mul_one,Int.mul_neg] at g1 g2 g3 g4;omega)
theorem arc_axes' {e:Ed} (h:e.ok=true) (hk:¬ e.k=1):((e.ux=1/\e.uy=0)\/(e.ux = -1/\e.uy=0)\/(e.ux=0/\e.uy=1)\/(e.ux=0/\e.uy = -1))/\((e.vx = -e.uy/\e.vy=e.ux)\/(e.vx=e.uy/\e.vy = -e.ux)):=by
 obtain ⟨_,hu,hv,_⟩:=arc_axes h hk
 exact ⟨hu,hv.elim (fun h=>.inl h.2) (fun h=>.inr h.2)⟩
theorem common_same {e f:Ed} {x y:Int} (hk:¬ e.k=1) (hk':¬ f.k=1) (hc:e.cx=f.cx/\e.cy=f.cy) (h:onE e x y=true) (h':onE f x y=true):arcsZ e f ≠ 0:=by
 obtain ⟨o1,hr,g1,g2⟩:=onE_arc hk h
 obtain ⟨o2,hq,g3,g4⟩:=onE_arc hk' h'
 obtain ⟨hu,hv⟩:=arc_axes' o1 hk
 obtain ⟨hs,ht⟩:=arc_axes' o2 hk'
 have r0:=rad_pos o1 hk
 have q0:=rad_pos o2 hk'
 rw [<- hc.1] at g3 g4 hq
 rw [<- hc.2] at g3 g4 hq
 have hrq:radZ e=radZ f:=by
  have e1:radZ e*radZ e=radZ f*radZ f:=by omega
  rcases Int.lt_trichotomy (radZ e) (radZ f) with g | g | g
  ·have := Int.mul_lt_mul_of_pos_left g r0
   have:=Int.mul_lt_mul_of_pos_right g q0
   have e2:radZ e*radZ f=radZ e*radZ f:=rfl
   omega
  ·exact g
  ·have := Int.mul_lt_mul_of_pos_left g q0
   have:=Int.mul_lt_mul_of_pos_right g r0
   have e2:radZ f*radZ e=radZ f*radZ e:=rfl
   omega
 have hb:(radZ e==radZ f)=true:=by simpa using hrq
 unfold arcsZ
 rw [if_pos hc,hb]
 refine same_axes ?_ hu hv hs ht g1 g2 g3 g4
 rintro ⟨a,b⟩
 rw [a,b] at hr
 have:=Int.mul_pos r0 r0
 omega
theorem common_point {e f:Ed} {x y:Int} (h:onE e x y=true) (h':onE f x y=true):countE e f ≠ 0:=by
 have o1:=ok_of_on h
 have o2:=ok_of_on h'
 have one (g:Ed) (z v:Int) (hg:onE g z v=true):onZ g z v ≠ 0:=by unfold onZ;rw [hg];decide
 unfold countE
 rw [o1,o2]
 simp only [Bool.and_self,Bool.not_true,Bool.false_eq_true,if_false]
 by_cases k1:e.k=1
 ·rw [if_pos k1]
  cases p1:e.pt with
  | true =>
   obtain ⟨a,b⟩:=pt_on k1 p1 h
   rw [a,b] at h'
   exact one _ _ _ h'
  | false =>
   simp only [Bool.false_eq_true,if_false]
   have n1:¬ (e.ax=e.bx/\e.ay=e.by'):=by
    intro g
    have:e.pt=true:=by simp [Ed.pt,g.1,g.2]
    rw [this] at p1;cases p1
   by_cases k2:f.k=1
   ·rw [if_pos k2]
    cases p2:f.pt with
    | true =>
     obtain ⟨a,b⟩:=pt_on k2 p2 h'
     rw [a,b] at h
     exact one _ _ _ h
    | false =>
     simp only [Bool.false_eq_true,if_false]
     have n2:¬ (f.ax=f.bx/\f.ay=f.by'):=by
      intro g
      have:f.pt=true:=by simp [Ed.pt,g.1,g.2]
      rw [this] at p2;cases p2
     obtain ⟨_,a1,a2,a3⟩:=onE_line k1 h
     obtain ⟨_,b1,b2,b3⟩:=onE_line k2 h'
     exact common_lines n1 n2 a1 a2 a3 b1 b2 b3
   ·rw [if_neg k2]
    exact common_cross k1 k2 h h'
 ·rw [if_neg k1]
  by_cases k2:f.k=1
  ·rw [if_pos k2]
   cases p2:f.pt with
   | true =>
    obtain ⟨a,b⟩:=pt_on k2 p2 h'
    rw [a,b] at h
    exact one _ _ _ h
   | false =>
    simp only [Bool.false_eq_true,if_false]
    exact common_cross k2 k1 h' h
  ·rw [if_neg k2]
   by_cases hc:e.cx=f.cx/\e.cy=f.cy
   ·exact common_same k1 k2 hc h h'
   ·unfold arcsZ
    rw [if_neg hc]
    exact common_apart k1 k2 hc h h'
theorem end_a {e:Ed} (h:e.ok=true):onE e e.ax e.ay=true:=by
 by_cases hk:e.k=1
 ·exact onE_self h hk
 ·unfold onE
  rw [h,if_neg hk]
  simp only [Bool.true_and,Bool.and_eq_true,beq_iff_eq]
  refine ⟨inB_iff.2 ?_,?_⟩
  ·unfold Btw;omega
  ·unfold powerI;omega
theorem end_b {e:Ed} (h:e.ok=true):onE e e.bx e.by'=true:=by
 by_cases hk:e.k=1
 ·refine onE_line_mk hk h ?_ ?_ ?_
  ·unfold Btw;omega
  ·unfold Btw;omega
  ·grind
 ·unfold onE
  rw [h,if_neg hk]
  simp only [Bool.true_and,Bool.and_eq_true,beq_iff_eq]
  refine ⟨inB_iff.2 ?_,?_⟩
  ·unfold Btw;omega
  ·obtain ⟨_, hu, hv, a1, a2, a3, a4⟩ := arc_axes h hk
   have q:(e.bx - e.cx = -(e.ay - e.cy)/\e.by' - e.cy=e.ax - e.cx)\/(e.bx - e.cx=e.ay - e.cy/\e.by' - e.cy = -(e.ax - e.cx)):=by
    rcases hv with ⟨_,v1,v2⟩ | ⟨_,v1,v2⟩
    ·left;rw [v1] at a3;rw [v2] at a4;refine ⟨?_,by omega⟩;rw [a3,a2];grind
    ·right;rw [v1] at a3;rw [v2] at a4;refine ⟨by omega,?_⟩;rw [a4,a1];grind
   unfold powerI
   rcases q with ⟨q1,q2⟩ | ⟨q1,q2⟩<;>rw [q1,q2]<;>grind
end

section
open Go.RowKit
def ov (p q r s:Int):Int :=
 if max (min p q) (min r s) < min (max p q) (max r s) then -1 else if max (min p q) (min r s)=min (max p q) (max r s) then 1 else 0
end

section
open Go.RowKit
theorem bne_swap (a b:Bool):(a != b)=(b != a):=by cases a<;>cases b<;>rfl
theorem rev_k {e:Ed} (h:e.ok=true):(e.k=1/\(revE e).k=1)\/(e.k=2/\(revE e).k=3)\/(e.k=3/\(revE e).k=2):=by
  rcases kind_of h with k | k | k
  . left;exact ⟨k,by show (fam e.k).k=1;rw [k];rfl⟩
  . right;left;exact ⟨k,by show (fam e.k).k=3;rw [k];rfl⟩
  . right;right;exact ⟨k,by show (fam e.k).k=2;rw [k];rfl⟩
theorem rad_eq {e:Ed} (h:e.ok=true) (hk:¬ e.k=1):radZ e=max (max (e.ax - e.cx) (-(e.ax - e.cx))) (max (e.ay - e.cy) (-(e.ay - e.cy))):=by
  have hkb:(e.k==1)=false:=by simpa using hk
  unfold radZ
  rw [h,hkb]
  rfl
end

section
open Go.RowKit
def IsoOk (a b c d:Int):Prop:=(b=0/\c=0/\(a=1\/a = -1)/\(d=1\/d = -1))\/(a=0/\d=0/\(b=1\/b = -1)/\(c=1\/c = -1))
theorem dot_iso {a b c d:Int} (h:IsoOk a b c d) (x y z w:Int):(a*x+b*y)*(a*z+b*w)+(c*x+d*y)*(c*z+d*w)=x*z+y*w:=by
 rcases h with ⟨rfl,rfl,rfl | rfl,rfl | rfl⟩ | ⟨rfl,rfl,rfl | rfl,rfl | rfl⟩<;>grind
theorem crs_iso {a b c d:Int} (x y z w:Int):(a*x+b*y)*(c*z+d*w) - (c*x+d*y)*(a*z+b*w)=(a*d - b*c)*(x*w - y*z):=by grind
theorem det_iso {a b c d:Int} (h:IsoOk a b c d):a*d - b*c=1\/a*d - b*c = -1:=by
 rcases h with ⟨rfl,rfl,rfl | rfl,rfl | rfl⟩ | ⟨rfl,rfl,rfl | rfl,rfl | rfl⟩<;>decide
theorem sub_iso (a b x y z w t:Int):a*x+b*y+t - (a*z+b*w+t)=a*(x - z)+b*(y - w):=by grind
theorem applyP_iso (x y t:Int) (m:Bool) (ht:0<=t/\t<=3):∃ a b c d,IsoOk a b c d/\∀ px py,applyP x y t m px py=(a*px+b*py+x,c*px+d*py+y):=by
 unfold IsoOk
 obtain rfl | rfl | rfl | rfl:t=0\/t=1\/t=2\/t=3:=by omega
 ·cases m
  ·exact ⟨1,0,0,1,by decide,fun px py=>by simp [applyP,mir,rot]⟩
  ·exact ⟨-1,0,0,1,by decide,fun px py=>by simp [applyP,mir,rot]⟩
 ·cases m
  ·exact ⟨0,-1,1,0,by decide,fun px py=>by simp [applyP,mir,rot]⟩
  ·exact ⟨0,-1,-1,0,by decide,fun px py=>by simp [applyP,mir,rot]⟩
 ·cases m
  ·exact ⟨-1,0,0,-1,by decide,fun px py=>by simp [applyP,mir,rot]⟩
  ·exact ⟨1,0,0,-1,by decide,fun px py=>by simp [applyP,mir,rot]⟩
 ·cases m
  ·exact ⟨0,1,-1,0,by decide,fun px py=>by simp [applyP,mir,rot]⟩
  ·exact ⟨0,1,1,0,by decide,fun px py=>by simp [applyP,mir,rot]⟩
structure Mvd (a b c d x y:Int) (e e':Ed):Prop where
 iso:IsoOk a b c d
 ok:e.ok=true
 ok':e'.ok=true
 k:e'.k=1 <-> e.k=1
 ax:e'.ax=a*e.ax+b*e.ay+x
 ay:e'.ay=c*e.ax+d*e.ay+y
 bx:e'.bx=a*e.bx+b*e.by'+x
 by':e'.by'=c*e.bx+d*e.by'+y
 cx:¬ e.k=1->e'.cx=a*e.cx+b*e.cy+x
 cy:¬ e.k=1->e'.cy=c*e.cx+d*e.cy+y
variable {a b c d x y:Int} {e e' f f':Ed}
theorem Mvd.rad (h:Mvd a b c d x y e e') (hk:¬ e.k=1):radZ e'=radZ e:=by
 rw [rad_eq h.ok hk,rad_eq h.ok' (fun g=>hk (h.k.1 g)),h.ax,h.ay,h.cx hk,h.cy hk,sub_iso,sub_iso]
 rcases h.iso with ⟨rfl,rfl,rfl | rfl,rfl | rfl⟩ | ⟨rfl,rfl,rfl | rfl,rfl | rfl⟩<;>omega
theorem tdiv_iso {a b c d:Int} (h:IsoOk a b c d) (x y r:Int):(a*x+b*y).tdiv r=a*x.tdiv r+b*y.tdiv r/\(c*x+d*y).tdiv r=c*x.tdiv r+d*y.tdiv r:=by
 rcases h with ⟨rfl,rfl,rfl | rfl,rfl | rfl⟩ | ⟨rfl,rfl,rfl | rfl,rfl | rfl⟩<;>simp [Int.neg_tdiv,Int.neg_mul]
theorem Mvd.axes (h:Mvd a b c d x y e e') (hk:¬ e.k=1):e'.ux=a*e.ux+b*e.uy/\e'.uy=c*e.ux+d*e.uy/\e'.vx=a*e.vx+b*e.vy/\e'.vy=c*e.vx+d*e.vy:=by
 unfold Ed.ux Ed.uy Ed.vx Ed.vy
 rw [h.rad hk,h.ax,h.ay,h.bx,h.by',h.cx hk,h.cy hk,sub_iso,sub_iso,sub_iso,sub_iso]
 exact ⟨(tdiv_iso h.iso ..).1,(tdiv_iso h.iso ..).2,(tdiv_iso h.iso ..).1,(tdiv_iso h.iso ..).2⟩
theorem btw_iso {a b c d:Int} (h:IsoOk a b c d) (x y px py ax ay bx by':Int):(Btw (a*ax+b*ay+x) (a*px+b*py+x) (a*bx+b*by'+x)/\Btw (c*ax+d*ay+y) (c*px+d*py+y) (c*bx+d*by'+y)) <-> Btw ax px bx/\Btw ay py by':=by
 unfold Btw
 rcases h with ⟨rfl,rfl,rfl | rfl,rfl | rfl⟩ | ⟨rfl,rfl,rfl | rfl,rfl | rfl⟩<;>omega
theorem Mvd.on (h:Mvd a b c d x y e e') (px py:Int):onE e' (a*px+b*py+x) (c*px+d*py+y)=onE e px py:=by
 unfold onE
 rw [h.ok,h.ok']
 have hb:inB (min e'.ax e'.bx) (min e'.ay e'.by') (max e'.ax e'.bx) (max e'.ay e'.by') (a*px+b*py+x) (c*px+d*py+y)=inB (min e.ax e.bx) (min e.ay e.by') (max e.ax e.bx) (max e.ay e.by') px py:=by
  rw [Bool.eq_iff_iff,inB_iff,inB_iff,h.ax,h.ay,h.bx,h.by']
  exact btw_iso h.iso ..
 rw [hb]
 by_cases hk:e.k=1
 ·rw [if_pos hk, if_pos (h.k.2 hk)]
  have:(sideI ((e'.bx - e'.ax)*(c*px+d*py+y - e'.ay) - (e'.by' - e'.ay)*(a*px+b*py+x - e'.ax))==0)=(sideI ((e.bx - e.ax)*(py - e.ay) - (e.by' - e.ay)*(px - e.ax))==0):=by
   rw [Bool.eq_iff_iff,sideI_0,sideI_0,h.ax,h.ay,h.bx,h.by',sub_iso,sub_iso,sub_iso,sub_iso,crs_iso]
   rcases det_iso h.iso with g | g<;>rw [g]<;>omega
  rw [this]
 ·rw [if_neg hk, if_neg (fun g => hk (h.k.1 g))]
  have:powerI (a*px+b*py+x - e'.cx) (c*px+d*py+y - e'.cy) (e'.ax - e'.cx) (e'.ay - e'.cy)=powerI (px - e.cx) (py - e.cy) (e.ax - e.cx) (e.ay - e.cy):=by
   unfold powerI
   rw [h.ax,h.ay,h.cx hk,h.cy hk,sub_iso,sub_iso,sub_iso,sub_iso,dot_iso h.iso,dot_iso h.iso]
  rw [this]
theorem eq_iso {a b c d:Int} (h:IsoOk a b c d) (x y z w:Int):(a*x+b*y=a*z+b*w/\c*x+d*y=c*z+d*w) <-> x=z/\y=w:=by
 rcases h with ⟨rfl,rfl,rfl | rfl,rfl | rfl⟩ | ⟨rfl,rfl,rfl | rfl,rfl | rfl⟩<;>omega
theorem beq_iso {a b c d:Int} (h:IsoOk a b c d) (x y z w:Int):(a*x+b*y==a*z+b*w&&c*x+d*y==c*z+d*w)=(x==z&&y==w):=by
 rw [Bool.eq_iff_iff,Bool.and_eq_true,Bool.and_eq_true,beq_iff_eq,beq_iff_eq,beq_iff_eq,beq_iff_eq]
 exact eq_iso h ..
theorem Mvd.pt (h:Mvd a b c d x y e e'):e'.pt=e.pt:=by
 unfold Ed.pt
 rw [h.ax,h.ay,h.bx,h.by',<- beq_iso h.iso e.ax e.ay e.bx e.by',Bool.eq_iff_iff]
 simp only [Bool.and_eq_true,beq_iff_eq]
 omega
theorem Mvd.cross (h:Mvd a b c d x y e e') (g:Mvd a b c d x y f f') (hk:¬ f.k=1):crossZ e' f'=crossZ e f:=by
 have:laE e' f'=laE e f:=by
  obtain ⟨x1,x2,x3,x4⟩:=g.axes hk
  unfold laE
  rw [x1,x2,x3,x4,g.rad hk,h.ax,h.ay,h.bx,h.by',g.cx hk,g.cy hk]
  simp only [sub_iso,dot_iso h.iso]
 unfold crossZ
 rw [this]
theorem move_ok {e:Ed} (h:e.ok=true) (x y t:Int) (m:Bool) (ht:0<=t/\t<=3) (hx : -1048576<=x/\x<=1048576) (hy : -1048576<=y/\y<=1048576)
  (s1 : -1048576<=e.ax/\e.ax<=1048576) (s2 : -1048576<=e.ay/\e.ay<=1048576) (s3 : -1048576<=e.bx/\e.bx<=1048576) (s4 : -1048576<=e.by'/\e.by'<=1048576) (s5 : -1048576<=e.cx/\e.cx<=1048576) (s6 : -1048576<=e.cy/\e.cy<=1048576):(moveE e x y t m).ok=true:=by
 have co:∀ px py:Int,-1048576<=px/\px<=1048576 -> -1048576<=py/\py<=1048576->coordB (applyP x y t m px py).1 (applyP x y t m px py).2=true:=by
  intro px py h1 h2
  obtain ⟨a,b,c,d,hi,hp⟩:=applyP_iso x y t m ht
  rw [hp,coordB_iff]
  unfold Co
  rcases hi with ⟨rfl,rfl,rfl | rfl,rfl | rfl⟩ | ⟨rfl,rfl,rfl | rfl,rfl | rfl⟩<;>omega
 have hr:=h
 unfold Ed.ok at h ⊢
 simp only [Bool.and_eq_true] at h ⊢
 obtain ⟨h1,h2⟩:=h
 have hk:(moveE e x y t m).k=if m then (fam e.k).k else e.k:=rfl
 have hrk:=rev_k hr
 have hrk':(revE e).k=(fam e.k).k:=rfl
 refine ⟨?_,?_⟩
 ·unfold Ed.right moveE
  simp only [Bool.and_eq_true]
  refine ⟨⟨co _ _ s1 s2,co _ _ s3 s4⟩,?_⟩
  by_cases k1:e.k=1
  ·simp only [if_pos k1]
   rw [coordB_iff]
   unfold Co
   omega
  ·simp only [if_neg k1]
   exact co _ _ s5 s6
 ·by_cases k1 : e.k = 1
  ·have : (moveE e x y t m).k = 1 := by rw [hk]; cases m <;> first | exact k1 | (rw [k1]; rfl)
   rw [if_pos this]
   rw [if_pos k1] at h2
   unfold Ed.lone moveE at *
   simpa [k1] using h2
  ·have q (n:Nat):(moveE e x y t m).quarter n=quarterB ((applyP x y t m e.ax e.ay).1 - (applyP x y t m e.cx e.cy).1) ((applyP x y t m e.ax e.ay).2 - (applyP x y t m e.cx e.cy).2) ((applyP x y t m e.bx e.by').1 - (applyP x y t m e.cx e.cy).1) ((applyP x y t m e.bx e.by').2 - (applyP x y t m e.cx e.cy).2) n:=by
    unfold Ed.quarter moveE
    simp only [if_neg k1]
   have q2 (n:Nat):quarterB ((applyP x y t m e.ax e.ay).1 - (applyP x y t m e.cx e.cy).1) ((applyP x y t m e.ax e.ay).2 - (applyP x y t m e.cx e.cy).2) ((applyP x y t m e.bx e.by').1 - (applyP x y t m e.cx e.cy).1) ((applyP x y t m e.bx e.by').2 - (applyP x y t m e.cx e.cy).2) n=quarterB (rot t.toNat (mir m (e.ax - e.cx,e.ay - e.cy))).1 (rot t.toNat (mir m (e.ax - e.cx,e.ay - e.cy))).2 (rot t.toNat (mir m (e.bx - e.cx,e.by' - e.cy))).1 (rot t.toNat (mir m (e.bx - e.cx,e.by' - e.cy))).2 n:=by
    have r (px py:Int):(applyP x y t m px py).1 - (applyP x y t m e.cx e.cy).1=(rot t.toNat (mir m (px - e.cx,py - e.cy))).1/\(applyP x y t m px py).2 - (applyP x y t m e.cx e.cy).2=(rot t.toNat (mir m (px - e.cx,py - e.cy))).2:=by
     obtain rfl | rfl | rfl | rfl:t=0\/t=1\/t=2\/t=3:=by omega
     all_goals cases m<;>simp [applyP,mir,rot]<;>omega
    rw [(r _ _).1,(r _ _).2,(r _ _).1,(r _ _).2]
   obtain ⟨D,hD⟩:∃ D,e.ax - e.cx=D:=⟨_,rfl⟩
   obtain ⟨F,hF⟩:∃ F,e.ay - e.cy=F:=⟨_,rfl⟩
   have key (n n':Nat) (hq:e.quarter n=true) (hn:(n=1\/n=3)/\n'=if m then 4 - n else n):(moveE e x y t m).quarter n'=true:=by
    rw [q,q2]
    unfold Ed.quarter at hq
    rw [hD,hF] at hq ⊢
    unfold quarterB at hq
    simp only [Bool.and_eq_true,beq_iff_eq] at hq
    obtain ⟨g1,g2,g3⟩:=hq
    rw [g2,g3]
    have bn (z:Int):(-z==0)=(z==0):=by rw [Bool.eq_iff_iff,beq_iff_eq,beq_iff_eq,Int.neg_eq_zero]
    have g1':((F==0) != (D==0))=true:=by rw [bne_swap];exact g1
    obtain rfl | rfl | rfl | rfl:t=0\/t=1\/t=2\/t=3:=by omega
    all_goals
     obtain ⟨rfl | rfl,rfl⟩:=hn
     all_goals
      cases m
      all_goals
       simp [quarterB,rot,mir,bn]
       first | exact g1 | exact g1' | simpa using g1 | simpa using g1'
   rw [hk]
   rcases hrk with ⟨c1,c2⟩ | ⟨c1,c2⟩ | ⟨c1,c2⟩
   ·exact absurd c1 k1
   ·rw [hrk'] at c2
    rw [c1] at h2
    have:=key 1 (if m then 3 else 1) h2 ⟨.inl rfl,by cases m<;>rfl⟩
    cases m
    ·simp only [Bool.false_eq_true, if_false, c1]
     exact this
    ·simp only [if_true, c2]
     exact this
   ·rw [hrk'] at c2
    rw [c1] at h2
    have:=key 3 (if m then 1 else 3) h2 ⟨.inr rfl,by cases m<;>rfl⟩
    cases m
    ·simp only [Bool.false_eq_true, if_false, c1]
     exact this
    ·simp only [if_true, c2]
     exact this
end

section
open Go.RowKit
theorem sideZ_both {t:Int} (ht:0 < t) (a b c:Int):sideZ (t*a) (t*b) c=sideZ a b c:=by
 unfold sideZ
 rw [sgn_mul ht,sgn_mul ht,show t*a*(t*a)=t*t*(a*a) by grind,show t*b*(t*b)*c=t*t*(b*b*c) by grind,cmpZ_mul (Int.mul_pos ht ht)]
end

section
open Go.RowKit
theorem cmp_red1 {g:Int} (h:0 < g) (A s n d t m e:Int):cmpR A s (g*n) (g*d) t m e=cmpR A s n d t m e:=by
 unfold cmpR
 rw [show A*(g*d)=g*(A*d) by grind,show g*n*(g*d)=g*g*(n*d) by grind,sideZ_scale h,
  show A*A*(g*d)*e+g*n*e - m*(g*d)=g*(A*A*d*e+n*e - m*d) by grind,sideZ_scale h]
theorem cmp_red2 {g:Int} (h:0 < g) (A s n d t m e:Int):cmpR A s n d t (g*m) (g*e)=cmpR A s n d t m e:=by
 unfold cmpR
 rw [show A*A*d*(g*e)+n*(g*e) - g*m*d=g*(A*A*d*e+n*e - m*d) by grind,show 2*A*s*(g*e)=g*(2*A*s*e) by grind,sideZ_both h]
structure Q4 where
 a:Int
 s:Int
 n:Int
 d:Int
def Q4.rt (x:Q4):Rt:=dR x.a x.s x.n x.d
structure Q4.ok (x:Q4):Prop where
 s:x.s=1\/x.s = -1
 n0:0<=x.n
 n1:x.n < 85070591730234615865843651857942052864*4
 d0:0 < x.d
 d1:x.d < 85070591730234615865843651857942052864*4
def nz (s n:Int):Int:=if n=0 then 0 else s
def cmpQ (x y:Q4):Int:=cmpR (x.a - y.a) (nz x.s x.n) x.n x.d (nz y.s y.n) y.n y.d
def intQ (i:Int):Q4:=⟨i,1,0,1⟩
theorem rootOf_nz {a s:Int} {n d:Nat} (hs:s=1\/s = -1) (hd:0 < d):rootOf a s n d=⟨a,nz s n,ofZ ((n / Nat.gcd n d:Nat):Int),ofZ ((d / Nat.gcd n d:Nat):Int)⟩:=by
 unfold rootOf nz
 by_cases h:n=0
 ·subst h
  rw [if_pos (.inr rfl),if_pos (by simp),Nat.gcd_zero_left,Nat.zero_div,Nat.div_self hd]
  congr 1
  exact lit_0.symm
 ·rw [if_neg (by omega),if_neg (by omega)]
theorem Q4.ok.root {x:Q4} (h:x.ok):x.rt=rootOf x.a x.s x.n.toNat x.d.toNat/\x.rt.Ok/\x.rt.right=true:=by
 obtain ⟨e,h1,h2,h3⟩:=dR_root (add:=x.a) (s:=x.s) (by rcases h.s with h | h<;>omega) h.n0 h.n1 h.d0 h.d1
 obtain ⟨k1,k2⟩:=whole_ok (add:=x.a) (s:=x.s) (by rcases h.s with h | h<;>omega) h1 h2 h3
 have e:x.rt=rootOf x.a x.s x.n.toNat x.d.toNat:=e
 rw [e]
 exact ⟨rfl,k1,k2⟩
theorem cmpQ_rt {x y:Q4} (hx:x.ok) (hy:y.ok):cmpRt x.rt y.rt=cmpQ x y:=by
 obtain ⟨e1,_,r1⟩:=hx.root
 obtain ⟨e2,_,r2⟩:=hy.root
 unfold cmpRt
 rw [r1,r2]
 simp only [Bool.and_self,if_true]
 have d1:=hx.d0
 have d2:=hy.d0
 have p1:0 < x.d.toNat:=by omega
 have p2:0 < y.d.toNat:=by omega
 rw [e1,e2,rootOf_nz hx.s p1,rootOf_nz hy.s p2]
 simp only [ofZ_z]
 have n1:((x.n.toNat:Nat):Int)=x.n:=Int.toNat_of_nonneg hx.n0
 have n2:((y.n.toNat:Nat):Int)=y.n:=Int.toNat_of_nonneg hy.n0
 have m1:((x.d.toNat:Nat):Int)=x.d:=Int.toNat_of_nonneg (by omega)
 have m2:((y.d.toNat:Nat):Int)=y.d:=Int.toNat_of_nonneg (by omega)
 rw [n1,n2]
 have key:∀ n d:Nat,0 < d->0 < (Nat.gcd n d:Int)/\(n:Int)=(Nat.gcd n d:Int)*((n / Nat.gcd n d:Nat):Int)/\(d:Int)=(Nat.gcd n d:Int)*((d / Nat.gcd n d:Nat):Int):=fun n d h=>by
  have hg:0 < Nat.gcd n d:=Nat.gcd_pos_of_pos_right _ h
  exact ⟨by omega,by rw [<- Int.natCast_mul,Nat.mul_div_cancel' (Nat.gcd_dvd_left _ _)],by rw [<- Int.natCast_mul,Nat.mul_div_cancel' (Nat.gcd_dvd_right _ _)]⟩
 obtain ⟨g1,a1,b1⟩:=key x.n.toNat x.d.toNat p1
 obtain ⟨g2,a2,b2⟩:=key y.n.toNat y.d.toNat p2
 rw [n1] at a1
 rw [n2] at a2
 rw [m1] at b1
 rw [m2] at b2
 unfold cmpQ
 rw [<- cmp_red1 g1 _ _ _ _ _ _ _,<- cmp_red2 g2 _ _ _ _ _ _ _,<- a1,<- a2,<- b1,<- b2]
theorem u0:(0:Int) < 1:=by decide
theorem u1:(1:Int) < 85070591730234615865843651857942052864*4:=by decide
theorem uz:(0:Int) < 85070591730234615865843651857942052864*4:=by decide
theorem intQ_ok (i:Int):(intQ i).ok:=⟨.inl rfl,Int.le_refl 0,uz,u0,u1⟩
theorem intQ_rt (i:Int):(intQ i).rt=⟨i,0,zero,ofZ 1⟩:=by
 rw [(intQ_ok i).root.1]
 unfold rootOf
 rw [if_pos (.inr rfl)]
 rfl
def simQ (x y:Q4):Prop:=∀ z,cmpQ x z=cmpQ y z/\cmpQ z x=cmpQ z y
theorem simQ.refl (x:Q4):simQ x x:=fun _=>⟨rfl,rfl⟩
theorem nz_mul {g:Int} (h:0 < g) (s n:Int):nz s (g*n)=nz s n:=by
 unfold nz
 have:g*n=0 <-> n=0:=by rw [Int.mul_eq_zero];omega
 simp only [this]
theorem simQ.mul {g:Int} (h:0 < g) (a s n d:Int):simQ ⟨a,s,g*n,g*d⟩ ⟨a,s,n,d⟩:=fun z=>by
 unfold cmpQ
 simp only [nz_mul h]
 exact ⟨cmp_red1 h _ _ _ _ _ _ _,cmp_red2 h _ _ _ _ _ _ _⟩
def leastQ:List Q4->Q4
 | []=>intQ 0
 | x::l=>l.foldl (fun x y=>if cmpQ y x < 0 then y else x) x
def endQ (px py qx qy:Int):Q4:=⟨0,1,sqI (px - qx) (py - qy),1⟩
def lineQ (e:Ed) (px py:Int):Q4 :=
 if (px - e.ax)*(e.bx - e.ax)+(py - e.ay)*(e.by' - e.ay)<=0 then endQ px py e.ax e.ay
 else if sqI (e.bx - e.ax) (e.by' - e.ay)<=(px - e.ax)*(e.bx - e.ax)+(py - e.ay)*(e.by' - e.ay) then endQ px py e.bx e.by'
 else ⟨0,1,((e.bx - e.ax)*(py - e.ay) - (e.by' - e.ay)*(px - e.ax))*((e.bx - e.ax)*(py - e.ay) - (e.by' - e.ay)*(px - e.ax)),sqI (e.bx - e.ax) (e.by' - e.ay)⟩
def arcQ (e:Ed) (px py:Int):Q4 :=
 if inQ e (px - e.cx) (py - e.cy) then
  (if radZ e*radZ e<=sqI (px - e.cx) (py - e.cy) then ⟨-radZ e,1,sqI (px - e.cx) (py - e.cy),1⟩ else ⟨radZ e,-1,sqI (px - e.cx) (py - e.cy),1⟩)
 else if sqI (px - e.bx) (py - e.by') < sqI (px - e.ax) (py - e.ay) then endQ px py e.bx e.by' else endQ px py e.ax e.ay
def pointQ (e:Ed) (px py:Int):Q4:=if e.k=1 then lineQ e px py else arcQ e px py
def footQ (l a:Ed):List Q4 :=
 let dx:=l.bx - l.ax
 let dy:=l.by' - l.ay
 let t:=(a.cx - l.ax)*dx+(a.cy - l.ay)*dy
 let c:=dx*(a.cy - l.ay) - dy*(a.cx - l.ax)
 let nx:=if 0 < c then dy else -dy
 let ny:=if 0 < c then -dx else dx
 if t<=0\/sqI dx dy<=t\/c*c<=radZ a*radZ a*sqI dx dy\/inQ a nx ny=false then [] else [⟨-radZ a,1,c*c,sqI dx dy⟩]
def centQ (a b:Ed):List Q4 :=
 let vx:=b.cx - a.cx
 let vy:=b.cy - a.cy
 let r:=radZ a
 let s:=radZ b
 let n:=sqI vx vy
 if (r+s)*(r+s) < n then (if inQ a vx vy&&inQ b (-vx) (-vy) then [⟨-r - s,1,n,1⟩] else [])
 else if (r - s)*(r - s)<=n then []
 else if s < r then (if inQ a vx vy&&inQ b vx vy then [⟨r - s,-1,n,1⟩] else [])
 else (if inQ a (-vx) (-vy)&&inQ b (-vx) (-vy) then [⟨s - r,-1,n,1⟩] else [])
def innerQ (a b:Ed):List Q4:=if a.k=1 then (if b.k=1 then [] else footQ a b) else if b.k=1 then footQ b a else centQ a b
def candQ (a b:Ed):List Q4:=[pointQ b a.ax a.ay,pointQ b a.bx a.by',pointQ a b.ax b.ay,pointQ a b.bx b.by']++innerQ a b
theorem lt64 {x:Int} (h:I64 x):x < 85070591730234615865843651857942052864*4:=by unfold I64 at h;omega
theorem endQ_ok {px py qx qy:Int} (h1:Co px) (h2:Co py) (h3:Co qx) (h4:Co qy):(endQ px py qx qy).ok :=
 ⟨.inl rfl,sqI_nn _ _,lt64 ((h1.sub h3).sq (h2.sub h4)),u0,u1⟩
theorem pointQ_ok {e:Ed} {x y:Int} (he:e.ok=true) (hx:Co x) (hy:Co y):(pointQ e x y).ok:=by
 obtain ⟨⟨a1,a2⟩,⟨b1,b2⟩,c1,c2⟩:=ok_right he
 unfold pointQ
 split
 ·unfold lineQ
  split
  ·exact endQ_ok hx hy a1 a2
  split
  ·exact endQ_ok hx hy b1 b2
  rename_i h1 h2
  have iC:I64 ((e.bx - e.ax)*(y - e.ay) - (e.by' - e.ay)*(x - e.ax)):=(b1.sub a1).cross (hy.sub a2) (b2.sub a2) (hx.sub a1)
  have iQ:I64 (sqI (e.bx - e.ax) (e.by' - e.ay)):=(b1.sub a1).sq (b2.sub a2)
  exact ⟨.inl rfl,sqz_nn _,(sq_lt iC).2,by show 0 < sqI _ _;omega,lt64 iQ⟩
 ·unfold arcQ
  have iN:I64 (sqI (x - e.cx) (y - e.cy)):=(hx.sub c1).sq (hy.sub c2)
  split
  ·split
   ·exact ⟨.inl rfl,sqI_nn _ _,lt64 iN,u0,u1⟩
   ·exact ⟨.inr rfl,sqI_nn _ _,lt64 iN,u0,u1⟩
  split
  ·exact endQ_ok hx hy b1 b2
  ·exact endQ_ok hx hy a1 a2
theorem pointR_Q {e:Ed} {x y:Int} (he:e.ok=true) (hp:coordB x y=true):(pointR e x y).1=(pointQ e x y).rt:=by
 unfold pointR pointQ
 rw [he,hp]
 simp only [Bool.and_self,Bool.not_true,Bool.false_eq_true,if_false]
 split
 ·unfold lineR lineQ
  (repeat' split)<;>rfl
 ·unfold arcR arcQ
  (repeat' split)<;>rfl
theorem ite_mem {p:Prop} [Decidable p] {x z:Q4} (h:z ∈ if p then [] else [x]):¬ p/\z=x:=by
 split at h
 ·cases h
 ·exact ⟨by assumption,List.mem_singleton.1 h⟩
theorem map_ite {α:Type} (f:α->Rt) {p:Prop} [Decidable p] (x:α):(if p then [] else [x]).map f=if p then [] else [f x]:=by split<;>rfl
theorem footQ_ok {l a:Ed} (hl:l.ok=true) (ha:a.ok=true):∀ x ∈ footQ l a,x.ok:=by
 obtain ⟨⟨l1,l2⟩,⟨l3,l4⟩,_⟩:=ok_right hl
 obtain ⟨_,_,a5,a6⟩:=ok_right ha
 intro x hx
 unfold footQ at hx
 obtain ⟨h,rfl⟩:=ite_mem hx
 have iC:I64 ((l.bx - l.ax)*(a.cy - l.ay) - (l.by' - l.ay)*(a.cx - l.ax)):=(l3.sub l1).cross (a6.sub l2) (l4.sub l2) (a5.sub l1)
 have iQ:I64 (sqI (l.bx - l.ax) (l.by' - l.ay)):=(l3.sub l1).sq (l4.sub l2)
 have h1:=Int.not_le.1 fun g=>h (.inl g)
 have h2:=Int.not_le.1 fun g=>h (.inr (.inl g))
 exact ⟨.inl rfl,sqz_nn _,(sq_lt iC).2,Int.lt_trans h1 h2,lt64 iQ⟩
theorem centQ_ok {a b:Ed} (ha:a.ok=true) (hb:b.ok=true):∀ x ∈ centQ a b,x.ok:=by
 obtain ⟨_,_,a5,a6⟩:=ok_right ha
 obtain ⟨_,_,b5,b6⟩:=ok_right hb
 have iN:I64 (sqI (b.cx - a.cx) (b.cy - a.cy)):=(b5.sub a5).sq (b6.sub a6)
 unfold centQ
 simp only
 intro x hx
 (repeat' split at hx)<;>first | (cases hx;done) | (first | exact List.mem_singleton.1 hx ▸ ⟨.inl rfl,sqI_nn _ _,lt64 iN,u0,u1⟩ | exact List.mem_singleton.1 hx ▸ ⟨.inr rfl,sqI_nn _ _,lt64 iN,u0,u1⟩)
theorem innerQ_ok {a b:Ed} (ha:a.ok=true) (hb:b.ok=true):∀ x ∈ innerQ a b,x.ok:=by
 intro x hx
 unfold innerQ at hx
 split at hx
 ·split at hx
  ·cases hx
  ·exact footQ_ok ha hb x hx
 ·split at hx
  ·exact footQ_ok hb ha x hx
  ·exact centQ_ok ha hb x hx
theorem footR_Q (l a:Ed):(footR l a).map Pr.d=(footQ l a).map Q4.rt:=by
 unfold footR footQ
 simp only [map_ite,Q4.rt]
theorem centR_Q (a b:Ed):(centR a b).map Pr.d=(centQ a b).map Q4.rt:=by
 unfold centR centQ
 simp only
 (repeat' split)<;>rfl
theorem innerR_Q (a b:Ed):(innerR a b).map Pr.d=(innerQ a b).map Q4.rt:=by
 unfold innerR innerQ
 split
 ·split
  ·rfl
  ·exact footR_Q a b
 ·split
  ·rw [List.map_map];exact footR_Q b a
  ·exact centR_Q a b
theorem candR_Q {a b:Ed} (ha:a.ok=true) (hb:b.ok=true):(candR a b).map Pr.d=(candQ a b).map Q4.rt:=by
 have ca:=ok_right ha
 have cb:=ok_right hb
 unfold candR candQ
 rw [List.map_append,List.map_append,innerR_Q,pointR_Q hb (coordB_iff.2 ca.1),pointR_Q hb (coordB_iff.2 ca.2.1),pointR_Q ha (coordB_iff.2 cb.1),pointR_Q ha (coordB_iff.2 cb.2.1)]
 rfl
theorem candQ_ok {a b:Ed} (ha:a.ok=true) (hb:b.ok=true):∀ x ∈ candQ a b,x.ok:=by
 obtain ⟨⟨a1,a2⟩,⟨a3,a4⟩,_⟩:=ok_right ha
 obtain ⟨⟨b1,b2⟩,⟨b3,b4⟩,_⟩:=ok_right hb
 intro x hx
 unfold candQ at hx
 rcases List.mem_append.1 hx with hx | hx
 ·simp only [List.mem_cons, List.not_mem_nil, or_false] at hx
  rcases hx with rfl | rfl | rfl | rfl
  ·exact pointQ_ok hb a1 a2
  ·exact pointQ_ok hb a3 a4
  ·exact pointQ_ok ha b1 b2
  ·exact pointQ_ok ha b3 b4
 ·exact innerQ_ok ha hb x hx
theorem fold_Q:∀ {l:List Pr} {m:List Q4} {x:Pr} {y:Q4},x.d=y.rt->y.ok->l.map Pr.d=m.map Q4.rt->(∀ z ∈ m,z.ok)->(l.foldl betterP x).d=(m.foldl (fun x y=>if cmpQ y x < 0 then y else x) y).rt
 | [],[],_,_,h,_,_,_=>h
 | [],_::_,_,_,_,_,e,_=>by cases e
 | _::_,[],_,_,_,_,e,_=>by cases e
 | a::l,b::m,x,y,h,ho,e,hm=>by
  simp only [List.map_cons,List.cons.injEq] at e
  have hb:=hm b (List.mem_cons_self ..)
  have hm':∀ z ∈ m,z.ok:=fun z hz=>hm z (List.mem_cons_of_mem _ hz)
  simp only [List.foldl_cons]
  have k:cmpRt a.d x.d=cmpQ b y:=by rw [e.1,h,cmpQ_rt hb ho]
  unfold betterP at *
  rw [k]
  split
  ·exact fold_Q e.1 hb e.2 hm'
  ·exact fold_Q h ho e.2 hm'
theorem least_Q {l:List Pr} {m:List Q4} (h0:l ≠ []) (e:l.map Pr.d=m.map Q4.rt) (hm:∀ z ∈ m,z.ok):(leastP l).d=(leastQ m).rt:=by
 cases l with
 | nil=>exact absurd rfl h0
 | cons x l =>
  cases m with
  | nil=>cases e
  | cons y m =>
   simp only [List.map_cons,List.cons.injEq] at e
   exact fold_Q e.1 (hm y (List.mem_cons_self ..)) e.2 fun z hz=>hm z (List.mem_cons_of_mem _ hz)
theorem edgesR_Q {a b:Ed} (ha:a.ok=true) (hb:b.ok=true) (hc:countE a b=0):(edgesR a b).d=(leastQ (candQ a b)).rt:=by
 unfold edgesR
 rw [if_neg (by rw [ha,hb,hc];decide)]
 exact least_Q (by unfold candR;exact fun h=>nomatch h) (candR_Q ha hb) (candQ_ok ha hb)
theorem fold_mem:∀ {m:List Q4} {y:Q4},(m.foldl (fun x y=>if cmpQ y x < 0 then y else x) y)=y\/(m.foldl (fun x y=>if cmpQ y x < 0 then y else x) y) ∈ m
 | [],_=>.inl rfl
 | b::m,y=>by
  simp only [List.foldl_cons]
  split
  ·rcases fold_mem (m := m) (y := b) with h | h
   ·rw [h];exact .inr (List.mem_cons_self ..)
   ·exact .inr (List.mem_cons_of_mem _ h)
  ·rcases fold_mem (m := m) (y := y) with h | h
   ·exact .inl h
   ·exact .inr (List.mem_cons_of_mem _ h)
theorem candQ_ne (a b:Ed):candQ a b ≠ []:=fun h=>nomatch h
theorem leastQ_mem {m:List Q4} (h:m ≠ []):leastQ m ∈ m:=by
 cases m with
 | nil=>exact absurd rfl h
 | cons y m =>
  show m.foldl _ y ∈ y::m
  rcases fold_mem (m:=m) (y:=y) with h | h
  ·rw [h];exact List.mem_cons_self ..
  ·exact List.mem_cons_of_mem _ h
end

section
open Go.RowKit
theorem abs_leP {x y:Int} (hy:0<=y) (h:x*x<=y*y) : -y<=x/\x<=y:=by
  constructor
  . rcases (show -y <= x \/ x < -y by omega) with g | g
    . exact g
    . have := Int.mul_lt_mul_of_pos_right (show y < -x by omega) (show 0 < -x by omega)
      have:=Int.mul_le_mul_of_nonneg_left (show y <= -x by omega) hy
      have e : -x * -x=x*x:=Int.neg_mul_neg ..
      omega
  . rcases (show x <= y \/ y < x by omega) with g | g
    . exact g
    . have := Int.mul_lt_mul_of_pos_right (show y < x by omega) (show 0 < x by omega)
      have:=Int.mul_le_mul_of_nonneg_left (show y<=x by omega) hy
      omega
theorem onE_arc_mk {e:Ed} {x y:Int} (ho:e.ok=true) (hk:¬ e.k=1) (hq:inQ e (x - e.cx) (y - e.cy)=true) (hr:sqI (x - e.cx) (y - e.cy)=radZ e*radZ e):onE e x y=true:=by
  obtain ⟨r0,hu,hv,a1,a2,a3,a4⟩:=arc_axes ho hk
  unfold onE
  rw [ho,if_neg hk]
  simp only [Bool.true_and,Bool.and_eq_true,beq_iff_eq]
  unfold sqI at hr
  obtain ⟨r,R⟩:∃ r,radZ e=r:=⟨_,rfl⟩
  rw [R] at a1 a2 a3 a4 hr r0
  obtain ⟨p,P⟩:∃ p,x - e.cx=p:=⟨_,rfl⟩
  obtain ⟨q,Q⟩:∃ q,y - e.cy=q:=⟨_,rfl⟩
  unfold inQ wiB at hq
  simp only [Bool.and_eq_true,Bool.not_eq_true'] at hq
  obtain ⟨_,hq⟩:=hq
  rw [P,Q] at hr hq
  have hp:p*p<=r*r:=by have:=sqz_nn q;omega
  have hq2:q*q<=r*r:=by have:=sqz_nn p;omega
  have b1:=abs_leP (Int.le_of_lt r0) hp
  have b2:=abs_leP (Int.le_of_lt r0) hq2
  have m0:r*0=0:=by omega
  have m1:r*1=r:=by omega
  have m2:r * -1 = -r:=by omega
  have n0 : -(0:Int)=0:=rfl
  have n1 : -(-1:Int)=1:=rfl
  have f1:e.ax - e.cx=r*e.ux:=by omega
  have f2:e.ay - e.cy=r*e.uy:=by omega
  have f3:e.bx - e.cx=r*e.vx:=by omega
  have f4:e.by' - e.cy=r*e.vy:=by omega
  rw [f1,f2,f3,f4] at hq
  have sg:∀ t:Int,0<=r*t->0<=t:=fun t h=>by
    rcases Int.lt_or_le t 0 with g | g
    . have:=Int.mul_neg_of_pos_of_neg r0 g;omega
    . exact g
  have sg1:=sg p
  have sg2:=sg q
  have sg3:=sg (-p)
  have sg4:=sg (-q)
  rw [Int.mul_neg] at sg3 sg4
  constructor
  . refine inB_iff.2 ⟨?_, ?_⟩
    all_goals
      rcases hu with ⟨u1,u2⟩ | ⟨u1,u2⟩ | ⟨u1,u2⟩ | ⟨u1,u2⟩<;>rcases hv with ⟨k0,v1,v2⟩ | ⟨k0,v1,v2⟩ <;>
      (rw [u1] at a1 v2 hq; rw [u2] at a2 v1 hq; rw [v1] at a3 hq; rw [v2] at a4 hq
       rw [k0] at hq
       simp only [show ¬ (2:Int)=3 by decide,if_false,if_true,m0,m1,m2,n0,n1,Int.mul_zero,Int.zero_mul,Int.neg_mul,Int.mul_neg,Int.mul_one,Int.sub_zero,Int.zero_sub,Int.neg_neg,Bool.and_eq_true,decide_eq_true_eq,Int.mul_comm p r,Int.mul_comm q r] at a1 a2 a3 a4 hq
       unfold Btw
       omega)
  . unfold powerI
    rcases hu with ⟨u1,u2⟩ | ⟨u1,u2⟩ | ⟨u1,u2⟩ | ⟨u1,u2⟩ <;>
      (rw [P, Q, f1, f2, u1, u2, hr]
       simp only [m0,m1,m2,Int.neg_mul_neg,Int.mul_zero,Int.zero_mul]
       omega)
theorem sgn_pP {x:Int} (h:0 < x):sgn x=1:=by rcases sgn_cases x with ⟨h,g⟩ | ⟨h,g⟩ | ⟨h,g⟩<;>omega
theorem sgn_mP {x:Int} (h:x < 0):sgn x = -1:=by rcases sgn_cases x with ⟨h,g⟩ | ⟨h,g⟩ | ⟨h,g⟩<;>omega
theorem side_l0P (a c:Int):sideZ a 0 c=sgn a:=by
  unfold sideZ
  rw [show sgn 0=0 from rfl,Int.zero_mul,Int.mul_zero,if_pos (Int.le_refl 0)]
  rcases sgn_cases a with ⟨h,_⟩ | ⟨h,_⟩ | ⟨h,_⟩<;>rw [h]<;>decide
theorem nz0P {s n:Int} (h:n=0):nz s n=0:=by unfold nz;rw [if_pos h]
theorem nz1P {s n:Int} (h:¬ n=0):nz s n=s:=by unfold nz;rw [if_neg h]
theorem gt0 {a s n d:Int} (h:0 < sideZ (a*d) (nz s n) (n*d)):0 < cmpQ ⟨a,s,n,d⟩ (intQ 0):=by
  unfold cmpQ intQ cmpR
  simp only [Int.sub_zero]
  rw [show nz 1 0=0 from rfl,if_pos (by omega)]
  omega
theorem gt_posQ {n d:Int} (hn:0 < n) (hd:0 < d):0 < cmpQ ⟨0,1,n,d⟩ (intQ 0):=by
  refine gt0 ?_
  have h2:0 < n*d:=Int.mul_pos hn hd
  rw [Int.zero_mul,nz1P (by omega)]
  unfold sideZ
  rw [sgn_pP h2,show sgn 0=0 from rfl,show sgn 1=1 from rfl,if_pos (by decide)]
  decide
theorem gt_outQ {r n d:Int} (hr:0<=r) (hd:0 < d) (h:r*r*d < n):0 < cmpQ ⟨-r,1,n,d⟩ (intQ 0):=by
  have h0:0<=r*r*d:=Int.mul_nonneg (sqz_nn r) (Int.le_of_lt hd)
  rcases Int.lt_or_eq_of_le hr with h1 | h1
  . refine gt0 ?_
    have h2:0 < n*d:=Int.mul_pos (by omega) hd
    have h3:0 < r*d:=Int.mul_pos h1 hd
    have h4:r*r*d*d < n*d:=Int.mul_lt_mul_of_pos_right h hd
    rw [nz1P (by omega),Int.neg_mul]
    unfold sideZ
    rw [sgn_mP (show -(r*d) < 0 by omega),sgn_pP h2,show sgn 1=1 from rfl,if_neg (by decide),Int.neg_mul_neg,Int.one_mul,Int.one_mul]
    have e:r*d*(r*d)=r*r*d*d:=by grind
    unfold cmpZ
    rw [if_pos (by omega)]
    decide
  . subst h1
    exact gt_posQ (by omega) hd
theorem gt_inQ {r n:Int} (hr:0 < r) (hn:0<=n) (h:n < r*r):0 < cmpQ ⟨r,-1,n,1⟩ (intQ 0):=by
  refine gt0 ?_
  rw [Int.mul_one,Int.mul_one]
  by_cases h0:n=0
  . rw [nz0P h0,side_l0P,sgn_pP hr];decide
  . rw [nz1P h0]
    unfold sideZ
    rw [sgn_pP hr,sgn_pP (show 0 < n by omega),show sgn (-1) = -1 from rfl,if_neg (by decide),Int.neg_mul_neg,Int.one_mul,Int.one_mul,Int.one_mul]
    unfold cmpZ
    rw [if_neg (by omega),if_neg (by omega)]
    decide
theorem end_gt {e:Ed} {x y a b:Int} (h:onE e x y=false) (ha:onE e a b=true):0 < cmpQ (endQ x y a b) (intQ 0):=by
  refine gt_posQ (sqI_pos fun ⟨g1,g2⟩=>?_) (by decide)
  rw [show x=a by omega,show y=b by omega,ha] at h
  cases h
theorem between {a b p x y u v t q:Int} (hq:u*u+v*v=q) (hc:u*y - v*x=0) (ht:x*u+y*v=t) (t0:0 < t) (t1:t < q) (ha:u=b - a) (hp:x=p - a):Btw a p b:=by
  have e1:q*x=t*u:=by subst hq ht;grind
  unfold Btw
  rcases Int.lt_trichotomy u 0 with h | h | h
  . have h1 : t * u < 0 := Int.mul_neg_of_pos_of_neg t0 h
    have h2:x < 0:=by
      rcases Int.lt_or_le x 0 with g | g
      . exact g
      . have:=Int.mul_nonneg (show 0<=q by omega) g;omega
    have h3:u<=x:=by
      rcases Int.lt_or_le x u with g | g
      . have k1 := Int.mul_lt_mul_of_pos_left g (show 0 < q by omega)
        have k2:q*u<=t*u:=Int.mul_le_mul_of_nonpos_right (by omega) (by omega)
        omega
      . exact g
    omega
  . have : q * x = 0 := by rw [e1, h, Int.mul_zero]
    have:x=0:=by rcases Int.mul_eq_zero.1 this with g | g<;>omega
    omega
  . have h1 : 0 < t * u := Int.mul_pos t0 h
    have h2:0 < x:=by
      rcases Int.lt_or_le 0 x with g | g
      . exact g
      . have:=Int.mul_nonpos_of_nonneg_of_nonpos (show 0<=q by omega) g;omega
    have h3:x<=u:=by
      rcases Int.lt_or_le u x with g | g
      . have k1 := Int.mul_lt_mul_of_pos_left g (show 0 < q by omega)
        have k2:t*u<=q*u:=Int.mul_le_mul_of_nonneg_right (by omega) (by omega)
        omega
      . exact g
    omega
theorem point_gt {e:Ed} {x y:Int} (ho:e.ok=true) (h:onE e x y=false):0 < cmpQ (pointQ e x y) (intQ 0):=by
  unfold pointQ
  by_cases hk:e.k=1
  . rw [if_pos hk]
    unfold lineQ
    split
    . exact end_gt h (end_a ho)
    split
    . exact end_gt h (end_b ho)
    . rename_i h1 h2
      refine gt_posQ ?_ (by omega)
      have:=sqz_nn ((e.bx - e.ax)*(y - e.ay) - (e.by' - e.ay)*(x - e.ax))
      rcases Int.lt_or_eq_of_le this with g | g
      . exact g
      . exfalso
        have hc:(e.bx - e.ax)*(y - e.ay) - (e.by' - e.ay)*(x - e.ax)=0:=by rcases Int.mul_eq_zero.1 g.symm with g | g<;>exact g
        have b1:=between (a:=e.ax) (b:=e.bx) (p:=x) rfl hc rfl (by omega) (Int.not_le.1 h2) rfl rfl
        have b2:=between (a:=e.ay) (b:=e.by') (p:=y) (u:=e.by' - e.ay) (v:=e.bx - e.ax) (x:=y - e.ay) (y:=x - e.ax) (t:=(x - e.ax)*(e.bx - e.ax)+(y - e.ay)*(e.by' - e.ay)) (q:=sqI (e.bx - e.ax) (e.by' - e.ay)) (by unfold sqI;omega) (by omega) (by omega) (by omega) (by omega) rfl rfl
        rw [onE_line_mk hk ho b1 b2 (by omega)] at h
        cases h
  . rw [if_neg hk]
    have hr:=rad_pos ho hk
    unfold arcQ
    split
    . rename_i hq
      have hn:¬ sqI (x - e.cx) (y - e.cy)=radZ e*radZ e:=fun g=>by rw [onE_arc_mk ho hk hq g] at h;cases h
      split
      . exact gt_outQ (Int.le_of_lt hr) (by decide) (by omega)
      . exact gt_inQ hr (sqI_nn _ _) (by omega)
    split
    . exact end_gt h (end_b ho)
    . exact end_gt h (end_a ho)
theorem foot_gt (l:Ed) {a:Ed} (ha:a.ok=true) (hk:¬ a.k=1):∀ z ∈ footQ l a,0 < cmpQ z (intQ 0):=by
  intro z hz
  by_cases h:((a.cx - l.ax)*(l.bx - l.ax)+(a.cy - l.ay)*(l.by' - l.ay)<=0\/sqI (l.bx - l.ax) (l.by' - l.ay)<=(a.cx - l.ax)*(l.bx - l.ax)+(a.cy - l.ay)*(l.by' - l.ay)\/((l.bx - l.ax)*(a.cy - l.ay) - (l.by' - l.ay)*(a.cx - l.ax))*((l.bx - l.ax)*(a.cy - l.ay) - (l.by' - l.ay)*(a.cx - l.ax))<=radZ a*radZ a*sqI (l.bx - l.ax) (l.by' - l.ay)\/inQ a (if 0 < (l.bx - l.ax)*(a.cy - l.ay) - (l.by' - l.ay)*(a.cx - l.ax) then l.by' - l.ay else -(l.by' - l.ay)) (if 0 < (l.bx - l.ax)*(a.cy - l.ay) - (l.by' - l.ay)*(a.cx - l.ax) then -(l.bx - l.ax) else l.bx - l.ax)=false)
  . rw [show footQ l a=[] from if_pos h] at hz;cases hz
  . rw [show footQ l a = [⟨-radZ a, 1, ((l.bx - l.ax) * (a.cy - l.ay) - (l.by' - l.ay) * (a.cx - l.ax)) * ((l.bx - l.ax) * (a.cy - l.ay) - (l.by' - l.ay) * (a.cx - l.ax)), sqI (l.bx - l.ax) (l.by' - l.ay)⟩] from if_neg h] at hz
    simp only [not_or,Int.not_le] at h
    obtain ⟨h1,h2,h3,_⟩:=h
    simp only [List.mem_cons,List.not_mem_nil,or_false] at hz
    subst hz
    exact gt_outQ (Int.le_of_lt (rad_pos ha hk)) (by omega) h3
theorem cent_gt {a b:Ed} (ha:a.ok=true) (hb:b.ok=true) (hk:¬ a.k=1) (gk:¬ b.k=1):∀ z ∈ centQ a b,0 < cmpQ z (intQ 0):=by
  intro z hz
  have r1:=rad_pos ha hk
  have r2:=rad_pos hb gk
  have hn:=sqI_nn (b.cx - a.cx) (b.cy - a.cy)
  unfold centQ at hz
  simp only at hz
  generalize sqI (b.cx - a.cx) (b.cy - a.cy)=n at *
  split at hz
  . rename_i h1
    split at hz
    . simp only [List.mem_cons, List.not_mem_nil, or_false] at hz
      subst hz
      rw [show -radZ a - radZ b = -(radZ a+radZ b) by omega]
      exact gt_outQ (by omega) (by decide) (by omega)
    . cases hz
  split at hz
  . cases hz
  rename_i h1 h2
  split at hz
  . rename_i h3
    split at hz
    . simp only [List.mem_cons, List.not_mem_nil, or_false] at hz
      subst hz
      exact gt_inQ (by omega) hn (by omega)
    . cases hz
  . rename_i h3
    have h4:¬ radZ a=radZ b:=fun h=>by rw [h] at h2;simp at h2;omega
    split at hz
    . simp only [List.mem_cons, List.not_mem_nil, or_false] at hz
      subst hz
      have e:(radZ b - radZ a)*(radZ b - radZ a)=(radZ a - radZ b)*(radZ a - radZ b):=by grind
      exact gt_inQ (by omega) hn (by omega)
    . cases hz
theorem least_gt {a b:Ed} (ha:a.ok=true) (hb:b.ok=true) (hc:countE a b=0):0 < cmpQ (leastQ (candQ a b)) (intQ 0):=by
  have off:∀ x y,onE a x y=true->onE b x y=false:=fun x y h=>by
    cases g:onE b x y with
    | false=>rfl
    | true=>exact absurd hc (common_point h g)
  have off':∀ x y,onE b x y=true->onE a x y=false:=fun x y h=>by
    cases g:onE a x y with
    | false=>rfl
    | true=>exact absurd hc (common_point g h)
  have hm:=leastQ_mem (candQ_ne a b)
  revert hm
  generalize leastQ (candQ a b)=z
  intro hm
  unfold candQ at hm
  simp only [List.cons_append,List.nil_append,List.mem_cons] at hm
  rcases hm with rfl | rfl | rfl | rfl | hm
  . exact point_gt hb (off _ _ (end_a ha))
  . exact point_gt hb (off _ _ (end_b ha))
  . exact point_gt ha (off' _ _ (end_a hb))
  . exact point_gt ha (off' _ _ (end_b hb))
  . unfold innerQ at hm
    split at hm
    . split at hm
      . cases hm
      . exact foot_gt a hb (by assumption) _ hm
    . split at hm
      . exact foot_gt b ha (by assumption) _ hm
      . exact cent_gt ha hb (by assumption) (by assumption) _ hm
end
end Go.Proofs.YtceemiodpccbhaaGreat
