import Derived.Test.YtceemiodpccbhaaGreatQ31
set_option linter.unusedVariables false
set_option linter.unusedSimpArgs false

namespace Go.Proofs.YtceemiodpccbhaaGreat
open Go.RowKit
theorem inB_iff{a b c d x y:Int}:inB (min a b) (min c d) (max a b) (max c d) x y=true <-> Btw a x b/\Btw c y d:=by
  unfold inB Btw
  simp only[Bool.and_eq_true,decide_eq_true_eq]
  constructor
  . rintro⟨h1,h2,h3,h4⟩;exact⟨⟨h1,h2⟩,h3,h4⟩
  . rintro⟨⟨h1,h2⟩,h3,h4⟩;exact⟨h1,h2,h3,h4⟩
theorem sideI_0{n:Int}:(sideI n==0)=true <-> n=0:=by
  unfold sideI
  rw[beq_iff_eq]
  constructor
  . intro h;(repeat' split at h)<;>omega
  . rintro rfl;rfl
theorem onE_line{e:Ed}{x y:Int}(hk:e.k=1)(h:onE e x y=true):e.ok=true/\Btw e.ax x e.bx/\Btw e.ay y e.by'/\(e.bx-e.ax)*(y-e.ay)=(e.by'-e.ay)*(x-e.ax):=by
  unfold onE at h
  rw[if_pos hk] at h
  simp only[Bool.and_eq_true] at h
  obtain⟨h1,h2,h3⟩:=h
  obtain⟨b1,b2⟩:=inB_iff.1 h2
  have:=sideI_0.1 h3
  exact⟨h1,b1,b2,by omega⟩
theorem onE_line_mk{e:Ed}{x y:Int}(hk:e.k=1)(ho:e.ok=true)(h1:Btw e.ax x e.bx)(h2:Btw e.ay y e.by')(h3:(e.bx-e.ax)*(y-e.ay)=(e.by'-e.ay)*(x-e.ax)):onE e x y=true:=by
  unfold onE
  rw[if_pos hk,ho]
  simp only[Bool.true_and,Bool.and_eq_true]
  exact⟨inB_iff.2 ⟨h1,h2⟩,sideI_0.2 (by omega)⟩
theorem onE_arc{e:Ed}{x y:Int}(hk:¬e.k=1)(h:onE e x y=true):e.ok=true/\(x-e.cx)*(x-e.cx)+(y-e.cy)*(y-e.cy)=radZ e*radZ e/\0<=(x-e.cx)*e.ux+(y-e.cy)*e.uy/\0<=(x-e.cx)*e.vx+(y-e.cy)*e.vy:=by
  unfold onE at h
  rw[if_neg hk] at h
  simp only[Bool.and_eq_true,beq_iff_eq] at h
  obtain⟨h1,h2,h3⟩:=h
  obtain⟨b1,b2⟩:=inB_iff.1 h2
  obtain⟨hr,hu,hv,a1,a2,a3,a4⟩:=arc_axes h1 hk
  refine⟨h1,?_⟩
  unfold powerI at h3
  unfold Btw at b1 b2
  obtain⟨r,R⟩:∃r,radZ e=r:=⟨_,rfl⟩
  rw[R] at a1 a2 a3 a4 hr ⊢
  have m0:r*0=0:=by omega
  have m1:r*1=r:=by omega
  have m2:r * -1 = -r:=by omega
  have n0 : -(0:Int)=0:=rfl
  have n1 : -(-1:Int)=1:=rfl
  rcases hu with⟨u1,u2⟩|⟨u1,u2⟩|⟨u1,u2⟩|⟨u1,u2⟩<;>rcases hv with⟨_,v1,v2⟩|⟨_,v1,v2⟩ <;>
    (rw [u1] at a1 v2 ⊢; rw [u2] at a2 v1 ⊢; rw [v1] at a3 ⊢; rw [v2] at a4 ⊢
     simp only[m0,m1,m2,n0,n1,Int.mul_zero,Int.mul_one,Int.mul_neg] at a1 a2 a3 a4 ⊢
     refine⟨?_,by omega,by omega⟩
     rw[a1,a2] at h3
     grind)
theorem ok_of_on{e:Ed}{x y:Int}(h:onE e x y=true):e.ok=true:=by
  unfold onE at h
  simp only[Bool.and_eq_true] at h
  exact h.1
theorem pt_on{e:Ed}{x y:Int}(hk:e.k=1)(hp:e.pt=true)(h:onE e x y=true):x=e.ax/\y=e.ay:=by
  obtain⟨_,b1,b2,_⟩:=onE_line hk h
  have:e.ax=e.bx/\e.ay=e.by':=by simpa[Ed.pt] using hp
  unfold Btw at b1 b2
  omega
theorem common_lines{ax ay bx by' cx cy dx dy x y:Int}(hn:¬(ax=bx/\ay=by'))(hm:¬(cx=dx/\cy=dy))(h1:Btw ax x bx)(h2:Btw ay y by')(h3:(bx-ax)*(y-ay)=(by'-ay)*(x-ax))
    (k1:Btw cx x dx) (k2:Btw cy y dy) (k3:(dx-cx)*(y-cy)=(dy-cy)*(x-cx)):linesZ ax ay bx by' cx cy dx dy≠0:=by
  have p1:=btw_shift h1
  have p2:=btw_shift h2
  have q1:=btw_shift k1
  have q2:=btw_shift k2
  unfold linesZ crI
  by_cases hD:(bx-ax)*(dy-cy)-(by'-ay)*(dx-cx)=0
  . rw [if_neg (by simpa using hD)]
    have hs:(bx-ax)*(cy-ay)-(by'-ay)*(cx-ax)=0:=by
      by_cases hx:dx-cx=0
      . refine zero_of_mul (c := dy - cy) (fun e => hm ⟨by omega, by omega⟩) ?_
        grind
      . refine zero_of_mul (c := dx - cx) hx ?_
        grind
    rw[hs]
    rw[if_neg (by simp[sideI])]
    obtain⟨t,ht⟩:∃t,(x-ax)*(bx-ax)+(y-ay)*(by'-ay)=t:=⟨_,rfl⟩
    have t1:=btw_mul p1
    have t2:=btw_mul p2
    have cp:=cut_prod (gx:=bx-ax) (gy:=by'-ay) q1 q2 (by grind) (fun e=>hm ⟨by omega,by omega⟩)
    obtain⟨lo,hlo⟩:∃z,(cx-ax)*(bx-ax)+(cy-ay)*(by'-ay)=z:=⟨_,rfl⟩
    obtain⟨hi,hhi⟩:∃z,(dx-ax)*(bx-ax)+(dy-ay)*(by'-ay)=z:=⟨_,rfl⟩
    obtain⟨S,hS⟩:∃z,(bx-ax)*(bx-ax)+(by'-ay)*(by'-ay)=z:=⟨_,rfl⟩
    rw[hlo,hhi,hS]
    have e1:(bx-ax)*(x-cx)+(by'-ay)*(y-cy)=t-lo:=by grind
    have e2:(bx-ax)*(dx-cx-(x-cx))+(by'-ay)*(dy-cy-(y-cy))=hi-t:=by grind
    rw[e1,e2] at cp
    have hb:min lo hi<=t/\t<=max lo hi:=by
      rcases Int.lt_trichotomy lo t with g|g|g
      . rcases Int.lt_trichotomy hi t with f | f | f
        . have:=Int.mul_neg_of_pos_of_neg (show 0<t-lo by omega) (show hi-t<0 by omega);omega
        . omega
        . omega
      . omega
      . rcases Int.lt_trichotomy hi t with f | f | f
        . omega
        . omega
        . have:=Int.mul_neg_of_neg_of_pos (show t-lo<0 by omega) (show 0<hi-t by omega);omega
    have h0:0<=t/\t<=S:=by omega
    (repeat' split)<;>omega
  . rw [if_pos (by simpa using hD)]
    have c1:=cut_prod (gx := -(by'-ay)) (gy:=bx-ax) q1 q2 (by grind) (fun e=>hm ⟨by omega,by omega⟩)
    have c2:=cut_prod (gx := -(dy-cy)) (gy:=dx-cx) p1 p2 (by grind) (fun e=>hn ⟨by omega,by omega⟩)
    have e1:((bx-ax)*(cy-ay)-(by'-ay)*(cx-ax))*((bx-ax)*(dy-ay)-(by'-ay)*(dx-ax)) = -((-(by'-ay)*(x-cx)+(bx-ax)*(y-cy))*(-(by'-ay)*(dx-cx-(x-cx))+(bx-ax)*(dy-cy-(y-cy)))):=by grind
    have e2:((dx-cx)*(ay-cy)-(dy-cy)*(ax-cx))*((dx-cx)*(by'-cy)-(dy-cy)*(bx-cx)) = -((-(dy-cy)*(x-ax)+(dx-cx)*(y-ay))*(-(dy-cy)*(bx-ax-(x-ax))+(dx-cx)*(by'-ay-(y-ay)))):=by grind
    rw[if_neg (side_not (by omega)),if_neg (side_not (by omega))]
    decide
theorem common_cross{l e:Ed}{x y:Int}(hl:l.k=1)(hk:¬e.k=1)(h:onE l x y=true)(h':onE e x y=true):crossZ l e≠0:=by
  obtain⟨_,b1,b2,hc⟩:=onE_line hl h
  obtain⟨_,hr,g1,g2⟩:=onE_arc hk h'
  have p1:=btw_mul (btw_shift b1)
  have p2:=btw_mul (btw_shift b2)
  unfold crossZ
  rw[countZ_eq]
  have hd:(laE l e).delta=((x-e.cx)*(l.bx-l.ax)+(y-e.cy)*(l.by'-l.ay))*((x-e.cx)*(l.bx-l.ax)+(y-e.cy)*(l.by'-l.ay)):=by
    unfold LA.delta laE
    simp only
    grind
  rw[hd]
  have hS:0<=(l.bx-l.ax)*(l.bx-l.ax)+(l.by'-l.ay)*(l.by'-l.ay):=by
    have a1:0<=(l.bx-l.ax)*(l.bx-l.ax):=by rw[<- Int.natAbs_mul_self];omega
    have a2:0<=(l.by'-l.ay)*(l.by'-l.ay):=by rw[<- Int.natAbs_mul_self];omega
    omega
  have:=countC_root (m:=(x-e.cx)*(l.bx-l.ax)+(y-e.cy)*(l.by'-l.ay)) (l:=(laE l e).list) (by
    intro p hp
    unfold LA.list laE at hp
    simp only[List.mem_cons,List.not_mem_nil,or_false] at hp
    rcases hp with rfl|rfl|rfl|rfl
    . have e1 : 0 - ((l.ax - e.cx) * (l.bx - l.ax) + (l.ay - e.cy) * (l.by' - l.ay)) + 1 * ((x - e.cx) * (l.bx - l.ax) + (y - e.cy) * (l.by' - l.ay)) = (x - l.ax) * (l.bx - l.ax) + (y - l.ay) * (l.by' - l.ay) := by grind
      simp only
      rw[e1]
      omega
    . have e1 : (l.bx - l.ax) * (l.bx - l.ax) + (l.by' - l.ay) * (l.by' - l.ay) - (0 - ((l.ax - e.cx) * (l.bx - l.ax) + (l.ay - e.cy) * (l.by' - l.ay))) + -1 * ((x - e.cx) * (l.bx - l.ax) + (y - e.cy) * (l.by' - l.ay)) = (l.bx - l.ax) * (l.bx - l.ax) + (l.by' - l.ay) * (l.by' - l.ay) - ((x - l.ax) * (l.bx - l.ax) + (y - l.ay) * (l.by' - l.ay)) := by grind
      simp only
      rw[e1]
      omega
    . have e1 : ((l.bx - l.ax) * (l.bx - l.ax) + (l.by' - l.ay) * (l.by' - l.ay)) * ((l.ax - e.cx) * e.ux + (l.ay - e.cy) * e.uy) - ((l.ax - e.cx) * (l.bx - l.ax) + (l.ay - e.cy) * (l.by' - l.ay)) * ((l.bx - l.ax) * e.ux + (l.by' - l.ay) * e.uy) + ((l.bx - l.ax) * e.ux + (l.by' - l.ay) * e.uy) * ((x - e.cx) * (l.bx - l.ax) + (y - e.cy) * (l.by' - l.ay)) = ((l.bx - l.ax) * (l.bx - l.ax) + (l.by' - l.ay) * (l.by' - l.ay)) * ((x - e.cx) * e.ux + (y - e.cy) * e.uy) := by grind
      simp only
      rw[e1]
      exact Int.mul_nonneg hS g1
    . have e1 : ((l.bx - l.ax) * (l.bx - l.ax) + (l.by' - l.ay) * (l.by' - l.ay)) * ((l.ax - e.cx) * e.vx + (l.ay - e.cy) * e.vy) - ((l.ax - e.cx) * (l.bx - l.ax) + (l.ay - e.cy) * (l.by' - l.ay)) * ((l.bx - l.ax) * e.vx + (l.by' - l.ay) * e.vy) + ((l.bx - l.ax) * e.vx + (l.by' - l.ay) * e.vy) * ((x - e.cx) * (l.bx - l.ax) + (y - e.cy) * (l.by' - l.ay)) = ((l.bx - l.ax) * (l.bx - l.ax) + (l.by' - l.ay) * (l.by' - l.ay)) * ((x - e.cx) * e.vx + (y - e.cy) * e.vy) := by grind
      simp only
      rw[e1]
      exact Int.mul_nonneg hS g2)
  omega
theorem common_apart{e f:Ed}{x y:Int}(hk:¬e.k=1)(hk':¬f.k=1)(hc:¬(e.cx=f.cx/\e.cy=f.cy))(h:onE e x y=true)(h':onE f x y=true):countZ (aaE e f).delta (aaE e f).list≠0:=by
 obtain⟨_,hr,g1,g2⟩:=onE_arc hk h
 obtain⟨_,hq,g3,g4⟩:=onE_arc hk' h'
 have hS:0<=(f.cx-e.cx)*(f.cx-e.cx)+(f.cy-e.cy)*(f.cy-e.cy):=by
  have a1:0<=(f.cx-e.cx)*(f.cx-e.cx):=by rw[<- Int.natAbs_mul_self];omega
  have a2:0<=(f.cy-e.cy)*(f.cy-e.cy):=by rw[<- Int.natAbs_mul_self];omega
  omega
 obtain⟨m,hm⟩:∃m,2*(-(f.cy-e.cy)*(x-e.cx)+(f.cx-e.cx)*(y-e.cy))=m:=⟨_,rfl⟩
 have hkk:(aaE e f).k=2*((f.cx-e.cx)*(x-e.cx)+(f.cy-e.cy)*(y-e.cy)):=by
  unfold AA.k aaE
  simp only
  rw[<- hr,<- hq]
  grind
 rw[countZ_eq]
 have hd:(aaE e f).delta=m*m:=by
  unfold AA.delta
  rw[hkk]
  unfold aaE
  simp only
  rw[<- hr,<- hm]
  grind
 rw[hd]
 have:=countC_root (m:=m) (l:=(aaE e f).list) (by
  intro p hp
  unfold AA.list at hp
  rw[hkk] at hp
  unfold aaE at hp
  simp only[List.mem_cons,List.not_mem_nil,or_false] at hp
  rcases hp with rfl|rfl|rfl|rfl
  ·have e1 : 2 * ((f.cx - e.cx) * (x - e.cx) + (f.cy - e.cy) * (y - e.cy)) * ((f.cx - e.cx) * e.ux + (f.cy - e.cy) * e.uy) + (-(f.cy - e.cy) * e.ux + (f.cx - e.cx) * e.uy) * m = 2 * (((f.cx - e.cx) * (f.cx - e.cx) + (f.cy - e.cy) * (f.cy - e.cy)) * ((x - e.cx) * e.ux + (y - e.cy) * e.uy)) := by rw [<- hm]; grind
   simp only
   rw[e1]
   have:=Int.mul_nonneg hS g1
   omega
  ·have e1 : 2 * ((f.cx - e.cx) * (x - e.cx) + (f.cy - e.cy) * (y - e.cy)) * ((f.cx - e.cx) * e.vx + (f.cy - e.cy) * e.vy) + (-(f.cy - e.cy) * e.vx + (f.cx - e.cx) * e.vy) * m = 2 * (((f.cx - e.cx) * (f.cx - e.cx) + (f.cy - e.cy) * (f.cy - e.cy)) * ((x - e.cx) * e.vx + (y - e.cy) * e.vy)) := by rw [<- hm]; grind
   simp only
   rw[e1]
   have:=Int.mul_nonneg hS g2
   omega
  ·have e1 : (2 * ((f.cx - e.cx) * (x - e.cx) + (f.cy - e.cy) * (y - e.cy)) - 2 * ((f.cx - e.cx) * (f.cx - e.cx) + (f.cy - e.cy) * (f.cy - e.cy))) * ((f.cx - e.cx) * f.ux + (f.cy - e.cy) * f.uy) + (-(f.cy - e.cy) * f.ux + (f.cx - e.cx) * f.uy) * m = 2 * (((f.cx - e.cx) * (f.cx - e.cx) + (f.cy - e.cy) * (f.cy - e.cy)) * ((x - f.cx) * f.ux + (y - f.cy) * f.uy)) := by rw [<- hm]; grind
   simp only
   rw[e1]
   have:=Int.mul_nonneg hS g3
   omega
  ·have e1 : (2 * ((f.cx - e.cx) * (x - e.cx) + (f.cy - e.cy) * (y - e.cy)) - 2 * ((f.cx - e.cx) * (f.cx - e.cx) + (f.cy - e.cy) * (f.cy - e.cy))) * ((f.cx - e.cx) * f.vx + (f.cy - e.cy) * f.vy) + (-(f.cy - e.cy) * f.vx + (f.cx - e.cx) * f.vy) * m = 2 * (((f.cx - e.cx) * (f.cx - e.cx) + (f.cy - e.cy) * (f.cy - e.cy)) * ((x - f.cx) * f.vx + (y - f.cy) * f.vy)) := by rw [<- hm]; grind
   simp only
   rw[e1]
   have:=Int.mul_nonneg hS g4
   omega)
 omega
theorem same_axes{wx wy ux uy vx vy sx sy tx ty:Int}(hw:¬(wx=0/\wy=0))
  (hu:(ux=1/\uy=0)\/(ux = -1/\uy=0)\/(ux=0/\uy=1)\/(ux=0/\uy = -1)) (hv:(vx = -uy/\vy=ux)\/(vx=uy/\vy = -ux))
  (hs:(sx=1/\sy=0)\/(sx = -1/\sy=0)\/(sx=0/\sy=1)\/(sx=0/\sy = -1)) (ht:(tx = -sy/\ty=sx)\/(tx=sy/\ty = -sx))
  (g1:0<=wx*ux+wy*uy) (g2:0<=wx*vx+wy*vy) (g3:0<=wx*sx+wy*sy) (g4:0<=wx*tx+wy*ty) :
  sameZ true (ux==sx&&uy==sy) (ux==tx&&uy==ty) (vx==sx&&vy==sy) (vx==tx&&vy==ty)≠0:=by
 have n0 : -(0:Int)=0:=rfl
 have n1 : -(-1:Int)=1:=rfl
 rcases hu with⟨rfl,rfl⟩|⟨rfl,rfl⟩|⟨rfl,rfl⟩|⟨rfl,rfl⟩<;>rcases hv with⟨rfl,rfl⟩|⟨rfl,rfl⟩<;>rcases hs with⟨rfl,rfl⟩|⟨rfl,rfl⟩|⟨rfl,rfl⟩|⟨rfl,rfl⟩<;>rcases ht with⟨rfl,rfl⟩|⟨rfl,rfl⟩ <;>
  first
   | decide
   | (exfalso;simp only[n0,n1,Int.mul_zero,Int.mul_one,Int.mul_neg] at g1 g2 g3 g4;omega)
theorem arc_axes'{e:Ed}(h:e.ok=true)(hk:¬e.k=1):((e.ux=1/\e.uy=0)\/(e.ux = -1/\e.uy=0)\/(e.ux=0/\e.uy=1)\/(e.ux=0/\e.uy = -1))/\((e.vx = -e.uy/\e.vy=e.ux)\/(e.vx=e.uy/\e.vy = -e.ux)):=by
 obtain⟨_,hu,hv,_⟩:=arc_axes h hk
 exact⟨hu,hv.elim (fun h=>.inl h.2) (fun h=>.inr h.2)⟩
theorem common_same{e f:Ed}{x y:Int}(hk:¬e.k=1)(hk':¬f.k=1)(hc:e.cx=f.cx/\e.cy=f.cy)(h:onE e x y=true)(h':onE f x y=true):arcsZ e f≠0:=by
 obtain⟨o1,hr,g1,g2⟩:=onE_arc hk h
 obtain⟨o2,hq,g3,g4⟩:=onE_arc hk' h'
 obtain⟨hu,hv⟩:=arc_axes' o1 hk
 obtain⟨hs,ht⟩:=arc_axes' o2 hk'
 have r0:=rad_pos o1 hk
 have q0:=rad_pos o2 hk'
 rw[<- hc.1] at g3 g4 hq
 rw[<- hc.2] at g3 g4 hq
 have hrq:radZ e=radZ f:=by
  have e1:radZ e*radZ e=radZ f*radZ f:=by omega
  rcases Int.lt_trichotomy (radZ e) (radZ f) with g|g|g
  ·have := Int.mul_lt_mul_of_pos_left g r0
   have:=Int.mul_lt_mul_of_pos_right g q0
   have e2:radZ e*radZ f=radZ e*radZ f:=rfl
   omega
  ·exact g
  ·have := Int.mul_lt_mul_of_pos_left g q0
   have:=Int.mul_lt_mul_of_pos_right g r0
   have e2:radZ f*radZ e=radZ f*radZ e:=rfl
   omega
 have hb:(radZ e==radZ f)=true:=by simpa using hrq
 unfold arcsZ
 rw[if_pos hc,hb]
 refine same_axes ?_ hu hv hs ht g1 g2 g3 g4
 rintro⟨a,b⟩
 rw[a,b] at hr
 have:=Int.mul_pos r0 r0
 omega
theorem common_point{e f:Ed}{x y:Int}(h:onE e x y=true)(h':onE f x y=true):countE e f≠0:=by
 have o1:=ok_of_on h
 have o2:=ok_of_on h'
 have one (g:Ed) (z v:Int) (hg:onE g z v=true):onZ g z v≠0:=by unfold onZ;rw[hg];decide
 unfold countE
 rw[o1,o2]
 simp only[Bool.and_self,Bool.not_true,Bool.false_eq_true,if_false]
 by_cases k1:e.k=1
 ·rw [if_pos k1]
  cases p1:e.pt with
  | true =>
   obtain⟨a,b⟩:=pt_on k1 p1 h
   rw[a,b] at h'
   exact one _ _ _ h'
  | false =>
   simp only[Bool.false_eq_true,if_false]
   have n1:¬(e.ax=e.bx/\e.ay=e.by'):=by
    intro g
    have:e.pt=true:=by simp[Ed.pt,g.1,g.2]
    rw[this] at p1;cases p1
   by_cases k2:f.k=1
   ·rw [if_pos k2]
    cases p2:f.pt with
    | true =>
     obtain⟨a,b⟩:=pt_on k2 p2 h'
     rw[a,b] at h
     exact one _ _ _ h
    | false =>
     simp only[Bool.false_eq_true,if_false]
     have n2:¬(f.ax=f.bx/\f.ay=f.by'):=by
      intro g
      have:f.pt=true:=by simp[Ed.pt,g.1,g.2]
      rw[this] at p2;cases p2
     obtain⟨_,a1,a2,a3⟩:=onE_line k1 h
     obtain⟨_,b1,b2,b3⟩:=onE_line k2 h'
     exact common_lines n1 n2 a1 a2 a3 b1 b2 b3
   ·rw [if_neg k2]
    exact common_cross k1 k2 h h'
 ·rw [if_neg k1]
  by_cases k2:f.k=1
  ·rw [if_pos k2]
   cases p2:f.pt with
   | true =>
    obtain⟨a,b⟩:=pt_on k2 p2 h'
    rw[a,b] at h
    exact one _ _ _ h
   | false =>
    simp only[Bool.false_eq_true,if_false]
    exact common_cross k2 k1 h' h
  ·rw [if_neg k2]
   by_cases hc:e.cx=f.cx/\e.cy=f.cy
   ·exact common_same k1 k2 hc h h'
   ·unfold arcsZ
    rw[if_neg hc]
    exact common_apart k1 k2 hc h h'
theorem end_a{e:Ed}(h:e.ok=true):onE e e.ax e.ay=true:=by
 by_cases hk:e.k=1
 ·exact onE_self h hk
 ·unfold onE
  rw[h,if_neg hk]
  simp only[Bool.true_and,Bool.and_eq_true,beq_iff_eq]
  refine⟨inB_iff.2 ?_,?_⟩
  ·unfold Btw;omega
  ·unfold powerI;omega
theorem end_b{e:Ed}(h:e.ok=true):onE e e.bx e.by'=true:=by
 by_cases hk:e.k=1
 ·refine onE_line_mk hk h ?_ ?_ ?_
  ·unfold Btw;omega
  ·unfold Btw;omega
  ·grind
 ·unfold onE
  rw[h,if_neg hk]
  simp only[Bool.true_and,Bool.and_eq_true,beq_iff_eq]
  refine⟨inB_iff.2 ?_,?_⟩
  ·unfold Btw;omega
  ·obtain ⟨_, hu, hv, a1, a2, a3, a4⟩ := arc_axes h hk
   have q:(e.bx-e.cx = -(e.ay-e.cy)/\e.by'-e.cy=e.ax-e.cx)\/(e.bx-e.cx=e.ay-e.cy/\e.by'-e.cy = -(e.ax-e.cx)):=by
    rcases hv with⟨_,v1,v2⟩|⟨_,v1,v2⟩
    ·left;rw[v1] at a3;rw[v2] at a4;refine⟨?_,by omega⟩;rw[a3,a2];grind
    ·right;rw[v1] at a3;rw[v2] at a4;refine⟨by omega,?_⟩;rw[a4,a1];grind
   unfold powerI
   rcases q with⟨q1,q2⟩|⟨q1,q2⟩<;>rw[q1,q2]<;>grind
def negs(l:List (Int×Int)):List (Int×Int):=l.map fun p=>(p.1,-p.2)
theorem goodS_negs(d s:Int)(l:List (Int×Int)):goodS d s (negs l)=goodS d (-s) l:=by
 unfold goodS negs
 rw[List.all_map]
 congr 1
 funext p
 simp only[Function.comp_apply,Int.mul_neg,Int.neg_mul]
theorem sideZ_d0(x y z:Int):sideZ x y 0=sideZ x z 0:=by
 unfold sideZ
 rw[sgn_zero]
 simp only[Int.mul_zero]
theorem goodS_d0(s t:Int)(l:List (Int×Int)):goodS 0 s l=goodS 0 t l:=by
 unfold goodS
 congr 1
 funext p
 rw[sideZ_d0 p.1 (s*p.2) (t*p.2)]
theorem countC_negs(d:Int)(l:List (Int×Int)):countC d (negs l)=countC d l:=by
 unfold countC
 by_cases h:d<0
 ·rw[if_pos h,if_pos h]
 ·rw [if_neg h, if_neg h]
  by_cases h0:d=0
  ·subst h0
   rw[if_pos rfl,if_pos rfl,goodS_negs,goodS_d0 (-1) 1]
  ·rw [if_neg h0, if_neg h0, goodS_negs, goodS_negs, Int.neg_neg]
   omega
theorem goodS_perm{d s:Int}{l l':List (Int×Int)}(h:l.Perm l'):goodS d s l=goodS d s l':=by
 unfold goodS
 rw[Bool.eq_iff_iff,List.all_eq_true,List.all_eq_true]
 exact⟨fun g x hx=>g x (h.mem_iff.2 hx),fun g x hx=>g x (h.mem_iff.1 hx)⟩
theorem countC_perm{d:Int}{l l':List (Int×Int)}(h:l.Perm l'):countC d l=countC d l':=by
 unfold countC
 rw[goodS_perm h,goodS_perm h]
theorem perm_lr{α:Type}(a b c d:α):[a,b,c,d].Perm [c,d,a,b]:=List.perm_append_comm (l₁:=[a,b]) (l₂:=[c,d])
def ov(p q r s:Int):Int :=
 if max (min p q) (min r s)<min (max p q) (max r s) then -1 else if max (min p q) (min r s)=min (max p q) (max r s) then 1 else 0
theorem ov_comm(p q r s:Int):ov p q r s=ov r s p q:=by unfold ov;rw[Int.max_comm (min p q),Int.min_comm (max p q)]
theorem ov_shift(p q r s t:Int):ov (p+t) (q+t) (r+t) (s+t)=ov p q r s:=by
 unfold ov
 (repeat' split)<;>omega
theorem max_pos{k p q:Int}(h:0<k):max (k*p) (k*q)=k*max p q:=by
 rcases Int.le_total p q with g|g
 ·have := Int.mul_le_mul_of_nonneg_left g (Int.le_of_lt h)
  rw[Int.max_eq_right g,Int.max_eq_right this]
 ·have := Int.mul_le_mul_of_nonneg_left g (Int.le_of_lt h)
  rw[Int.max_eq_left g,Int.max_eq_left this]
theorem min_pos{k p q:Int}(h:0<k):min (k*p) (k*q)=k*min p q:=by
 rcases Int.le_total p q with g|g
 ·have := Int.mul_le_mul_of_nonneg_left g (Int.le_of_lt h)
  rw[Int.min_eq_left g,Int.min_eq_left this]
 ·have := Int.mul_le_mul_of_nonneg_left g (Int.le_of_lt h)
  rw[Int.min_eq_right g,Int.min_eq_right this]
theorem ov_pos{k:Int}(h:0<k)(p q r s:Int):ov (k*p) (k*q) (k*r) (k*s)=ov p q r s:=by
 unfold ov
 rw[max_pos h,max_pos h,min_pos h,min_pos h,max_pos h,min_pos h]
 have e1 (x y:Int):k*x<k*y <-> x<y:=Int.mul_lt_mul_left h
 have e2 (x y:Int):k*x=k*y <-> x=y:=Int.mul_eq_mul_left_iff (by omega)
 simp only[e1,e2]
theorem ov_neg(p q r s:Int):ov (-p) (-q) (-r) (-s)=ov p q r s:=by
 unfold ov
 (repeat' split)<;>omega
theorem ov_scale{k:Int}(h:k≠0)(p q r s:Int):ov (k*p) (k*q) (k*r) (k*s)=ov p q r s:=by
 rcases Int.lt_or_gt_of_ne h with g|g
 ·rw [<- ov_neg (k * p), <- Int.neg_mul, <- Int.neg_mul, <- Int.neg_mul, <- Int.neg_mul]
  exact ov_pos (by omega) ..
 ·exact ov_pos g ..
theorem sideI_ne{n:Int}:sideI n≠0 <-> n≠0:=by unfold sideI;(repeat' split)<;>omega
theorem sideI_opp(n:Int):sideI (-n) = -sideI n:=by unfold sideI;(repeat' split)<;>omega
theorem linesZ_eq(px py qx qy rx ry sx sy:Int):linesZ px py qx qy rx ry sx sy =
  if (qx-px)*(sy-ry)-(qy-py)*(sx-rx)≠0 then
   if 0<sideI (crI px py qx qy rx ry)*sideI (crI px py qx qy sx sy)\/0<sideI (crI rx ry sx sy px py)*sideI (crI rx ry sx sy qx qy) then 0 else 1
  else if crI px py qx qy rx ry≠0 then 0
  else ov 0 ((qx-px)*(qx-px)+(qy-py)*(qy-py)) ((rx-px)*(qx-px)+(ry-py)*(qy-py)) ((sx-px)*(qx-px)+(sy-py)*(qy-py)):=by
 have hs:0<=(qx-px)*(qx-px)+(qy-py)*(qy-py):=by
  have a1:0<=(qx-px)*(qx-px):=by rw[<- Int.natAbs_mul_self];omega
  have a2:0<=(qy-py)*(qy-py):=by rw[<- Int.natAbs_mul_self];omega
  omega
 unfold linesZ ov
 simp only[sideI_ne]
 obtain⟨S,hS⟩:∃z,(qx-px)*(qx-px)+(qy-py)*(qy-py)=z:=⟨_,rfl⟩
 rw[hS] at hs ⊢
 rw[Int.min_eq_left hs,Int.max_eq_right hs]
 split
 ·split
  ·rename_i h;rw[if_pos (.inl h)]
  ·rename_i h
   split
   ·rename_i h2;rw[if_pos (.inr h2)]
   ·rename_i h2;rw[if_neg (fun g=>g.elim h h2)]
 ·rfl
theorem linesZ_comm{px py qx qy rx ry sx sy:Int}(hn:¬(px=qx/\py=qy))(hm:¬(rx=sx/\ry=sy)):linesZ rx ry sx sy px py qx qy=linesZ px py qx qy rx ry sx sy:=by
 rw[linesZ_eq,linesZ_eq]
 by_cases hD:(qx-px)*(sy-ry)-(qy-py)*(sx-rx)=0
 ·have hD' : (sx - rx) * (qy - py) - (sy - ry) * (qx - px) = 0 := by grind
  rw[if_neg (not_not_intro hD'),if_neg (not_not_intro hD)]
  have p1:=sq_pos (x:=qx-px) (y:=qy-py) (by omega)
  have p2:=sq_pos (x:=sx-rx) (y:=sy-ry) (by omega)
  have hg:(qx-px)*(sx-rx)+(qy-py)*(sy-ry)≠0:=by
   intro h
   have e:((qx-px)*(qx-px)+(qy-py)*(qy-py))*((sx-rx)*(sx-rx)+(sy-ry)*(sy-ry))=0:=by grind
   have:=Int.mul_pos p1 p2
   omega
  by_cases hc:crI px py qx qy rx ry=0
  ·have hc':crI rx ry sx sy px py=0:=by
    unfold crI at hc ⊢
    by_cases hx:qx-px=0
    ·refine zero_of_mul (c := qy - py) (fun e => hn ⟨by omega, by omega⟩) ?_
     grind
    ·refine zero_of_mul (c := qx - px) hx ?_
     grind
   rw[if_neg (not_not_intro hc'),if_neg (not_not_intro hc)]
   unfold crI at hc
   rw[<- ov_pos p1,<- ov_shift _ _ _ _ (((qx-px)*(sx-rx)+(qy-py)*(sy-ry))*((rx-px)*(qx-px)+(ry-py)*(qy-py))),
    show ((qx-px)*(qx-px)+(qy-py)*(qy-py))*0+((qx-px)*(sx-rx)+(qy-py)*(sy-ry))*((rx-px)*(qx-px)+(ry-py)*(qy-py))=((qx-px)*(sx-rx)+(qy-py)*(sy-ry))*((rx-px)*(qx-px)+(ry-py)*(qy-py)) by grind,
    show ((qx-px)*(qx-px)+(qy-py)*(qy-py))*((sx-rx)*(sx-rx)+(sy-ry)*(sy-ry))+((qx-px)*(sx-rx)+(qy-py)*(sy-ry))*((rx-px)*(qx-px)+(ry-py)*(qy-py))=((qx-px)*(sx-rx)+(qy-py)*(sy-ry))*((sx-px)*(qx-px)+(sy-py)*(qy-py)) by grind,
    show ((qx-px)*(qx-px)+(qy-py)*(qy-py))*((px-rx)*(sx-rx)+(py-ry)*(sy-ry))+((qx-px)*(sx-rx)+(qy-py)*(sy-ry))*((rx-px)*(qx-px)+(ry-py)*(qy-py))=((qx-px)*(sx-rx)+(qy-py)*(sy-ry))*0 by grind,
    show ((qx-px)*(qx-px)+(qy-py)*(qy-py))*((qx-rx)*(sx-rx)+(qy-ry)*(sy-ry))+((qx-px)*(sx-rx)+(qy-py)*(sy-ry))*((rx-px)*(qx-px)+(ry-py)*(qy-py))=((qx-px)*(sx-rx)+(qy-py)*(sy-ry))*((qx-px)*(qx-px)+(qy-py)*(qy-py)) by grind,
    ov_scale hg,ov_comm]
  ·have hc':¬crI rx ry sx sy px py=0:=by
    intro h
    apply hc
    unfold crI at h ⊢
    by_cases hx:sx-rx=0
    ·refine zero_of_mul (c := sy - ry) (fun e => hm ⟨by omega, by omega⟩) ?_
     grind
    ·refine zero_of_mul (c := sx - rx) hx ?_
     grind
   rw[if_pos hc',if_pos hc]
 ·have hD':(sx-rx)*(qy-py)-(sy-ry)*(qx-px)≠0:=by
   intro h;apply hD;grind
  rw[if_pos hD',if_pos hD]
  simp only[Or.comm]
theorem beq_swap(a b:Int):(a==b)=(b==a):=by rw[Bool.eq_iff_iff,beq_iff_eq,beq_iff_eq];exact eq_comm
theorem bne_swap(a b:Bool):(a != b)=(b != a):=by cases a<;>cases b<;>rfl
theorem sameZ_comm(q a b c d:Bool):sameZ q a c b d=sameZ q a b c d:=by
  unfold sameZ
  rw[show one a q+one c q+one b q+one d q=one a q+one b q+one c q+one d q by omega]
theorem arcsZ_comm(e f:Ed):arcsZ f e=arcsZ e f:=by
  unfold arcsZ
  by_cases hc:e.cx=f.cx/\e.cy=f.cy
  . rw [if_pos hc, if_pos ⟨hc.1.symm, hc.2.symm⟩, beq_swap (radZ f), beq_swap f.ux e.ux, beq_swap f.uy e.uy, beq_swap f.ux e.vx, beq_swap f.uy e.vy, beq_swap f.vx e.ux, beq_swap f.vy e.uy, beq_swap f.vx e.vx, beq_swap f.vy e.vy]
    exact sameZ_comm ..
  . rw [if_neg hc, if_neg (fun g => hc ⟨g.1.symm, g.2.symm⟩), countZ_eq, countZ_eq]
    have hk:(aaE f e).k=2*(aaE e f).S-(aaE e f).k:=by
      unfold AA.k aaE
      simp only
      grind
    have hS:(aaE f e).S=(aaE e f).S:=by
      unfold aaE
      simp only
      grind
    have hkk:(aaE e f).k=(aaE e f).S-(radZ f*radZ f-radZ e*radZ e):=rfl
    have hd:(aaE f e).delta=(aaE e f).delta:=by
      unfold AA.delta
      rw[hS,hk,hkk]
      have e1:(aaE f e).r=radZ f:=rfl
      have e2:(aaE e f).r=radZ e:=rfl
      rw[e1,e2]
      grind
    obtain⟨k,K⟩:∃k,(aaE e f).k=k:=⟨_,rfl⟩
    obtain⟨S,hS'⟩:∃S,(aaE e f).S=S:=⟨_,rfl⟩
    have hl:(aaE f e).list=negs [((k-2*S)*(aaE e f).ds,(aaE e f).ps),((k-2*S)*(aaE e f).dt,(aaE e f).pt),(k*(aaE e f).du,(aaE e f).pu),(k*(aaE e f).dv,(aaE e f).pv)]:=by
      unfold AA.list negs
      rw[hk,hS,K,hS']
      simp only[List.map_cons,List.map_nil,List.cons.injEq,Prod.mk.injEq,and_true,aaE]
      (repeat' apply And.intro)<;>grind
    rw[hd,hl,countC_negs,countC_perm (perm_lr ..)]
    unfold AA.list
    rw[K,hS']
theorem countE_comm(e f:Ed):countE f e=countE e f:=by
  unfold countE
  rw[Bool.and_comm]
  cases ho:(e.ok&&f.ok) with
  | false=>rfl
  | true =>
    obtain⟨oe,of⟩:e.ok=true/\f.ok=true:=by simpa using ho
    simp only[Bool.not_true,Bool.false_eq_true,if_false]
    by_cases k1:e.k=1
    . by_cases k2 : f.k = 1
      . simp only [if_pos k1, if_pos k2]
        cases p1:e.pt with
        | true =>
          cases p2:f.pt with
          | true =>
            simp only[if_true]
            unfold onZ
            have:onE e f.ax f.ay=onE f e.ax e.ay:=by
              rw[Bool.eq_iff_iff]
              constructor
              . intro g
                obtain⟨g1,g2⟩:=pt_on k1 p1 g
                rw[<- g1,<- g2]
                exact onE_self of k2
              . intro g
                obtain⟨g1,g2⟩:=pt_on k2 p2 g
                rw[<- g1,<- g2]
                exact onE_self oe k1
            rw[this]
          | false=>simp
        | false =>
          cases p2:f.pt with
          | true=>simp
          | false =>
            simp only[Bool.false_eq_true,if_false]
            refine linesZ_comm ?_ ?_
            . intro g
              rw[show e.pt=true by simp[Ed.pt,g.1,g.2]] at p1;cases p1
            . intro g
              rw[show f.pt=true by simp[Ed.pt,g.1,g.2]] at p2;cases p2
      . simp only[if_pos k1,if_neg k2]
    . by_cases k2 : f.k = 1
      . simp only[if_neg k1,if_pos k2]
      . simp only [if_neg k1, if_neg k2]
        exact arcsZ_comm e f
theorem rev_k{e:Ed}(h:e.ok=true):(e.k=1/\(revE e).k=1)\/(e.k=2/\(revE e).k=3)\/(e.k=3/\(revE e).k=2):=by
  rcases kind_of h with k|k|k
  . left;exact⟨k,by show (fam e.k).k=1;rw[k];rfl⟩
  . right;left;exact⟨k,by show (fam e.k).k=3;rw[k];rfl⟩
  . right;right;exact⟨k,by show (fam e.k).k=2;rw[k];rfl⟩
theorem rev_k1{e:Ed}(h:e.ok=true):(revE e).k=1 <-> e.k=1:=by rcases rev_k h with⟨a,b⟩|⟨a,b⟩|⟨a,b⟩<;>rw[a,b]<;>decide
theorem rad_eq{e:Ed}(h:e.ok=true)(hk:¬e.k=1):radZ e=max (max (e.ax-e.cx) (-(e.ax-e.cx))) (max (e.ay-e.cy) (-(e.ay-e.cy))):=by
  have hkb:(e.k==1)=false:=by simpa using hk
  unfold radZ
  rw[h,hkb]
  rfl

section
def IsoOk(a b c d:Int):Prop:=(b=0/\c=0/\(a=1\/a = -1)/\(d=1\/d = -1))\/(a=0/\d=0/\(b=1\/b = -1)/\(c=1\/c = -1))
theorem dot_iso{a b c d:Int}(h:IsoOk a b c d)(x y z w:Int):(a*x+b*y)*(a*z+b*w)+(c*x+d*y)*(c*z+d*w)=x*z+y*w:=by
 rcases h with⟨rfl,rfl,rfl|rfl,rfl|rfl⟩|⟨rfl,rfl,rfl|rfl,rfl|rfl⟩<;>grind
theorem crs_iso{a b c d:Int}(x y z w:Int):(a*x+b*y)*(c*z+d*w)-(c*x+d*y)*(a*z+b*w)=(a*d-b*c)*(x*w-y*z):=by grind
theorem det_iso{a b c d:Int}(h:IsoOk a b c d):a*d-b*c=1\/a*d-b*c = -1:=by
 rcases h with⟨rfl,rfl,rfl|rfl,rfl|rfl⟩|⟨rfl,rfl,rfl|rfl,rfl|rfl⟩<;>decide
theorem sub_iso(a b x y z w t:Int):a*x+b*y+t-(a*z+b*w+t)=a*(x-z)+b*(y-w):=by grind
theorem applyP_iso(x y t:Int)(m:Bool)(ht:0<=t/\t<=3):∃a b c d,IsoOk a b c d/\∀px py,applyP x y t m px py=(a*px+b*py+x,c*px+d*py+y):=by
 unfold IsoOk
 obtain rfl|rfl|rfl|rfl:t=0\/t=1\/t=2\/t=3:=by omega
 ·cases m
  ·exact⟨1,0,0,1,by decide,fun px py=>by simp[applyP,mir,rot]⟩
  ·exact⟨-1,0,0,1,by decide,fun px py=>by simp[applyP,mir,rot]⟩
 ·cases m
  ·exact⟨0,-1,1,0,by decide,fun px py=>by simp[applyP,mir,rot]⟩
  ·exact⟨0,-1,-1,0,by decide,fun px py=>by simp[applyP,mir,rot]⟩
 ·cases m
  ·exact⟨-1,0,0,-1,by decide,fun px py=>by simp[applyP,mir,rot]⟩
  ·exact⟨1,0,0,-1,by decide,fun px py=>by simp[applyP,mir,rot]⟩
 ·cases m
  ·exact⟨0,1,-1,0,by decide,fun px py=>by simp[applyP,mir,rot]⟩
  ·exact⟨0,1,1,0,by decide,fun px py=>by simp[applyP,mir,rot]⟩
structure Mvd (a b c d x y:Int) (e e':Ed):Prop where
 iso:IsoOk a b c d
 ok:e.ok=true
 ok':e'.ok=true
 k:e'.k=1 <-> e.k=1
 ax:e'.ax=a*e.ax+b*e.ay+x
 ay:e'.ay=c*e.ax+d*e.ay+y
 bx:e'.bx=a*e.bx+b*e.by'+x
 by':e'.by'=c*e.bx+d*e.by'+y
 cx:¬e.k=1->e'.cx=a*e.cx+b*e.cy+x
 cy:¬e.k=1->e'.cy=c*e.cx+d*e.cy+y
variable {a b c d x y:Int} {e e' f f':Ed}
theorem Mvd.rad(h:Mvd a b c d x y e e')(hk:¬e.k=1):radZ e'=radZ e:=by
 rw[rad_eq h.ok hk,rad_eq h.ok' (fun g=>hk (h.k.1 g)),h.ax,h.ay,h.cx hk,h.cy hk,sub_iso,sub_iso]
 rcases h.iso with⟨rfl,rfl,rfl|rfl,rfl|rfl⟩|⟨rfl,rfl,rfl|rfl,rfl|rfl⟩<;>omega
theorem tdiv_iso{a b c d:Int}(h:IsoOk a b c d)(x y r:Int):(a*x+b*y).tdiv r=a*x.tdiv r+b*y.tdiv r/\(c*x+d*y).tdiv r=c*x.tdiv r+d*y.tdiv r:=by
 rcases h with⟨rfl,rfl,rfl|rfl,rfl|rfl⟩|⟨rfl,rfl,rfl|rfl,rfl|rfl⟩<;>simp[Int.neg_tdiv,Int.neg_mul]
theorem Mvd.axes(h:Mvd a b c d x y e e')(hk:¬e.k=1):e'.ux=a*e.ux+b*e.uy/\e'.uy=c*e.ux+d*e.uy/\e'.vx=a*e.vx+b*e.vy/\e'.vy=c*e.vx+d*e.vy:=by
 unfold Ed.ux Ed.uy Ed.vx Ed.vy
 rw[h.rad hk,h.ax,h.ay,h.bx,h.by',h.cx hk,h.cy hk,sub_iso,sub_iso,sub_iso,sub_iso]
 exact⟨(tdiv_iso h.iso ..).1,(tdiv_iso h.iso ..).2,(tdiv_iso h.iso ..).1,(tdiv_iso h.iso ..).2⟩
theorem btw_iso{a b c d:Int}(h:IsoOk a b c d)(x y px py ax ay bx by':Int):(Btw (a*ax+b*ay+x) (a*px+b*py+x) (a*bx+b*by'+x)/\Btw (c*ax+d*ay+y) (c*px+d*py+y) (c*bx+d*by'+y)) <-> Btw ax px bx/\Btw ay py by':=by
 unfold Btw
 rcases h with⟨rfl,rfl,rfl|rfl,rfl|rfl⟩|⟨rfl,rfl,rfl|rfl,rfl|rfl⟩<;>omega
theorem Mvd.on(h:Mvd a b c d x y e e')(px py:Int):onE e' (a*px+b*py+x) (c*px+d*py+y)=onE e px py:=by
 unfold onE
 rw[h.ok,h.ok']
 have hb:inB (min e'.ax e'.bx) (min e'.ay e'.by') (max e'.ax e'.bx) (max e'.ay e'.by') (a*px+b*py+x) (c*px+d*py+y)=inB (min e.ax e.bx) (min e.ay e.by') (max e.ax e.bx) (max e.ay e.by') px py:=by
  rw[Bool.eq_iff_iff,inB_iff,inB_iff,h.ax,h.ay,h.bx,h.by']
  exact btw_iso h.iso ..
 rw[hb]
 by_cases hk:e.k=1
 ·rw [if_pos hk, if_pos (h.k.2 hk)]
  have:(sideI ((e'.bx-e'.ax)*(c*px+d*py+y-e'.ay)-(e'.by'-e'.ay)*(a*px+b*py+x-e'.ax))==0)=(sideI ((e.bx-e.ax)*(py-e.ay)-(e.by'-e.ay)*(px-e.ax))==0):=by
   rw[Bool.eq_iff_iff,sideI_0,sideI_0,h.ax,h.ay,h.bx,h.by',sub_iso,sub_iso,sub_iso,sub_iso,crs_iso]
   rcases det_iso h.iso with g|g<;>rw[g]<;>omega
  rw[this]
 ·rw [if_neg hk, if_neg (fun g => hk (h.k.1 g))]
  have:powerI (a*px+b*py+x-e'.cx) (c*px+d*py+y-e'.cy) (e'.ax-e'.cx) (e'.ay-e'.cy)=powerI (px-e.cx) (py-e.cy) (e.ax-e.cx) (e.ay-e.cy):=by
   unfold powerI
   rw[h.ax,h.ay,h.cx hk,h.cy hk,sub_iso,sub_iso,sub_iso,sub_iso,dot_iso h.iso,dot_iso h.iso]
  rw[this]
theorem eq_iso{a b c d:Int}(h:IsoOk a b c d)(x y z w:Int):(a*x+b*y=a*z+b*w/\c*x+d*y=c*z+d*w) <-> x=z/\y=w:=by
 rcases h with⟨rfl,rfl,rfl|rfl,rfl|rfl⟩|⟨rfl,rfl,rfl|rfl,rfl|rfl⟩<;>omega
theorem beq_iso{a b c d:Int}(h:IsoOk a b c d)(x y z w:Int):(a*x+b*y==a*z+b*w&&c*x+d*y==c*z+d*w)=(x==z&&y==w):=by
 rw[Bool.eq_iff_iff,Bool.and_eq_true,Bool.and_eq_true,beq_iff_eq,beq_iff_eq,beq_iff_eq,beq_iff_eq]
 exact eq_iso h ..
theorem Mvd.pt(h:Mvd a b c d x y e e'):e'.pt=e.pt:=by
 unfold Ed.pt
 rw[h.ax,h.ay,h.bx,h.by',<- beq_iso h.iso e.ax e.ay e.bx e.by',Bool.eq_iff_iff]
 simp only[Bool.and_eq_true,beq_iff_eq]
 omega
theorem side_iso{g:Int}(hg:g=1\/g = -1)(m n:Int):sideI (g*m)*sideI (g*n)=sideI m*sideI n:=by
 rcases hg with rfl|rfl
 ·rw[Int.one_mul,Int.one_mul]
 ·rw[Int.neg_one_mul,Int.neg_one_mul,sideI_opp,sideI_opp,Int.neg_mul_neg]
theorem lines_iso{a b c d:Int}(h:IsoOk a b c d)(x y px py qx qy rx ry sx sy:Int):linesZ (a*px+b*py+x) (c*px+d*py+y) (a*qx+b*qy+x) (c*qx+d*qy+y) (a*rx+b*ry+x) (c*rx+d*ry+y) (a*sx+b*sy+x) (c*sx+d*sy+y)=linesZ px py qx qy rx ry sx sy:=by
 rw[linesZ_eq,linesZ_eq]
 unfold crI
 simp only[sub_iso,crs_iso,dot_iso h]
 have hg:=det_iso h
 rw[side_iso hg,side_iso hg]
 have e1 (n:Int):(a*d-b*c)*n≠0 <-> n≠0:=by rcases hg with g|g<;>rw[g]<;>omega
 simp only[e1]
theorem countC_sgn{g:Int}(hg:g=1\/g = -1)(D:Int)(x1 y1 x2 y2 x3 y3 x4 y4:Int):countC D [(x1,g*y1),(x2,g*y2),(x3,g*y3),(x4,g*y4)]=countC D [(x1,y1),(x2,y2),(x3,y3),(x4,y4)]:=by
 rcases hg with rfl|rfl
 ·simp only[Int.one_mul]
 ·rw [<- countC_negs D [(x1, y1), (x2, y2), (x3, y3), (x4, y4)]]
  unfold negs
  simp only[Int.neg_one_mul,List.map_cons,List.map_nil]
theorem Mvd.cross(h:Mvd a b c d x y e e')(g:Mvd a b c d x y f f')(hk:¬f.k=1):crossZ e' f'=crossZ e f:=by
 have:laE e' f'=laE e f:=by
  obtain⟨x1,x2,x3,x4⟩:=g.axes hk
  unfold laE
  rw[x1,x2,x3,x4,g.rad hk,h.ax,h.ay,h.bx,h.by',g.cx hk,g.cy hk]
  simp only[sub_iso,dot_iso h.iso]
 unfold crossZ
 rw[this]
theorem prp_iso{a b c d:Int}(x y z w:Int) : -(c*x+d*y)*(a*z+b*w)+(a*x+b*y)*(c*z+d*w)=(a*d-b*c)*(-y*z+x*w):=by grind
theorem Mvd.arcs(h:Mvd a b c d x y e e')(g:Mvd a b c d x y f f')(hk:¬e.k=1)(gk:¬f.k=1):arcsZ e' f'=arcsZ e f:=by
 obtain⟨x1,x2,x3,x4⟩:=h.axes hk
 obtain⟨y1,y2,y3,y4⟩:=g.axes gk
 have hc:(e'.cx=f'.cx/\e'.cy=f'.cy) <-> e.cx=f.cx/\e.cy=f.cy:=by
  rw[h.cx hk,h.cy hk,g.cx gk,g.cy gk,<- eq_iso h.iso e.cx e.cy f.cx f.cy]
  omega
 unfold arcsZ
 rw[x1,x2,x3,x4,y1,y2,y3,y4,h.rad hk,g.rad gk]
 simp only[hc,beq_iso h.iso]
 split
 ·rfl
 ·rw [countZ_eq, countZ_eq]
  have hl:aaE e' f'={ aaE e f with pu:=(a*d-b*c)*(aaE e f).pu,pv:=(a*d-b*c)*(aaE e f).pv,ps:=(a*d-b*c)*(aaE e f).ps,pt:=(a*d-b*c)*(aaE e f).pt }:=by
   unfold aaE
   rw[x1,x2,x3,x4,y1,y2,y3,y4,h.rad hk,g.rad gk,h.cx hk,h.cy hk,g.cx gk,g.cy gk]
   simp only[sub_iso,dot_iso h.iso,prp_iso]
  rw[hl]
  exact countC_sgn (det_iso h.iso) ..
theorem Mvd.count(h:Mvd a b c d x y e e')(g:Mvd a b c d x y f f'):countE e' f'=countE e f:=by
 have hl:linesZ e'.ax e'.ay e'.bx e'.by' f'.ax f'.ay f'.bx f'.by'=linesZ e.ax e.ay e.bx e.by' f.ax f.ay f.bx f.by':=by
  rw[h.ax,h.ay,h.bx,h.by',g.ax,g.ay,g.bx,g.by']
  exact lines_iso h.iso ..
 have o1:onZ f' e'.ax e'.ay=onZ f e.ax e.ay:=by unfold onZ;rw[h.ax,h.ay,g.on]
 have o2:onZ e' f'.ax f'.ay=onZ e f.ax f.ay:=by unfold onZ;rw[g.ax,g.ay,h.on]
 unfold countE
 rw[h.ok,h.ok',g.ok,g.ok',h.pt,g.pt,hl,o1,o2]
 by_cases k1:e.k=1
 ·by_cases k2 : f.k = 1
  ·simp only[if_pos k1,if_pos k2,if_pos (h.k.2 k1),if_pos (g.k.2 k2)]
  ·simp only[if_pos k1,if_neg k2,if_pos (h.k.2 k1),if_neg (fun t=>k2 (g.k.1 t)),h.cross g k2]
 ·by_cases k2 : f.k = 1
  ·simp only[if_neg k1,if_pos k2,if_neg (fun t=>k1 (h.k.1 t)),if_pos (g.k.2 k2),g.cross h k1]
  ·simp only[if_neg k1,if_neg k2,if_neg (fun t=>k1 (h.k.1 t)),if_neg (fun t=>k2 (g.k.1 t)),h.arcs g k1 k2]
theorem move_ok{e:Ed}(h:e.ok=true)(x y t:Int)(m:Bool)(ht:0<=t/\t<=3)(hx : -1048576<=x/\x<=1048576)(hy : -1048576<=y/\y<=1048576)
  (s1 : -1048576<=e.ax/\e.ax<=1048576) (s2 : -1048576<=e.ay/\e.ay<=1048576) (s3 : -1048576<=e.bx/\e.bx<=1048576) (s4 : -1048576<=e.by'/\e.by'<=1048576) (s5 : -1048576<=e.cx/\e.cx<=1048576) (s6 : -1048576<=e.cy/\e.cy<=1048576):(moveE e x y t m).ok=true:=by
 have co:∀px py:Int,-1048576<=px/\px<=1048576 -> -1048576<=py/\py<=1048576->coordB (applyP x y t m px py).1 (applyP x y t m px py).2=true:=by
  intro px py h1 h2
  obtain⟨a,b,c,d,hi,hp⟩:=applyP_iso x y t m ht
  rw[hp,coordB_iff]
  unfold Co
  rcases hi with⟨rfl,rfl,rfl|rfl,rfl|rfl⟩|⟨rfl,rfl,rfl|rfl,rfl|rfl⟩<;>omega
 have hr:=h
 unfold Ed.ok at h ⊢
 simp only[Bool.and_eq_true] at h ⊢
 obtain⟨h1,h2⟩:=h
 have hk:(moveE e x y t m).k=if m then (fam e.k).k else e.k:=rfl
 have hrk:=rev_k hr
 have hrk':(revE e).k=(fam e.k).k:=rfl
 refine⟨?_,?_⟩
 ·unfold Ed.right moveE
  simp only[Bool.and_eq_true]
  refine⟨⟨co _ _ s1 s2,co _ _ s3 s4⟩,?_⟩
  by_cases k1:e.k=1
  ·simp only [if_pos k1]
   rw[coordB_iff]
   unfold Co
   omega
  ·simp only [if_neg k1]
   exact co _ _ s5 s6
 ·by_cases k1 : e.k = 1
  ·have : (moveE e x y t m).k = 1 := by rw [hk]; cases m <;> first | exact k1 | (rw [k1]; rfl)
   rw[if_pos this]
   rw[if_pos k1] at h2
   unfold Ed.lone moveE at *
   simpa[k1] using h2
  ·have q (n:Nat):(moveE e x y t m).quarter n=quarterB ((applyP x y t m e.ax e.ay).1-(applyP x y t m e.cx e.cy).1) ((applyP x y t m e.ax e.ay).2-(applyP x y t m e.cx e.cy).2) ((applyP x y t m e.bx e.by').1-(applyP x y t m e.cx e.cy).1) ((applyP x y t m e.bx e.by').2-(applyP x y t m e.cx e.cy).2) n:=by
    unfold Ed.quarter moveE
    simp only[if_neg k1]
   have q2 (n:Nat):quarterB ((applyP x y t m e.ax e.ay).1-(applyP x y t m e.cx e.cy).1) ((applyP x y t m e.ax e.ay).2-(applyP x y t m e.cx e.cy).2) ((applyP x y t m e.bx e.by').1-(applyP x y t m e.cx e.cy).1) ((applyP x y t m e.bx e.by').2-(applyP x y t m e.cx e.cy).2) n=quarterB (rot t.toNat (mir m (e.ax-e.cx,e.ay-e.cy))).1 (rot t.toNat (mir m (e.ax-e.cx,e.ay-e.cy))).2 (rot t.toNat (mir m (e.bx-e.cx,e.by'-e.cy))).1 (rot t.toNat (mir m (e.bx-e.cx,e.by'-e.cy))).2 n:=by
    have r (px py:Int):(applyP x y t m px py).1-(applyP x y t m e.cx e.cy).1=(rot t.toNat (mir m (px-e.cx,py-e.cy))).1/\(applyP x y t m px py).2-(applyP x y t m e.cx e.cy).2=(rot t.toNat (mir m (px-e.cx,py-e.cy))).2:=by
     obtain rfl|rfl|rfl|rfl:t=0\/t=1\/t=2\/t=3:=by omega
     all_goals cases m<;>simp[applyP,mir,rot]<;>omega
    rw[(r _ _).1,(r _ _).2,(r _ _).1,(r _ _).2]
   obtain⟨D,hD⟩:∃D,e.ax-e.cx=D:=⟨_,rfl⟩
   obtain⟨F,hF⟩:∃F,e.ay-e.cy=F:=⟨_,rfl⟩
   have key (n n':Nat) (hq:e.quarter n=true) (hn:(n=1\/n=3)/\n'=if m then 4-n else n):(moveE e x y t m).quarter n'=true:=by
    rw[q,q2]
    unfold Ed.quarter at hq
    rw[hD,hF] at hq ⊢
    unfold quarterB at hq
    simp only[Bool.and_eq_true,beq_iff_eq] at hq
    obtain⟨g1,g2,g3⟩:=hq
    rw[g2,g3]
    have bn (z:Int):(-z==0)=(z==0):=by rw[Bool.eq_iff_iff,beq_iff_eq,beq_iff_eq,Int.neg_eq_zero]
    have g1':((F==0) != (D==0))=true:=by rw[bne_swap];exact g1
    obtain rfl|rfl|rfl|rfl:t=0\/t=1\/t=2\/t=3:=by omega
    all_goals
     obtain⟨rfl|rfl,rfl⟩:=hn
     all_goals
      cases m
      all_goals
       simp[quarterB,rot,mir,bn]
       first|exact g1|exact g1'|simpa using g1|simpa using g1'
   rw[hk]
   rcases hrk with⟨c1,c2⟩|⟨c1,c2⟩|⟨c1,c2⟩
   ·exact absurd c1 k1
   ·rw [hrk'] at c2
    rw[c1] at h2
    have:=key 1 (if m then 3 else 1) h2 ⟨.inl rfl,by cases m<;>rfl⟩
    cases m
    ·simp only [Bool.false_eq_true, if_false, c1]
     exact this
    ·simp only [if_true, c2]
     exact this
   ·rw [hrk'] at c2
    rw[c1] at h2
    have:=key 3 (if m then 1 else 3) h2 ⟨.inr rfl,by cases m<;>rfl⟩
    cases m
    ·simp only [Bool.false_eq_true, if_false, c1]
     exact this
    ·simp only [if_true, c2]
     exact this
end
theorem sideZ_both{t:Int}(ht:0<t)(a b c:Int):sideZ (t*a) (t*b) c=sideZ a b c:=by
 unfold sideZ
 rw[sgn_mul ht,sgn_mul ht,show t*a*(t*a)=t*t*(a*a) by grind,show t*b*(t*b)*c=t*t*(b*b*c) by grind,cmpZ_mul (Int.mul_pos ht ht)]
end Go.Proofs.YtceemiodpccbhaaGreat
