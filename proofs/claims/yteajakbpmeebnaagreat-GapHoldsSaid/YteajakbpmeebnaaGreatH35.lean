import Derived.Test.YteajakbpmeebnaaGreatH34
set_option linter.unusedVariables false
set_option linter.unusedSimpArgs false

namespace Go.Proofs.YteajakbpmeebnaaGreat
open Go.RowKit

set_option maxHeartbeats 8000000
section
theorem mul_posP{x y:Int}(h:0<x*y):(0<x/\0<y)\/(x<0/\y<0):=by
  rcases Int.lt_trichotomy x 0 with g|g|g
  . rcases Int.lt_or_le y 0 with f | f
    . exact .inr ⟨g,f⟩
    . have:=Int.mul_nonpos_of_nonpos_of_nonneg (Int.le_of_lt g) f;omega
  . rw[g,Int.zero_mul] at h;omega
  . rcases Int.lt_or_le 0 y with f | f
    . exact .inl ⟨g,f⟩
    . have:=Int.mul_nonpos_of_nonneg_of_nonpos (Int.le_of_lt g) f;omega
theorem mul_negP{x y:Int}(h:x*y<0):(0<x/\y<0)\/(x<0/\0<y):=by
  have:=mul_posP (x:=x) (y := -y) (by rw[Int.mul_neg];omega)
  omega
theorem mono_lineV{x1 y1 x2 y2:Int}(nz:Bx0 x1 y1 x2 y2->¬x1*y2-x2*y1=0):Mono x1 y1 x2 y2 (if 0<x1*y2-x2*y1 then 1 else -1):=by
  refine⟨by split<;>simp,fun hb=>?_⟩
  have n:=nz hb
  have k1:=fun h=>mul_posP (x:=x1) (y:=y2) h
  have k2:=fun h=>mul_negP (x:=x1) (y:=y2) h
  have k3:=fun h=>mul_posP (x:=x2) (y:=y1) h
  have k4:=fun h=>mul_negP (x:=x2) (y:=y1) h
  have z1:x1=0->x1*y2=0:=fun h=>by rw[h,Int.zero_mul]
  have z2:x2=0->x2*y1=0:=fun h=>by rw[h,Int.zero_mul]
  have z3:y1=0->x2*y1=0:=fun h=>by rw[h,Int.mul_zero]
  have z4:y2=0->x1*y2=0:=fun h=>by rw[h,Int.mul_zero]
  generalize x1*y2=p at *
  generalize x2*y1=q at *
  by_cases hc:0<p-q
  . rw [if_pos hc]
    refine⟨fun h=>?_,fun h=>?_,fun h=>?_,fun h=>?_⟩
    . have:=z1 h;have:=k4 (by omega);omega
    . have:=z2 h;have:=k1 (by omega);omega
    . have:=z3 h;have:=k1 (by omega);omega
    . have:=z4 h;have:=k4 (by omega);omega
  . rw [if_neg hc]
    refine⟨fun h=>?_,fun h=>?_,fun h=>?_,fun h=>?_⟩
    . have:=z1 h;have:=k3 (by omega);omega
    . have:=z2 h;have:=k2 (by omega);omega
    . have:=z3 h;have:=k2 (by omega);omega
    . have:=z4 h;have:=k3 (by omega);omega
def sideE(e:Ed)(px py:Int):Int:=if e.k=1 then (if 0<(e.ax-px)*(e.by'-py)-(e.bx-px)*(e.ay-py) then 1 else -1) else if (px-e.cx)*(px-e.cx)+(py-e.cy)*(py-e.cy)<radZ e*radZ e then e.ux*e.vy-e.uy*e.vx else -(e.ux*e.vy-e.uy*e.vx)
theorem mono_line{e:Ed}{px py:Int}(hk:e.k=1)(ho:e.ok=true)(h:onE e px py=false):Mono (e.ax-px) (e.ay-py) (e.bx-px) (e.by'-py) (sideE e px py)/\rayZ e px py=rayM (e.ax-px) (e.ay-py) (e.bx-px) (e.by'-py) (sideE e px py):=by
  have nz:Bx0 (e.ax-px) (e.ay-py) (e.bx-px) (e.by'-py)->¬(e.ax-px)*(e.by'-py)-(e.bx-px)*(e.ay-py)=0:=fun hb hc=>by
    unfold Bx0 at hb
    have:onE e px py=true:=onE_line_mk hk ho (by unfold Btw;omega) (by unfold Btw;omega) (by grind)
    rw[h] at this;cases this
  unfold sideE
  rw[if_pos hk]
  refine⟨mono_lineV nz,?_⟩
  have u1:(px-e.ax)*(e.by'-e.ay)<(py-e.ay)*(e.bx-e.ax) <-> 0<(e.ax-px)*(e.by'-py)-(e.bx-px)*(e.ay-py):=by
    have:(py-e.ay)*(e.bx-e.ax)-(px-e.ax)*(e.by'-e.ay)=(e.ax-px)*(e.by'-py)-(e.bx-px)*(e.ay-py):=by grind
    omega
  have u2:(px-e.bx)*(e.ay-e.by')<(py-e.by')*(e.ax-e.bx) <-> (e.ax-px)*(e.by'-py)-(e.bx-px)*(e.ay-py)<0:=by
    have:(py-e.by')*(e.ax-e.bx)-(px-e.bx)*(e.ay-e.by') = -((e.ax-px)*(e.by'-py)-(e.bx-px)*(e.ay-py)):=by grind
    omega
  unfold rayZ rayM beyZ beyL
  rw[if_pos hk]
  unfold Bx0 at nz
  generalize (e.ax-px)*(e.by'-py)-(e.bx-px)*(e.ay-py)=c at *
  by_cases h1:px<min e.ax e.bx
  . simp only [if_pos h1, and_true]
    have g1:0<min (e.ax-px) (e.bx-px):=by omega
    simp only[g1,true_or,and_true]
    (repeat' split)<;>omega
  . rw [if_neg h1]
    by_cases h2:px >= max e.ax e.bx
    . rw [if_pos h2]
      have g1:¬0<min (e.ax-px) (e.bx-px):=by omega
      have g2:¬0<max (e.ax-px) (e.bx-px):=by omega
      simp[g1,g2]
    . rw [if_neg h2]
      have g1:¬0<min (e.ax-px) (e.bx-px):=by omega
      have g2:0<max (e.ax-px) (e.bx-px):=by omega
      simp only[g1,g2,false_or,true_and]
      by_cases up:e.ay>e.by'
      . rw [if_pos up]
        simp only[decide_eq_true_eq,u2]
        by_cases hc:0<c
        . simp only[if_pos hc];(repeat' split)<;>omega
        . simp only[if_neg hc];(repeat' split)<;>omega
      . rw [if_neg up]
        simp only[decide_eq_true_eq,u1]
        by_cases hc:0<c
        . simp only[if_pos hc];(repeat' split)<;>omega
        . simp only[if_neg hc];(repeat' split)<;>omega
theorem bite3{p q:Prop}[Decidable p][Decidable q]{b:Bool}:(if p then true else if q then false else b)=true <-> (p\/(¬p/\¬q/\b=true)):=by
  by_cases hp:p<;>by_cases hq:q<;>simp[hp,hq]
theorem bite2{p:Prop}[Decidable p]{a b:Bool}:(if p then a else b)=true <-> ((p/\a=true)\/(¬p/\b=true)):=by
  by_cases hp:p<;>simp[hp]
def ArcV(X Y r x1 y1 x2 y2 τ:Int):Prop :=
  (x1=X+r/\y1=Y/\x2=X/\(y2=Y+r/\τ=1\/y2=Y-r/\τ = -1))\/(x1=X-r/\y1=Y/\x2=X/\(y2=Y-r/\τ=1\/y2=Y+r/\τ = -1)) \/
  (x1=X/\y1=Y+r/\y2=Y/\(x2=X-r/\τ=1\/x2=X+r/\τ = -1))\/(x1=X/\y1=Y-r/\y2=Y/\(x2=X+r/\τ=1\/x2=X-r/\τ = -1))
theorem mono_arcV{X Y r x1 y1 x2 y2 τ V W R:Int}(r0:0<r)(hV : -r<X->X<r->V<R)(hW : -r<Y->Y<r->W<R)(pV:¬X=0->0<V)(pW:¬Y=0->0<W)(zV:X=0->V=0)(zW:Y=0->W=0)(rV:X=r\/X = -r->V=R)(rW:Y=r\/Y = -r->W=R)
    (h:ArcV X Y r x1 y1 x2 y2 τ) (nz:Bx0 x1 y1 x2 y2->¬V+W=R):Mono x1 y1 x2 y2 (if V+W<R then τ else -τ) /\
    (if y1<=0/\0<y2/\(0<min x1 x2\/(¬0<min x1 x2/\¬max x1 x2<=0/\((2*X<x1+x2/\V+W<R)\/(¬2*X<x1+x2/\R<V+W/\0<X)))) then (1:Int) else if y2<=0/\0<y1/\(0<min x1 x2\/(¬0<min x1 x2/\¬max x1 x2<=0/\((2*X<x1+x2/\V+W<R)\/(¬2*X<x1+x2/\R<V+W/\0<X)))) then -1 else 0)=rayM x1 y1 x2 y2 (if V+W<R then τ else -τ):=by
  unfold Mono Bx0 rayM at *
  unfold ArcV at h
  rcases h with⟨rfl,rfl,rfl,h⟩|⟨rfl,rfl,rfl,h⟩|⟨rfl,rfl,rfl,h⟩|⟨rfl,rfl,rfl,h⟩<;>rcases h with⟨rfl,rfl⟩|⟨rfl,rfl⟩<;>by_cases hw:V+W<R <;>
    simp only[hw,if_true,if_false,not_true_eq_false,not_false_eq_true,show - -(1:Int)=1 from rfl,show (0:Int)<1 by decide,show ¬(1:Int)<0 by decide,show (-1:Int)<0 by decide,show ¬(0:Int) < -1 by decide,show ¬(1:Int) = -1 by decide,show ¬(-1:Int)=1 by decide,and_true,and_false,or_false,false_or,true_or,or_true,true_and,if_false] <;>
    refine⟨fun hb=>⟨fun g=>?_,fun g=>?_,fun g=>?_,fun g=>?_⟩,?_⟩
  all_goals first
    | (have:=nz hb;omega)
    | ((repeat' split)<;>omega)
theorem mono_arc{e:Ed}{px py:Int}(hk:¬e.k=1)(ho:e.ok=true)(h:onE e px py=false):Mono (e.ax-px) (e.ay-py) (e.bx-px) (e.by'-py) (sideE e px py)/\rayZ e px py=rayM (e.ax-px) (e.ay-py) (e.bx-px) (e.by'-py) (sideE e px py):=by
  obtain⟨r0,hu,hv,a1,a2,a3,a4⟩:=arc_axes ho hk
  obtain⟨r,R⟩:∃r,radZ e=r:=⟨_,rfl⟩
  obtain⟨X,hX⟩:∃X,e.cx-px=X:=⟨_,rfl⟩
  obtain⟨Y,hY⟩:∃Y,e.cy-py=Y:=⟨_,rfl⟩
  rw[R] at r0 a1 a2 a3 a4
  have X2:(px-e.cx)*(px-e.cx)=X*X:=by rw[<- hX];grind
  have Y2:(py-e.cy)*(py-e.cy)=Y*Y:=by rw[<- hY];grind
  have m0:r*0=0:=by omega
  have m1:r*1=r:=by omega
  have m2:r * -1 = -r:=by omega
  have n0 : -(0:Int)=0:=rfl
  have n1 : -(-1:Int)=1:=rfl
  have t1:∀t:Int,-r<t->t<r->t*t<r*r:=fun t g1 g2=>by
    rcases Int.le_total 0 t with f|f
    . have:=Int.mul_lt_mul_of_pos_right g2 r0;have:=Int.mul_le_mul_of_nonneg_left (Int.le_of_lt g2) f;omega
    . have k1 := Int.mul_lt_mul_of_pos_right (show -t < r by omega) r0
      have k2:=Int.mul_le_mul_of_nonneg_left (show -t<=r by omega) (show 0 <= -t by omega)
      rw[Int.neg_mul_neg] at k2;omega
  have t2:∀t:Int,¬t=0->0<t*t:=fun t g=>by
    have:=sqz_nn t
    have:¬t*t=0:=fun f=>by rcases Int.mul_eq_zero.1 f with g'|g'<;>exact g g'
    omega
  have x3:∀t:Int,t=0->t*t=0:=fun t h=>by rw[h];rfl
  have x4:∀t:Int,(t=r\/t = -r)->t*t=r*r:=fun t h=>by rcases h with h|h<;>rw[h];rw[Int.neg_mul_neg]
  have hA:∃τ,ArcV X Y r (e.ax-px) (e.ay-py) (e.bx-px) (e.by'-py) τ/\(e.ax-e.cx)*(e.ax-e.cx)+(e.ay-e.cy)*(e.ay-e.cy)=r*r/\e.ux*e.vy-e.uy*e.vx=τ:=by
    unfold ArcV
    rcases hu with⟨u1,u2⟩|⟨u1,u2⟩|⟨u1,u2⟩|⟨u1,u2⟩<;>rcases hv with⟨k0,v1,v2⟩|⟨k0,v1,v2⟩ <;>
      (rw [u1] at a1 v2; rw [u2] at a2 v1; rw [v1] at a3; rw [v2] at a4
       simp only[m0,m1,m2,n0,n1] at a1 a2 a3 a4
       first
        | exact⟨1,by omega,by rw[a1,a2];grind,by rw[u1,u2,v1,v2];decide⟩
        | exact⟨-1,by omega,by rw[a1,a2];grind,by rw[u1,u2,v1,v2];decide⟩)
  obtain⟨τ,hA,hr,hτ⟩:=hA
  have nz:Bx0 (e.ax-px) (e.ay-py) (e.bx-px) (e.by'-py)->¬X*X+Y*Y=r*r:=fun hb hc=>by
    unfold Bx0 at hb
    unfold onE powerI at h
    rw[ho,if_neg hk,X2,Y2,hr,inB_iff.2 ⟨by unfold Btw;omega,by unfold Btw;omega⟩] at h
    simp at h
    omega
  obtain⟨k1,k2⟩:=mono_arcV r0 (t1 X) (t1 Y) (t2 X) (t2 Y) (x3 X) (x3 Y) (x4 X) (x4 Y) hA nz
  have hs:sideE e px py=if X*X+Y*Y<r*r then τ else -τ:=by unfold sideE;rw[if_neg hk,X2,Y2,R,hτ]
  rw[hs]
  refine⟨k1,?_⟩
  rw[<- k2]
  unfold rayZ beyZ beyA
  rw[if_neg hk,R,X2,Y2]
  simp only[bite3,bite2,Bool.and_eq_true,decide_eq_true_eq]
  have c1:e.ay<=py <-> e.ay-py<=0:=by omega
  have c2:py<e.by' <-> 0<e.by'-py:=by omega
  have c3:e.by'<=py <-> e.by'-py<=0:=by omega
  have c4:py<e.ay <-> 0<e.ay-py:=by omega
  have c5:px<min e.ax e.bx <-> 0<min (e.ax-px) (e.bx-px):=by omega
  have c6:px >= max e.ax e.bx <-> max (e.ax-px) (e.bx-px)<=0:=by omega
  have c7:e.ax+e.bx>2*e.cx <-> 2*X<e.ax-px+(e.bx-px):=by omega
  have c8:px-e.cx<0 <-> 0<X:=by omega
  have c9:X*X+Y*Y>r*r <-> r*r<X*X+Y*Y:=Iff.rfl
  simp only[c1,c2,c3,c4,c5,c6,c7,c8,c9,and_true,Bool.false_eq_true,and_false,false_or]
theorem mono_e{e:Ed}{px py:Int}(ho:e.ok=true)(h:onE e px py=false):Mono (e.ax-px) (e.ay-py) (e.bx-px) (e.by'-py) (sideE e px py)/\rayZ e px py=rayM (e.ax-px) (e.ay-py) (e.bx-px) (e.by'-py) (sideE e px py):=by
  by_cases hk:e.k=1
  . exact mono_line hk ho h
  . exact mono_arc hk ho h
end
theorem bey_arc{e:Ed}{σ τ:Int}(Q:Qf e σ τ)(ho:e.ok=true)(hk:¬e.k=1){x y:Int}(hoff:onE e x y=false)(s0:0<=τ*(y-e.cy))(s1:τ*(y-e.cy)<=radZ e) :
  (beyZ e x y=true <-> (σ=1/\Befo (radZ e) (σ*(x-e.cx)) (τ*(y-e.cy))\/σ = -1/\Beyo (radZ e) (σ*(x-e.cx)) (τ*(y-e.cy))))/\(Beyo (radZ e) (σ*(x-e.cx)) (τ*(y-e.cy)) <-> ¬Befo (radZ e) (σ*(x-e.cx)) (τ*(y-e.cy))):=by
 have s2:=pm_sq Q.s
 have t2:=pm_sq Q.t
 have r0:=Q.r0
 have hne:0<=σ*(x-e.cx)->¬(x-e.cx)*(x-e.cx)+(y-e.cy)*(y-e.cy)=radZ e*radZ e:=fun h0 hc=>by
  have rr:0<radZ e*radZ e:=Int.mul_pos r0 r0
  have:onE e x y=true:=by
   refine onE_arc_mk ho hk (inQ_mk ho hk ?_ ?_ (by unfold sqI;omega)) hc
   ·rcases Q.c with ⟨u1, u2, v1, v2, _⟩ | ⟨u1, u2, v1, v2, _⟩
    ·rw[u1,u2];grind
    ·rw[u1,u2];grind
   ·rcases Q.c with ⟨u1, u2, v1, v2, _⟩ | ⟨u1, u2, v1, v2, _⟩
    ·rw[v1,v2];grind
    ·rw[v1,v2];grind
  rw[hoff] at this;cases this
 have hn:(σ*(x-e.cx))*(σ*(x-e.cx))+(τ*(y-e.cy))*(τ*(y-e.cy))=(x-e.cx)*(x-e.cx)+(y-e.cy)*(y-e.cy):=by grind
 have gg:(y-e.cy)*(y-e.cy)<=radZ e*radZ e:=by
  have:=sq_up s0 s1
  have e2:τ*(y-e.cy)*(τ*(y-e.cy))=(y-e.cy)*(y-e.cy):=by grind
  omega
 have hm:min e.ax e.bx=min e.cx (e.cx+σ*radZ e)/\max e.ax e.bx=max e.cx (e.cx+σ*radZ e)/\e.ax+e.bx=2*e.cx+σ*radZ e:=by
  rcases Q.c with⟨_,_,_,_,c1,_,c2,_⟩|⟨_,_,_,_,c1,_,c2,_⟩<;>rw[c1,c2]<;>omega
 obtain⟨m1,m2,m3⟩:=hm
 unfold Beyo Befo
 rw[hn]
 refine⟨?_,?_⟩
 ·unfold beyZ beyA
  rw[m1,m2,m3,if_neg hk]
  have xx:=sqz_nn (x-e.cx)
  have yy:=sqz_nn (y-e.cy)
  have hbig:∀t:Int,radZ e<=t->radZ e*radZ e<=t*t:=fun t ht=>sq_up (Int.le_of_lt r0) ht
  rcases Q.s with rfl|rfl
  ·have h1 := hbig (x - e.cx)
   simp only[Int.one_mul,true_and,false_and,or_false,show ¬(1:Int) = -1 by decide] at hne ⊢
   by_cases g1:x<min e.cx (e.cx+radZ e)
   ·rw[if_pos g1];simp;omega
   ·rw [if_neg g1]
    by_cases g2:x >= max e.cx (e.cx+radZ e)
    ·rw [if_pos g2]
     have:=h1 (by omega)
     simp;omega
    ·rw [if_neg g2, if_pos (by omega)]
     simp only[decide_eq_true_eq]
     omega
  ·have h1 := hbig (-(x - e.cx))
   have e1 : -(x-e.cx) * -(x-e.cx)=(x-e.cx)*(x-e.cx):=Int.neg_mul_neg _ _
   rw[e1] at h1
   simp only[Int.neg_one_mul,true_and,false_and,false_or,show ¬(-1:Int)=1 by decide] at hne ⊢
   by_cases g1:x<min e.cx (e.cx + -radZ e)
   ·rw [if_pos g1]
    have:=h1 (by omega)
    have:=hne (by omega)
    simp;omega
   ·rw [if_neg g1]
    by_cases g2:x >= max e.cx (e.cx + -radZ e)
    ·rw [if_pos g2]
     have x0:x=e.cx->(x-e.cx)*(x-e.cx)=0:=fun h=>by rw[h];simp
     simp;omega
    ·rw [if_neg g2, if_neg (by omega)]
     simp only[Bool.and_eq_true,decide_eq_true_eq]
     omega
 ·by_cases h0 : 0 <= σ * (x - e.cx)
  ·have:=hne h0;omega
  ·omega
theorem beq_of{a b:Bool}{P Q:Prop}(ha:a=true <-> P)(hb:b=true <-> Q)(h:P <-> Q):a=b:=by
 rw[Bool.eq_iff_iff,ha,hb,h]
theorem bne_of{a b:Bool}{P Q:Prop}(ha:a=true <-> P)(hb:b=true <-> Q)(h:P <-> ¬Q):a=!b:=by
 rw[Bool.eq_iff_iff,ha,h,<- hb];cases b<;>simp

section
theorem beyo_0{s h:Int}(s0:0<s):Beyo s h 0 <-> s<h:=by
 unfold Beyo
 constructor
 ·rintro ⟨h1, h2⟩
  rcases Int.lt_or_le s h with g|g
  ·exact g
  ·have:=sq_up h1 g;omega
 ·intro g
  have h1:=Int.mul_lt_mul_of_pos_left g s0
  have h2:=Int.mul_lt_mul_of_pos_right g (show 0<h by omega)
  exact⟨by omega,by omega⟩
theorem befo_0{s h:Int}(s0:0<s):Befo s h 0 <-> h<s:=by
 unfold Befo
 constructor
 ·rintro (g | g)
  ·omega
  ·rcases Int.lt_or_le h s with f | f
   ·exact f
   ·have:=sq_up (Int.le_of_lt s0) f;omega
 ·intro g
  rcases Int.lt_or_le h 0 with f|f
  ·exact .inl f
  ·have h1 := Int.mul_lt_mul_of_pos_right g s0
   have h2:=Int.mul_le_mul_of_nonneg_left (Int.le_of_lt g) f
   exact .inr (by omega)
theorem beyo_s{s h:Int}:Beyo s h s <-> 0<h:=by
 unfold Beyo
 constructor
 ·rintro ⟨h1, h2⟩
  rcases Int.lt_or_le 0 h with g|g
  ·exact g
  ·obtain rfl : h = 0 := by omega
   omega
 ·intro g
  have:=Int.mul_pos g g
  exact⟨by omega,by omega⟩
theorem befo_s{s h:Int}:Befo s h s <-> h<0:=by
 unfold Befo
 have:=sqz_nn h
 constructor
 ·rintro (g | g)
  ·exact g
  ·omega
 ·exact .inl
theorem beyo_n{s h g:Int}:Beyo s h (-g) <-> Beyo s h g:=by unfold Beyo;rw[Int.neg_mul_neg]
theorem befo_n{s h g:Int}:Befo s h (-g) <-> Befo s h g:=by unfold Befo;rw[Int.neg_mul_neg]
def AbS(r e h g:Int):Prop:=e=1/\Befo r h g\/e = -1/\Beyo r h g
section
variable {p q r s e f:Int}
theorem iff_no{P Q:Prop}(h1:P->¬Q->False)(h2:Q->¬P->False):P <-> Q:=⟨fun p=>Classical.byContradiction (h1 p),fun q=>Classical.byContradiction (h2 q)⟩
theorem ends_pe(r0:0<r)(s0:0<s)(he:e=1\/e = -1)(hf:f=1\/f = -1)(g0:0<=q+f*r)(g1:q+f*r<=s)(g2:0 <= -(f*q))(g3 : -(f*q)<=r)(M:LIa p q r s e f->LOa p q r s e f->¬(p=0/\q=0)->False)
  (xT:Beyo s p (q+f*r) <-> ¬Befo s p (q+f*r)) (xS:Beyo r (e*s-e*p) (-(f*q)) <-> ¬Befo r (e*s-e*p) (-(f*q))):Beyo s p (q+f*r) <-> AbS r e (e*s-e*p) (-(f*q)):=by
 unfold AbS
 rcases hf with rfl|rfl
 ·rw [Int.one_mul] at g0 g1 g2 g3 xT xS ⊢
  rw[Int.one_mul]
  rw[beyo_n,befo_n] at xS ⊢
  by_cases hc:p=0/\q=0
  ·obtain ⟨rfl, rfl⟩ := hc
   rw[Int.mul_zero,Int.sub_zero] at xS ⊢
   rw[Int.zero_add] at g1 xT ⊢
   rw[beyo_0 r0,befo_0 r0]
   have h1:=sq_up (Int.le_of_lt r0) g1
   have h2:¬Beyo s 0 r:=fun h=>by unfold Beyo at h;omega
   rcases he with rfl|rfl
   ·exact⟨fun h=>absurd h h2,by omega⟩
   ·exact⟨fun h=>absurd h h2,by omega⟩
  ·have M' : LIa p q r s e 1 -> LOa p q r s e 1 -> False := fun a b => M a b hc
   rcases he with rfl|rfl
   ·simp only [true_and, show ¬ (1 : Int) = -1 by decide, false_and, or_false, Int.one_mul] at xS ⊢
    refine iff_no (fun h1 h2=>arc_po r0 s0 (by omega) (by omega) g0 g1 M' (.inr ⟨?_,?_⟩)) (fun h1 h2=>arc_po r0 s0 (by omega) (by omega) g0 g1 M' (.inl ⟨?_,?_⟩))
    ·have:=xS.2 h2;unfold Beyo at this;exact⟨by omega,this.2⟩
    ·exact h1
    ·unfold Befo at h1; rcases h1 with h1 | h1
     ·exact .inl (by omega)
     ·exact .inr h1
    ·have:=Classical.not_not.1 (fun h=>h2 (xT.2 h));exact this
   ·simp only [true_and, show ¬ (-1 : Int) = 1 by decide, false_and, false_or] at xS ⊢
    have ee:(-1*s - -1*p)*(-1*s - -1*p)=(s-p)*(s-p):=by grind
    refine iff_no (fun h1 h2=>arc_pm r0 s0 (by omega) (by omega) g0 g1 M' (.inr ⟨?_,?_⟩)) (fun h1 h2=>arc_pm r0 s0 (by omega) (by omega) g0 g1 M' (.inl ⟨?_,?_⟩))
    ·have := Classical.not_not.1 (fun h => h2 (xS.2 h)); unfold Befo at this; rw [ee] at this
     rcases this with h|h
     ·exact .inl (by omega)
     ·exact .inr h
    ·exact h1
    ·unfold Beyo at h1;rw[ee] at h1;exact⟨by omega,h1.2⟩
    ·have:=Classical.not_not.1 (fun h=>h2 (xT.2 h));exact this
 ·have eq : q = r := by omega
  subst eq
  rw[show q + -1*q=0 by omega,show -(-1*q)=q by omega,beyo_0 s0,beyo_s,befo_s]
  rcases he with rfl|rfl
  ·simp;omega
  ·simp;omega
theorem ends_ee(r0:0<r)(s0:0<s)(he:e=1\/e = -1)(hf:f=1\/f = -1)(g0:0<=q)(g1:q<=s)(g2:0 <= -(f*q))(g3 : -(f*q)<=r)(M:LIa p q r s e f->LOa p q r s e f->¬(p=0/\q=0)->False)
  (xT:Beyo s (p+e*r) q <-> ¬Befo s (p+e*r) q) (xS:Beyo r (e*s-e*p) (-(f*q)) <-> ¬Befo r (e*s-e*p) (-(f*q))):Beyo s (p+e*r) q <-> AbS r e (e*s-e*p) (-(f*q)):=by
 unfold AbS
 rcases hf with rfl|rfl
 ·obtain rfl : q = 0 := by omega
  rw[show -(1*(0:Int))=0 from rfl,beyo_0 s0,beyo_0 r0,befo_0 r0]
  rcases he with rfl|rfl
  ·simp;omega
  ·simp;omega
 ·rw [show -(-1 * q) = q by omega] at g2 g3 xS ⊢
  by_cases hc:p=0/\q=0
  ·obtain ⟨rfl, rfl⟩ := hc
   rw[beyo_0 s0,beyo_0 r0,befo_0 r0]
   rcases he with rfl|rfl
   ·simp
   ·simp;omega
  ·have M' : LIa p q r s e (-1) -> LOa p q r s e (-1) -> False := fun a b => M a b hc
   rcases he with rfl|rfl
   ·simp only [true_and, show ¬ (1 : Int) = -1 by decide, false_and, or_false, Int.one_mul] at xS xT ⊢
    refine iff_no (fun h1 h2=>arc_ep r0 s0 g0 g3 g1 M' (.inr ⟨?_,?_⟩)) (fun h1 h2=>arc_ep r0 s0 g0 g3 g1 M' (.inl ⟨?_,?_⟩))
    ·have:=xS.2 h2;unfold Beyo at this;exact⟨by omega,this.2⟩
    ·exact h1
    ·unfold Befo at h1; rcases h1 with h1 | h1
     ·exact .inl (by omega)
     ·exact .inr h1
    ·have:=Classical.not_not.1 (fun h=>h2 (xT.2 h));exact this
   ·simp only [true_and, show ¬ (-1 : Int) = 1 by decide, false_and, false_or] at xS xT ⊢
    have ee:(-1*s - -1*p)*(-1*s - -1*p)=(s-p)*(s-p):=by grind
    rw[show p + -1*r=p-r by omega] at xT ⊢
    refine iff_no (fun h1 h2=>arc_em r0 s0 g0 g3 g1 M' (.inr ⟨?_,?_⟩)) (fun h1 h2=>arc_em r0 s0 g0 g3 g1 M' (.inl ⟨?_,?_⟩))
    ·have := Classical.not_not.1 (fun h => h2 (xS.2 h)); unfold Befo at this; rw [ee] at this
     rcases this with h|h
     ·exact .inl (by omega)
     ·exact .inr h
    ·exact h1
    ·unfold Beyo at h1;rw[ee] at h1;exact⟨by omega,h1.2⟩
    ·have:=Classical.not_not.1 (fun h=>h2 (xT.2 h));exact this
theorem ends_pp(r0:0<r)(s0:0<s)(he:e=1\/e = -1)(hf:f=1\/f = -1)(g0:0<=q+f*r)(g1:q+f*r<=s)(g2:0<=f*s-f*q)(g3:f*s-f*q<=r)(M:LIa p q r s e f->LOa p q r s e f->¬(p=0/\q=0)->False)
  (xT:Beyo s p (q+f*r) <-> ¬Befo s p (q+f*r)) (xS:Beyo r (-(e*p)) (f*s-f*q) <-> ¬Befo r (-(e*p)) (f*s-f*q)):Beyo s p (q+f*r) <-> AbS r e (-(e*p)) (f*s-f*q):=by
 unfold AbS
 rcases hf with rfl|rfl
 ·obtain rfl : s = q + r := by omega
  rw[show q+1*r=q+r by omega,show 1*(q+r)-1*q=r by omega,beyo_s,beyo_s,befo_s]
  rcases he with rfl|rfl
  ·simp
  ·simp
 ·rw [show q + -1 * r = q - r by omega] at g0 g1 xT ⊢
  rw[show -1*s - -1*q = -(s-q) by omega] at g2 g3 xS ⊢
  rw[beyo_n,befo_n] at xS ⊢
  have M':LIa p q r s e (-1)->LOa p q r s e (-1)->False:=fun a b=>M a b (by omega)
  rcases he with rfl|rfl
  ·simp only [true_and, show ¬ (1 : Int) = -1 by decide, false_and, or_false, Int.one_mul] at xS ⊢
   have ee : -p * -p=p*p:=Int.neg_mul_neg _ _
   refine iff_no (fun h1 h2=>arc_pp r0 s0 g0 g1 (by omega) M' (.inr ⟨?_,?_⟩)) (fun h1 h2=>arc_pp r0 s0 g0 g1 (by omega) M' (.inl ⟨?_,?_⟩))
   ·exact h1
   ·have:=xS.2 h2;unfold Beyo at this;rw[ee] at this;exact⟨by omega,this.2⟩
   ·have:=Classical.not_not.1 (fun h=>h2 (xT.2 h));exact this
   ·unfold Befo at h1; rw [ee] at h1; rcases h1 with h1 | h1
    ·exact .inl (by omega)
    ·exact .inr h1
  ·simp only [true_and, show ¬ (-1 : Int) = 1 by decide, false_and, false_or] at xS ⊢
   rw[show -(-1*p)=p by omega] at xS ⊢
   refine iff_no (fun h1 h2=>arc_pn r0 s0 g0 g1 (by omega) M' (.inl ⟨?_,?_⟩)) (fun h1 h2=>arc_pn r0 s0 g0 g1 (by omega) M' (.inr ⟨?_,?_⟩))
   ·exact h1
   ·have:=Classical.not_not.1 (fun h=>h2 (xS.2 h));exact this
   ·have:=Classical.not_not.1 (fun h=>h2 (xT.2 h));exact this
   ·exact h1
theorem ends_aa(r0:0<r)(s0:0<s)(he:e=1\/e = -1)(hf:f=1\/f = -1)(q0:0<=q)(q1:q<=s)(g0:0<=q+f*r)(g1:q+f*r<=s)(M:LIa p q r s e f->LOa p q r s e f->¬(p=0/\q=0)->False)
  (xT:Beyo s (p+e*r) q <-> ¬Befo s (p+e*r) q) (xS:Beyo s p (q+f*r) <-> ¬Befo s p (q+f*r)):Beyo s (p+e*r) q <-> Beyo s p (q+f*r):=by
 by_cases hc:p=0/\q=0
 ·obtain ⟨rfl, rfl⟩ := hc
  have:f=1:=by rcases hf with rfl|rfl<;>omega
  subst this
  rw[beyo_0 s0]
  have h1:=sq_up (a:=r) (b:=s) (by omega) (by omega)
  have h2:¬Beyo s 0 (0+1*r):=fun h=>by unfold Beyo at h;rw[show 0+1*r=r by omega] at h;omega
  rcases he with rfl|rfl
  ·exact⟨by omega,fun h=>absurd h h2⟩
  ·exact⟨by omega,fun h=>absurd h h2⟩
 ·have M' : LIa p q r s e f -> LOa p q r s e f -> False := fun a b => M a b hc
  refine iff_no (fun h1 h2=>?_) (fun h1 h2=>?_)
  ·have h2 := Classical.not_not.1 (fun h => h2 (xS.2 h))
   rcases he with rfl|rfl
   ·exact arc_ip r0 s0 hf q0 q1 g0 g1 M' (.inl ⟨by rwa [Int.one_mul] at h1,h2⟩)
   ·exact arc_im r0 s0 hf q0 q1 g0 g1 M' (.inl ⟨by rwa [show p + -1*r=p-r by omega] at h1,h2⟩)
  ·have h2 := Classical.not_not.1 (fun h => h2 (xT.2 h))
   rcases he with rfl|rfl
   ·exact arc_ip r0 s0 hf q0 q1 g0 g1 M' (.inr ⟨by rwa [Int.one_mul] at h2,h1⟩)
   ·exact arc_im r0 s0 hf q0 q1 g0 g1 M' (.inr ⟨by rwa [show p + -1*r=p-r by omega] at h2,h1⟩)
end
end

section
def InY(e:Ed)(y:Int):Prop:=min e.ay e.by'<=y/\y<=max e.ay e.by'
def EndOf(e:Ed)(x y:Int):Prop:=x=e.ax/\y=e.ay\/x=e.bx/\y=e.by'
theorem EndOf.on{e:Ed}{x y:Int}(h:EndOf e x y)(ho:e.ok=true):onE e x y=true:=by
 rcases h with⟨rfl,rfl⟩|⟨rfl,rfl⟩
 ·exact end_a ho
 ·exact end_b ho
theorem off_of{a b:Ed}{x y:Int}(hm:countE a b=0)(h:onE a x y=true):onE b x y=false:=by
 cases hb:onE b x y with
 | false=>rfl
 | true=>exact absurd hm (common_point h hb)
theorem Qf.strip{e:Ed}{σ τ y:Int}(Q:Qf e σ τ)(h:InY e y):0<=τ*(y-e.cy)/\τ*(y-e.cy)<=radZ e:=by
 have r0:=Q.r0
 unfold InY at h
 rcases Q.c with⟨_,_,_,_,_,c1,_,c2⟩|⟨_,_,_,_,_,c1,_,c2⟩<;>rw[c1,c2] at h<;>rcases Q.t with g|g<;>rw[g] at h ⊢<;>omega
theorem Qf.ends{e:Ed}{σ τ x y:Int}(Q:Qf e σ τ)(h:EndOf e x y):(x=e.cx/\y=e.cy+τ*radZ e)\/(x=e.cx+σ*radZ e/\y=e.cy):=by
 unfold EndOf at h
 rcases Q.c with⟨_,_,_,_,c1,c2,c3,c4⟩|⟨_,_,_,_,c1,c2,c3,c4⟩<;>rw[c1,c2,c3,c4] at h
 ·exact h.symm
 ·exact h
section
variable {a b:Ed} {σ τ σ' τ':Int}
theorem fr_p(A:Qf a σ τ)(B:Qf b σ' τ')(r:Int):τ'*(a.cy+τ*r-b.cy)=τ'*(a.cy-b.cy)+τ*τ'*r/\σ'*(a.cx+σ*r-b.cx)=σ'*(a.cx-b.cx)+σ*σ'*r:=⟨by grind,by grind⟩
theorem fr_s(A:Qf a σ τ)(B:Qf b σ' τ')(s:Int):σ*(b.cx+σ'*s-a.cx)=σ*σ'*s-σ*σ'*(σ'*(a.cx-b.cx))/\τ*(b.cy-a.cy) = -(τ*τ'*(τ'*(a.cy-b.cy)))/\σ*(b.cx-a.cx) = -(σ*σ'*(σ'*(a.cx-b.cx)))/\τ*(b.cy+τ'*s-a.cy)=τ*τ'*s-τ*τ'*(τ'*(a.cy-b.cy)):=by
 have s2:=pm_sq B.s
 have t2:=pm_sq B.t
 exact⟨by grind,by grind,by grind,by grind⟩
theorem pm_mul(h:σ=1\/σ = -1)(h':σ'=1\/σ' = -1):σ*σ'=1\/σ*σ' = -1:=by rcases h with rfl|rfl<;>rcases h' with rfl|rfl<;>decide
theorem iff_nn{P Q:Prop}(h:¬P <-> ¬Q):P <-> Q:=⟨fun p=>Classical.byContradiction fun q=>h.2 q p,fun q=>Classical.byContradiction fun p=>h.1 p q⟩
theorem flip_of(A:Qf a σ τ)(B:Qf b σ' τ'){u v:Bool}{r s hT gT hS gS:Int}(iT:u=true <-> (σ'=1/\Befo s hT gT\/σ' = -1/\Beyo s hT gT))(xT:Beyo s hT gT <-> ¬Befo s hT gT)(iS:v=true <-> (σ=1/\Befo r hS gS\/σ = -1/\Beyo r hS gS))(xS:Beyo r hS gS <-> ¬Befo r hS gS)(h:Beyo s hT gT <-> AbS r (σ*σ') hS gS):u=!v:=by
 refine bne_of iT iS ?_
 unfold AbS at h
 rw[xT,xS] at *
 generalize Befo s hT gT=P at *
 generalize Befo r hS gS=R at *
 rcases A.s with g|g<;>rcases B.s with g'|g'<;>subst g<;>subst g'<;>simp at h ⊢<;>(try rw[h])<;>(try simp)<;>(try (rw[<- h];simp))<;>(try (constructor<;>intro k<;>simp_all))
end
theorem arcs_k2{a b:Ed}(oa:a.ok=true)(ob:b.ok=true)(ka:¬a.k=1)(kb:¬b.k=1)(hm:countE a b=0){tx ty sx sy:Int}(hT:EndOf a tx ty)(hS:EndOf b sx sy)(iT:InY b ty)(iS:InY a sy):beyZ b tx ty=!beyZ a sx sy:=by
 obtain⟨σ,τ,A⟩:=qf_of oa ka
 obtain⟨σ',τ',B⟩:=qf_of ob kb
 obtain⟨t0,t1⟩:=B.strip iT
 obtain⟨u0,u1⟩:=A.strip iS
 obtain⟨jT,xT⟩:=bey_arc B ob kb (off_of hm (hT.on oa)) t0 t1
 obtain⟨jS,xS⟩:=bey_arc A oa ka (off_of ((countE_comm a b).trans hm) (hS.on ob)) u0 u1
 have M:=arcs_M oa ob ka kb hm A B
 have M':∀p q,p=σ'*(a.cx-b.cx)->q=τ'*(a.cy-b.cy)->LIa p q (radZ a) (radZ b) (σ*σ') (τ*τ')->LOa p q (radZ a) (radZ b) (σ*σ') (τ*τ')->¬(p=0/\q=0)->False:=fun p q e1 e2 h1 h2 h3=>by
  subst e1;subst e2
  exact M h1 h2 fun ⟨g1,g2⟩=>h3 ⟨by rw[g1];simp,by rw[g2];simp⟩
 have he:=pm_mul A.s B.s
 have hf:=pm_mul A.t B.t
 have N:=arcs_M ob oa kb ka ((countE_comm a b).trans hm) B A
 have N':∀p q,p=σ*(b.cx-a.cx)->q=τ*(b.cy-a.cy)->LIa p q (radZ b) (radZ a) (σ'*σ) (τ'*τ)->LOa p q (radZ b) (radZ a) (σ'*σ) (τ'*τ)->¬(p=0/\q=0)->False:=fun p q e1 e2 h1 h2 h3=>by
  subst e1;subst e2
  exact N h1 h2 fun ⟨g1,g2⟩=>h3 ⟨by rw[g1];simp,by rw[g2];simp⟩
 have he':=pm_mul B.s A.s
 have hf':=pm_mul B.t A.t
 rcases A.ends hT with⟨e1,e2⟩|⟨e1,e2⟩<;>rcases B.ends hS with⟨e3,e4⟩|⟨e3,e4⟩<;>subst e1<;>subst e2<;>subst e3<;>subst e4
 ·rw [(fr_p A B _).1] at t0 t1 jT xT
  rw[(fr_s A B (radZ b)).2.2.2] at u0 u1 jS xS
  rw[(fr_s A B (radZ b)).2.2.1] at jS xS
  exact flip_of A B jT xT jS xS (ends_pp A.r0 B.r0 he hf t0 t1 u0 u1 (M' _ _ rfl rfl) xT xS)
 ·rw [(fr_p A B _).1] at t0 t1 jT xT
  rw[(fr_s A B (radZ b)).2.1] at u0 u1 jS xS
  rw[(fr_s A B (radZ b)).1] at jS xS
  exact flip_of A B jT xT jS xS (ends_pe A.r0 B.r0 he hf t0 t1 u0 u1 (M' _ _ rfl rfl) xT xS)
 ·rw [(fr_p B A _).1] at u0 u1 jS xS
  rw[(fr_s B A (radZ a)).2.1] at t0 t1 jT xT
  rw[(fr_s B A (radZ a)).1] at jT xT
  have:=flip_of B A jS xS jT xT (ends_pe B.r0 A.r0 he' hf' u0 u1 t0 t1 (N' _ _ rfl rfl) xS xT)
  rw[this];simp
 ·rw [(fr_p A B _).2] at jT xT
  rw[(fr_s A B (radZ b)).2.1] at u0 u1 jS xS
  rw[(fr_s A B (radZ b)).1] at jS xS
  exact flip_of A B jT xT jS xS (ends_ee A.r0 B.r0 he hf t0 t1 u0 u1 (M' _ _ rfl rfl) xT xS)
theorem arcs_k1{a b:Ed}(oa:a.ok=true)(ob:b.ok=true)(ka:¬a.k=1)(kb:¬b.k=1)(hm:countE a b=0)(h1:InY b a.ay)(h2:InY b a.by'):beyZ b a.ax a.ay=beyZ b a.bx a.by':=by
 obtain⟨σ,τ,A⟩:=qf_of oa ka
 obtain⟨σ',τ',B⟩:=qf_of ob kb
 have M:=arcs_M oa ob ka kb hm A B
 have M':∀p q,p=σ'*(a.cx-b.cx)->q=τ'*(a.cy-b.cy)->LIa p q (radZ a) (radZ b) (σ*σ') (τ*τ')->LOa p q (radZ a) (radZ b) (σ*σ') (τ*τ')->¬(p=0/\q=0)->False:=fun p q e1 e2 h1 h2 h3=>by
  subst e1;subst e2
  exact M h1 h2 fun ⟨g1,g2⟩=>h3 ⟨by rw[g1];simp,by rw[g2];simp⟩
 have he:=pm_mul A.s B.s
 have hf:=pm_mul A.t B.t
 have key:∀ex ey px py,ex=a.cx+σ*radZ a->ey=a.cy->px=a.cx->py=a.cy+τ*radZ a->InY b ey->InY b py->onE a ex ey=true->onE a px py=true->beyZ b ex ey=beyZ b px py:=by
  rintro ex ey px py rfl rfl rfl rfl i1 i2 o1 o2
  obtain⟨t0,t1⟩:=B.strip i1
  obtain⟨u0,u1⟩:=B.strip i2
  obtain⟨jT,xT⟩:=bey_arc B ob kb (off_of hm o1) t0 t1
  obtain⟨jS,xS⟩:=bey_arc B ob kb (off_of hm o2) u0 u1
  rw[(fr_p A B _).2] at jT xT
  rw[(fr_p A B _).1] at u0 u1 jS xS
  have h1:=ends_aa A.r0 B.r0 he hf t0 t1 u0 u1 (M' _ _ rfl rfl) xT xS
  have h2:=h1
  rw[xT,xS] at h2
  refine beq_of jT jS ?_
  rw[h1,iff_nn h2]
 have hA:=end_a oa
 have hB:=end_b oa
 rcases A.c with⟨_,_,_,_,c1,c2,c3,c4⟩|⟨_,_,_,_,c1,c2,c3,c4⟩
 ·exact key _ _ _ _ c1 c2 c3 c4 h1 h2 hA hB
 ·exact (key _ _ _ _ c3 c4 c1 c2 h2 h1 hB hA).symm
end
structure OnSeg (l e:Ed) (k a b:Int):Prop where
 k0:0<k
 ln:(l.bx-l.ax)*(b-k*(l.ay-e.cy))=(l.by'-l.ay)*(a-k*(l.ax-e.cx))
 p:0<=(a-k*(l.ax-e.cx))*(l.bx-l.ax)+(b-k*(l.ay-e.cy))*(l.by'-l.ay)
 q:(a-k*(l.ax-e.cx))*(l.bx-l.ax)+(b-k*(l.ay-e.cy))*(l.by'-l.ay)<=k*sqI (l.bx-l.ax) (l.by'-l.ay)
theorem OnSeg.mul{l e:Ed}{k a b m:Int}(h:OnSeg l e k a b)(m0:0<m):OnSeg l e (m*k) (m*a) (m*b):=by
 have e1:(m*a-m*k*(l.ax-e.cx))*(l.bx-l.ax)+(m*b-m*k*(l.ay-e.cy))*(l.by'-l.ay)=m*((a-k*(l.ax-e.cx))*(l.bx-l.ax)+(b-k*(l.ay-e.cy))*(l.by'-l.ay)):=by grind
 refine⟨Int.mul_pos m0 h.k0,?_,?_,?_⟩
 ·have:=h.ln;grind
 ·rw[e1];exact Int.mul_nonneg (Int.le_of_lt m0) h.p
 ·rw[e1,Int.mul_assoc];exact Int.mul_le_mul_of_nonneg_left h.q (Int.le_of_lt m0)
theorem OnSeg.mix{l e:Ed}{k a b c d α β:Int}(h:OnSeg l e k a b)(g:OnSeg l e k c d)(ha:0<=α)(hb:0<=β)(hk:0<α+β):OnSeg l e ((α+β)*k) (α*a+β*c) (α*b+β*d):=by
 have e1:(α*a+β*c-(α+β)*k*(l.ax-e.cx))*(l.bx-l.ax)+(α*b+β*d-(α+β)*k*(l.ay-e.cy))*(l.by'-l.ay)=α*((a-k*(l.ax-e.cx))*(l.bx-l.ax)+(b-k*(l.ay-e.cy))*(l.by'-l.ay))+β*((c-k*(l.ax-e.cx))*(l.bx-l.ax)+(d-k*(l.ay-e.cy))*(l.by'-l.ay)):=by grind
 refine⟨Int.mul_pos hk h.k0,?_,?_,?_⟩
 ·have:=h.ln;have:=g.ln;grind
 ·rw[e1];have:=Int.mul_nonneg ha h.p;have:=Int.mul_nonneg hb g.p;omega
 ·rw [e1]
  have h1:=Int.mul_le_mul_of_nonneg_left h.q ha
  have h2:=Int.mul_le_mul_of_nonneg_left g.q hb
  have e2:(α+β)*k*sqI (l.bx-l.ax) (l.by'-l.ay)=α*(k*sqI (l.bx-l.ax) (l.by'-l.ay))+β*(k*sqI (l.bx-l.ax) (l.by'-l.ay)):=by grind
  omega
theorem la_no1{l e:Ed}{σ τ k a b c d:Int}(Q:Qf e σ τ)(S0:0<sqI (l.bx-l.ax) (l.by'-l.ay))(hc:crossZ l e=0)(h1:OnSeg l e k a b)(h2:OnSeg l e k c d)
  (b0:0<=τ*b) (d0:0<=τ*d) (d1:τ*d<=k*radZ e) (b1:τ*b<=k*radZ e) (i1:0<=σ*a/\k*k*(radZ e*radZ e)<a*a+b*b) (i2:σ*c<0\/c*c+d*d<k*k*(radZ e*radZ e)):False:=by
 have s2:=pm_sq Q.s
 have t2:=pm_sq Q.t
 have ax:∀x y:Int,0<=σ*x->0<=τ*y->0<=x*e.ux+y*e.uy/\0<=x*e.vx+y*e.vy:=fun x y hx hy=>by
  rcases Q.c with⟨u1,u2,v1,v2,_⟩|⟨u1,u2,v1,v2,_⟩
  ·rw[u1,u2,v1,v2];exact⟨by grind,by grind⟩
  ·rw[u1,u2,v1,v2];exact⟨by grind,by grind⟩
 obtain⟨u1,v1⟩:=ax a b i1.1 b0
 by_cases hs:0<=σ*c
 ·obtain ⟨u2, v2⟩ := ax c d hs d0
  exact cross_arc h1.k0 S0 h1.ln h2.ln h1.p h1.q h2.p h2.q u1 v1 u2 v2 (by unfold sqI;omega) (by unfold sqI;omega) hc
 ·obtain ⟨α, hα⟩ : ∃ α, -(σ * c) = α := ⟨_, rfl⟩
  obtain⟨β,hβ⟩:∃β,σ*a=β:=⟨_,rfl⟩
  have α0:0<α:=by omega
  have β0:0<=β:=by omega
  have g1:=h1.mul (m:=α+β) (by omega)
  have g2:=h1.mix h2 (α:=α) (β:=β) (by omega) β0 (by omega)
  have z:α*a+β*c=0:=by rw[<- hα,<- hβ];grind
  have n0:0<=α+β:=by omega
  obtain⟨u1,v1⟩:=ax ((α+β)*a) ((α+β)*b) (by have:=Int.mul_nonneg n0 i1.1;grind) (by have:=Int.mul_nonneg n0 b0;grind)
  have m1:=Int.mul_nonneg (Int.le_of_lt α0) b0
  have m2:=Int.mul_nonneg β0 d0
  have tU:τ*(α*b+β*d)=α*(τ*b)+β*(τ*d):=by grind
  obtain⟨u2,v2⟩:=ax (α*a+β*c) (α*b+β*d) (by rw[z];simp) (by omega)
  refine cross_arc g1.k0 S0 g1.ln g2.ln g1.p g1.q g2.p g2.q u1 v1 u2 v2 ?_ ?_ hc
  ·have h3 := Int.mul_nonneg (sqz_nn (α + β)) (show 0 <= a * a + b * b - k * k * (radZ e * radZ e) by omega)
   unfold sqI
   have e1:(α+β)*a*((α+β)*a)+(α+β)*b*((α+β)*b)-(α+β)*k*((α+β)*k)*(radZ e*radZ e)=(α+β)*(α+β)*(a*a+b*b-k*k*(radZ e*radZ e)):=by grind
   omega
  ·have l1 := Int.mul_le_mul_of_nonneg_left b1 (Int.le_of_lt α0)
   have l2:=Int.mul_le_mul_of_nonneg_left d1 β0
   have l3:=sq_up (a:=τ*(α*b+β*d)) (b:=(α+β)*(k*radZ e)) (by omega) (by rw[tU,Int.add_mul];omega)
   unfold sqI
   rw[z]
   have e1:τ*(α*b+β*d)*(τ*(α*b+β*d))=(α*b+β*d)*(α*b+β*d):=by grind
   have e2:(α+β)*(k*radZ e)*((α+β)*(k*radZ e))=(α+β)*k*((α+β)*k)*(radZ e*radZ e):=by grind
   rw[e1,e2] at l3
   omega
structure Sd (l e:Ed) (σ τ:Int) (w:Bool):Prop where
 ex:∃k a b,OnSeg l e k a b/\0<=τ*b/\τ*b<=k*radZ e/\(w=true->0<=σ*a/\k*k*(radZ e*radZ e)<a*a+b*b)/\(w=false->σ*a<0\/a*a+b*b<k*k*(radZ e*radZ e))
theorem sd_eq{l e:Ed}{σ τ:Int}{w v:Bool}(Q:Qf e σ τ)(S0:0<sqI (l.bx-l.ax) (l.by'-l.ay))(hc:crossZ l e=0)(h1:Sd l e σ τ w)(h2:Sd l e σ τ v):w=v:=by
 have key:∀ {w v:Bool},Sd l e σ τ w->Sd l e σ τ v->w=true->v=false->False:=fun h1 h2 e1 e2=>by
  obtain⟨k,a,b,s1,b0,b1,i1,_⟩:=h1.ex
  obtain⟨m,c,d,s2,d0,d1,_,i2⟩:=h2.ex
  have i1:=i1 e1
  have i2:=i2 e2
  have k0:=s1.k0
  have m0:=s2.k0
  have g2:=s2.mul k0
  rw[Int.mul_comm k m] at g2
  refine la_no1 Q S0 hc (s1.mul m0) g2 ?_ ?_ ?_ ?_ ⟨?_,?_⟩ ?_
  ·have:=Int.mul_nonneg (Int.le_of_lt m0) b0;grind
  ·have:=Int.mul_nonneg (Int.le_of_lt k0) d0;grind
  ·have:=Int.mul_le_mul_of_nonneg_left d1 (Int.le_of_lt k0);grind
  ·have:=Int.mul_le_mul_of_nonneg_left b1 (Int.le_of_lt m0);grind
  ·have:=Int.mul_nonneg (Int.le_of_lt m0) i1.1;grind
  ·have:=Int.mul_lt_mul_of_pos_left i1.2 (Int.mul_pos m0 m0);grind
  ·rcases i2 with h | h
   ·left;have:=Int.mul_neg_of_pos_of_neg k0 h;grind
   ·right;have:=Int.mul_lt_mul_of_pos_left h (Int.mul_pos k0 k0);grind
 cases w<;>cases v
 ·rfl
 ·exact (key h2 h1 rfl rfl).elim
 ·exact (key h1 h2 rfl rfl).elim
 ·rfl
theorem sd_end{l e:Ed}{σ τ x y:Int}(Q:Qf e σ τ)(oe:e.ok=true)(ke:¬e.k=1)(ol:l.ok=true)(kl:l.k=1)(hT:EndOf l x y)(hoff:onE e x y=false)(hy:InY e y):∃w,Sd l e σ τ w/\beyZ e x y=(if σ=1 then !w else w):=by
 have s2:=pm_sq Q.s
 have t2:=pm_sq Q.t
 obtain⟨t0,t1⟩:=Q.strip hy
 obtain⟨jT,xT⟩:=bey_arc Q oe ke hoff t0 t1
 have hn:σ*(x-e.cx)*(σ*(x-e.cx))+τ*(y-e.cy)*(τ*(y-e.cy))=(x-e.cx)*(x-e.cx)+(y-e.cy)*(y-e.cy):=by grind
 have hs:OnSeg l e 1 (x-e.cx) (y-e.cy):=by
  have nn:=sqI_nn (l.bx-l.ax) (l.by'-l.ay)
  unfold EndOf at hT
  unfold sqI at nn
  rcases hT with⟨rfl,rfl⟩|⟨rfl,rfl⟩
  ·exact⟨by decide,by grind,by grind,by unfold sqI;grind⟩
  ·exact⟨by decide,by grind,by grind,by unfold sqI;grind⟩
 unfold Beyo Befo at jT xT
 rw[hn] at jT xT
 by_cases h:0<=σ*(x-e.cx)/\radZ e*radZ e<(x-e.cx)*(x-e.cx)+(y-e.cy)*(y-e.cy)
 ·refine ⟨true, ⟨1, _, _, hs, t0, by omega, fun _ => ⟨h.1, by omega⟩, fun h => by cases h⟩, ?_⟩
  have:=xT.1 h
  rcases Q.s with rfl|rfl
  ·have : ¬ beyZ e x y = true := fun g => by have := jT.1 g; omega
   simpa using this
  ·exact jT.2 (.inr ⟨rfl,h⟩)
 ·have h' := Classical.not_not.1 fun g => h (xT.2 g)
  refine⟨false,⟨1,_,_,hs,t0,by omega,fun h=>by (cases h),fun _=>by omega⟩,?_⟩
  rcases Q.s with rfl|rfl
  ·exact jT.2 (.inl ⟨rfl,h'⟩)
  ·have : ¬ beyZ e x y = true := fun g => by have := jT.1 g; omega
   simpa using this
theorem bey_line{l:Ed}{x y δ w:Int}(ol:l.ok=true)(kl:l.k=1)(hoff:onE l x y=false)(hy:InY l y)(hδ:δ=1\/δ = -1)(hk:0<δ*(l.by'-l.ay))(hw:δ*((y-l.ay)*(l.bx-l.ax)-(x-l.ax)*(l.by'-l.ay))=w):¬w=0/\(beyZ l x y=true <-> 0<w):=by
 unfold InY at hy
 have hne:Btw l.ax x l.bx->¬(l.bx-l.ax)*(y-l.ay)=(l.by'-l.ay)*(x-l.ax):=fun hb h=>by
  have:=onE_line_mk kl ol hb (by unfold Btw;omega) h
  rw[hoff] at this;cases this
 unfold Btw at hne
 have dd:=pm_sq hδ
 have d0:0<=δ*(y-l.ay):=by rcases hδ with rfl|rfl<;>omega
 have d1:δ*(y-l.ay)<=δ*(l.by'-l.ay):=by rcases hδ with rfl|rfl<;>omega
 have lo:x<min l.ax l.bx->0<w:=fun h=>by
  have q1:=Int.mul_nonneg (show 0<=δ*(l.by'-l.ay)-δ*(y-l.ay) by omega) (show 0<=l.ax-x by omega)
  have q2:=Int.mul_nonneg d0 (show 0<=l.bx-x by omega)
  have p2:0<δ*(l.by'-l.ay)*(l.bx-x):=Int.mul_pos hk (by omega)
  have e:w=(δ*(l.by'-l.ay)-δ*(y-l.ay))*(l.ax-x)+δ*(y-l.ay)*(l.bx-x):=by rw[<- hw];grind
  rcases Int.lt_or_le (δ*(y-l.ay)) (δ*(l.by'-l.ay)) with g|g
  ·have:=Int.mul_pos (show 0<δ*(l.by'-l.ay)-δ*(y-l.ay) by omega) (show 0<l.ax-x by omega);omega
  ·have : δ * (y - l.ay) = δ * (l.by' - l.ay) := by omega
   rw[this] at e q2
   rw[e];omega
 have hi:max l.ax l.bx<x->w<0:=fun h=>by
  have q1:=Int.mul_nonneg (show 0<=δ*(l.by'-l.ay)-δ*(y-l.ay) by omega) (show 0<=x-l.ax by omega)
  have q2:=Int.mul_nonneg d0 (show 0<=x-l.bx by omega)
  have p2:0<δ*(l.by'-l.ay)*(x-l.bx):=Int.mul_pos hk (by omega)
  have e : -w=(δ*(l.by'-l.ay)-δ*(y-l.ay))*(x-l.ax)+δ*(y-l.ay)*(x-l.bx):=by rw[<- hw];grind
  rcases Int.lt_or_le (δ*(y-l.ay)) (δ*(l.by'-l.ay)) with g|g
  ·have:=Int.mul_pos (show 0<δ*(l.by'-l.ay)-δ*(y-l.ay) by omega) (show 0<x-l.ax by omega);omega
  ·have : δ * (y - l.ay) = δ * (l.by' - l.ay) := by omega
   rw[this] at e q2
   omega
 have hi':max l.ax l.bx=x->w<=0:=fun h=>by
  have q1:=Int.mul_nonneg (show 0<=δ*(l.by'-l.ay)-δ*(y-l.ay) by omega) (show 0<=x-l.ax by omega)
  have q2:=Int.mul_nonneg d0 (show 0<=x-l.bx by omega)
  have e : -w=(δ*(l.by'-l.ay)-δ*(y-l.ay))*(x-l.ax)+δ*(y-l.ay)*(x-l.bx):=by rw[<- hw];grind
  omega
 have w0:¬w=0:=fun h=>by
  rcases Int.lt_or_le x (min l.ax l.bx) with g|g
  ·have:=lo g;omega
  ·rcases Int.lt_or_le (max l.ax l.bx) x with g' | g'
   ·have:=hi g';omega
   ·refine hne (by omega) ?_
    rw[h] at hw
    rcases hδ with rfl|rfl<;>grind
 refine⟨w0,?_⟩
 unfold beyZ
 by_cases g1:x<min l.ax l.bx
 ·rw[if_pos g1];have:=lo g1;simp;omega
 ·rw [if_neg g1]
  by_cases g2:x >= max l.ax l.bx
  ·rw [if_pos g2]
   have:w<0:=by
    rcases Int.lt_or_le (max l.ax l.bx) x with g'|g'
    ·exact hi g'
    ·have:=hi' (by omega);omega
   simp;omega
  ·rw [if_neg g2, if_pos kl]
   unfold beyL
   rcases hδ with rfl|rfl
   ·rw[if_neg (by omega),decide_eq_true_eq,<- hw];omega
   ·rw [if_pos (by omega), decide_eq_true_eq, <- hw]
    have:(y-l.by')*(l.ax-l.bx)-(x-l.bx)*(l.ay-l.by') = -1*((y-l.ay)*(l.bx-l.ax)-(x-l.ax)*(l.by'-l.ay)):=by grind
    omega
theorem bey_flat{l:Ed}{x y:Int}(ol:l.ok=true)(kl:l.k=1)(hoff:onE l x y=false)(hy:InY l y)(h0:l.by'=l.ay):y=l.ay/\(x<min l.ax l.bx\/max l.ax l.bx<x)/\(beyZ l x y=true <-> x<min l.ax l.bx):=by
 unfold InY at hy
 have ey:y=l.ay:=by omega
 subst ey
 have h1:x<min l.ax l.bx\/max l.ax l.bx<x:=by
  rcases Int.lt_or_le x (min l.ax l.bx) with h|h
  ·exact .inl h
  ·rcases Int.lt_or_le (max l.ax l.bx) x with g | g
   ·exact .inr g
   ·have := onE_line_mk (x := x) (y := l.ay) kl ol (by unfold Btw; omega) (by unfold Btw; omega) (by rw [h0]; simp)
    rw[hoff] at this;cases this
 refine⟨rfl,h1,?_⟩
 unfold beyZ
 rcases h1 with h1|h1
 ·rw[if_pos h1];simp;omega
 ·rw[if_neg (by omega),if_pos (by omega)];simp;omega
theorem up_or{l:Ed}(h:¬l.by'=l.ay):∃δ:Int,(δ=1\/δ = -1)/\0<δ*(l.by'-l.ay):=by
 rcases Int.lt_or_le l.ay l.by' with h|h
 ·exact⟨1,.inl rfl,by omega⟩
 ·exact⟨-1,.inr rfl,by omega⟩
theorem line_lev{l:Ed}{x y:Int}(ol:l.ok=true)(kl:l.k=1)(hoff:onE l x y=false)(hy:InY l y)(cx cy:Int):∃k w,0<k/\¬w=0/\(beyZ l x y=true <-> 0<w) /\
  (l.bx-l.ax)*(k*(y-cy)-k*(l.ay-cy))=(l.by'-l.ay)*(k*(x-cx)+w-k*(l.ax-cx)) /\
  0<=(k*(x-cx)+w-k*(l.ax-cx))*(l.bx-l.ax)+(k*(y-cy)-k*(l.ay-cy))*(l.by'-l.ay) /\
  (k*(x-cx)+w-k*(l.ax-cx))*(l.bx-l.ax)+(k*(y-cy)-k*(l.ay-cy))*(l.by'-l.ay)<=k*sqI (l.bx-l.ax) (l.by'-l.ay):=by
 have nn:=sqI_nn (l.bx-l.ax) (l.by'-l.ay)
 by_cases h0:l.by'=l.ay
 ·obtain ⟨rfl, h1, h2⟩ := bey_flat ol kl hoff hy h0
  exact⟨1,l.ax-x,by decide,by omega,by rw[h2];omega,by rw[h0];grind,by rw[h0];grind,by rw[h0] at nn ⊢;grind⟩
 ·obtain ⟨δ, hδ, hk⟩ := up_or h0
  obtain⟨w,hw⟩:∃w,δ*((y-l.ay)*(l.bx-l.ax)-(x-l.ax)*(l.by'-l.ay))=w:=⟨_,rfl⟩
  obtain⟨w0,jw⟩:=bey_line ol kl hoff hy hδ hk hw
  unfold InY at hy
  have dd:=pm_sq hδ
  have e1:δ*(l.by'-l.ay)*(x-cx)+w-δ*(l.by'-l.ay)*(l.ax-cx)=δ*(y-l.ay)*(l.bx-l.ax):=by rw[<- hw];grind
  have e2:δ*(l.by'-l.ay)*(y-cy)-δ*(l.by'-l.ay)*(l.ay-cy)=δ*(y-l.ay)*(l.by'-l.ay):=by grind
  have e3:δ*(y-l.ay)*(l.bx-l.ax)*(l.bx-l.ax)+δ*(y-l.ay)*(l.by'-l.ay)*(l.by'-l.ay)=δ*(y-l.ay)*sqI (l.bx-l.ax) (l.by'-l.ay):=by unfold sqI;grind
  have d0:0<=δ*(y-l.ay):=by rcases hδ with rfl|rfl<;>omega
  have d1:δ*(y-l.ay)<=δ*(l.by'-l.ay):=by rcases hδ with rfl|rfl<;>omega
  refine⟨δ*(l.by'-l.ay),w,hk,w0,jw,?_,?_,?_⟩
  ·rw[e1,e2];grind
  ·rw[e1,e2,e3];exact Int.mul_nonneg d0 nn
  ·rw[e1,e2,e3];exact Int.mul_le_mul_of_nonneg_right d1 nn
theorem sd_lev{l e:Ed}{σ τ x y:Int}(Q:Qf e σ τ)(ol:l.ok=true)(kl:l.k=1)(hS:EndOf e x y)(hoff:onE l x y=false)(hy:InY l y):∃w,Sd l e σ τ w/\beyZ l x y=(if σ=1 then w else !w):=by
 have s2:=pm_sq Q.s
 have t2:=pm_sq Q.t
 have r0:=Q.r0
 obtain⟨k,w,k0,w0,jw,h1,h2,h3⟩:=line_lev ol kl hoff hy e.cx e.cy
 obtain⟨h,g,hh,hg,h0,g0,hr,g1⟩:∃h g:Int,σ*(x-e.cx)=h/\τ*(y-e.cy)=g/\0<=h/\0<=g/\h*h+g*g=radZ e*radZ e/\g<=radZ e:=by
  rcases Q.ends hS with⟨e1,e2⟩|⟨e1,e2⟩
  ·exact⟨0,radZ e,by rw[e1];simp,by rw[e2];grind,by omega,by omega,by grind,by omega⟩
  ·exact⟨radZ e,0,by rw[e1];grind,by rw[e2];simp,by omega,by omega,by grind,by omega⟩
 have hs:OnSeg l e k (k*(x-e.cx)+w) (k*(y-e.cy)):=⟨k0,h1,h2,h3⟩
 have eh:σ*(k*(x-e.cx)+w)=k*h+σ*w:=by rw[<- hh];grind
 have eg:τ*(k*(y-e.cy))=k*g:=by rw[<- hg];grind
 have en:(k*(x-e.cx)+w)*(k*(x-e.cx)+w)+k*(y-e.cy)*(k*(y-e.cy))=(k*h+σ*w)*(k*h+σ*w)+k*g*(k*g):=by rw[<- hh,<- hg];grind
 have er:k*k*(radZ e*radZ e)=k*h*(k*h)+k*g*(k*g):=by rw[<- hr];grind
 have kh:=Int.mul_nonneg (Int.le_of_lt k0) h0
 have kg:=Int.mul_nonneg (Int.le_of_lt k0) g0
 have kg1:=Int.mul_le_mul_of_nonneg_left g1 (Int.le_of_lt k0)
 have up:0<σ*w->0<=k*h+σ*w/\k*k*(radZ e*radZ e)<(k*h+σ*w)*(k*h+σ*w)+k*g*(k*g):=fun hp=>by
  refine⟨by omega,?_⟩
  have m1:=Int.mul_nonneg kh (Int.le_of_lt hp)
  have m2:=Int.mul_pos hp hp
  rw[er];grind
 have dn:σ*w<0->k*h+σ*w<0\/(k*h+σ*w)*(k*h+σ*w)+k*g*(k*g)<k*k*(radZ e*radZ e):=fun hp=>by
  rcases Int.lt_or_le (k*h+σ*w) 0 with q|q
  ·exact .inl q
  ·right
   have m1:=Int.mul_nonneg q (show 0 <= -(σ*w) by omega)
   have m2:=Int.mul_pos (show 0<k*h by omega) (show 0 < -(σ*w) by omega)
   rw[er];grind
 by_cases hp:0<w
 ·have jb := jw.2 hp
  rcases Q.s with rfl|rfl
  ·exact⟨true,⟨k,_,_,hs,by omega,by omega,fun _=>by rw[eh,en];exact up (by omega),fun h=>by cases h⟩,by rw[jb];rfl⟩
  ·exact⟨false,⟨k,_,_,hs,by omega,by omega,fun h=>by (cases h),fun _=>by rw[eh,en];exact dn (by omega)⟩,by rw[jb];rfl⟩
 ·have jb:beyZ l x y=false:=by
   cases hb:beyZ l x y with
   | false=>rfl
   | true=>exact absurd (jw.1 hb) hp
  rcases Q.s with rfl|rfl
  ·exact⟨false,⟨k,_,_,hs,by omega,by omega,fun h=>by (cases h),fun _=>by rw[eh,en];exact dn (by omega)⟩,by rw[jb];rfl⟩
  ·exact⟨true,⟨k,_,_,hs,by omega,by omega,fun _=>by rw[eh,en];exact up (by omega),fun h=>by cases h⟩,by rw[jb];rfl⟩
end Go.Proofs.YteajakbpmeebnaaGreat
