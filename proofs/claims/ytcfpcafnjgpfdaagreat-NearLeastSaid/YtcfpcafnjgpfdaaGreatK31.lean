import Derived.Test.YtcfpcafnjgpfdaaGreatK30
set_option linter.unusedVariables false
set_option linter.unusedSimpArgs false

namespace Go.Proofs.YtcfpcafnjgpfdaaGreat
open Go.RowKit
theorem side_leP{p r n:Int}(hr:0<r)(hn:0<n)(h:p*p<=r*r*n):sideZ (2*p) (2 * -r*1) n<=0:=by
  unfold sideZ
  rw[sgn_pP hn,sgn_mP (show 2 * -r*1<0 by omega)]
  rcases Int.lt_trichotomy p 0 with g|g|g
  . rw[sgn_mP (show 2*p<0 by omega),if_pos (by decide)];decide
  . subst g;rw[show sgn (2*0)=0 from rfl,if_pos (by decide)];decide
  . rw [sgn_pP (show 0 < 2 * p by omega), if_neg (by decide), Int.one_mul]
    unfold cmpZ
    have e1:2*p*(2*p)=4*(p*p):=by grind
    have e2:2 * -r*1*(2 * -r*1)*n=4*(r*r*n):=by grind
    split
    . decide
    . rw[if_pos (by omega)];decide
theorem le_sqQ{n d m:Int}(hn:0<=n)(hd:0<d)(hm:0<=m)(h:n<=m*d):cmpQ ⟨0,1,n,d⟩ ⟨0,1,m,1⟩<=0:=by
  unfold cmpQ cmpR
  simp only[Int.sub_zero,Int.zero_mul,Int.mul_zero,Int.zero_add,Int.mul_one]
  by_cases h1:n=0
  . rw [nz0P h1, side_l0P, show sgn 0 = 0 from rfl]
    by_cases h2:m=0
    . rw[nz0P h2];simp
    . rw[nz1P h2,if_pos (by decide)];decide
  . have h2 : ¬ m = 0 := fun g => by rw [g, Int.zero_mul] at h; omega
    have h3:0<n*d:=Int.mul_pos (by omega) hd
    have e:sideZ 0 1 (n*d)=1:=by unfold sideZ;rw[sgn_pP h3,show sgn 0=0 from rfl,show sgn 1=1 from rfl,if_pos (by decide)];decide
    rw[nz1P h1,nz1P h2,e,if_neg (by decide),Int.one_mul,side_l0P]
    rcases sgn_cases (n-m*d) with⟨h,g⟩|⟨h,g⟩|⟨h,g⟩<;>omega
theorem le_outQ{r n m p:Int}(hr:0<r)(hn:r*r<=n)(hm:0<=m)(h:n+r*r-m=2*p)(hp:p*p<=r*r*n):cmpQ ⟨-r,1,n,1⟩ ⟨0,1,m,1⟩<=0:=by
  have r0:0<r*r:=Int.mul_pos hr hr
  unfold cmpQ cmpR
  simp only[Int.sub_zero,Int.mul_one]
  rw[nz1P (show ¬n=0 by omega)]
  have e:sideZ (-r) 1 n=if n=r*r then 0 else 1:=by
    unfold sideZ
    rw[sgn_mP (show -r<0 by omega),sgn_pP (show 0<n by omega),show sgn 1=1 from rfl,if_neg (by decide),Int.neg_mul_neg,Int.one_mul,Int.one_mul]
    unfold cmpZ
    split
    . rw[if_neg (by omega)];decide
    . rw[if_pos (by omega),if_pos (by omega)];decide
  rw[e]
  by_cases h1:n=r*r
  . rw [if_pos h1]
    by_cases h2:m=0
    . rw[nz0P h2];simp
    . rw[nz1P h2,if_pos (by decide)];decide
  . rw [if_neg h1]
    by_cases h2:m=0
    . exfalso
      have e1:4*(p*p)=(n+r*r)*(n+r*r):=by rw[show n+r*r=2*p by omega];grind
      have e2:(n+r*r)*(n+r*r)=(n-r*r)*(n-r*r)+4*(r*r*n):=by grind
      have e3:0<(n-r*r)*(n-r*r):=Int.mul_pos (by omega) (by omega)
      omega
    . rw [nz1P h2, if_neg (by decide), Int.one_mul, Int.neg_mul_neg, show r * r + n - m = 2 * p by omega]
      have:=side_leP hr (show 0<n by omega) hp
      simpa using this
theorem le_inQ{r n m p:Int}(hr:0<r)(h0:0<=n)(hn:n<r*r)(hm:0<=m)(h:n+r*r-m=2*p)(hp:p*p<=r*r*n):cmpQ ⟨r,-1,n,1⟩ ⟨0,1,m,1⟩<=0:=by
  have r0:0<r*r:=Int.mul_pos hr hr
  have h2:¬m=0:=fun g=>by
    have e1:4*(p*p)=(n+r*r)*(n+r*r):=by rw[show n+r*r=2*p by omega];grind
    have e2:(n+r*r)*(n+r*r)=(r*r-n)*(r*r-n)+4*(r*r*n):=by grind
    have e3:0<(r*r-n)*(r*r-n):=Int.mul_pos (by omega) (by omega)
    omega
  unfold cmpQ cmpR
  simp only[Int.sub_zero,Int.mul_one]
  rw[nz1P h2]
  by_cases h1:n=0
  . rw [nz0P h1, side_l0P, sgn_pP hr, if_neg (by decide), Int.one_mul, Int.mul_zero, side_l0P]
    have:p=0:=by
      rw[h1,Int.mul_zero] at hp
      have:=sqz_nn p
      rcases Int.mul_eq_zero.1 (show p*p=0 by omega) with g|g<;>exact g
    rcases sgn_cases (r*r+n-m) with⟨h,g⟩|⟨h,g⟩|⟨h,g⟩<;>omega
  . have e:sideZ r (-1) n=1:=by
      unfold sideZ
      rw[sgn_pP hr,sgn_pP (show 0<n by omega),show sgn (-1) = -1 from rfl,if_neg (by decide),Int.neg_mul_neg,Int.one_mul,Int.one_mul,Int.one_mul]
      unfold cmpZ
      rw[if_neg (by omega),if_neg (by omega)]
    rw[nz1P h1,e,if_neg (by decide),Int.one_mul,show r*r+n-m=2*p by omega,show 2*r * -1=2 * -r*1 by omega]
    exact side_leP hr (by omega) hp
theorem le_endQ{x y a b c d:Int}(h:sqI (x-a) (y-b)<=sqI (x-c) (y-d)):cmpQ (endQ x y a b) (endQ x y c d)<=0 :=
  le_sqQ (sqI_nn _ _) (by decide) (sqI_nn _ _) (by omega)
theorem dot_neg{q t τ x y a b u v:Int}(hq:u*u+v*v=q)(q0:0<q)(hw:u*b=v*a)(hτ:a*u+b*v=τ)(ht:x*u+y*v=t)(h:τ*t<=0):x*a+y*b<=0:=by
  have e:q*(x*a+y*b)=τ*t:=by
    have e1:q*a=τ*u:=by subst hq hτ;grind
    have e2:q*b=τ*v:=by subst hq hτ;grind
    have:q*(x*a+y*b)=x*(q*a)+y*(q*b):=by grind
    rw[this,e1,e2];subst ht;grind
  rcases Int.lt_or_le 0 (x*a+y*b) with g|g
  . have:=Int.mul_pos q0 g;omega
  . exact g
theorem sub_sqI(x y a b c d:Int)(h:(x-a)*(c-a)+(y-b)*(d-b)<=0):sqI (x-a) (y-b)<=sqI (x-c) (y-d):=by
  have e:sqI (x-c) (y-d)=sqI (x-a) (y-b)-2*((x-a)*(c-a)+(y-b)*(d-b))+sqI (c-a) (d-b):=by unfold sqI;grind
  have:=sqI_nn (c-a) (d-b)
  omega
theorem line_le{e:Ed}{x y a b:Int}(hk:e.k=1)(h:onE e a b=true):cmpQ (lineQ e x y) (endQ x y a b)<=0:=by
  obtain⟨ho,b1,b2,hc⟩:=onE_line hk h
  have m1:=btw_mul (btw_shift b1)
  have m2:=btw_mul (btw_shift b2)
  unfold lineQ
  obtain⟨q,hq⟩:∃q,sqI (e.bx-e.ax) (e.by'-e.ay)=q:=⟨_,rfl⟩
  obtain⟨t,ht⟩:∃t,(x-e.ax)*(e.bx-e.ax)+(y-e.ay)*(e.by'-e.ay)=t:=⟨_,rfl⟩
  obtain⟨τ,hτ⟩:∃τ,(a-e.ax)*(e.bx-e.ax)+(b-e.ay)*(e.by'-e.ay)=τ:=⟨_,rfl⟩
  have t0:0<=τ:=by omega
  have t1:τ<=q:=by rw[<- hq];unfold sqI;omega
  have q0:0<=q:=by rw[<- hq];exact sqI_nn _ _
  have z0:q=0->a=e.ax/\b=e.ay/\a=e.bx/\b=e.by':=fun g=>by
    have:e.bx-e.ax=0/\e.by'-e.ay=0:=by
      apply Classical.byContradiction
      intro hn
      have:=sqI_pos hn
      omega
    unfold Btw at b1 b2
    omega
  rw[hq,ht]
  by_cases h1:t<=0
  . rw [if_pos h1]
    refine le_endQ ?_
    by_cases g:q=0
    . obtain ⟨z1, z2, _⟩ := z0 g
      rw[z1,z2];exact Int.le_refl _
    . refine sub_sqI _ _ _ _ _ _ (dot_neg (q := q) (u := e.bx - e.ax) (v := e.by' - e.ay) (by rw [<- hq]; rfl) (by omega) hc hτ ht ?_)
      exact Int.mul_nonpos_of_nonneg_of_nonpos t0 h1
  rw[if_neg h1]
  by_cases h2:q<=t
  . rw [if_pos h2]
    refine le_endQ ?_
    by_cases g:q=0
    . obtain ⟨_, _, z1, z2⟩ := z0 g
      rw[z1,z2];exact Int.le_refl _
    . refine sub_sqI _ _ _ _ _ _ (dot_neg (q := q) (t := t - q) (τ := τ - q) (u := e.bx - e.ax) (v := e.by' - e.ay) (by rw [<- hq]; rfl) (by omega) ?_ ?_ ?_ ?_)
      . grind
      . rw[<- hτ,<- hq];unfold sqI;grind
      . rw[<- ht,<- hq];unfold sqI;grind
      . have := Int.mul_nonneg (show 0 <= q - τ by omega) (show 0 <= t - q by omega)
        have e:(τ-q)*(t-q) = -((q-τ)*(t-q)):=by grind
        omega
  . rw [if_neg h2]
    refine le_sqQ (sqz_nn _) (by omega) (sqI_nn _ _) ?_
    have e:sqI (x-a) (y-b)*q=(t-τ)*(t-τ)+((e.bx-e.ax)*(y-e.ay)-(e.by'-e.ay)*(x-e.ax))*((e.bx-e.ax)*(y-e.ay)-(e.by'-e.ay)*(x-e.ax)):=by
      have hx:∀u v p r s w:Int,u*w=v*s->((p-s)*(p-s)+(r-w)*(r-w))*(u*u+v*v)=(p*u+r*v-(s*u+w*v))*(p*u+r*v-(s*u+w*v))+(u*r-v*p)*(u*r-v*p):=fun u v p r s w h=>by grind
      have:=hx (e.bx-e.ax) (e.by'-e.ay) (x-e.ax) (y-e.ay) (a-e.ax) (b-e.ay) hc
      rw[<- ht,<- hτ,<- hq,<- this]
      unfold sqI
      grind
    rw[e]
    have:=sqz_nn (t-τ)
    omega
theorem dot_max{p q α β r:Int}(hr:0<r)(ha:0<=α)(hb:0<=β)(hs:α*α+β*β=r*r)(h:(p=0/\q=0)\/p<0\/q<0):p*α+q*β<=max (p*r) (q*r):=by
  have a1:α<=r:=(abs_leP (Int.le_of_lt hr) (by have:=sqz_nn β;omega)).2
  have b1:β<=r:=(abs_leP (Int.le_of_lt hr) (by have:=sqz_nn α;omega)).2
  have s1:r<=α+β:=by
    have e:(α+β)*(α+β)=α*α+β*β+2*(α*β):=by grind
    have:=Int.mul_nonneg ha hb
    exact (abs_leP (x:=r) (show 0<=α+β by omega) (by omega)).2
  have k1:0<=p->p*α<=p*r:=fun h=>Int.mul_le_mul_of_nonneg_left a1 h
  have k2:0<=q->q*β<=q*r:=fun h=>Int.mul_le_mul_of_nonneg_left b1 h
  have k3:p<=0->p*α<=0:=fun h=>Int.mul_nonpos_of_nonpos_of_nonneg h ha
  have k4:q<=0->q*β<=0:=fun h=>Int.mul_nonpos_of_nonpos_of_nonneg h hb
  by_cases hp:0<=p
  . by_cases hq : 0 <= q
    . rcases h with ⟨rfl, rfl⟩ | h | h
      . simp
      . omega
      . omega
    . have:=k1 hp;have:=k4 (by omega);omega
  . by_cases hq : 0 <= q
    . have:=k3 (by omega);have:=k2 hq;omega
    . rcases Int.le_total p q with g | g
      . have e1 := Int.mul_le_mul_of_nonneg_right g ha
        have e2:q*(α+β)<=q*r:=Int.mul_le_mul_of_nonpos_left (by omega) s1
        rw[Int.mul_add] at e2
        omega
      . have e1 := Int.mul_le_mul_of_nonneg_right g hb
        have e2:p*(α+β)<=p*r:=Int.mul_le_mul_of_nonpos_left (by omega) s1
        rw[Int.mul_add] at e2
        omega
theorem arc_frame{e:Ed}(ho:e.ok=true)(hk:¬e.k=1):0<radZ e/\e.ax-e.cx=radZ e*e.ux/\e.ay-e.cy=radZ e*e.uy/\e.bx-e.cx=radZ e*e.vx/\e.by'-e.cy=radZ e*e.vy/\e.ux*e.ux+e.uy*e.uy=1/\e.vx*e.vx+e.vy*e.vy=1/\e.ux*e.vx+e.uy*e.vy=0 /\
    (∀a b c d:Int,a*c+b*d=(a*e.ux+b*e.uy)*(c*e.ux+d*e.uy)+(a*e.vx+b*e.vy)*(c*e.vx+d*e.vy)) /\
    (∀x y:Int,inQ e x y=false->(x*e.ux+y*e.uy=0/\x*e.vx+y*e.vy=0)\/x*e.ux+y*e.uy<0\/x*e.vx+y*e.vy<0) /\
    (∀x y:Int,inQ e x y=true->0<=x*e.ux+y*e.uy/\0<=x*e.vx+y*e.vy):=by
  obtain⟨r0,hu,hv,a1,a2,a3,a4⟩:=arc_axes ho hk
  have f1:e.ax-e.cx=radZ e*e.ux:=by omega
  have f2:e.ay-e.cy=radZ e*e.uy:=by omega
  have f3:e.bx-e.cx=radZ e*e.vx:=by omega
  have f4:e.by'-e.cy=radZ e*e.vy:=by omega
  refine⟨r0,f1,f2,f3,f4,?_⟩
  unfold inQ wiB
  rw[f1,f2,f3,f4]
  obtain⟨r,R⟩:∃r,radZ e=r:=⟨_,rfl⟩
  rw[R] at r0 ⊢
  have m0:r*0=0:=by omega
  have m1:r*1=r:=by omega
  have m2:r * -1 = -r:=by omega
  have n0 : -(0:Int)=0:=rfl
  have n1 : -(-1:Int)=1:=rfl
  have sg:∀t:Int,(0<=r*t <-> 0<=t):=fun t=>by
    constructor
    . intro h
      rcases Int.lt_or_le t 0 with g|g
      . have:=Int.mul_neg_of_pos_of_neg r0 g;omega
      . exact g
    . exact fun h=>Int.mul_nonneg (Int.le_of_lt r0) h
  have sn:∀t:Int,(0 <= -(r*t) <-> 0 <= -t):=fun t=>by rw[<- Int.mul_neg];exact sg (-t)
  rcases hu with⟨u1,u2⟩|⟨u1,u2⟩|⟨u1,u2⟩|⟨u1,u2⟩<;>rcases hv with⟨k0,v1,v2⟩|⟨k0,v1,v2⟩ <;>
    (rw [u1] at v2 ⊢; rw [u2] at v1 ⊢; rw [v1, v2, k0]
     simp only[show ¬(2:Int)=3 by decide,if_false,if_true,m0,m1,m2,n0,n1,Int.mul_zero,Int.zero_mul,Int.neg_mul,Int.mul_neg,Int.mul_one,Int.sub_zero,Int.zero_sub,Int.neg_neg,Int.add_zero,Int.zero_add]
     refine⟨by decide,by decide,by decide,fun a b c d=>by grind,fun x y h=>?_,fun x y h=>?_⟩
     . simp only [Int.mul_comm x r, Int.mul_comm y r, sg, sn, Int.sub_neg] at h
       simp only[Bool.and_eq_false_iff,Bool.not_eq_false',Bool.and_eq_true,beq_iff_eq,decide_eq_false_iff_not] at h
       omega
     . simp only [Int.mul_comm x r, Int.mul_comm y r, sg, sn, Int.sub_neg] at h
       simp only[Bool.and_eq_true,decide_eq_true_eq] at h
       omega)
theorem arc_le{e:Ed}{x y a b:Int}(hk:¬e.k=1)(h:onE e a b=true):cmpQ (arcQ e x y) (endQ x y a b)<=0:=by
  obtain⟨ho,hw,w1,w2⟩:=onE_arc hk h
  obtain⟨r0,f1,f2,f3,f4,uu,vv,uv,dt,iF,iT⟩:=arc_frame ho hk
  have hm:∀ {p:Int},p=(x-e.cx)*(a-e.cx)+(y-e.cy)*(b-e.cy)->sqI (x-e.cx) (y-e.cy)+radZ e*radZ e-sqI (x-a) (y-b)=2*p:=fun hp=>by
    rw[hp,<- hw];unfold sqI;grind
  have hc:((x-e.cx)*(a-e.cx)+(y-e.cy)*(b-e.cy))*((x-e.cx)*(a-e.cx)+(y-e.cy)*(b-e.cy))<=radZ e*radZ e*sqI (x-e.cx) (y-e.cy):=by
    have e1:radZ e*radZ e*sqI (x-e.cx) (y-e.cy)=((x-e.cx)*(a-e.cx)+(y-e.cy)*(b-e.cy))*((x-e.cx)*(a-e.cx)+(y-e.cy)*(b-e.cy))+((x-e.cx)*(b-e.cy)-(y-e.cy)*(a-e.cx))*((x-e.cx)*(b-e.cy)-(y-e.cy)*(a-e.cx)):=by rw[<- hw];unfold sqI;grind
    have:=sqz_nn ((x-e.cx)*(b-e.cy)-(y-e.cy)*(a-e.cx))
    omega
  unfold arcQ
  cases hq:inQ e (x-e.cx) (y-e.cy) with
  | true =>
    rw[if_pos rfl]
    by_cases g:radZ e*radZ e<=sqI (x-e.cx) (y-e.cy)
    . rw [if_pos g]
      exact le_outQ r0 g (sqI_nn _ _) (hm rfl) hc
    . rw [if_neg g]
      exact le_inQ r0 (sqI_nn _ _) (by omega) (sqI_nn _ _) (hm rfl) hc
  | false =>
    rw[if_neg (by decide)]
    have h1:=iF _ _ hq
    have ws:((a-e.cx)*e.ux+(b-e.cy)*e.uy)*((a-e.cx)*e.ux+(b-e.cy)*e.uy)+((a-e.cx)*e.vx+(b-e.cy)*e.vy)*((a-e.cx)*e.vx+(b-e.cy)*e.vy)=radZ e*radZ e:=by rw[<- hw];exact (dt _ _ _ _).symm
    have h2:=dot_max r0 w1 w2 ws h1
    rw[<- dt] at h2
    have h3:=hm (p:=(x-e.cx)*(a-e.cx)+(y-e.cy)*(b-e.cy)) rfl
    have ea:sqI (x-e.ax) (y-e.ay)=sqI (x-e.cx) (y-e.cy)+radZ e*radZ e-2*(((x-e.cx)*e.ux+(y-e.cy)*e.uy)*radZ e):=by
      have e1:x-e.ax=x-e.cx-radZ e*e.ux:=by omega
      have e2:y-e.ay=y-e.cy-radZ e*e.uy:=by omega
      have e3:radZ e*radZ e*(e.ux*e.ux+e.uy*e.uy)=radZ e*radZ e:=by rw[uu,Int.mul_one]
      rw[e1,e2]
      unfold sqI
      grind
    have eb:sqI (x-e.bx) (y-e.by')=sqI (x-e.cx) (y-e.cy)+radZ e*radZ e-2*(((x-e.cx)*e.vx+(y-e.cy)*e.vy)*radZ e):=by
      have e1:x-e.bx=x-e.cx-radZ e*e.vx:=by omega
      have e2:y-e.by'=y-e.cy-radZ e*e.vy:=by omega
      have e3:radZ e*radZ e*(e.vx*e.vx+e.vy*e.vy)=radZ e*radZ e:=by rw[vv,Int.mul_one]
      rw[e1,e2]
      unfold sqI
      grind
    split
    . exact le_endQ (by omega)
    . exact le_endQ (by omega)
theorem point_le{e:Ed}{x y a b:Int}(h:onE e a b=true):cmpQ (pointQ e x y) (endQ x y a b)<=0:=by
  unfold pointQ
  by_cases hk:e.k=1
  . rw[if_pos hk];exact line_le hk h
  . rw[if_neg hk];exact arc_le hk h
theorem le_sq2{n d m e:Int}(hn:0<=n)(hd:0<d)(hm:0<=m)(he:0<e)(h:n*e<=m*d):cmpQ ⟨0,1,n,d⟩ ⟨0,1,m,e⟩<=0:=by
 unfold cmpQ cmpR
 simp only[Int.sub_zero,Int.zero_mul,Int.mul_zero,Int.zero_add]
 by_cases h1:n=0
 ·rw [nz0P h1, side_l0P, show sgn 0 = 0 from rfl]
  by_cases h2:m=0
  ·rw[nz0P h2];simp
  ·rw[nz1P h2,if_pos (by decide)];decide
 ·have h2:¬m=0:=fun g=>by
   rw[g,Int.zero_mul] at h
   have:=Int.mul_pos (show 0<n by omega) he
   omega
  have h3:0<n*d:=Int.mul_pos (by omega) hd
  have es:sideZ 0 1 (n*d)=1:=by unfold sideZ;rw[sgn_pP h3,show sgn 0=0 from rfl,show sgn 1=1 from rfl,if_pos (by decide)];decide
  rw[nz1P h1,nz1P h2,es,if_neg (by decide),Int.one_mul,side_l0P]
  rcases sgn_cases (n*e-m*d) with⟨h,g⟩|⟨h,g⟩|⟨h,g⟩<;>omega
theorem line_leK{e:Ed}{x y a b k:Int}(k0:0<k)(hw:(e.bx-e.ax)*b=(e.by'-e.ay)*a)(t0:0<=a*(e.bx-e.ax)+b*(e.by'-e.ay))(t1:a*(e.bx-e.ax)+b*(e.by'-e.ay)<=k*sqI (e.bx-e.ax) (e.by'-e.ay))
  (z0:e.bx-e.ax=0->e.by'-e.ay=0->a=0/\b=0):∃n d,lineQ e x y=⟨0,1,n,d⟩/\0<=n/\0<d/\n*(k*k)<=sqI (k*(x-e.ax)-a) (k*(y-e.ay)-b)*d:=by
 unfold lineQ
 obtain⟨u,hu⟩:∃u,e.bx-e.ax=u:=⟨_,rfl⟩
 obtain⟨v,hv⟩:∃v,e.by'-e.ay=v:=⟨_,rfl⟩
 obtain⟨p,hp⟩:∃p,x-e.ax=p:=⟨_,rfl⟩
 obtain⟨r,hr⟩:∃r,y-e.ay=r:=⟨_,rfl⟩
 have hx:x-e.bx=p-u:=by omega
 have hy:y-e.by'=r-v:=by omega
 unfold endQ
 rw[hu,hv] at hw t0 t1 z0
 rw[hu,hv,hp,hr,hx,hy]
 obtain⟨q,hq⟩:∃q,sqI u v=q:=⟨_,rfl⟩
 obtain⟨t,ht⟩:∃t,p*u+r*v=t:=⟨_,rfl⟩
 obtain⟨τ,hτ⟩:∃τ,a*u+b*v=τ:=⟨_,rfl⟩
 rw[hq] at t1 ⊢
 rw[hτ] at t0 t1
 rw[ht]
 have q0:0<=q:=by rw[<- hq];exact sqI_nn _ _
 have z1:q=0->a=0/\b=0/\u=0/\v=0:=fun g=>by
  have:u=0/\v=0:=by
   apply Classical.byContradiction
   intro hn
   have:=sqI_pos hn
   omega
  exact⟨(z0 this.1 this.2).1,(z0 this.1 this.2).2,this⟩
 have key:∀f g:Int,f*a+g*b<=0->sqI f g*(k*k)<=sqI (k*f-a) (k*g-b)*1:=fun f g h=>by
  have e1:sqI (k*f-a) (k*g-b)=sqI f g*(k*k)-2*(k*(f*a+g*b))+sqI a b:=by unfold sqI;grind
  have:=sqI_nn a b
  have:=Int.mul_nonneg (Int.le_of_lt k0) (show 0 <= -(f*a+g*b) by omega)
  rw[Int.mul_neg] at this
  omega
 by_cases h1:t<=0
 ·rw [if_pos h1]
  refine⟨_,_,rfl,sqI_nn _ _,by decide,key _ _ ?_⟩
  by_cases g:q=0
  ·obtain ⟨g1, g2, _⟩ := z1 g
   rw[g1,g2];simp
  ·refine dot_neg (q := q) (u := u) (v := v) (by rw [<- hq]; rfl) (by omega) hw hτ ht ?_
   exact Int.mul_nonpos_of_nonneg_of_nonpos t0 h1
 rw[if_neg h1]
 by_cases h2:q<=t
 ·rw [if_pos h2]
  refine⟨_,_,rfl,sqI_nn _ _,by decide,?_⟩
  by_cases g:q=0
  ·obtain ⟨g1, g2, g3, g4⟩ := z1 g
   rw[g1,g2,g3,g4]
   have:=key p r (by rw[g1,g2];simp)
   rw[g1,g2] at this
   simpa using this
  ·have k2:(p-u)*(a-k*u)+(r-v)*(b-k*v)<=0:=by
    refine dot_neg (q:=q) (t:=t-q) (τ:=τ-k*q) (u:=u) (v:=v) (by rw[<- hq];rfl) (by omega) ?_ ?_ ?_ ?_
    ·grind
    ·rw[<- hτ,<- hq];unfold sqI;grind
    ·rw[<- ht,<- hq];unfold sqI;grind
    ·have := Int.mul_nonneg (show 0 <= k * q - τ by omega) (show 0 <= t - q by omega)
     have e:(τ-k*q)*(t-q) = -((k*q-τ)*(t-q)):=by grind
     omega
   have e1:sqI (k*p-a) (k*r-b)=sqI (p-u) (r-v)*(k*k)-2*(k*((p-u)*(a-k*u)+(r-v)*(b-k*v)))+sqI (a-k*u) (b-k*v):=by unfold sqI;grind
   have:=sqI_nn (a-k*u) (b-k*v)
   have:=Int.mul_nonneg (Int.le_of_lt k0) (show 0 <= -((p-u)*(a-k*u)+(r-v)*(b-k*v)) by omega)
   rw[Int.mul_neg] at this
   omega
 ·rw [if_neg h2]
  refine⟨_,_,rfl,sqz_nn _,by omega,?_⟩
  have e:sqI (k*p-a) (k*r-b)*q=(k*t-τ)*(k*t-τ)+(u*r-v*p)*(u*r-v*p)*(k*k):=by
   rw[<- ht,<- hτ,<- hq];unfold sqI
   grind
  rw[e]
  have:=sqz_nn (k*t-τ)
  omega
theorem le0_of_sq{k x:Int}(hk:¬k=0)(h:k*k*x<=0):x<=0:=by
 have h0:0<k*k:=by
  have:=sqz_nn k
  have:¬k*k=0:=fun e=>by rcases Int.mul_eq_zero.1 e with g|g<;>exact hk g
  omega
 rcases Int.lt_or_le 0 x with g|g
 ·have:=Int.mul_pos h0 g;omega
 ·exact g
theorem sg_prod{σ:Int}(h:σ*σ=1)(P t g c s a b:Int):P*(t*g-c*s)*(P*(a*g-c*b))=P*P*((t*(σ*g)-σ*c*s)*(a*(σ*g)-σ*c*b)):=by
 have:P*P*((t*(σ*g)-σ*c*s)*(a*(σ*g)-σ*c*b))=σ*σ*(P*(t*g-c*s)*(P*(a*g-c*b))):=by grind
 rw[this,h,Int.one_mul]
theorem cv1{p r m n u v x y z w:Int}(hx:p*y=r*x)(hz:p*w=r*z):(z*p+w*r-(x*p+y*r))*(u*u+v*v)*(p*n-r*m)=(p*p+r*r)*(((x-m)*u+(y-n)*v)*(u*(w-n)-v*(z-m))-(u*(y-n)-v*(x-m))*((z-m)*u+(w-n)*v)):=by grind
theorem cv2{p r m n u v x y z w:Int}(hx:p*y=r*x)(hz:p*w=r*z):(z*p+w*r-(x*p+y*r))*(u*u+v*v)*(p*(n+v)-r*(m+u))=(p*p+r*r)*(((x-m)*u+(y-n)*v-(u*u+v*v))*(u*(w-n)-v*(z-m))-(u*(y-n)-v*(x-m))*((z-m)*u+(w-n)*v-(u*u+v*v))):=by grind
theorem cv3{p r m n u v x y z w:Int}(hx:p*y=r*x)(hz:p*w=r*z):(p*p+r*r)*((u*(y-n)-v*(x-m))-(u*(w-n)-v*(z-m)))=(z*p+w*r-(x*p+y*r))*(-(u*r-v*p)):=by grind
theorem cv4{p r m n u v x y σ:Int}(hx:p*y=r*x):(p*p+r*r)*(σ*(u*(y-n)-v*(x-m)))=(p*p+r*r-(x*p+y*r))*(σ*(u*(0-n)-v*(0-m)))+(x*p+y*r)*(σ*(u*(r-n)-v*(p-m))):=by grind
theorem cross_vec{p r m n u v x y z w P q τ σ t s c g:Int}(hσ:σ=1\/σ = -1)(hP:p*p+r*r=P)(hq:u*u+v*v=q)(P0:0<P)(q0:0<q)(hx:p*y=r*x)(hτ:x*p+y*r=τ)(τ0:0<=τ)(τ1:τ<=P)
  (hz:z=0/\w=0\/z=p/\w=r) (ht:(x-m)*u+(y-n)*v=t) (hs:(z-m)*u+(w-n)*v=s) (hc:σ*(u*(y-n)-v*(x-m))=c) (hg:σ*(u*(w-n)-v*(z-m))=g)
  (c0:0<c) (g0:g<=0) (k0:t*g-c*s<=0) (k1:0<=(t-q)*g-c*(s-q)) :
  ¬p*v-r*u=0/\(p*n-r*m)*(p*(n+v)-r*(m+u))<=0/\(u*(0-n)-v*(0-m))*(u*(r-n)-v*(p-m))<=0:=by
 obtain⟨c',hc'⟩:∃c',u*(y-n)-v*(x-m)=c':=⟨_,rfl⟩
 obtain⟨g',hg'⟩:∃g',u*(w-n)-v*(z-m)=g':=⟨_,rfl⟩
 rw[hc'] at hc
 rw[hg'] at hg
 have ss:σ*σ=1:=by rcases hσ with rfl|rfl<;>rfl
 obtain⟨ω,hω⟩:∃ω,z*p+w*r-τ=ω:=⟨_,rfl⟩
 have hzw:p*w=r*z:=by rcases hz with⟨rfl,rfl⟩|⟨rfl,rfl⟩<;>grind
 have i1:ω*q*(p*n-r*m)=P*(t*g'-c'*s):=by subst hq hP hτ hω ht hs hc' hg';exact cv1 hx hzw
 have i2:ω*q*(p*(n+v)-r*(m+u))=P*((t-q)*g'-c'*(s-q)):=by subst hq hP hτ hω ht hs hc' hg';exact cv2 hx hzw
 have i3:P*(c'-g')=ω*(p*v-r*u):=by subst hP hτ hω hc' hg';rw[cv3 hx hzw,show p*v-r*u = -(u*r-v*p) by grind]
 have ncg:¬c'=g':=fun e=>by rw[e,hg] at hc;omega
 have n3:¬ω*(p*v-r*u)=0:=fun e=>by
  rw[e] at i3
  rcases Int.mul_eq_zero.1 i3 with f|f<;>omega
 refine⟨fun e=>n3 (by rw[e,Int.mul_zero]),?_,?_⟩
 ·have nω : ¬ ω = 0 := fun e => n3 (by rw [e, Int.zero_mul])
  refine le0_of_sq (k:=ω*q) (fun e=>by rcases Int.mul_eq_zero.1 e with f|f<;>omega) ?_
  have e1:ω*q*(ω*q)*((p*n-r*m)*(p*(n+v)-r*(m+u)))=P*P*((t*g-c*s)*((t-q)*g-c*(s-q))):=by
   have:ω*q*(ω*q)*((p*n-r*m)*(p*(n+v)-r*(m+u)))=(ω*q*(p*n-r*m))*(ω*q*(p*(n+v)-r*(m+u))):=by grind
   rw[this,i1,i2,<- hc,<- hg]
   exact sg_prod ss _ _ _ _ _ _ _
  rw[e1]
  have:=Int.mul_nonneg (Int.mul_nonneg (Int.le_of_lt P0) (Int.le_of_lt P0)) (Int.mul_nonneg (show 0 <= -(t*g-c*s) by omega) k1)
  have e2:P*P*(-(t*g-c*s)*((t-q)*g-c*(s-q))) = -(P*P*((t*g-c*s)*((t-q)*g-c*(s-q)))):=by grind
  omega
 ·obtain ⟨a0, h0⟩ : ∃ a0, u * (0 - n) - v * (0 - m) = a0 := ⟨_, rfl⟩
  obtain⟨a1,h1⟩:∃a1,u*(r-n)-v*(p-m)=a1:=⟨_,rfl⟩
  have j:P*c=(P-τ)*(σ*a0)+τ*(σ*a1):=by rw[<- hc];subst hP hτ hc' h0 h1;exact cv4 hx
  rw[h0,h1]
  have e3:a0*a1=σ*a0*(σ*a1):=by
   have:σ*a0*(σ*a1)=σ*σ*(a0*a1):=by grind
   rw[this,ss,Int.one_mul]
  have pc:=Int.mul_pos P0 c0
  rw[e3]
  rcases hz with⟨rfl,rfl⟩|⟨rfl,rfl⟩
  ·have e4 : σ * a0 = g := by rw [<- hg, <- hg', <- h0]
   rw[e4] at j ⊢
   have:=Int.mul_nonpos_of_nonneg_of_nonpos (show 0<=P-τ by omega) g0
   have h2:0<σ*a1:=by
    rcases Int.lt_or_le 0 (σ*a1) with f|f
    ·exact f
    ·have:=Int.mul_nonpos_of_nonneg_of_nonpos τ0 f;omega
   exact Int.mul_nonpos_of_nonpos_of_nonneg g0 (Int.le_of_lt h2)
  ·have e4 : σ * a1 = g := by rw [<- hg, <- hg', <- h1]
   rw[e4] at j ⊢
   have:=Int.mul_nonpos_of_nonneg_of_nonpos τ0 g0
   have h2:0<σ*a0:=by
    rcases Int.lt_or_le 0 (σ*a0) with f|f
    ·exact f
    ·have:=Int.mul_nonpos_of_nonneg_of_nonpos (show 0<=P-τ by omega) f;omega
   exact Int.mul_nonpos_of_nonneg_of_nonpos (Int.le_of_lt h2) g0
theorem cross_lines{a b:Ed}{x y z w:Int}(ha:a.k=1)(hb:b.k=1)(h1:onE a x y=true)(h2:z=a.ax/\w=a.ay\/z=a.bx/\w=a.by')(ob:b.ok=true)
  {σ t s c g:Int} (hσ:σ=1\/σ = -1)
  (ht:(x-b.ax)*(b.bx-b.ax)+(y-b.ay)*(b.by'-b.ay)=t) (hs:(z-b.ax)*(b.bx-b.ax)+(w-b.ay)*(b.by'-b.ay)=s)
  (hc:σ*((b.bx-b.ax)*(y-b.ay)-(b.by'-b.ay)*(x-b.ax))=c) (hg:σ*((b.bx-b.ax)*(w-b.ay)-(b.by'-b.ay)*(z-b.ax))=g)
  (c0:0<c) (g0:g<=0) (k0:t*g-c*s<=0) (k1:0<=(t-sqI (b.bx-b.ax) (b.by'-b.ay))*g-c*(s-sqI (b.bx-b.ax) (b.by'-b.ay))):countE a b≠0:=by
 obtain⟨oa,b1,b2,hl⟩:=onE_line ha h1
 have nb:¬(b.bx-b.ax=0/\b.by'-b.ay=0):=fun ⟨e1,e2⟩=>by
  rw[e1,e2] at hc;simp at hc;omega
 have q0:=sqI_pos nb
 have m1:=btw_mul (btw_shift b1)
 have m2:=btw_mul (btw_shift b2)
 have na:¬(a.bx-a.ax=0/\a.by'-a.ay=0):=fun ⟨e1,e2⟩=>by
  unfold Btw at b1 b2
  have:x=z/\y=w:=by omega
  rw[this.1,this.2,hg] at hc
  omega
 have p0:=sqI_pos na
 have pta:a.pt=false:=by
  cases hp:a.pt with
  | false=>rfl
  | true=>simp[Ed.pt] at hp;exact absurd ⟨by omega,by omega⟩ na
 have ptb:b.pt=false:=by
  cases hp:b.pt with
  | false=>rfl
  | true=>simp[Ed.pt] at hp;exact absurd ⟨by omega,by omega⟩ nb
 unfold countE
 rw[oa,ob,pta,ptb]
 simp only[ha,hb,Bool.and_self,Bool.not_true,Bool.false_eq_true,if_false,if_true]
 obtain⟨k2,k3,k4⟩:=cross_vec (p:=a.bx-a.ax) (r:=a.by'-a.ay) (m:=b.ax-a.ax) (n:=b.ay-a.ay) (u:=b.bx-b.ax) (v:=b.by'-b.ay) (x:=x-a.ax) (y:=y-a.ay) (z:=z-a.ax) (w:=w-a.ay) (P:=sqI (a.bx-a.ax) (a.by'-a.ay)) (q:=sqI (b.bx-b.ax) (b.by'-b.ay)) (τ:=(x-a.ax)*(a.bx-a.ax)+(y-a.ay)*(a.by'-a.ay)) (t:=t) (s:=s) (c:=c) (g:=g) hσ rfl rfl p0 q0 hl rfl (by omega) (by unfold sqI;omega) (by omega)
  (by rw[<- ht,show x-a.ax-(b.ax-a.ax)=x-b.ax by omega,show y-a.ay-(b.ay-a.ay)=y-b.ay by omega]) (by rw[<- hs,show z-a.ax-(b.ax-a.ax)=z-b.ax by omega,show w-a.ay-(b.ay-a.ay)=w-b.ay by omega])
  (by rw[<- hc,show x-a.ax-(b.ax-a.ax)=x-b.ax by omega,show y-a.ay-(b.ay-a.ay)=y-b.ay by omega]) (by rw[<- hg,show z-a.ax-(b.ax-a.ax)=z-b.ax by omega,show w-a.ay-(b.ay-a.ay)=w-b.ay by omega]) c0 g0 k0 k1
 rw[show b.ay-a.ay+(b.by'-b.ay)=b.by'-a.ay by omega,show b.ax-a.ax+(b.bx-b.ax)=b.bx-a.ax by omega] at k3
 rw[show 0-(b.ay-a.ay)=a.ay-b.ay by omega,show 0-(b.ax-a.ax)=a.ax-b.ax by omega,show a.by'-a.ay-(b.ay-a.ay)=a.by'-b.ay by omega,show a.bx-a.ax-(b.ax-a.ax)=a.bx-b.ax by omega] at k4
 unfold linesZ crI
 rw[if_pos k2,if_neg (side_not k3),if_neg (side_not k4)]
 decide
theorem endQ_sym(x y a b:Int):endQ x y a b=endQ a b x y:=by
 unfold endQ sqI
 rw[show (x-a)*(x-a)+(y-b)*(y-b)=(a-x)*(a-x)+(b-y)*(b-y) by grind]
theorem cand1(a b:Ed):pointQ b a.ax a.ay∈candQ a b:=by unfold candQ;simp
theorem cand2(a b:Ed):pointQ b a.bx a.by'∈candQ a b:=by unfold candQ;simp
theorem cand3(a b:Ed):pointQ a b.ax b.ay∈candQ a b:=by unfold candQ;simp
theorem cand4(a b:Ed):pointQ a b.bx b.by'∈candQ a b:=by unfold candQ;simp
theorem side_end{P τ c c0 c1:Int}(h:P*c=(P-τ)*c0+τ*c1)(τ0:0<=τ)(τ1:τ<=P)(P0:0<P):c0<=c\/c1<=c:=by
 rcases Int.lt_or_le c c0 with g|g
 ·rcases Int.lt_or_le c c1 with f | f
  ·exfalso
   have e1:P*c=(P-τ)*c+τ*c:=by grind
   have e2:=Int.mul_le_mul_of_nonneg_left (Int.le_of_lt g) (show 0<=P-τ by omega)
   have e3:=Int.mul_le_mul_of_nonneg_left (Int.le_of_lt f) τ0
   rcases Int.lt_or_eq_of_le τ0 with k|k
   ·have:=Int.mul_lt_mul_of_pos_left f k;omega
   ·have:=Int.mul_lt_mul_of_pos_left g (show 0<P-τ by omega);omega
  ·exact .inr f
 ·exact .inl g
theorem mixE{p r k α X Y Z W:Int}(h:p*Y=r*X)(g:p*W=r*Z):p*((k-α)*Y+α*W)=r*((k-α)*X+α*Z):=by grind
theorem mixT(p r k α X Y Z W:Int):((k-α)*X+α*Z)*p+((k-α)*Y+α*W)*r=(k-α)*(X*p+Y*r)+α*(Z*p+W*r):=by grind
theorem mixQ(x y z w m n a b k α u v:Int):sqI (k*(m-a)-((k-α)*(x-a)+α*(z-a))) (k*(n-b)-((k-α)*(y-b)+α*(w-b)))*(u*u+v*v)=((k-α)*((x-m)*u+(y-n)*v)+α*((z-m)*u+(w-n)*v))*((k-α)*((x-m)*u+(y-n)*v)+α*((z-m)*u+(w-n)*v))+((k-α)*(u*(y-n)-v*(x-m))+α*(u*(w-n)-v*(z-m)))*((k-α)*(u*(y-n)-v*(x-m))+α*(u*(w-n)-v*(z-m))):=by unfold sqI;grind
theorem exit_le{e:Ed}{x y z w m n k α q t s c g:Int}(hk:e.k=1)(h1:onE e x y=true)(h2:onE e z w=true)(k0:0<k)(α0:0<=α)(α1:α<=k)(q0:0<q)
  (u v:Int) (hq:u*u+v*v=q) (ht:(x-m)*u+(y-n)*v=t) (hs:(z-m)*u+(w-n)*v=s) (hc:u*(y-n)-v*(x-m)=c) (hg:u*(w-n)-v*(z-m)=g)
  (hz:(k-α)*t+α*s=0) (C:Int) (hC:((k-α)*c+α*g)*((k-α)*c+α*g)<=k*k*(C*C)):cmpQ (pointQ e m n) ⟨0,1,C*C,q⟩<=0:=by
 obtain⟨ho,b1,b2,hl⟩:=onE_line hk h1
 obtain⟨_,d1,d2,hm⟩:=onE_line hk h2
 have m1:=btw_mul (btw_shift b1)
 have m2:=btw_mul (btw_shift b2)
 have m3:=btw_mul (btw_shift d1)
 have m4:=btw_mul (btw_shift d2)
 obtain⟨p,hp⟩:∃p,e.bx-e.ax=p:=⟨_,rfl⟩
 obtain⟨r,hr⟩:∃r,e.by'-e.ay=r:=⟨_,rfl⟩
 rw[hp] at hl hm m1 m3
 rw[hr] at hl hm m2 m4
 have P1:=Int.mul_le_mul_of_nonneg_left (show (x-e.ax)*p+(y-e.ay)*r<=p*p+r*r by omega) (show 0<=k-α by omega)
 have P2:=Int.mul_le_mul_of_nonneg_left (show (z-e.ax)*p+(w-e.ay)*r<=p*p+r*r by omega) α0
 have P3:=Int.mul_nonneg (show 0<=k-α by omega) (show 0<=(x-e.ax)*p+(y-e.ay)*r by omega)
 have P4:=Int.mul_nonneg α0 (show 0<=(z-e.ax)*p+(w-e.ay)*r by omega)
 have P5:(k-α)*(p*p+r*r)+α*(p*p+r*r)=k*(p*p+r*r):=by rw[<- Int.add_mul,Int.sub_add_cancel]
 obtain⟨N,D,e1,N0,D0,hle⟩:=line_leK (e:=e) (x:=m) (y:=n) (a:=(k-α)*(x-e.ax)+α*(z-e.ax)) (b:=(k-α)*(y-e.ay)+α*(w-e.ay)) k0
  (by rw[hp,hr];exact mixE hl hm) (by rw[hp,hr,mixT];omega)
  (by rw[hp,hr,mixT];unfold sqI;omega)
  (fun f1 f2 => by
   unfold Btw at b1 b2 d1 d2
   rw[show x-e.ax=0 by omega,show z-e.ax=0 by omega,show y-e.ay=0 by omega,show w-e.ay=0 by omega];simp)
 unfold pointQ
 rw[if_pos hk,e1]
 refine le_sq2 N0 D0 (sqz_nn C) q0 ?_
 have kk:0<k*k:=Int.mul_pos k0 k0
 have e2:sqI (k*(m-e.ax)-((k-α)*(x-e.ax)+α*(z-e.ax))) (k*(n-e.ay)-((k-α)*(y-e.ay)+α*(w-e.ay)))*q=((k-α)*t+α*s)*((k-α)*t+α*s)+((k-α)*c+α*g)*((k-α)*c+α*g):=by
  rw[<- ht,<- hs,<- hc,<- hg,<- hq];exact mixQ ..
 rw[hz] at e2
 have e3:=Int.mul_le_mul_of_nonneg_right hle (Int.le_of_lt q0)
 have e4:sqI (k*(m-e.ax)-((k-α)*(x-e.ax)+α*(z-e.ax))) (k*(n-e.ay)-((k-α)*(y-e.ay)+α*(w-e.ay)))*D*q=(sqI (k*(m-e.ax)-((k-α)*(x-e.ax)+α*(z-e.ax))) (k*(n-e.ay)-((k-α)*(y-e.ay)+α*(w-e.ay)))*q)*D:=by grind
 rw[e4,e2,Int.zero_mul,Int.zero_add] at e3
 have e5:=Int.mul_le_mul_of_nonneg_right hC (Int.le_of_lt D0)
 refine Int.le_of_mul_le_mul_left (a:=k*k) ?_ kk
 have e6:k*k*(N*q)=N*(k*k)*q:=by grind
 have e7:k*k*(C*C*D)=k*k*(C*C)*D:=by grind
 rw[e6,e7]
 exact Int.le_trans e3 e5
theorem footI(X Y u v:Int):sqI (sqI u v*X-(X*u+Y*v)*u) (sqI u v*Y-(X*u+Y*v)*v)=sqI u v*((u*Y-v*X)*(u*Y-v*X)):=by unfold sqI;grind
theorem foot_le{b:Ed}{z w s g q:Int}(kb:b.k=1)(hq:sqI (b.bx-b.ax) (b.by'-b.ay)=q)(q0:0<q)(hs:(z-b.ax)*(b.bx-b.ax)+(w-b.ay)*(b.by'-b.ay)=s)(hg:(b.bx-b.ax)*(w-b.ay)-(b.by'-b.ay)*(z-b.ax)=g)
  (s0:0<=s) (s1:s<=q) (C:Int) (hC:g*g<=C*C):cmpQ (pointQ b z w) ⟨0,1,C*C,q⟩<=0:=by
 obtain⟨u,hu⟩:∃u,b.bx-b.ax=u:=⟨_,rfl⟩
 obtain⟨v,hv⟩:∃v,b.by'-b.ay=v:=⟨_,rfl⟩
 obtain⟨N,D,e1,N0,D0,hle⟩:=line_leK (e:=b) (x:=z) (y:=w) (a:=s*(b.bx-b.ax)) (b:=s*(b.by'-b.ay)) (k:=q) q0 (by grind)
  (by rw[show s*(b.bx-b.ax)*(b.bx-b.ax)+s*(b.by'-b.ay)*(b.by'-b.ay)=s*sqI (b.bx-b.ax) (b.by'-b.ay) by unfold sqI;grind,hq];exact Int.mul_nonneg s0 (Int.le_of_lt q0))
  (by rw[show s*(b.bx-b.ax)*(b.bx-b.ax)+s*(b.by'-b.ay)*(b.by'-b.ay)=s*sqI (b.bx-b.ax) (b.by'-b.ay) by unfold sqI;grind,hq];exact Int.mul_le_mul_of_nonneg_right s1 (Int.le_of_lt q0))
  (fun f1 f2=>by rw[f1,f2];simp)
 unfold pointQ
 rw[if_pos kb,e1]
 refine le_sq2 N0 D0 (sqz_nn C) q0 ?_
 have e2:sqI (q*(z-b.ax)-s*(b.bx-b.ax)) (q*(w-b.ay)-s*(b.by'-b.ay))=q*(g*g):=by
  rw[<- hg,<- hs,<- hq];exact footI _ _ _ _
 rw[e2] at hle
 have e3:=Int.mul_le_mul_of_nonneg_right hC (Int.le_of_lt D0)
 refine Int.le_trans ?_ e3
 refine Int.le_of_mul_le_mul_left (a:=q) ?_ q0
 have e4:q*(N*q)=N*(q*q):=by grind
 have e5:q*(g*g*D)=q*(g*g)*D:=by grind
 omega
theorem mid_on{e:Ed}{x y:Int}(hk:e.k=1)(ho:e.ok=true)(h1:0<(x-e.ax)*(e.bx-e.ax)+(y-e.ay)*(e.by'-e.ay))(h2:(x-e.ax)*(e.bx-e.ax)+(y-e.ay)*(e.by'-e.ay)<sqI (e.bx-e.ax) (e.by'-e.ay))
  (hc:(e.bx-e.ax)*(y-e.ay)-(e.by'-e.ay)*(x-e.ax)=0):onE e x y=true:=by
 have b1:=between (a:=e.ax) (b:=e.bx) (p:=x) rfl hc rfl h1 h2 rfl rfl
 have b2:=between (a:=e.ay) (b:=e.by') (p:=y) (u:=e.by'-e.ay) (v:=e.bx-e.ax) (x:=y-e.ay) (y:=x-e.ax) (t:=(x-e.ax)*(e.bx-e.ax)+(y-e.ay)*(e.by'-e.ay)) (q:=sqI (e.bx-e.ax) (e.by'-e.ay)) (by unfold sqI;omega) (by omega) (by omega) (by omega) (by omega) rfl rfl
 exact onE_line_mk hk ho b1 b2 (by omega)
theorem sq_sg{σ x y k C:Int}(hσ:σ=1\/σ = -1)(h:σ*x=y)(h0:0<=y)(h1:y<=k*C):x*x<=k*k*(C*C):=by
 have e:x*x=y*y:=by rcases hσ with rfl|rfl<;>subst h<;>grind
 have:=Int.mul_le_mul h1 h1 h0 (by omega)
 have e2:k*C*(k*C)=k*k*(C*C):=by grind
 omega
theorem lines_least{a b:Ed}{x y:Int}(ka:a.k=1)(kb:b.k=1)(ob:b.ok=true)(h:onE a x y=true)(hm:countE a b=0):∃z∈candQ a b,cmpQ z (pointQ b x y)<=0:=by
 have oa:=ok_of_on h
 obtain⟨t,ht⟩:∃t,(x-b.ax)*(b.bx-b.ax)+(y-b.ay)*(b.by'-b.ay)=t:=⟨_,rfl⟩
 obtain⟨q,hq⟩:∃q,sqI (b.bx-b.ax) (b.by'-b.ay)=q:=⟨_,rfl⟩
 obtain⟨c',hc'⟩:∃c',(b.bx-b.ax)*(y-b.ay)-(b.by'-b.ay)*(x-b.ax)=c':=⟨_,rfl⟩
 have hp:pointQ b x y=if t<=0 then endQ x y b.ax b.ay else if q<=t then endQ x y b.bx b.by' else ⟨0,1,c'*c',q⟩:=by
  unfold pointQ;rw[if_pos kb];unfold lineQ;rw[ht,hq,hc']
 by_cases h1:t<=0
 ·rw [hp, if_pos h1]
  exact⟨_,cand3 a b,by rw[endQ_sym];exact point_le h⟩
 by_cases h2:q<=t
 ·rw [hp, if_neg h1, if_pos h2]
  exact⟨_,cand4 a b,by rw[endQ_sym];exact point_le h⟩
 rw[hp,if_neg h1,if_neg h2]
 have n0:¬c'=0:=fun e=>common_point h (mid_on kb ob (by omega) (by omega) (hc'.trans e)) hm
 obtain⟨σ,C,hσ,hC,C0⟩:∃σ C:Int,(σ=1\/σ = -1)/\σ*c'=C/\0<C:=by
  rcases Int.lt_or_le c' 0 with g|g
  ·exact⟨-1,-c',.inr rfl,by omega,by omega⟩
  ·exact⟨1,c',.inl rfl,by omega,by omega⟩
 have CC:c'*c'=C*C:=by rcases hσ with rfl|rfl<;>subst hC<;>grind
 rw[CC]
 have q0:0<q:=by omega
 obtain⟨_,b1,b2,hl⟩:=onE_line ka h
 have m1:=btw_mul (btw_shift b1)
 have m2:=btw_mul (btw_shift b2)
 obtain⟨z,w,hz,hzo,hle⟩:∃z w,(z=a.ax/\w=a.ay\/z=a.bx/\w=a.by')/\onE a z w=true/\σ*((b.bx-b.ax)*(w-b.ay)-(b.by'-b.ay)*(z-b.ax))<=C:=by
  by_cases na:a.bx-a.ax=0/\a.by'-a.ay=0
  ·refine ⟨a.ax, a.ay, .inl ⟨rfl, rfl⟩, end_a oa, ?_⟩
   unfold Btw at b1 b2
   rw[<- hC,<- hc',show x=a.ax by omega,show y=a.ay by omega]
   exact Int.le_refl _
  ·have P0 := sqI_pos na
   have hcv:=cv4 (p:=a.bx-a.ax) (r:=a.by'-a.ay) (m:=b.ax-a.ax) (n:=b.ay-a.ay) (u:=b.bx-b.ax) (v:=b.by'-b.ay) (x:=x-a.ax) (y:=y-a.ay) (σ:=σ) hl
   rw[show x-a.ax-(b.ax-a.ax)=x-b.ax by omega,show y-a.ay-(b.ay-a.ay)=y-b.ay by omega,hc',hC,show 0-(b.ay-a.ay)=a.ay-b.ay by omega,show 0-(b.ax-a.ax)=a.ax-b.ax by omega,show a.by'-a.ay-(b.ay-a.ay)=a.by'-b.ay by omega,show a.bx-a.ax-(b.ax-a.ax)=a.bx-b.ax by omega] at hcv
   rcases side_end hcv (by omega) (by omega) P0 with g|g
   ·exact⟨_,_,.inl ⟨rfl,rfl⟩,end_a oa,g⟩
   ·exact⟨_,_,.inr ⟨rfl,rfl⟩,end_b oa,g⟩
 obtain⟨s,hs⟩:∃s,(z-b.ax)*(b.bx-b.ax)+(w-b.ay)*(b.by'-b.ay)=s:=⟨_,rfl⟩
 obtain⟨g',hg'⟩:∃g',(b.bx-b.ax)*(w-b.ay)-(b.by'-b.ay)*(z-b.ax)=g':=⟨_,rfl⟩
 obtain⟨g,hg⟩:∃g,σ*g'=g:=⟨_,rfl⟩
 rw[hg',hg] at hle
 have candT:pointQ b z w∈candQ a b:=by rcases hz with⟨rfl,rfl⟩|⟨rfl,rfl⟩;exact cand1 a b;exact cand2 a b
 have toA:s<0->0<=t*g-s*C->∃z∈candQ a b,cmpQ z ⟨0,1,C*C,q⟩<=0:=fun s0 G0=>by
  refine⟨_,cand3 a b,exit_le (x:=x) (y:=y) (z:=z) (w:=w) (k:=t-s) (α:=t) ka h hzo (by omega) (by omega) (by omega) q0 (b.bx-b.ax) (b.by'-b.ay) (by rw[<- hq];rfl) ht hs hc' hg' (by rw[show t-s-t = -s by omega];grind) C ?_⟩
  refine sq_sg (y:=t*g-s*C) hσ ?_ G0 ?_
  ·rw[<- hC,<- hg];grind
  ·have := Int.mul_le_mul_of_nonneg_left hle (show 0 <= t by omega)
   rw[Int.sub_mul];omega
 have toB:q<s->0<=(s-q)*C+(q-t)*g->∃z∈candQ a b,cmpQ z ⟨0,1,C*C,q⟩<=0:=fun s0 G0=>by
  refine⟨_,cand4 a b,exit_le (x:=x) (y:=y) (z:=z) (w:=w) (k:=s-t) (α:=q-t) (t:=t-q) (s:=s-q) (c:=c') (g:=g') ka h hzo (by omega) (by omega) (by omega) q0 (b.bx-b.ax) (b.by'-b.ay) (by rw[<- hq];rfl) (by rw[<- ht,<- hq];unfold sqI;grind) (by rw[<- hs,<- hq];unfold sqI;grind) (by rw[<- hc'];grind) (by rw[<- hg'];grind) (by rw[show s-t-(q-t)=s-q by omega];grind) C ?_⟩
  refine sq_sg (y:=(s-q)*C+(q-t)*g) hσ ?_ G0 ?_
  ·rw[<- hC,<- hg];grind
  ·have := Int.mul_le_mul_of_nonneg_left hle (show 0 <= q - t by omega)
   have e:(s-t)*C=(s-q)*C+(q-t)*C:=by rw[<- Int.add_mul];congr 1;omega
   omega
 have kA:t*g-s*C=t*g-C*s:=by rw[Int.mul_comm s C]
 have kB:(t-q)*g-C*(s-q) = -((s-q)*C+(q-t)*g):=by grind
 by_cases g0:0<g
 ·have G1 := Int.mul_pos (show 0 < t by omega) g0
  have G2:=Int.mul_pos (show 0<q-t by omega) g0
  by_cases s0:s<0
  ·have := Int.mul_neg_of_neg_of_pos s0 C0
   exact toA s0 (by omega)
  by_cases s1:q<s
  ·have := Int.mul_pos (show 0 < s - q by omega) C0
   exact toB s1 (by omega)
  ·refine ⟨_, candT, foot_le kb hq q0 hs hg' (by omega) (by omega) C ?_⟩
   have e:g'*g'=g*g:=by rcases hσ with rfl|rfl<;>subst hg<;>grind
   rw[e]
   exact Int.mul_le_mul hle hle (by omega) (by omega)
 ·have G1 := Int.mul_nonpos_of_nonneg_of_nonpos (show 0 <= t by omega) (show g <= 0 by omega)
  have G2:=Int.mul_nonpos_of_nonneg_of_nonpos (show 0<=q-t by omega) (show g<=0 by omega)
  by_cases hA:s<0/\0<=t*g-s*C
  ·exact toA hA.1 hA.2
  by_cases hB:q<s/\0<=(s-q)*C+(q-t)*g
  ·exact toB hB.1 hB.2
  exfalso
  refine cross_lines ka kb h hz ob hσ ht hs (c:=C) (g:=g) (by rw[hc',hC]) (by rw[hg',hg]) C0 (by omega) ?_ ?_ hm
  ·by_cases s0 : s < 0
   ·omega
   ·have := Int.mul_nonneg (Int.le_of_lt C0) (show 0 <= s by omega)
    omega
  ·rw [hq, kB]
   by_cases s1:q<s
   ·omega
   ·have := Int.mul_nonpos_of_nonpos_of_nonneg (show s - q <= 0 by omega) (Int.le_of_lt C0)
    omega
theorem side_ge{x y d:Int}(hd:0<=d)(h:(0<=x/\y*y*d<=x*x)\/(0<=y/\x*x<=y*y*d)):0<=sideZ x y d:=by
 have zx:x=0->x*x=0:=fun e=>by rw[e];rfl
 have px:¬x=0->0<x*x:=fun e=>by
  have:=sqz_nn x
  have:¬x*x=0:=fun f=>by rcases Int.mul_eq_zero.1 f with g|g<;>exact e g
  omega
 have py:¬y=0->0<d->0<y*y*d:=fun e f=>by
  have:=sqz_nn y
  have:¬y*y=0:=fun f=>by rcases Int.mul_eq_zero.1 f with g|g<;>exact e g
  exact Int.mul_pos (by omega) f
 have y0:y=0->y*y*d=0:=fun e=>by rw[e];simp
 have d0:d=0->y*y*d=0:=fun e=>by rw[e];simp
 unfold sideZ
 have cm:(cmpZ (x*x) (y*y*d)=1/\y*y*d<x*x)\/(cmpZ (x*x) (y*y*d)=0/\x*x=y*y*d)\/(cmpZ (x*x) (y*y*d) = -1/\x*x<y*y*d):=by
  unfold cmpZ
  split
  ·exact .inr (.inr ⟨rfl,by assumption⟩)
  ·split
   ·exact .inr (.inl ⟨rfl,by assumption⟩)
   ·exact .inl ⟨rfl,by omega⟩
 generalize cmpZ (x*x) (y*y*d)=m at *
 generalize x*x=X at *
 generalize y*y*d=Y at *
 rcases sgn_cases x with⟨h1,g1⟩|⟨h1,g1⟩|⟨h1,g1⟩<;>rcases sgn_cases y with⟨h2,g2⟩|⟨h2,g2⟩|⟨h2,g2⟩<;>rcases sgn_cases d with⟨h3,g3⟩|⟨h3,g3⟩|⟨h3,g3⟩<;>rw[h1,h2,h3] <;>
  first
   | omega
   | (rw[if_pos (by decide)];decide)
   | (rw[if_neg (by decide)];omega)
   | (exfalso;omega)
theorem sq_up{a b:Int}(h0:0<=a)(h:a<=b):a*a<=b*b:=Int.mul_le_mul h h h0 (by omega)
theorem side_btw{k g0 g1 s1 s2 d s:Int}(k0:0<k)(hd:0<=d)(hs:s=1/\0<=s1\/s = -1/\s1<=0)(h1:0<=k*g0+g1*s1)(h2:0<=k*g0+g1*s2)(i2:s2*s2<=k*k*d)(i1:k*k*d<=s1*s1):0<=sideZ g0 (s*g1) d:=by
 have key:∀g1 s1 s2:Int,0<=s1->0<=k*g0+g1*s1->0<=k*g0+g1*s2->s2*s2<=k*k*d->k*k*d<=s1*s1->0<=sideZ g0 g1 d:=fun g1 s1 s2 p0 h1 h2 i2 i1=>by
  have kk:0<k*k:=Int.mul_pos k0 k0
  refine side_ge hd ?_
  have gg:=sqz_nn g1
  by_cases hg:0<=g1
  ·by_cases h0 : 0 <= g0
   ·by_cases e : g1 * g1 * d <= g0 * g0
    ·exact .inl ⟨h0,e⟩
    ·exact .inr ⟨hg,by omega⟩
   ·right
    refine⟨hg,?_⟩
    have n1:0 < -(k*g0):=by have:=Int.mul_pos k0 (show 0 < -g0 by omega);rw[Int.mul_neg] at this;exact this
    have u:=sq_up (a := -(k*g0)) (b:=g1*s2) (by omega) (by omega)
    have e1 : -(k*g0) * -(k*g0)=k*k*(g0*g0):=by grind
    have e2:g1*s2*(g1*s2)=g1*g1*(s2*s2):=by grind
    have e3:=Int.mul_le_mul_of_nonneg_left i2 gg
    have e4:g1*g1*(k*k*d)=k*k*(g1*g1*d):=by grind
    exact Int.le_of_mul_le_mul_left (a:=k*k) (by omega) kk
  ·left
   have n1:0 <= -g1*s1:=Int.mul_nonneg (by omega) p0
   rw[Int.neg_mul] at n1
   have n2:0<=k*g0:=by omega
   have h0:0<=g0:=by
    rcases Int.lt_or_le g0 0 with f|f
    ·have:=Int.mul_neg_of_pos_of_neg k0 f;omega
    ·exact f
   refine⟨h0,?_⟩
   have u:=sq_up (a := -(g1*s1)) (b:=k*g0) n1 (by omega)
   have e1:k*g0*(k*g0)=k*k*(g0*g0):=by grind
   have e2 : -(g1*s1) * -(g1*s1)=g1*g1*(s1*s1):=by grind
   have e3:=Int.mul_le_mul_of_nonneg_left i1 gg
   have e4:g1*g1*(k*k*d)=k*k*(g1*g1*d):=by grind
   exact Int.le_of_mul_le_mul_left (a:=k*k) (by omega) kk
 rcases hs with⟨rfl,hs⟩|⟨rfl,hs⟩
 ·rw[Int.one_mul];exact key g1 s1 s2 hs h1 h2 i2 i1
 ·exact key (-1*g1) (-s1) (-s2) (by omega) (by rw[Int.neg_one_mul,Int.neg_mul_neg];exact h1) (by rw[Int.neg_one_mul,Int.neg_mul_neg];exact h2) (by rw[Int.neg_mul_neg];exact i2) (by rw[Int.neg_mul_neg];exact i1)
theorem countC_good{d s:Int}{l:List (Int×Int)}(hd:0<=d)(hs:s=1\/s = -1)(h:∀p∈l,0<=sideZ p.1 (s*p.2) d):countC d l≠0:=by
 have G:∀s':Int,(s'=s\/d=0)->goodS d s' l=true:=fun s' e=>by
  unfold goodS
  rw[List.all_eq_true]
  intro p hp
  have:=h p hp
  rcases e with rfl|rfl
  ·exact decide_eq_true this
  ·rw [side0] at this
   exact decide_eq_true (by rw[side0];exact this)
 unfold countC
 rw[if_neg (by omega)]
 by_cases h0:d=0
 ·rw[if_pos h0,G 1 (.inr h0),if_pos rfl];decide
 ·rw [if_neg h0]
  rcases hs with rfl|rfl
  ·rw[G 1 (.inl rfl),if_pos rfl];split<;>decide
  ·rw[G (-1) (.inl rfl),if_pos rfl];split<;>decide
theorem lc_sq(k m n u v a b r:Int)(h:u*(b-k*n)=v*(a-k*m)):(a*u+b*v)*(a*u+b*v)-k*k*((m*u+n*v)*(m*u+n*v)-(u*u+v*v)*(m*m+n*n-r*r))=(u*u+v*v)*(a*a+b*b-k*k*(r*r)):=by grind
theorem lc_u(k m n u v a b p q:Int)(h:u*(b-k*n)=v*(a-k*m)):k*((u*u+v*v)*(m*p+n*q)-(m*u+n*v)*(u*p+v*q))+(u*p+v*q)*(a*u+b*v)=(u*u+v*v)*(a*p+b*q):=by grind
theorem cross_arc{l e:Ed}{k a b c d:Int}(k0:0<k)(S0:0<sqI (l.bx-l.ax) (l.by'-l.ay))
  (h1:(l.bx-l.ax)*(b-k*(l.ay-e.cy))=(l.by'-l.ay)*(a-k*(l.ax-e.cx))) (h2:(l.bx-l.ax)*(d-k*(l.ay-e.cy))=(l.by'-l.ay)*(c-k*(l.ax-e.cx)))
  (p1:0<=(a-k*(l.ax-e.cx))*(l.bx-l.ax)+(b-k*(l.ay-e.cy))*(l.by'-l.ay)) (q1:(a-k*(l.ax-e.cx))*(l.bx-l.ax)+(b-k*(l.ay-e.cy))*(l.by'-l.ay)<=k*sqI (l.bx-l.ax) (l.by'-l.ay))
  (p2:0<=(c-k*(l.ax-e.cx))*(l.bx-l.ax)+(d-k*(l.ay-e.cy))*(l.by'-l.ay)) (q2:(c-k*(l.ax-e.cx))*(l.bx-l.ax)+(d-k*(l.ay-e.cy))*(l.by'-l.ay)<=k*sqI (l.bx-l.ax) (l.by'-l.ay))
  (u1:0<=a*e.ux+b*e.uy) (v1:0<=a*e.vx+b*e.vy) (u2:0<=c*e.ux+d*e.uy) (v2:0<=c*e.vx+d*e.vy)
  (o1:k*k*(radZ e*radZ e)<=sqI a b) (o2:sqI c d<=k*k*(radZ e*radZ e)):crossZ l e≠0:=by
 unfold crossZ
 rw[countZ_eq]
 obtain⟨S,hS⟩:∃S,sqI (l.bx-l.ax) (l.by'-l.ay)=S:=⟨_,rfl⟩
 obtain⟨m,hm⟩:∃m,l.ax-e.cx=m:=⟨_,rfl⟩
 obtain⟨n,hn⟩:∃n,l.ay-e.cy=n:=⟨_,rfl⟩
 obtain⟨u,hu⟩:∃u,l.bx-l.ax=u:=⟨_,rfl⟩
 obtain⟨v,hv⟩:∃v,l.by'-l.ay=v:=⟨_,rfl⟩
 obtain⟨r,hr⟩:∃r,radZ e=r:=⟨_,rfl⟩
 rw[hm,hn,hu,hv] at h1 h2 p1 q1 p2 q2
 rw[hu,hv] at hS S0
 rw[hr] at o1 o2
 rw[hS] at q1 q2 S0
 have hS':u*u+v*v=S:=hS
 have E1:=lc_sq k m n u v a b r h1
 have E2:=lc_sq k m n u v c d r h2
 have hD:(laE l e).delta=(m*u+n*v)*(m*u+n*v)-S*(m*m+n*n-r*r):=by
  unfold LA.delta laE;simp only;rw[hm,hn,hu,hv,hr,hS']
 rw[hS'] at E1 E2
 rw[<- hD] at E1 E2
 obtain⟨D,hD'⟩:∃D,(laE l e).delta=D:=⟨_,rfl⟩
 rw[hD'] at E1 E2 ⊢
 unfold sqI at o1 o2
 have f1:=Int.mul_nonneg (Int.le_of_lt S0) (show 0<=a*a+b*b-k*k*(r*r) by omega)
 have f2:=Int.mul_nonneg (Int.le_of_lt S0) (show 0 <= -(c*c+d*d-k*k*(r*r)) by omega)
 rw[Int.mul_neg] at f2
 have D0:0<=D:=by
  have:=sqz_nn (c*u+d*v)
  rcases Int.lt_or_le D 0 with g|g
  ·have:=Int.mul_neg_of_pos_of_neg (Int.mul_pos k0 k0) g;omega
  ·exact g
 obtain⟨s,hs,hs'⟩:∃s:Int,(s=1\/s = -1)/\(s=1/\0<=a*u+b*v\/s = -1/\a*u+b*v<=0):=by
  rcases Int.le_total 0 (a*u+b*v) with g|g
  ·exact⟨1,.inl rfl,.inl ⟨rfl,g⟩⟩
  ·exact⟨-1,.inr rfl,.inr ⟨rfl,g⟩⟩
 refine countC_good D0 hs fun p hp=>?_
 unfold LA.list laE at hp
 simp only[hm,hn,hu,hv,hS'] at hp
 simp only[List.mem_cons,List.not_mem_nil,or_false] at hp
 have B:∀g0 g1:Int,0<=k*g0+g1*(a*u+b*v)->0<=k*g0+g1*(c*u+d*v)->0<=sideZ g0 (s*g1) D:=fun g0 g1 j1 j2=>side_btw k0 D0 hs' j1 j2 (by omega) (by omega)
 have w1:k*(0-(m*u+n*v))+1*(a*u+b*v)=(a-k*m)*u+(b-k*n)*v:=by grind
 have w2:k*(0-(m*u+n*v))+1*(c*u+d*v)=(c-k*m)*u+(d-k*n)*v:=by grind
 have w3:k*(S-(0-(m*u+n*v))) + -1*(a*u+b*v)=k*S-((a-k*m)*u+(b-k*n)*v):=by grind
 have w4:k*(S-(0-(m*u+n*v))) + -1*(c*u+d*v)=k*S-((c-k*m)*u+(d-k*n)*v):=by grind
 have x1:=lc_u k m n u v a b e.ux e.uy h1
 have x2:=lc_u k m n u v c d e.ux e.uy h2
 have x3:=lc_u k m n u v a b e.vx e.vy h1
 have x4:=lc_u k m n u v c d e.vx e.vy h2
 rw[hS'] at x1 x2 x3 x4
 rcases hp with rfl|rfl|rfl|rfl
 ·exact B _ _ (by rw[w1];exact p1) (by rw[w2];exact p2)
 ·exact B _ _ (by rw[w3];omega) (by rw[w4];omega)
 ·exact B _ _ (by rw[x1];exact Int.mul_nonneg (Int.le_of_lt S0) u1) (by rw[x2];exact Int.mul_nonneg (Int.le_of_lt S0) u2)
 ·exact B _ _ (by rw[x3];exact Int.mul_nonneg (Int.le_of_lt S0) v1) (by rw[x4];exact Int.mul_nonneg (Int.le_of_lt S0) v2)
end Go.Proofs.YtcfpcafnjgpfdaaGreat
