import Derived.Test.YteajakbpmeebnaaGreatH32
set_option linter.unusedVariables false
set_option linter.unusedSimpArgs false

namespace Go.Proofs.YteajakbpmeebnaaGreat
open Go.RowKit
theorem dot_neg{q t τ x y a b u v:Int}(hq:u*u+v*v=q)(q0:0<q)(hw:u*b=v*a)(hτ:a*u+b*v=τ)(ht:x*u+y*v=t)(h:τ*t<=0):x*a+y*b<=0:=by
  have e:q*(x*a+y*b)=τ*t:=by
    have e1:q*a=τ*u:=by subst hq hτ;grind
    have e2:q*b=τ*v:=by subst hq hτ;grind
    have:q*(x*a+y*b)=x*(q*a)+y*(q*b):=by grind
    rw[this,e1,e2];subst ht;grind
  rcases Int.lt_or_le 0 (x*a+y*b) with g|g
  . have:=Int.mul_pos q0 g;omega
  . exact g
theorem arc_frame{e:Ed}(ho:e.ok=true)(hk:¬e.k=1):0<radZ e/\e.ax-e.cx=radZ e*e.ux/\e.ay-e.cy=radZ e*e.uy/\e.bx-e.cx=radZ e*e.vx/\e.by'-e.cy=radZ e*e.vy/\e.ux*e.ux+e.uy*e.uy=1/\e.vx*e.vx+e.vy*e.vy=1/\e.ux*e.vx+e.uy*e.vy=0 /\
    (∀a b c d:Int,a*c+b*d=(a*e.ux+b*e.uy)*(c*e.ux+d*e.uy)+(a*e.vx+b*e.vy)*(c*e.vx+d*e.vy)) /\
    (∀x y:Int,inQ e x y=false->(x*e.ux+y*e.uy=0/\x*e.vx+y*e.vy=0)\/x*e.ux+y*e.uy<0\/x*e.vx+y*e.vy<0) /\
    (∀x y:Int,inQ e x y=true->0<=x*e.ux+y*e.uy/\0<=x*e.vx+y*e.vy):=by
  obtain⟨r0,hu,hv,a1,a2,a3,a4⟩:=arc_axes ho hk
  have f1:e.ax-e.cx=radZ e*e.ux:=by omega
  have f2:e.ay-e.cy=radZ e*e.uy:=by omega
  have f3:e.bx-e.cx=radZ e*e.vx:=by omega
  have f4:e.by'-e.cy=radZ e*e.vy:=by omega
  refine⟨r0,f1,f2,f3,f4,?_⟩
  unfold inQ wiB
  rw[f1,f2,f3,f4]
  obtain⟨r,R⟩:∃r,radZ e=r:=⟨_,rfl⟩
  rw[R] at r0 ⊢
  have m0:r*0=0:=by omega
  have m1:r*1=r:=by omega
  have m2:r * -1 = -r:=by omega
  have n0 : -(0:Int)=0:=rfl
  have n1 : -(-1:Int)=1:=rfl
  have sg:∀t:Int,(0<=r*t <-> 0<=t):=fun t=>by
    constructor
    . intro h
      rcases Int.lt_or_le t 0 with g|g
      . have:=Int.mul_neg_of_pos_of_neg r0 g;omega
      . exact g
    . exact fun h=>Int.mul_nonneg (Int.le_of_lt r0) h
  have sn:∀t:Int,(0 <= -(r*t) <-> 0 <= -t):=fun t=>by rw[<- Int.mul_neg];exact sg (-t)
  rcases hu with⟨u1,u2⟩|⟨u1,u2⟩|⟨u1,u2⟩|⟨u1,u2⟩<;>rcases hv with⟨k0,v1,v2⟩|⟨k0,v1,v2⟩ <;>
    (rw [u1] at v2 ⊢; rw [u2] at v1 ⊢; rw [v1, v2, k0]
     simp only[show ¬(2:Int)=3 by decide,if_false,if_true,m0,m1,m2,n0,n1,Int.mul_zero,Int.zero_mul,Int.neg_mul,Int.mul_neg,Int.mul_one,Int.sub_zero,Int.zero_sub,Int.neg_neg,Int.add_zero,Int.zero_add]
     refine⟨by decide,by decide,by decide,fun a b c d=>by grind,fun x y h=>?_,fun x y h=>?_⟩
     . simp only [Int.mul_comm x r, Int.mul_comm y r, sg, sn, Int.sub_neg] at h
       simp only[Bool.and_eq_false_iff,Bool.not_eq_false',Bool.and_eq_true,beq_iff_eq,decide_eq_false_iff_not] at h
       omega
     . simp only [Int.mul_comm x r, Int.mul_comm y r, sg, sn, Int.sub_neg] at h
       simp only[Bool.and_eq_true,decide_eq_true_eq] at h
       omega)
theorem line_leK{e:Ed}{x y a b k:Int}(k0:0<k)(hw:(e.bx-e.ax)*b=(e.by'-e.ay)*a)(t0:0<=a*(e.bx-e.ax)+b*(e.by'-e.ay))(t1:a*(e.bx-e.ax)+b*(e.by'-e.ay)<=k*sqI (e.bx-e.ax) (e.by'-e.ay))
  (z0:e.bx-e.ax=0->e.by'-e.ay=0->a=0/\b=0):∃n d,lineQ e x y=⟨0,1,n,d⟩/\0<=n/\0<d/\n*(k*k)<=sqI (k*(x-e.ax)-a) (k*(y-e.ay)-b)*d:=by
 unfold lineQ
 obtain⟨u,hu⟩:∃u,e.bx-e.ax=u:=⟨_,rfl⟩
 obtain⟨v,hv⟩:∃v,e.by'-e.ay=v:=⟨_,rfl⟩
 obtain⟨p,hp⟩:∃p,x-e.ax=p:=⟨_,rfl⟩
 obtain⟨r,hr⟩:∃r,y-e.ay=r:=⟨_,rfl⟩
 have hx:x-e.bx=p-u:=by omega
 have hy:y-e.by'=r-v:=by omega
 unfold endQ
 rw[hu,hv] at hw t0 t1 z0
 rw[hu,hv,hp,hr,hx,hy]
 obtain⟨q,hq⟩:∃q,sqI u v=q:=⟨_,rfl⟩
 obtain⟨t,ht⟩:∃t,p*u+r*v=t:=⟨_,rfl⟩
 obtain⟨τ,hτ⟩:∃τ,a*u+b*v=τ:=⟨_,rfl⟩
 rw[hq] at t1 ⊢
 rw[hτ] at t0 t1
 rw[ht]
 have q0:0<=q:=by rw[<- hq];exact sqI_nn _ _
 have z1:q=0->a=0/\b=0/\u=0/\v=0:=fun g=>by
  have:u=0/\v=0:=by
   apply Classical.byContradiction
   intro hn
   have:=sqI_pos hn
   omega
  exact⟨(z0 this.1 this.2).1,(z0 this.1 this.2).2,this⟩
 have key:∀f g:Int,f*a+g*b<=0->sqI f g*(k*k)<=sqI (k*f-a) (k*g-b)*1:=fun f g h=>by
  have e1:sqI (k*f-a) (k*g-b)=sqI f g*(k*k)-2*(k*(f*a+g*b))+sqI a b:=by unfold sqI;grind
  have:=sqI_nn a b
  have:=Int.mul_nonneg (Int.le_of_lt k0) (show 0 <= -(f*a+g*b) by omega)
  rw[Int.mul_neg] at this
  omega
 by_cases h1:t<=0
 ·rw [if_pos h1]
  refine⟨_,_,rfl,sqI_nn _ _,by decide,key _ _ ?_⟩
  by_cases g:q=0
  ·obtain ⟨g1, g2, _⟩ := z1 g
   rw[g1,g2];simp
  ·refine dot_neg (q := q) (u := u) (v := v) (by rw [<- hq]; rfl) (by omega) hw hτ ht ?_
   exact Int.mul_nonpos_of_nonneg_of_nonpos t0 h1
 rw[if_neg h1]
 by_cases h2:q<=t
 ·rw [if_pos h2]
  refine⟨_,_,rfl,sqI_nn _ _,by decide,?_⟩
  by_cases g:q=0
  ·obtain ⟨g1, g2, g3, g4⟩ := z1 g
   rw[g1,g2,g3,g4]
   have:=key p r (by rw[g1,g2];simp)
   rw[g1,g2] at this
   simpa using this
  ·have k2:(p-u)*(a-k*u)+(r-v)*(b-k*v)<=0:=by
    refine dot_neg (q:=q) (t:=t-q) (τ:=τ-k*q) (u:=u) (v:=v) (by rw[<- hq];rfl) (by omega) ?_ ?_ ?_ ?_
    ·grind
    ·rw[<- hτ,<- hq];unfold sqI;grind
    ·rw[<- ht,<- hq];unfold sqI;grind
    ·have := Int.mul_nonneg (show 0 <= k * q - τ by omega) (show 0 <= t - q by omega)
     have e:(τ-k*q)*(t-q) = -((k*q-τ)*(t-q)):=by grind
     omega
   have e1:sqI (k*p-a) (k*r-b)=sqI (p-u) (r-v)*(k*k)-2*(k*((p-u)*(a-k*u)+(r-v)*(b-k*v)))+sqI (a-k*u) (b-k*v):=by unfold sqI;grind
   have:=sqI_nn (a-k*u) (b-k*v)
   have:=Int.mul_nonneg (Int.le_of_lt k0) (show 0 <= -((p-u)*(a-k*u)+(r-v)*(b-k*v)) by omega)
   rw[Int.mul_neg] at this
   omega
 ·rw [if_neg h2]
  refine⟨_,_,rfl,sqz_nn _,by omega,?_⟩
  have e:sqI (k*p-a) (k*r-b)*q=(k*t-τ)*(k*t-τ)+(u*r-v*p)*(u*r-v*p)*(k*k):=by
   rw[<- ht,<- hτ,<- hq];unfold sqI
   grind
  rw[e]
  have:=sqz_nn (k*t-τ)
  omega
theorem cand3(a b:Ed):pointQ a b.ax b.ay∈candQ a b:=by unfold candQ;simp
theorem cand4(a b:Ed):pointQ a b.bx b.by'∈candQ a b:=by unfold candQ;simp
theorem mid_on{e:Ed}{x y:Int}(hk:e.k=1)(ho:e.ok=true)(h1:0<(x-e.ax)*(e.bx-e.ax)+(y-e.ay)*(e.by'-e.ay))(h2:(x-e.ax)*(e.bx-e.ax)+(y-e.ay)*(e.by'-e.ay)<sqI (e.bx-e.ax) (e.by'-e.ay))
  (hc:(e.bx-e.ax)*(y-e.ay)-(e.by'-e.ay)*(x-e.ax)=0):onE e x y=true:=by
 have b1:=between (a:=e.ax) (b:=e.bx) (p:=x) rfl hc rfl h1 h2 rfl rfl
 have b2:=between (a:=e.ay) (b:=e.by') (p:=y) (u:=e.by'-e.ay) (v:=e.bx-e.ax) (x:=y-e.ay) (y:=x-e.ax) (t:=(x-e.ax)*(e.bx-e.ax)+(y-e.ay)*(e.by'-e.ay)) (q:=sqI (e.bx-e.ax) (e.by'-e.ay)) (by unfold sqI;omega) (by omega) (by omega) (by omega) (by omega) rfl rfl
 exact onE_line_mk hk ho b1 b2 (by omega)
theorem side_ge{x y d:Int}(hd:0<=d)(h:(0<=x/\y*y*d<=x*x)\/(0<=y/\x*x<=y*y*d)):0<=sideZ x y d:=by
 have zx:x=0->x*x=0:=fun e=>by rw[e];rfl
 have px:¬x=0->0<x*x:=fun e=>by
  have:=sqz_nn x
  have:¬x*x=0:=fun f=>by rcases Int.mul_eq_zero.1 f with g|g<;>exact e g
  omega
 have py:¬y=0->0<d->0<y*y*d:=fun e f=>by
  have:=sqz_nn y
  have:¬y*y=0:=fun f=>by rcases Int.mul_eq_zero.1 f with g|g<;>exact e g
  exact Int.mul_pos (by omega) f
 have y0:y=0->y*y*d=0:=fun e=>by rw[e];simp
 have d0:d=0->y*y*d=0:=fun e=>by rw[e];simp
 unfold sideZ
 have cm:(cmpZ (x*x) (y*y*d)=1/\y*y*d<x*x)\/(cmpZ (x*x) (y*y*d)=0/\x*x=y*y*d)\/(cmpZ (x*x) (y*y*d) = -1/\x*x<y*y*d):=by
  unfold cmpZ
  split
  ·exact .inr (.inr ⟨rfl,by assumption⟩)
  ·split
   ·exact .inr (.inl ⟨rfl,by assumption⟩)
   ·exact .inl ⟨rfl,by omega⟩
 generalize cmpZ (x*x) (y*y*d)=m at *
 generalize x*x=X at *
 generalize y*y*d=Y at *
 rcases sgn_cases x with⟨h1,g1⟩|⟨h1,g1⟩|⟨h1,g1⟩<;>rcases sgn_cases y with⟨h2,g2⟩|⟨h2,g2⟩|⟨h2,g2⟩<;>rcases sgn_cases d with⟨h3,g3⟩|⟨h3,g3⟩|⟨h3,g3⟩<;>rw[h1,h2,h3] <;>
  first
   | omega
   | (rw[if_pos (by decide)];decide)
   | (rw[if_neg (by decide)];omega)
   | (exfalso;omega)
theorem sq_up{a b:Int}(h0:0<=a)(h:a<=b):a*a<=b*b:=Int.mul_le_mul h h h0 (by omega)
theorem side_btw{k g0 g1 s1 s2 d s:Int}(k0:0<k)(hd:0<=d)(hs:s=1/\0<=s1\/s = -1/\s1<=0)(h1:0<=k*g0+g1*s1)(h2:0<=k*g0+g1*s2)(i2:s2*s2<=k*k*d)(i1:k*k*d<=s1*s1):0<=sideZ g0 (s*g1) d:=by
 have key:∀g1 s1 s2:Int,0<=s1->0<=k*g0+g1*s1->0<=k*g0+g1*s2->s2*s2<=k*k*d->k*k*d<=s1*s1->0<=sideZ g0 g1 d:=fun g1 s1 s2 p0 h1 h2 i2 i1=>by
  have kk:0<k*k:=Int.mul_pos k0 k0
  refine side_ge hd ?_
  have gg:=sqz_nn g1
  by_cases hg:0<=g1
  ·by_cases h0 : 0 <= g0
   ·by_cases e : g1 * g1 * d <= g0 * g0
    ·exact .inl ⟨h0,e⟩
    ·exact .inr ⟨hg,by omega⟩
   ·right
    refine⟨hg,?_⟩
    have n1:0 < -(k*g0):=by have:=Int.mul_pos k0 (show 0 < -g0 by omega);rw[Int.mul_neg] at this;exact this
    have u:=sq_up (a := -(k*g0)) (b:=g1*s2) (by omega) (by omega)
    have e1 : -(k*g0) * -(k*g0)=k*k*(g0*g0):=by grind
    have e2:g1*s2*(g1*s2)=g1*g1*(s2*s2):=by grind
    have e3:=Int.mul_le_mul_of_nonneg_left i2 gg
    have e4:g1*g1*(k*k*d)=k*k*(g1*g1*d):=by grind
    exact Int.le_of_mul_le_mul_left (a:=k*k) (by omega) kk
  ·left
   have n1:0 <= -g1*s1:=Int.mul_nonneg (by omega) p0
   rw[Int.neg_mul] at n1
   have n2:0<=k*g0:=by omega
   have h0:0<=g0:=by
    rcases Int.lt_or_le g0 0 with f|f
    ·have:=Int.mul_neg_of_pos_of_neg k0 f;omega
    ·exact f
   refine⟨h0,?_⟩
   have u:=sq_up (a := -(g1*s1)) (b:=k*g0) n1 (by omega)
   have e1:k*g0*(k*g0)=k*k*(g0*g0):=by grind
   have e2 : -(g1*s1) * -(g1*s1)=g1*g1*(s1*s1):=by grind
   have e3:=Int.mul_le_mul_of_nonneg_left i1 gg
   have e4:g1*g1*(k*k*d)=k*k*(g1*g1*d):=by grind
   exact Int.le_of_mul_le_mul_left (a:=k*k) (by omega) kk
 rcases hs with⟨rfl,hs⟩|⟨rfl,hs⟩
 ·rw[Int.one_mul];exact key g1 s1 s2 hs h1 h2 i2 i1
 ·exact key (-1*g1) (-s1) (-s2) (by omega) (by rw[Int.neg_one_mul,Int.neg_mul_neg];exact h1) (by rw[Int.neg_one_mul,Int.neg_mul_neg];exact h2) (by rw[Int.neg_mul_neg];exact i2) (by rw[Int.neg_mul_neg];exact i1)
theorem countC_good{d s:Int}{l:List (Int×Int)}(hd:0<=d)(hs:s=1\/s = -1)(h:∀p∈l,0<=sideZ p.1 (s*p.2) d):countC d l≠0:=by
 have G:∀s':Int,(s'=s\/d=0)->goodS d s' l=true:=fun s' e=>by
  unfold goodS
  rw[List.all_eq_true]
  intro p hp
  have:=h p hp
  rcases e with rfl|rfl
  ·exact decide_eq_true this
  ·rw [side0] at this
   exact decide_eq_true (by rw[side0];exact this)
 unfold countC
 rw[if_neg (by omega)]
 by_cases h0:d=0
 ·rw[if_pos h0,G 1 (.inr h0),if_pos rfl];decide
 ·rw [if_neg h0]
  rcases hs with rfl|rfl
  ·rw[G 1 (.inl rfl),if_pos rfl];split<;>decide
  ·rw[G (-1) (.inl rfl),if_pos rfl];split<;>decide
theorem lc_sq(k m n u v a b r:Int)(h:u*(b-k*n)=v*(a-k*m)):(a*u+b*v)*(a*u+b*v)-k*k*((m*u+n*v)*(m*u+n*v)-(u*u+v*v)*(m*m+n*n-r*r))=(u*u+v*v)*(a*a+b*b-k*k*(r*r)):=by grind
theorem lc_u(k m n u v a b p q:Int)(h:u*(b-k*n)=v*(a-k*m)):k*((u*u+v*v)*(m*p+n*q)-(m*u+n*v)*(u*p+v*q))+(u*p+v*q)*(a*u+b*v)=(u*u+v*v)*(a*p+b*q):=by grind
theorem cross_arc{l e:Ed}{k a b c d:Int}(k0:0<k)(S0:0<sqI (l.bx-l.ax) (l.by'-l.ay))
  (h1:(l.bx-l.ax)*(b-k*(l.ay-e.cy))=(l.by'-l.ay)*(a-k*(l.ax-e.cx))) (h2:(l.bx-l.ax)*(d-k*(l.ay-e.cy))=(l.by'-l.ay)*(c-k*(l.ax-e.cx)))
  (p1:0<=(a-k*(l.ax-e.cx))*(l.bx-l.ax)+(b-k*(l.ay-e.cy))*(l.by'-l.ay)) (q1:(a-k*(l.ax-e.cx))*(l.bx-l.ax)+(b-k*(l.ay-e.cy))*(l.by'-l.ay)<=k*sqI (l.bx-l.ax) (l.by'-l.ay))
  (p2:0<=(c-k*(l.ax-e.cx))*(l.bx-l.ax)+(d-k*(l.ay-e.cy))*(l.by'-l.ay)) (q2:(c-k*(l.ax-e.cx))*(l.bx-l.ax)+(d-k*(l.ay-e.cy))*(l.by'-l.ay)<=k*sqI (l.bx-l.ax) (l.by'-l.ay))
  (u1:0<=a*e.ux+b*e.uy) (v1:0<=a*e.vx+b*e.vy) (u2:0<=c*e.ux+d*e.uy) (v2:0<=c*e.vx+d*e.vy)
  (o1:k*k*(radZ e*radZ e)<=sqI a b) (o2:sqI c d<=k*k*(radZ e*radZ e)):crossZ l e≠0:=by
 unfold crossZ
 rw[countZ_eq]
 obtain⟨S,hS⟩:∃S,sqI (l.bx-l.ax) (l.by'-l.ay)=S:=⟨_,rfl⟩
 obtain⟨m,hm⟩:∃m,l.ax-e.cx=m:=⟨_,rfl⟩
 obtain⟨n,hn⟩:∃n,l.ay-e.cy=n:=⟨_,rfl⟩
 obtain⟨u,hu⟩:∃u,l.bx-l.ax=u:=⟨_,rfl⟩
 obtain⟨v,hv⟩:∃v,l.by'-l.ay=v:=⟨_,rfl⟩
 obtain⟨r,hr⟩:∃r,radZ e=r:=⟨_,rfl⟩
 rw[hm,hn,hu,hv] at h1 h2 p1 q1 p2 q2
 rw[hu,hv] at hS S0
 rw[hr] at o1 o2
 rw[hS] at q1 q2 S0
 have hS':u*u+v*v=S:=hS
 have E1:=lc_sq k m n u v a b r h1
 have E2:=lc_sq k m n u v c d r h2
 have hD:(laE l e).delta=(m*u+n*v)*(m*u+n*v)-S*(m*m+n*n-r*r):=by
  unfold LA.delta laE;simp only;rw[hm,hn,hu,hv,hr,hS']
 rw[hS'] at E1 E2
 rw[<- hD] at E1 E2
 obtain⟨D,hD'⟩:∃D,(laE l e).delta=D:=⟨_,rfl⟩
 rw[hD'] at E1 E2 ⊢
 unfold sqI at o1 o2
 have f1:=Int.mul_nonneg (Int.le_of_lt S0) (show 0<=a*a+b*b-k*k*(r*r) by omega)
 have f2:=Int.mul_nonneg (Int.le_of_lt S0) (show 0 <= -(c*c+d*d-k*k*(r*r)) by omega)
 rw[Int.mul_neg] at f2
 have D0:0<=D:=by
  have:=sqz_nn (c*u+d*v)
  rcases Int.lt_or_le D 0 with g|g
  ·have:=Int.mul_neg_of_pos_of_neg (Int.mul_pos k0 k0) g;omega
  ·exact g
 obtain⟨s,hs,hs'⟩:∃s:Int,(s=1\/s = -1)/\(s=1/\0<=a*u+b*v\/s = -1/\a*u+b*v<=0):=by
  rcases Int.le_total 0 (a*u+b*v) with g|g
  ·exact⟨1,.inl rfl,.inl ⟨rfl,g⟩⟩
  ·exact⟨-1,.inr rfl,.inr ⟨rfl,g⟩⟩
 refine countC_good D0 hs fun p hp=>?_
 unfold LA.list laE at hp
 simp only[hm,hn,hu,hv,hS'] at hp
 simp only[List.mem_cons,List.not_mem_nil,or_false] at hp
 have B:∀g0 g1:Int,0<=k*g0+g1*(a*u+b*v)->0<=k*g0+g1*(c*u+d*v)->0<=sideZ g0 (s*g1) D:=fun g0 g1 j1 j2=>side_btw k0 D0 hs' j1 j2 (by omega) (by omega)
 have w1:k*(0-(m*u+n*v))+1*(a*u+b*v)=(a-k*m)*u+(b-k*n)*v:=by grind
 have w2:k*(0-(m*u+n*v))+1*(c*u+d*v)=(c-k*m)*u+(d-k*n)*v:=by grind
 have w3:k*(S-(0-(m*u+n*v))) + -1*(a*u+b*v)=k*S-((a-k*m)*u+(b-k*n)*v):=by grind
 have w4:k*(S-(0-(m*u+n*v))) + -1*(c*u+d*v)=k*S-((c-k*m)*u+(d-k*n)*v):=by grind
 have x1:=lc_u k m n u v a b e.ux e.uy h1
 have x2:=lc_u k m n u v c d e.ux e.uy h2
 have x3:=lc_u k m n u v a b e.vx e.vy h1
 have x4:=lc_u k m n u v c d e.vx e.vy h2
 rw[hS'] at x1 x2 x3 x4
 rcases hp with rfl|rfl|rfl|rfl
 ·exact B _ _ (by rw[w1];exact p1) (by rw[w2];exact p2)
 ·exact B _ _ (by rw[w3];omega) (by rw[w4];omega)
 ·exact B _ _ (by rw[x1];exact Int.mul_nonneg (Int.le_of_lt S0) u1) (by rw[x2];exact Int.mul_nonneg (Int.le_of_lt S0) u2)
 ·exact B _ _ (by rw[x3];exact Int.mul_nonneg (Int.le_of_lt S0) v1) (by rw[x4];exact Int.mul_nonneg (Int.le_of_lt S0) v2)
def negs(l:List (Int×Int)):List (Int×Int):=l.map fun p=>(p.1,-p.2)
theorem goodS_negs(d s:Int)(l:List (Int×Int)):goodS d s (negs l)=goodS d (-s) l:=by
 unfold goodS negs
 rw[List.all_map]
 congr 1
 funext p
 simp only[Function.comp_apply,Int.mul_neg,Int.neg_mul]
theorem sideZ_d0(x y z:Int):sideZ x y 0=sideZ x z 0:=by
 unfold sideZ
 rw[sgn_zero]
 simp only[Int.mul_zero]
theorem goodS_d0(s t:Int)(l:List (Int×Int)):goodS 0 s l=goodS 0 t l:=by
 unfold goodS
 congr 1
 funext p
 rw[sideZ_d0 p.1 (s*p.2) (t*p.2)]
theorem countC_negs(d:Int)(l:List (Int×Int)):countC d (negs l)=countC d l:=by
 unfold countC
 by_cases h:d<0
 ·rw[if_pos h,if_pos h]
 ·rw [if_neg h, if_neg h]
  by_cases h0:d=0
  ·subst h0
   rw[if_pos rfl,if_pos rfl,goodS_negs,goodS_d0 (-1) 1]
  ·rw [if_neg h0, if_neg h0, goodS_negs, goodS_negs, Int.neg_neg]
   omega
theorem goodS_perm{d s:Int}{l l':List (Int×Int)}(h:l.Perm l'):goodS d s l=goodS d s l':=by
 unfold goodS
 rw[Bool.eq_iff_iff,List.all_eq_true,List.all_eq_true]
 exact⟨fun g x hx=>g x (h.mem_iff.2 hx),fun g x hx=>g x (h.mem_iff.1 hx)⟩
theorem countC_perm{d:Int}{l l':List (Int×Int)}(h:l.Perm l'):countC d l=countC d l':=by
 unfold countC
 rw[goodS_perm h,goodS_perm h]
theorem perm_uv{α:Type}(a b c d:α):[a,b,c,d].Perm [a,b,d,c]:=.cons a (.cons b (.swap d c []))
theorem perm_lr{α:Type}(a b c d:α):[a,b,c,d].Perm [c,d,a,b]:=List.perm_append_comm (l₁:=[a,b]) (l₂:=[c,d])
theorem perm_ab{α:Type}(a b c d:α):[a,b,c,d].Perm [b,a,c,d]:=.swap b a [c,d]
def ov(p q r s:Int):Int :=
 if max (min p q) (min r s)<min (max p q) (max r s) then -1 else if max (min p q) (min r s)=min (max p q) (max r s) then 1 else 0
theorem ov_comm(p q r s:Int):ov p q r s=ov r s p q:=by unfold ov;rw[Int.max_comm (min p q),Int.min_comm (max p q)]
theorem ov_flip(p q r s:Int):ov p q r s=ov q p r s:=by unfold ov;rw[Int.min_comm p q,Int.max_comm p q]
theorem ov_shift(p q r s t:Int):ov (p+t) (q+t) (r+t) (s+t)=ov p q r s:=by
 unfold ov
 (repeat' split)<;>omega
theorem max_pos{k p q:Int}(h:0<k):max (k*p) (k*q)=k*max p q:=by
 rcases Int.le_total p q with g|g
 ·have := Int.mul_le_mul_of_nonneg_left g (Int.le_of_lt h)
  rw[Int.max_eq_right g,Int.max_eq_right this]
 ·have := Int.mul_le_mul_of_nonneg_left g (Int.le_of_lt h)
  rw[Int.max_eq_left g,Int.max_eq_left this]
theorem min_pos{k p q:Int}(h:0<k):min (k*p) (k*q)=k*min p q:=by
 rcases Int.le_total p q with g|g
 ·have := Int.mul_le_mul_of_nonneg_left g (Int.le_of_lt h)
  rw[Int.min_eq_left g,Int.min_eq_left this]
 ·have := Int.mul_le_mul_of_nonneg_left g (Int.le_of_lt h)
  rw[Int.min_eq_right g,Int.min_eq_right this]
theorem ov_pos{k:Int}(h:0<k)(p q r s:Int):ov (k*p) (k*q) (k*r) (k*s)=ov p q r s:=by
 unfold ov
 rw[max_pos h,max_pos h,min_pos h,min_pos h,max_pos h,min_pos h]
 have e1 (x y:Int):k*x<k*y <-> x<y:=Int.mul_lt_mul_left h
 have e2 (x y:Int):k*x=k*y <-> x=y:=Int.mul_eq_mul_left_iff (by omega)
 simp only[e1,e2]
theorem ov_neg(p q r s:Int):ov (-p) (-q) (-r) (-s)=ov p q r s:=by
 unfold ov
 (repeat' split)<;>omega
theorem ov_scale{k:Int}(h:k≠0)(p q r s:Int):ov (k*p) (k*q) (k*r) (k*s)=ov p q r s:=by
 rcases Int.lt_or_gt_of_ne h with g|g
 ·rw [<- ov_neg (k * p), <- Int.neg_mul, <- Int.neg_mul, <- Int.neg_mul, <- Int.neg_mul]
  exact ov_pos (by omega) ..
 ·exact ov_pos g ..
theorem sideI_ne{n:Int}:sideI n≠0 <-> n≠0:=by unfold sideI;(repeat' split)<;>omega
theorem sideI_opp(n:Int):sideI (-n) = -sideI n:=by unfold sideI;(repeat' split)<;>omega
theorem linesZ_eq(px py qx qy rx ry sx sy:Int):linesZ px py qx qy rx ry sx sy =
  if (qx-px)*(sy-ry)-(qy-py)*(sx-rx)≠0 then
   if 0<sideI (crI px py qx qy rx ry)*sideI (crI px py qx qy sx sy)\/0<sideI (crI rx ry sx sy px py)*sideI (crI rx ry sx sy qx qy) then 0 else 1
  else if crI px py qx qy rx ry≠0 then 0
  else ov 0 ((qx-px)*(qx-px)+(qy-py)*(qy-py)) ((rx-px)*(qx-px)+(ry-py)*(qy-py)) ((sx-px)*(qx-px)+(sy-py)*(qy-py)):=by
 have hs:0<=(qx-px)*(qx-px)+(qy-py)*(qy-py):=by
  have a1:0<=(qx-px)*(qx-px):=by rw[<- Int.natAbs_mul_self];omega
  have a2:0<=(qy-py)*(qy-py):=by rw[<- Int.natAbs_mul_self];omega
  omega
 unfold linesZ ov
 simp only[sideI_ne]
 obtain⟨S,hS⟩:∃z,(qx-px)*(qx-px)+(qy-py)*(qy-py)=z:=⟨_,rfl⟩
 rw[hS] at hs ⊢
 rw[Int.min_eq_left hs,Int.max_eq_right hs]
 split
 ·split
  ·rename_i h;rw[if_pos (.inl h)]
  ·rename_i h
   split
   ·rename_i h2;rw[if_pos (.inr h2)]
   ·rename_i h2;rw[if_neg (fun g=>g.elim h h2)]
 ·rfl
theorem linesZ_comm{px py qx qy rx ry sx sy:Int}(hn:¬(px=qx/\py=qy))(hm:¬(rx=sx/\ry=sy)):linesZ rx ry sx sy px py qx qy=linesZ px py qx qy rx ry sx sy:=by
 rw[linesZ_eq,linesZ_eq]
 by_cases hD:(qx-px)*(sy-ry)-(qy-py)*(sx-rx)=0
 ·have hD' : (sx - rx) * (qy - py) - (sy - ry) * (qx - px) = 0 := by grind
  rw[if_neg (not_not_intro hD'),if_neg (not_not_intro hD)]
  have p1:=sq_pos (x:=qx-px) (y:=qy-py) (by omega)
  have p2:=sq_pos (x:=sx-rx) (y:=sy-ry) (by omega)
  have hg:(qx-px)*(sx-rx)+(qy-py)*(sy-ry)≠0:=by
   intro h
   have e:((qx-px)*(qx-px)+(qy-py)*(qy-py))*((sx-rx)*(sx-rx)+(sy-ry)*(sy-ry))=0:=by grind
   have:=Int.mul_pos p1 p2
   omega
  by_cases hc:crI px py qx qy rx ry=0
  ·have hc':crI rx ry sx sy px py=0:=by
    unfold crI at hc ⊢
    by_cases hx:qx-px=0
    ·refine zero_of_mul (c := qy - py) (fun e => hn ⟨by omega, by omega⟩) ?_
     grind
    ·refine zero_of_mul (c := qx - px) hx ?_
     grind
   rw[if_neg (not_not_intro hc'),if_neg (not_not_intro hc)]
   unfold crI at hc
   rw[<- ov_pos p1,<- ov_shift _ _ _ _ (((qx-px)*(sx-rx)+(qy-py)*(sy-ry))*((rx-px)*(qx-px)+(ry-py)*(qy-py))),
    show ((qx-px)*(qx-px)+(qy-py)*(qy-py))*0+((qx-px)*(sx-rx)+(qy-py)*(sy-ry))*((rx-px)*(qx-px)+(ry-py)*(qy-py))=((qx-px)*(sx-rx)+(qy-py)*(sy-ry))*((rx-px)*(qx-px)+(ry-py)*(qy-py)) by grind,
    show ((qx-px)*(qx-px)+(qy-py)*(qy-py))*((sx-rx)*(sx-rx)+(sy-ry)*(sy-ry))+((qx-px)*(sx-rx)+(qy-py)*(sy-ry))*((rx-px)*(qx-px)+(ry-py)*(qy-py))=((qx-px)*(sx-rx)+(qy-py)*(sy-ry))*((sx-px)*(qx-px)+(sy-py)*(qy-py)) by grind,
    show ((qx-px)*(qx-px)+(qy-py)*(qy-py))*((px-rx)*(sx-rx)+(py-ry)*(sy-ry))+((qx-px)*(sx-rx)+(qy-py)*(sy-ry))*((rx-px)*(qx-px)+(ry-py)*(qy-py))=((qx-px)*(sx-rx)+(qy-py)*(sy-ry))*0 by grind,
    show ((qx-px)*(qx-px)+(qy-py)*(qy-py))*((qx-rx)*(sx-rx)+(qy-ry)*(sy-ry))+((qx-px)*(sx-rx)+(qy-py)*(sy-ry))*((rx-px)*(qx-px)+(ry-py)*(qy-py))=((qx-px)*(sx-rx)+(qy-py)*(sy-ry))*((qx-px)*(qx-px)+(qy-py)*(qy-py)) by grind,
    ov_scale hg,ov_comm]
  ·have hc':¬crI rx ry sx sy px py=0:=by
    intro h
    apply hc
    unfold crI at h ⊢
    by_cases hx:sx-rx=0
    ·refine zero_of_mul (c := sy - ry) (fun e => hm ⟨by omega, by omega⟩) ?_
     grind
    ·refine zero_of_mul (c := sx - rx) hx ?_
     grind
   rw[if_pos hc',if_pos hc]
 ·have hD':(sx-rx)*(qy-py)-(sy-ry)*(qx-px)≠0:=by
   intro h;apply hD;grind
  rw[if_pos hD',if_pos hD]
  simp only[Or.comm]
theorem linesZ_rev(px py qx qy rx ry sx sy:Int):linesZ qx qy px py rx ry sx sy=linesZ px py qx qy rx ry sx sy:=by
 rw[linesZ_eq,linesZ_eq]
 have e1:crI qx qy px py rx ry = -crI px py qx qy rx ry:=by unfold crI;grind
 have e2:crI qx qy px py sx sy = -crI px py qx qy sx sy:=by unfold crI;grind
 have e3:(px-qx)*(sy-ry)-(py-qy)*(sx-rx) = -((qx-px)*(sy-ry)-(qy-py)*(sx-rx)):=by grind
 rw[e1,e2,e3,sideI_opp,sideI_opp,Int.neg_mul_neg,Int.mul_comm (sideI (crI rx ry sx sy qx qy))]
 simp only[ne_eq,Int.neg_eq_zero]
 have e4:(px-qx)*(px-qx)+(py-qy)*(py-qy)=(qx-px)*(qx-px)+(qy-py)*(qy-py):=by grind
 have e5:(rx-qx)*(px-qx)+(ry-qy)*(py-qy) = -((rx-px)*(qx-px)+(ry-py)*(qy-py))+((qx-px)*(qx-px)+(qy-py)*(qy-py)):=by grind
 have e6:(sx-qx)*(px-qx)+(sy-qy)*(py-qy) = -((sx-px)*(qx-px)+(sy-py)*(qy-py))+((qx-px)*(qx-px)+(qy-py)*(qy-py)):=by grind
 rw[e4,e5,e6]
 obtain⟨S,hS⟩:∃z,(qx-px)*(qx-px)+(qy-py)*(qy-py)=z:=⟨_,rfl⟩
 rw[hS]
 have k (a b:Int):ov 0 S (-a+S) (-b+S)=ov 0 S a b:=by
  rw[<- ov_neg 0 S a b,<- ov_shift (-0) (-S) (-a) (-b) S,show -0+S=S by omega,show -S+S=0 by omega,ov_flip S 0]
 rw[k]
theorem beq_swap(a b:Int):(a==b)=(b==a):=by rw[Bool.eq_iff_iff,beq_iff_eq,beq_iff_eq];exact eq_comm
theorem bne_swap(a b:Bool):(a != b)=(b != a):=by cases a<;>cases b<;>rfl
theorem sameZ_comm(q a b c d:Bool):sameZ q a c b d=sameZ q a b c d:=by
  unfold sameZ
  rw[show one a q+one c q+one b q+one d q=one a q+one b q+one c q+one d q by omega]
theorem sameZ_rev(q a b c d:Bool):sameZ q c d a b=sameZ q a b c d:=by
  unfold sameZ
  rw[show one c q+one d q+one a q+one b q=one a q+one b q+one c q+one d q by omega]
theorem arcsZ_comm(e f:Ed):arcsZ f e=arcsZ e f:=by
  unfold arcsZ
  by_cases hc:e.cx=f.cx/\e.cy=f.cy
  . rw [if_pos hc, if_pos ⟨hc.1.symm, hc.2.symm⟩, beq_swap (radZ f), beq_swap f.ux e.ux, beq_swap f.uy e.uy, beq_swap f.ux e.vx, beq_swap f.uy e.vy, beq_swap f.vx e.ux, beq_swap f.vy e.uy, beq_swap f.vx e.vx, beq_swap f.vy e.vy]
    exact sameZ_comm ..
  . rw [if_neg hc, if_neg (fun g => hc ⟨g.1.symm, g.2.symm⟩), countZ_eq, countZ_eq]
    have hk:(aaE f e).k=2*(aaE e f).S-(aaE e f).k:=by
      unfold AA.k aaE
      simp only
      grind
    have hS:(aaE f e).S=(aaE e f).S:=by
      unfold aaE
      simp only
      grind
    have hkk:(aaE e f).k=(aaE e f).S-(radZ f*radZ f-radZ e*radZ e):=rfl
    have hd:(aaE f e).delta=(aaE e f).delta:=by
      unfold AA.delta
      rw[hS,hk,hkk]
      have e1:(aaE f e).r=radZ f:=rfl
      have e2:(aaE e f).r=radZ e:=rfl
      rw[e1,e2]
      grind
    obtain⟨k,K⟩:∃k,(aaE e f).k=k:=⟨_,rfl⟩
    obtain⟨S,hS'⟩:∃S,(aaE e f).S=S:=⟨_,rfl⟩
    have hl:(aaE f e).list=negs [((k-2*S)*(aaE e f).ds,(aaE e f).ps),((k-2*S)*(aaE e f).dt,(aaE e f).pt),(k*(aaE e f).du,(aaE e f).pu),(k*(aaE e f).dv,(aaE e f).pv)]:=by
      unfold AA.list negs
      rw[hk,hS,K,hS']
      simp only[List.map_cons,List.map_nil,List.cons.injEq,Prod.mk.injEq,and_true,aaE]
      (repeat' apply And.intro)<;>grind
    rw[hd,hl,countC_negs,countC_perm (perm_lr ..)]
    unfold AA.list
    rw[K,hS']
theorem countE_comm(e f:Ed):countE f e=countE e f:=by
  unfold countE
  rw[Bool.and_comm]
  cases ho:(e.ok&&f.ok) with
  | false=>rfl
  | true =>
    obtain⟨oe,of⟩:e.ok=true/\f.ok=true:=by simpa using ho
    simp only[Bool.not_true,Bool.false_eq_true,if_false]
    by_cases k1:e.k=1
    . by_cases k2 : f.k = 1
      . simp only [if_pos k1, if_pos k2]
        cases p1:e.pt with
        | true =>
          cases p2:f.pt with
          | true =>
            simp only[if_true]
            unfold onZ
            have:onE e f.ax f.ay=onE f e.ax e.ay:=by
              rw[Bool.eq_iff_iff]
              constructor
              . intro g
                obtain⟨g1,g2⟩:=pt_on k1 p1 g
                rw[<- g1,<- g2]
                exact onE_self of k2
              . intro g
                obtain⟨g1,g2⟩:=pt_on k2 p2 g
                rw[<- g1,<- g2]
                exact onE_self oe k1
            rw[this]
          | false=>simp
        | false =>
          cases p2:f.pt with
          | true=>simp
          | false =>
            simp only[Bool.false_eq_true,if_false]
            refine linesZ_comm ?_ ?_
            . intro g
              rw[show e.pt=true by simp[Ed.pt,g.1,g.2]] at p1;cases p1
            . intro g
              rw[show f.pt=true by simp[Ed.pt,g.1,g.2]] at p2;cases p2
      . simp only[if_pos k1,if_neg k2]
    . by_cases k2 : f.k = 1
      . simp only[if_neg k1,if_pos k2]
      . simp only [if_neg k1, if_neg k2]
        exact arcsZ_comm e f
theorem rev_k{e:Ed}(h:e.ok=true):(e.k=1/\(revE e).k=1)\/(e.k=2/\(revE e).k=3)\/(e.k=3/\(revE e).k=2):=by
  rcases kind_of h with k|k|k
  . left;exact⟨k,by show (fam e.k).k=1;rw[k];rfl⟩
  . right;left;exact⟨k,by show (fam e.k).k=3;rw[k];rfl⟩
  . right;right;exact⟨k,by show (fam e.k).k=2;rw[k];rfl⟩
theorem rev_k1{e:Ed}(h:e.ok=true):(revE e).k=1 <-> e.k=1:=by rcases rev_k h with⟨a,b⟩|⟨a,b⟩|⟨a,b⟩<;>rw[a,b]<;>decide
theorem rev_ok{e:Ed}(h:e.ok=true):(revE e).ok=true:=by
  have hk:=rev_k h
  unfold Ed.ok at h ⊢
  simp only[Bool.and_eq_true] at h ⊢
  obtain⟨h1,h2⟩:=h
  refine⟨?_,?_⟩
  . unfold Ed.right at h1 ⊢
    simp only[Bool.and_eq_true] at h1 ⊢
    exact⟨⟨h1.1.2,h1.1.1⟩,h1.2⟩
  . have c1 : ¬ (2 : Int) = 1 := by decide
    have c2:¬(3:Int)=1:=by decide
    have c3:¬(3:Int)=2:=by decide
    rcases hk with⟨a,b⟩|⟨a,b⟩|⟨a,b⟩<;>rw[a] at h2<;>rw[b]<;>simp only[if_pos,if_neg c1,if_neg c2,if_neg c3] at h2 ⊢
    . exact h2
    . simp only [Ed.quarter, quarterB, Bool.and_eq_true, beq_iff_eq, rot, revE] at h2 ⊢
      obtain⟨q1,q2,q3⟩:=h2
      rw[q2,q3]
      refine⟨?_,by omega,by omega⟩
      rw[<- q1]
      rw[show (-(e.ay-e.cy)==0)=(e.ay-e.cy==0) by rw[Bool.eq_iff_iff,beq_iff_eq,beq_iff_eq,Int.neg_eq_zero]]
      exact bne_swap _ _
    . simp only [Ed.quarter, quarterB, Bool.and_eq_true, beq_iff_eq, rot, revE] at h2 ⊢
      obtain⟨q1,q2,q3⟩:=h2
      rw[q2,q3,Int.neg_neg]
      refine⟨?_,by omega,by omega⟩
      rw[<- q1]
      rw[show (-(e.ax-e.cx)==0)=(e.ax-e.cx==0) by rw[Bool.eq_iff_iff,beq_iff_eq,beq_iff_eq,Int.neg_eq_zero]]
      exact bne_swap _ _
theorem rad_eq{e:Ed}(h:e.ok=true)(hk:¬e.k=1):radZ e=max (max (e.ax-e.cx) (-(e.ax-e.cx))) (max (e.ay-e.cy) (-(e.ay-e.cy))):=by
  have hkb:(e.k==1)=false:=by simpa using hk
  unfold radZ
  rw[h,hkb]
  rfl
theorem rev_rad{e:Ed}(h:e.ok=true)(hk:¬e.k=1):radZ (revE e)=radZ e:=by
  have h1:=rad_eq h hk
  rw[rad_eq (rev_ok h) (fun g=>hk ((rev_k1 h).1 g))]
  show max (max (e.bx-e.cx) (-(e.bx-e.cx))) (max (e.by'-e.cy) (-(e.by'-e.cy)))=radZ e
  obtain⟨hr,hu,hv,a1,a2,a3,a4⟩:=arc_axes h hk
  obtain⟨r,R⟩:∃r,radZ e=r:=⟨_,rfl⟩
  rw[R] at a1 a2 a3 a4 hr ⊢
  have m0:r*0=0:=by omega
  have m1:r*1=r:=by omega
  have m2:r * -1 = -r:=by omega
  have n0 : -(0:Int)=0:=rfl
  have n1 : -(-1:Int)=1:=rfl
  rcases hu with⟨u1,u2⟩|⟨u1,u2⟩|⟨u1,u2⟩|⟨u1,u2⟩<;>rcases hv with⟨_,v1,v2⟩|⟨_,v1,v2⟩ <;>
    (rw [u1] at v2; rw [u2] at v1; rw [v1] at a3; rw [v2] at a4
     simp only[m0,m1,m2,n0,n1] at a3 a4
     omega)
theorem rev_on{e:Ed}(h:e.ok=true)(x y:Int):onE (revE e) x y=onE e x y:=by
  unfold onE
  rw[h,rev_ok h]
  have hb:inB (min (revE e).ax (revE e).bx) (min (revE e).ay (revE e).by') (max (revE e).ax (revE e).bx) (max (revE e).ay (revE e).by') x y=inB (min e.ax e.bx) (min e.ay e.by') (max e.ax e.bx) (max e.ay e.by') x y:=by
    show inB (min e.bx e.ax) (min e.by' e.ay) (max e.bx e.ax) (max e.by' e.ay) x y=_
    rw[Int.min_comm e.bx,Int.min_comm e.by',Int.max_comm e.bx,Int.max_comm e.by']
  rw[hb]
  by_cases hk:e.k=1
  . rw [if_pos hk, if_pos ((rev_k1 h).2 hk)]
    have:(sideI (((revE e).bx-(revE e).ax)*(y-(revE e).ay)-((revE e).by'-(revE e).ay)*(x-(revE e).ax))==0)=(sideI ((e.bx-e.ax)*(y-e.ay)-(e.by'-e.ay)*(x-e.ax))==0):=by
      rw[Bool.eq_iff_iff,sideI_0,sideI_0]
      show (e.ax-e.bx)*(y-e.by')-(e.ay-e.by')*(x-e.bx)=0 <-> _
      have:(e.ax-e.bx)*(y-e.by')-(e.ay-e.by')*(x-e.bx) = -((e.bx-e.ax)*(y-e.ay)-(e.by'-e.ay)*(x-e.ax)):=by grind
      rw[this,Int.neg_eq_zero]
    rw[this]
  . rw [if_neg hk, if_neg (fun g => hk ((rev_k1 h).1 g))]
    have:powerI (x-(revE e).cx) (y-(revE e).cy) ((revE e).ax-(revE e).cx) ((revE e).ay-(revE e).cy)=powerI (x-e.cx) (y-e.cy) (e.ax-e.cx) (e.ay-e.cy):=by
      show powerI (x-e.cx) (y-e.cy) (e.bx-e.cx) (e.by'-e.cy)=_
      unfold powerI
      obtain⟨hr,hu,hv,a1,a2,a3,a4⟩:=arc_axes h hk
      have q:(e.bx-e.cx = -(e.ay-e.cy)/\e.by'-e.cy=e.ax-e.cx)\/(e.bx-e.cx=e.ay-e.cy/\e.by'-e.cy = -(e.ax-e.cx)):=by
        rcases hv with⟨_,v1,v2⟩|⟨_,v1,v2⟩
        . left;rw[v1] at a3;rw[v2] at a4;refine⟨?_,by omega⟩;rw[a3,a2];grind
        . right;rw[v1] at a3;rw[v2] at a4;refine⟨by omega,?_⟩;rw[a4,a1];grind
      rcases q with⟨q1,q2⟩|⟨q1,q2⟩<;>rw[q1,q2]<;>grind
    rw[this]
theorem rev_axes{e:Ed}(h:e.ok=true)(hk:¬e.k=1):(revE e).ux=e.vx/\(revE e).uy=e.vy/\(revE e).vx=e.ux/\(revE e).vy=e.uy:=by
  unfold Ed.ux Ed.uy Ed.vx Ed.vy
  rw[rev_rad h hk]
  exact⟨rfl,rfl,rfl,rfl⟩
theorem crossZ_revA{l e:Ed}(h:e.ok=true)(hk:¬e.k=1):crossZ l (revE e)=crossZ l e:=by
  obtain⟨x1,x2,x3,x4⟩:=rev_axes h hk
  have hl:laE l (revE e)={ laE l e with u1:=(laE l e).v1,u2:=(laE l e).v2,v1:=(laE l e).u1,v2:=(laE l e).u2 }:=by
    unfold laE
    rw[x1,x2,x3,x4,rev_rad h hk]
    rfl
  unfold crossZ
  rw[countZ_eq,countZ_eq,hl]
  exact countC_perm (perm_uv ..)
theorem crossZ_revL{l e:Ed}(h:l.ok=true):crossZ (revE l) e=crossZ l e:=by
  unfold crossZ
  rw[countZ_eq,countZ_eq]
  have hS:(laE (revE l) e).S=(laE l e).S:=by
    unfold laE revE;simp only;grind
  have hh:(laE (revE l) e).h = -(laE l e).h-(laE l e).S:=by
    unfold laE revE;simp only;grind
  have hF:(laE (revE l) e).F=(laE l e).F+2*(laE l e).h+(laE l e).S:=by
    unfold laE revE;simp only;grind
  have hu1:(laE (revE l) e).u1=(laE l e).u1+(laE l e).u2:=by
    unfold laE revE;simp only;grind
  have hu2:(laE (revE l) e).u2 = -(laE l e).u2:=by
    unfold laE revE;simp only;grind
  have hv1:(laE (revE l) e).v1=(laE l e).v1+(laE l e).v2:=by
    unfold laE revE;simp only;grind
  have hv2:(laE (revE l) e).v2 = -(laE l e).v2:=by
    unfold laE revE;simp only;grind
  have hr:(laE (revE l) e).r=(laE l e).r:=rfl
  generalize laE (revE l) e=N at *
  generalize laE l e=M at *
  have hd:N.delta=M.delta:=by
    unfold LA.delta
    rw[hS,hh,hF,hr]
    grind
  have hl:N.list=negs [(M.S-(0-M.h),-1),(0-M.h,1),(M.S*M.u1-M.h*M.u2,M.u2),(M.S*M.v1-M.h*M.v2,M.v2)]:=by
    unfold LA.list negs
    rw[hS,hh,hu1,hu2,hv1,hv2]
    simp only[List.map_cons,List.map_nil,List.cons.injEq,Prod.mk.injEq,and_true]
    (repeat' apply And.intro)<;>grind
  rw[hd,hl,countC_negs]
  exact countC_perm (perm_ab ..)
theorem arcsZ_rev{e f:Ed}(h:e.ok=true)(hk:¬e.k=1):arcsZ (revE e) f=arcsZ e f:=by
  obtain⟨x1,x2,x3,x4⟩:=rev_axes h hk
  unfold arcsZ
  rw[show (revE e).cx=e.cx from rfl,show (revE e).cy=e.cy from rfl,x1,x2,x3,x4,rev_rad h hk]
  split
  . exact sameZ_rev ..
  . have hl:aaE (revE e) f={ aaE e f with du:=(aaE e f).dv,dv:=(aaE e f).du,pu:=(aaE e f).pv,pv:=(aaE e f).pu }:=by
      unfold aaE
      rw[x1,x2,x3,x4,rev_rad h hk]
      rfl
    rw[countZ_eq,countZ_eq,hl]
    exact countC_perm (perm_ab ..)
theorem rev_pt(e:Ed):(revE e).pt=e.pt:=by
  show ((e.bx==e.ax)&&(e.by'==e.ay))=_
  rw[beq_swap e.bx,beq_swap e.by']
  rfl
theorem countE_rev{e:Ed}(f:Ed)(h:e.ok=true):countE (revE e) f=countE e f:=by
  unfold countE
  rw[rev_ok h,h,rev_pt]
  by_cases k1:e.k=1
  . rw [if_pos k1, if_pos ((rev_k1 h).2 k1)]
    have hl:linesZ (revE e).ax (revE e).ay (revE e).bx (revE e).by' f.ax f.ay f.bx f.by'=linesZ e.ax e.ay e.bx e.by' f.ax f.ay f.bx f.by':=linesZ_rev ..
    rw[hl,crossZ_revL h]
    unfold onZ
    rw[rev_on h]
    cases p1:e.pt with
    | false=>simp
    | true =>
      have:(revE e).ax=e.ax/\(revE e).ay=e.ay:=by
        have:e.ax=e.bx/\e.ay=e.by':=by simpa[Ed.pt] using p1
        exact⟨this.1.symm,this.2.symm⟩
      rw[this.1,this.2]
  . rw [if_neg k1, if_neg (fun g => k1 ((rev_k1 h).1 g)), crossZ_revA h k1, arcsZ_rev h k1]
    unfold onZ
    rw[rev_on h]

section
def IsoOk(a b c d:Int):Prop:=(b=0/\c=0/\(a=1\/a = -1)/\(d=1\/d = -1))\/(a=0/\d=0/\(b=1\/b = -1)/\(c=1\/c = -1))
theorem dot_iso{a b c d:Int}(h:IsoOk a b c d)(x y z w:Int):(a*x+b*y)*(a*z+b*w)+(c*x+d*y)*(c*z+d*w)=x*z+y*w:=by
 rcases h with⟨rfl,rfl,rfl|rfl,rfl|rfl⟩|⟨rfl,rfl,rfl|rfl,rfl|rfl⟩<;>grind
theorem crs_iso{a b c d:Int}(x y z w:Int):(a*x+b*y)*(c*z+d*w)-(c*x+d*y)*(a*z+b*w)=(a*d-b*c)*(x*w-y*z):=by grind
theorem det_iso{a b c d:Int}(h:IsoOk a b c d):a*d-b*c=1\/a*d-b*c = -1:=by
 rcases h with⟨rfl,rfl,rfl|rfl,rfl|rfl⟩|⟨rfl,rfl,rfl|rfl,rfl|rfl⟩<;>decide
theorem sub_iso(a b x y z w t:Int):a*x+b*y+t-(a*z+b*w+t)=a*(x-z)+b*(y-w):=by grind
theorem applyP_iso(x y t:Int)(m:Bool)(ht:0<=t/\t<=3):∃a b c d,IsoOk a b c d/\∀px py,applyP x y t m px py=(a*px+b*py+x,c*px+d*py+y):=by
 unfold IsoOk
 obtain rfl|rfl|rfl|rfl:t=0\/t=1\/t=2\/t=3:=by omega
 ·cases m
  ·exact⟨1,0,0,1,by decide,fun px py=>by simp[applyP,mir,rot]⟩
  ·exact⟨-1,0,0,1,by decide,fun px py=>by simp[applyP,mir,rot]⟩
 ·cases m
  ·exact⟨0,-1,1,0,by decide,fun px py=>by simp[applyP,mir,rot]⟩
  ·exact⟨0,-1,-1,0,by decide,fun px py=>by simp[applyP,mir,rot]⟩
 ·cases m
  ·exact⟨-1,0,0,-1,by decide,fun px py=>by simp[applyP,mir,rot]⟩
  ·exact⟨1,0,0,-1,by decide,fun px py=>by simp[applyP,mir,rot]⟩
 ·cases m
  ·exact⟨0,1,-1,0,by decide,fun px py=>by simp[applyP,mir,rot]⟩
  ·exact⟨0,1,1,0,by decide,fun px py=>by simp[applyP,mir,rot]⟩
structure Mvd (a b c d x y:Int) (e e':Ed):Prop where
 iso:IsoOk a b c d
 ok:e.ok=true
 ok':e'.ok=true
 k:e'.k=1 <-> e.k=1
 ax:e'.ax=a*e.ax+b*e.ay+x
 ay:e'.ay=c*e.ax+d*e.ay+y
 bx:e'.bx=a*e.bx+b*e.by'+x
 by':e'.by'=c*e.bx+d*e.by'+y
 cx:¬e.k=1->e'.cx=a*e.cx+b*e.cy+x
 cy:¬e.k=1->e'.cy=c*e.cx+d*e.cy+y
variable {a b c d x y:Int} {e e' f f':Ed}
theorem Mvd.rad(h:Mvd a b c d x y e e')(hk:¬e.k=1):radZ e'=radZ e:=by
 rw[rad_eq h.ok hk,rad_eq h.ok' (fun g=>hk (h.k.1 g)),h.ax,h.ay,h.cx hk,h.cy hk,sub_iso,sub_iso]
 rcases h.iso with⟨rfl,rfl,rfl|rfl,rfl|rfl⟩|⟨rfl,rfl,rfl|rfl,rfl|rfl⟩<;>omega
theorem tdiv_iso{a b c d:Int}(h:IsoOk a b c d)(x y r:Int):(a*x+b*y).tdiv r=a*x.tdiv r+b*y.tdiv r/\(c*x+d*y).tdiv r=c*x.tdiv r+d*y.tdiv r:=by
 rcases h with⟨rfl,rfl,rfl|rfl,rfl|rfl⟩|⟨rfl,rfl,rfl|rfl,rfl|rfl⟩<;>simp[Int.neg_tdiv,Int.neg_mul]
theorem Mvd.axes(h:Mvd a b c d x y e e')(hk:¬e.k=1):e'.ux=a*e.ux+b*e.uy/\e'.uy=c*e.ux+d*e.uy/\e'.vx=a*e.vx+b*e.vy/\e'.vy=c*e.vx+d*e.vy:=by
 unfold Ed.ux Ed.uy Ed.vx Ed.vy
 rw[h.rad hk,h.ax,h.ay,h.bx,h.by',h.cx hk,h.cy hk,sub_iso,sub_iso,sub_iso,sub_iso]
 exact⟨(tdiv_iso h.iso ..).1,(tdiv_iso h.iso ..).2,(tdiv_iso h.iso ..).1,(tdiv_iso h.iso ..).2⟩
theorem btw_iso{a b c d:Int}(h:IsoOk a b c d)(x y px py ax ay bx by':Int):(Btw (a*ax+b*ay+x) (a*px+b*py+x) (a*bx+b*by'+x)/\Btw (c*ax+d*ay+y) (c*px+d*py+y) (c*bx+d*by'+y)) <-> Btw ax px bx/\Btw ay py by':=by
 unfold Btw
 rcases h with⟨rfl,rfl,rfl|rfl,rfl|rfl⟩|⟨rfl,rfl,rfl|rfl,rfl|rfl⟩<;>omega
theorem Mvd.on(h:Mvd a b c d x y e e')(px py:Int):onE e' (a*px+b*py+x) (c*px+d*py+y)=onE e px py:=by
 unfold onE
 rw[h.ok,h.ok']
 have hb:inB (min e'.ax e'.bx) (min e'.ay e'.by') (max e'.ax e'.bx) (max e'.ay e'.by') (a*px+b*py+x) (c*px+d*py+y)=inB (min e.ax e.bx) (min e.ay e.by') (max e.ax e.bx) (max e.ay e.by') px py:=by
  rw[Bool.eq_iff_iff,inB_iff,inB_iff,h.ax,h.ay,h.bx,h.by']
  exact btw_iso h.iso ..
 rw[hb]
 by_cases hk:e.k=1
 ·rw [if_pos hk, if_pos (h.k.2 hk)]
  have:(sideI ((e'.bx-e'.ax)*(c*px+d*py+y-e'.ay)-(e'.by'-e'.ay)*(a*px+b*py+x-e'.ax))==0)=(sideI ((e.bx-e.ax)*(py-e.ay)-(e.by'-e.ay)*(px-e.ax))==0):=by
   rw[Bool.eq_iff_iff,sideI_0,sideI_0,h.ax,h.ay,h.bx,h.by',sub_iso,sub_iso,sub_iso,sub_iso,crs_iso]
   rcases det_iso h.iso with g|g<;>rw[g]<;>omega
  rw[this]
 ·rw [if_neg hk, if_neg (fun g => hk (h.k.1 g))]
  have:powerI (a*px+b*py+x-e'.cx) (c*px+d*py+y-e'.cy) (e'.ax-e'.cx) (e'.ay-e'.cy)=powerI (px-e.cx) (py-e.cy) (e.ax-e.cx) (e.ay-e.cy):=by
   unfold powerI
   rw[h.ax,h.ay,h.cx hk,h.cy hk,sub_iso,sub_iso,sub_iso,sub_iso,dot_iso h.iso,dot_iso h.iso]
  rw[this]
theorem eq_iso{a b c d:Int}(h:IsoOk a b c d)(x y z w:Int):(a*x+b*y=a*z+b*w/\c*x+d*y=c*z+d*w) <-> x=z/\y=w:=by
 rcases h with⟨rfl,rfl,rfl|rfl,rfl|rfl⟩|⟨rfl,rfl,rfl|rfl,rfl|rfl⟩<;>omega
theorem beq_iso{a b c d:Int}(h:IsoOk a b c d)(x y z w:Int):(a*x+b*y==a*z+b*w&&c*x+d*y==c*z+d*w)=(x==z&&y==w):=by
 rw[Bool.eq_iff_iff,Bool.and_eq_true,Bool.and_eq_true,beq_iff_eq,beq_iff_eq,beq_iff_eq,beq_iff_eq]
 exact eq_iso h ..
theorem Mvd.pt(h:Mvd a b c d x y e e'):e'.pt=e.pt:=by
 unfold Ed.pt
 rw[h.ax,h.ay,h.bx,h.by',<- beq_iso h.iso e.ax e.ay e.bx e.by',Bool.eq_iff_iff]
 simp only[Bool.and_eq_true,beq_iff_eq]
 omega
theorem move_ok{e:Ed}(h:e.ok=true)(x y t:Int)(m:Bool)(ht:0<=t/\t<=3)(hx : -1048576<=x/\x<=1048576)(hy : -1048576<=y/\y<=1048576)
  (s1 : -1048576<=e.ax/\e.ax<=1048576) (s2 : -1048576<=e.ay/\e.ay<=1048576) (s3 : -1048576<=e.bx/\e.bx<=1048576) (s4 : -1048576<=e.by'/\e.by'<=1048576) (s5 : -1048576<=e.cx/\e.cx<=1048576) (s6 : -1048576<=e.cy/\e.cy<=1048576):(moveE e x y t m).ok=true:=by
 have co:∀px py:Int,-1048576<=px/\px<=1048576 -> -1048576<=py/\py<=1048576->coordB (applyP x y t m px py).1 (applyP x y t m px py).2=true:=by
  intro px py h1 h2
  obtain⟨a,b,c,d,hi,hp⟩:=applyP_iso x y t m ht
  rw[hp,coordB_iff]
  unfold Co
  rcases hi with⟨rfl,rfl,rfl|rfl,rfl|rfl⟩|⟨rfl,rfl,rfl|rfl,rfl|rfl⟩<;>omega
 have hr:=h
 unfold Ed.ok at h ⊢
 simp only[Bool.and_eq_true] at h ⊢
 obtain⟨h1,h2⟩:=h
 have hk:(moveE e x y t m).k=if m then (fam e.k).k else e.k:=rfl
 have hrk:=rev_k hr
 have hrk':(revE e).k=(fam e.k).k:=rfl
 refine⟨?_,?_⟩
 ·unfold Ed.right moveE
  simp only[Bool.and_eq_true]
  refine⟨⟨co _ _ s1 s2,co _ _ s3 s4⟩,?_⟩
  by_cases k1:e.k=1
  ·simp only [if_pos k1]
   rw[coordB_iff]
   unfold Co
   omega
  ·simp only [if_neg k1]
   exact co _ _ s5 s6
 ·by_cases k1 : e.k = 1
  ·have : (moveE e x y t m).k = 1 := by rw [hk]; cases m <;> first | exact k1 | (rw [k1]; rfl)
   rw[if_pos this]
   rw[if_pos k1] at h2
   unfold Ed.lone moveE at *
   simpa[k1] using h2
  ·have q (n:Nat):(moveE e x y t m).quarter n=quarterB ((applyP x y t m e.ax e.ay).1-(applyP x y t m e.cx e.cy).1) ((applyP x y t m e.ax e.ay).2-(applyP x y t m e.cx e.cy).2) ((applyP x y t m e.bx e.by').1-(applyP x y t m e.cx e.cy).1) ((applyP x y t m e.bx e.by').2-(applyP x y t m e.cx e.cy).2) n:=by
    unfold Ed.quarter moveE
    simp only[if_neg k1]
   have q2 (n:Nat):quarterB ((applyP x y t m e.ax e.ay).1-(applyP x y t m e.cx e.cy).1) ((applyP x y t m e.ax e.ay).2-(applyP x y t m e.cx e.cy).2) ((applyP x y t m e.bx e.by').1-(applyP x y t m e.cx e.cy).1) ((applyP x y t m e.bx e.by').2-(applyP x y t m e.cx e.cy).2) n=quarterB (rot t.toNat (mir m (e.ax-e.cx,e.ay-e.cy))).1 (rot t.toNat (mir m (e.ax-e.cx,e.ay-e.cy))).2 (rot t.toNat (mir m (e.bx-e.cx,e.by'-e.cy))).1 (rot t.toNat (mir m (e.bx-e.cx,e.by'-e.cy))).2 n:=by
    have r (px py:Int):(applyP x y t m px py).1-(applyP x y t m e.cx e.cy).1=(rot t.toNat (mir m (px-e.cx,py-e.cy))).1/\(applyP x y t m px py).2-(applyP x y t m e.cx e.cy).2=(rot t.toNat (mir m (px-e.cx,py-e.cy))).2:=by
     obtain rfl|rfl|rfl|rfl:t=0\/t=1\/t=2\/t=3:=by omega
     all_goals cases m<;>simp[applyP,mir,rot]<;>omega
    rw[(r _ _).1,(r _ _).2,(r _ _).1,(r _ _).2]
   obtain⟨D,hD⟩:∃D,e.ax-e.cx=D:=⟨_,rfl⟩
   obtain⟨F,hF⟩:∃F,e.ay-e.cy=F:=⟨_,rfl⟩
   have key (n n':Nat) (hq:e.quarter n=true) (hn:(n=1\/n=3)/\n'=if m then 4-n else n):(moveE e x y t m).quarter n'=true:=by
    rw[q,q2]
    unfold Ed.quarter at hq
    rw[hD,hF] at hq ⊢
    unfold quarterB at hq
    simp only[Bool.and_eq_true,beq_iff_eq] at hq
    obtain⟨g1,g2,g3⟩:=hq
    rw[g2,g3]
    have bn (z:Int):(-z==0)=(z==0):=by rw[Bool.eq_iff_iff,beq_iff_eq,beq_iff_eq,Int.neg_eq_zero]
    have g1':((F==0) != (D==0))=true:=by rw[bne_swap];exact g1
    obtain rfl|rfl|rfl|rfl:t=0\/t=1\/t=2\/t=3:=by omega
    all_goals
     obtain⟨rfl|rfl,rfl⟩:=hn
     all_goals
      cases m
      all_goals
       simp[quarterB,rot,mir,bn]
       first|exact g1|exact g1'|simpa using g1|simpa using g1'
   rw[hk]
   rcases hrk with⟨c1,c2⟩|⟨c1,c2⟩|⟨c1,c2⟩
   ·exact absurd c1 k1
   ·rw [hrk'] at c2
    rw[c1] at h2
    have:=key 1 (if m then 3 else 1) h2 ⟨.inl rfl,by cases m<;>rfl⟩
    cases m
    ·simp only [Bool.false_eq_true, if_false, c1]
     exact this
    ·simp only [if_true, c2]
     exact this
   ·rw [hrk'] at c2
    rw[c1] at h2
    have:=key 3 (if m then 1 else 3) h2 ⟨.inr rfl,by cases m<;>rfl⟩
    cases m
    ·simp only [Bool.false_eq_true, if_false, c1]
     exact this
    ·simp only [if_true, c2]
     exact this
end
end Go.Proofs.YteajakbpmeebnaaGreat
