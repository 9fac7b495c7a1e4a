import Derived.Test.YtcfpcafnjgpfdaaGreatK33
set_option linter.unusedVariables false
set_option linter.unusedSimpArgs false

namespace Go.Proofs.YtcfpcafnjgpfdaaGreat
open Go.RowKit
theorem Two.in_x{C:Q4->Prop}{p q r s x y n:Int}(h:Two C p q r s 1 1)(X:Pt p q r 1 1 x y n)(ht:(⟨s,-1,n,1⟩:Q4).ok)(hn:n<s*s)(n1:0<n)(hp0:p<0)(G:Su n (-(p*x+q*y)) q):∃z,C z/\cmpQ z ⟨s,-1,n,1⟩<=0:=by
 have r0:=h.r0
 have s0:=h.s0
 obtain⟨b1,b2,b3,b4,b5⟩:=X.pp r0
 have x0:=X.x0
 have y0:=X.y0
 have hp:=X.pq
 obtain⟨n0,nx,ny⟩:=X.nn
 have ys:y<s:=by
  rcases Int.lt_or_le y s with g|g
  ·exact g
  ·have:=sq_up (Int.le_of_lt s0) g;omega
 have pp:=sqz_nn p
 by_cases hm:sqI (s-q) (0-p)<=r*r
 ·exfalso
  unfold sqI at hm
  rw[show (0-p)*(0-p)=p*p by grind] at hm
  have sr:s-q<=r:=(abs_leP (Int.le_of_lt r0) (by omega)).2
  have kB:inKK p q 1 1 0 s:=⟨by decide,by omega,by omega,by omega⟩
  have gB:0<=gF p q r s 0 s:=by rw[gF_eq];rw[show (0-p)*(0-p)=p*p by grind];omega
  have hg:opp (gF p q r s x y) (gF p q r s 0 s):=.inl ⟨by rw[X.g];omega,gB⟩
  refine h.meet (leg_b X.k kB hg (by rw[X.n];omega) (by omega)) ?_ (by omega)
  have k1:inKK p q 1 1 x (q+r):=⟨x0,by omega,X.ex,by omega⟩
  have k2:inKK p q 1 1 0 (q+r):=⟨by decide,by omega,by omega,by omega⟩
  have rr:(q+r-q)*(q+r-q)=r*r:=by rw[show q+r-q=r by omega]
  rcases hg.trans (gF p q r s x (q+r)) with g|g
  ·refine out_a X.k k1 g (Int.le_of_eq X.c.symm) ?_
   have:=Int.mul_nonneg (show 0<=y-q by omega) (show 0<=q+r-y by omega)
   rw[Int.sub_self,Int.mul_zero]
   omega
  ·rcases g.trans (gF p q r s 0 (q + r)) with g | g
   ·refine out_a k2 k1 g.symm (by have := sqz_nn (0 - p); omega) ?_
    have:=Int.mul_nonneg (show 0 <= -p by omega) x0
    rw[Int.sub_self,Int.mul_zero,show (0-p)*(x-0) = -p*x by grind]
    omega
   ·refine out_b kB k2 g.symm (by omega) ?_
    have:=Int.mul_nonneg (Int.le_of_lt s0) (show 0<=q+r-s by omega)
    omega
 ·have c0 := h.b2o (by omega) (by omega) (by omega)
  have A:Su n s (-1):=.inl ⟨Int.le_of_lt s0,by omega⟩
  have Z:Su n (r+q) (-1):=by
   rcases su_total n (r+q) (-1) with g|g
   ·exact g
   ·exfalso
    have k1:Su n (r-q) 1:=su_le (Su.add n0 g (Su.int (show 0<=2*r by omega))) (by omega) (by omega)
    have k2:=Su.add n0 (Su.mul n0 g k1) (Su.mul n0 (Su.int (show 0<=(2:Int) by decide)) G)
    have k3:Su n (-(p*p)) 0:=su_le k2 (by grind) (by grind)
    have:=Int.mul_pos_of_neg_of_neg hp0 hp0
    exact not_su (by omega) k3
  refine⟨_,c0,cmpB (h.okC _ c0) ht n1 (side_m1 n1 (by omega) ?_) ?_⟩
  ·have := sq_up (Int.le_of_lt s0) (show s <= s - -r by omega)
   omega
  ·refine su_le (Su.mul n0 (Su.int (show 0 <= (2 : Int) by decide)) (Su.add n0 (Su.mul n0 A Z) G)) ?_ ?_
   ·unfold sqI;grind
   ·grind
theorem su_in{q y n:Int}(h:y*y<=n)(q0:0<=q):Su n (-(q*y)) q:=by
 refine .inr ⟨q0,?_⟩
 have:=Int.mul_le_mul_of_nonneg_left h (sqz_nn q)
 rw[Int.neg_mul_neg]
 have e:q*y*(q*y)=q*q*(y*y):=by grind
 omega
theorem su_neg{p q x y n:Int}(hn:x*x+y*y=n)(x0:0<=x)(y0:0<=y)(hp:p<0)(hq:q<0)(h:q<=p):Su n (-(p*x+q*y)) p:=by
 left
 have m1:=Int.mul_nonpos_of_nonpos_of_nonneg (show p<=0 by omega) x0
 have m2:=Int.mul_nonpos_of_nonpos_of_nonneg (show q<=0 by omega) y0
 refine⟨by omega,?_⟩
 have e : -(p*x+q*y) * -(p*x+q*y)-p*p*n=2*(p*x*(q*y))+(q*q-p*p)*(y*y):=by rw[<- hn];grind
 have m3:=Int.mul_nonneg_of_nonpos_of_nonpos m1 m2
 have m4:p*p<=q*q:=by have:=sq_up (show 0 <= -p by omega) (show -p <= -q by omega);rw[Int.neg_mul_neg,Int.neg_mul_neg] at this;exact this
 have m5:=Int.mul_nonneg (show 0<=q*q-p*p by omega) (sqz_nn y)
 omega
theorem Two.in_pp{C:Q4->Prop}{p q r s x y n:Int}(h:Two C p q r s 1 1)(X:Pt p q r 1 1 x y n)(ht:(⟨s,-1,n,1⟩:Q4).ok)(hn:n<s*s)(n1:0<n):∃z,C z/\cmpQ z ⟨s,-1,n,1⟩<=0:=by
 have r0:=h.r0
 have s0:=h.s0
 obtain⟨b1,b2,b3,b4,b5⟩:=X.pp r0
 have x0:=X.x0
 have y0:=X.y0
 have hp:=X.pq
 obtain⟨n0,nx,ny⟩:=X.nn
 by_cases p0:p<0
 ·by_cases q0 : q < 0
  ·by_cases hpq : q <= p
   ·exact h.swap.in_x X.swap ht hn n1 q0 (su_le (su_neg X.n x0 y0 p0 q0 hpq) (by omega) rfl)
   ·exact h.in_x X ht hn n1 p0 (su_le (su_neg (by rw[Int.add_comm];exact X.n) y0 x0 q0 p0 (by omega)) (by omega) rfl)
  ·refine h.in_x X ht hn n1 p0 ?_
   have:=Int.mul_nonpos_of_nonpos_of_nonneg (show p<=0 by omega) x0
   exact su_le (Su.add n0 (su_in ny (show 0<=q by omega)) (Su.int (show 0 <= -(p*x) by omega))) (by omega) (by omega)
 ·by_cases q0 : q < 0
  ·refine h.swap.in_x X.swap ht hn n1 q0 ?_
   have:=Int.mul_nonpos_of_nonpos_of_nonneg (show q<=0 by omega) y0
   exact su_le (Su.add n0 (su_in nx (show 0<=p by omega)) (Su.int (show 0 <= -(q*y) by omega))) (by omega) (by omega)
  ·by_cases hz : p = 0 /\ q = 0
   ·obtain ⟨rfl, rfl⟩ := hz
    refine h.finI1 X hn n1 (by omega) (by omega) ?_
    rw[sqI_e1 (by decide)]
    simp at hp ⊢
    omega
   have S0:0<p*p+q*q:=sqI_pos hz
   have px:=Int.mul_le_mul_of_nonneg_left b1 (show 0<=p by omega)
   have qy:=Int.mul_le_mul_of_nonneg_left b2 (show 0<=q by omega)
   have r2:=Int.mul_pos r0 r0
   have rsp:=Int.mul_pos r0 s0
   have rs:(r-s)*(r-s)=r*r+s*s-2*(r*s):=by grind
   have hrs:r<s:=by
    rcases Int.lt_or_le r s with g|g
    ·exact g
    ·have:=sq_up (Int.le_of_lt s0) g;omega
   by_cases hc:p*p+q*q<(r-s)*(r-s)
   ·have c0 := h.cx hc hrs S0 (by omega) (by omega) (by omega) (by omega)
    refine⟨_,c0,cmpA (h.okC _ c0) ht n1 S0 fun _=>?_⟩
    obtain⟨_,c1⟩:=su_cau (t:=x-p) (u:=y-q) X.n X.c (Int.le_of_lt r0) rfl
    refine su_le (Su.mul n0 (Su.int (show 0<=(2:Int) by decide)) c1) ?_ ?_
    ·rw[show (s-(s-r))*(s-(s-r))=r*r by grind,show x*(x-p)+y*(y-q)=(x*x+y*y)-(p*x+q*y) by grind,X.n];omega
    ·omega
   ·exfalso
    refine h.meet ?_ ?_ hz
    ·refine ⟨2 * (p * p + q * q), p * (p * p + q * q - r * r + s * s), q * (p * p + q * q - r * r + s * s), ⟨by omega, by grind, ?_, ?_, ?_, ?_⟩, ?_⟩
     ·exact Int.mul_nonneg (by omega) (by omega)
     ·exact Int.mul_nonneg (by omega) (by omega)
     ·rw [show 1 * (p * (p * p + q * q - r * r + s * s) - 2 * (p * p + q * q) * p) = p * (s * s - r * r - (p * p + q * q)) by grind]
      exact Int.mul_nonneg (by omega) (by omega)
     ·rw [show 1 * (q * (p * p + q * q - r * r + s * s) - 2 * (p * p + q * q) * q) = q * (s * s - r * r - (p * p + q * q)) by grind]
      exact Int.mul_nonneg (by omega) (by omega)
     ·have hA : 0 <= (p * p + q * q - (r - s) * (r - s)) * (4 * (r * s) - (p * p + q * q - (r - s) * (r - s))) := Int.mul_nonneg (by omega) (by omega)
      have hM:=Int.mul_nonneg (show 0<=p*p+q*q by omega) hA
      have e:2*(p*p+q*q)*(2*(p*p+q*q))*(s*s)-(p*(p*p+q*q-r*r+s*s)*(p*(p*p+q*q-r*r+s*s))+q*(p*p+q*q-r*r+s*s)*(q*(p*p+q*q-r*r+s*s)))=(p*p+q*q)*((p*p+q*q-(r-s)*(r-s))*(4*(r*s)-(p*p+q*q-(r-s)*(r-s)))):=by grind
      omega
    ·obtain ⟨t, T⟩ : ∃ t, p * p + q * q - r * r + s * s = t := ⟨_, rfl⟩
     have t0:0<=t:=by omega
     by_cases p1:0<p
     ·refine out_a X.k (z := x + t) (w := y) ⟨by omega, y0, by omega, X.fy⟩ ?_ (Int.le_of_eq X.c.symm) ?_
      ·refine .inl ⟨by rw [X.g]; omega, ?_⟩
       unfold gF
       have m3:=Int.mul_le_mul_of_nonneg_right (show 1<=p by omega) t0
       rw[Int.mul_add p,T]
       omega
      ·have := Int.mul_nonneg (show 0 <= x - p by omega) t0
       rw[show x+t-x=t by omega,Int.sub_self,Int.mul_zero]
       omega
     ·refine out_a X.k (z := x) (w := y + t) ⟨x0, by omega, X.ex, by omega⟩ ?_ (Int.le_of_eq X.c.symm) ?_
      ·refine .inl ⟨by rw [X.g]; omega, ?_⟩
       unfold gF
       have m3:=Int.mul_le_mul_of_nonneg_right (show 1<=q by omega) t0
       rw[Int.mul_add q,T]
       omega
      ·have := Int.mul_nonneg (show 0 <= y - q by omega) t0
       rw[show y+t-y=t by omega,Int.sub_self,Int.mul_zero]
       omega
theorem Two.in_pm{C:Q4->Prop}{p q r s x y n:Int}(h:Two C p q r s 1 (-1))(X:Pt p q r 1 (-1) x y n)(hn:n<s*s)(n1:0<n):∃z,C z/\cmpQ z ⟨s,-1,n,1⟩<=0:=by
 have r0:=h.r0
 obtain⟨b1,b2,b3,b4,b5⟩:=X.pm r0
 have x0:=X.x0
 have y0:=X.y0
 have hp:=X.pq
 refine h.finI1 X hn n1 (by omega) (by omega) ?_
 rw[sqI_e1 (by decide)]
 have key:p*(x-p)-q*(q-y)<=p*r:=by
  have qb:=Int.mul_nonneg (show 0<=q by omega) (show 0<=q-y by omega)
  by_cases p0:0<=p
  ·have := Int.mul_le_mul_of_nonneg_left b3 p0
   omega
  ·have c := X.c
   have e1:(r-(x-p))*(r+(x-p))=(q-y)*(q-y):=by rw[show (r-(x-p))*(r+(x-p))=r*r-(x-p)*(x-p) by grind];rw[show (q-y)*(q-y)=(y-q)*(y-q) by grind];omega
   have m1:=Int.mul_le_mul_of_nonneg_left (show -p<=r+(x-p) by omega) (show 0<=r-(x-p) by omega)
   have m2:=Int.mul_le_mul_of_nonneg_right (show q-y<=q by omega) (show 0<=q-y by omega)
   have e2:(r-(x-p)) * -p=p*(x-p)-p*r:=by grind
   omega
 rw[Int.mul_sub,Int.mul_sub] at key
 rw[show 1*p*r=p*r by rw[Int.one_mul]]
 omega
theorem Two.in_xm{C:Q4->Prop}{p q r s x y n:Int}(h:Two C p q r s (-1) (-1))(X:Pt p q r (-1) (-1) x y n)(ht:(⟨s,-1,n,1⟩:Q4).ok)(hn:n<s*s)(n1:0<n)(hpr:p<r)(H:Su n (p*x+q*y) (-q)):∃z,C z/\cmpQ z ⟨s,-1,n,1⟩<=0:=by
 have r0:=h.r0
 have s0:=h.s0
 obtain⟨b1,b2,b3,b4,b5⟩:=X.mm r0
 have x0:=X.x0
 have y0:=X.y0
 have hp:=X.pq
 obtain⟨n0,nx,ny⟩:=X.nn
 have A:Su n s (-1):=.inl ⟨Int.le_of_lt s0,by omega⟩
 have ys:y<s:=by
  rcases Int.lt_or_le y s with g|g
  ·exact g
  ·have:=sq_up (Int.le_of_lt s0) g;omega
 have Y:Su n (r-q) 1:=su_le (su_ge (a:=q-r) ny y0 (by omega)) (by omega) rfl
 by_cases hsq:s<q
 ·by_cases hm : r * r <= sqI (s - q) (0 - p)
  ·exfalso
   unfold sqI at hm
   have k1:inKK p q (-1) (-1) 0 y:=⟨by decide,y0,by omega,X.fy⟩
   have k2:inKK p q (-1) (-1) 0 s:=⟨by decide,by omega,by omega,by omega⟩
   have k3:inKK p q (-1) (-1) 0 q:=⟨by decide,by omega,by omega,by omega⟩
   have pr:p*p<=r*r:=sq_up (by omega) (by omega)
   have sq:=sq_up (Int.le_of_lt s0) (Int.le_of_lt hsq)
   have hg:opp (gF p q r s x y) (gF p q r s 0 q):=.inl ⟨by rw[X.g];omega,by rw[gF_eq];rw[show (0-p)*(0-p)=p*p by grind,Int.sub_self];omega⟩
   refine h.meet (leg_a X.k k3 hg (Int.le_of_eq X.c) (by rw[show (0-p)*(0-p)=p*p by grind,Int.sub_self];omega)) ?_ (by omega)
   rcases hg.trans (gF p q r s 0 y) with g|g
   ·refine out_a X.k k1 g (Int.le_of_eq X.c.symm) ?_
    have:=Int.mul_nonneg (show 0<=p-x by omega) x0
    rw[Int.sub_self,Int.mul_zero,show (x-p)*(0-x)=(p-x)*x by grind]
    omega
   ·rcases g.trans (gF p q r s 0 s) with g | g
    ·refine out_a k2 k1 g.symm (by omega) ?_
     have:=Int.mul_nonneg (show 0<=q-s by omega) (show 0<=s-y by omega)
     rw[Int.sub_self,Int.mul_zero,show (s-q)*(y-s)=(q-s)*(s-y) by grind]
     omega
    ·refine out_b k2 k3 g (by omega) ?_
     have:=Int.mul_nonneg (Int.le_of_lt s0) (show 0<=q-s by omega)
     omega
  ·have m0 : 0 < sqI (s - q) (0 - p) := sqI_pos (by omega)
   have c0:=h.b2i (by omega) (by omega) (by omega) m0
   refine⟨_,c0,cmpA (h.okC _ c0) ht n1 m0 fun _=>?_⟩
   refine su_le (Su.mul n0 (Su.int (show 0<=(2:Int) by decide)) (Su.add n0 (Su.mul n0 A Y) H)) ?_ ?_
   ·unfold sqI;grind
   ·grind
 ·have q0 : 0 <= q := by omega
  have nq:n<=q*q:=by
   have:=sq_up (show 0<=x+y by omega) (show x+y<=q by omega)
   have xy:=Int.mul_nonneg x0 y0
   have e:(x+y)*(x+y)=x*x+y*y+2*(x*y):=by grind
   have:=X.n
   omega
  have B:Su n q (-1):=.inl ⟨q0,by omega⟩
  refine h.g2 _ ht (cmpB h.k2 ht n1 (side_m1 n1 (by omega) (by rw[Int.sub_zero];exact hn)) ?_)
  have k1:=Su.mul n0 (Su.int (show 0<=2*(s-q) by omega)) B
  have k2:=Su.mul n0 (Su.int (show 0<=(2:Int) by decide)) H
  have k3:Su n (2*(p*(r-p))) 0:=Su.int (by have:=Int.mul_nonneg (show 0<=p by omega) (show 0<=r-p by omega);omega)
  refine su_le (Su.add n0 (Su.add n0 k1 k2) k3) ?_ ?_
  ·unfold sqI;grind
  ·omega
theorem su_pos{p q x y n:Int}(hn:x*x+y*y=n)(hp:0<=p*x+q*y)(h:0<=x*(p*(p*x)+q*(2*(p*y)-q*x))):Su n (p*x+q*y) (-q):=by
 left
 refine⟨hp,?_⟩
 have e:(p*x+q*y)*(p*x+q*y) - -q * -q*n=x*(p*(p*x)+q*(2*(p*y)-q*x)):=by rw[<- hn];grind
 omega
theorem Two.in_mm1{C:Q4->Prop}{p q r s x y n:Int}(h:Two C p q r s (-1) (-1))(X:Pt p q r (-1) (-1) x y n)(ht:(⟨s,-1,n,1⟩:Q4).ok)(hn:n<s*s)(n1:0<n)(hpq:p<=q):∃z,C z/\cmpQ z ⟨s,-1,n,1⟩<=0:=by
 have r0:=h.r0
 obtain⟨b1,b2,b3,b4,b5⟩:=X.mm r0
 have x0:=X.x0
 have y0:=X.y0
 have hp:=X.pq
 obtain⟨n0,nx,ny⟩:=X.nn
 have p0:0<=p:=by omega
 have q0:0<=q:=by omega
 have px:=Int.mul_nonneg p0 x0
 have qy:=Int.mul_nonneg q0 y0
 by_cases hpr:r<=p
 ·refine h.finI1 X hn n1 (by omega) (by omega) ?_
  rw[sqI_e1 (by decide)]
  have m1:=Int.mul_le_mul_of_nonneg_left b5 p0
  have m2:=Int.mul_le_mul_of_nonneg_right hpq (show 0<=q-y by omega)
  rw[Int.mul_add] at m1
  rw[Int.mul_sub] at m1 m2
  rw[Int.mul_sub q] at m2
  rw[show -1*p*r = -(p*r) by grind]
  rw[Int.mul_sub p q y] at m1
  omega
 ·by_cases hqr : r <= q
  ·by_cases hE : n <= sqI (q + -1 * r) p
   ·exact h.swap.finI1 X.swap hn n1 (by omega) (by omega) hE
   ·refine h.in_xm X ht hn n1 (by omega) (su_pos X.n (by omega) (Int.mul_nonneg x0 ?_))
    rw[sqI_e1 (by decide),show -1*q*r = -(q*r) by grind] at hE
    have k1:p*(p-x)+q*(q-y)<q*r:=by rw[Int.mul_sub,Int.mul_sub];omega
    have c:=X.c
    have e1:(r-(q-y))*(r+(q-y))=(p-x)*(p-x):=by rw[show (r-(q-y))*(r+(q-y))=r*r-(q-y)*(q-y) by grind];rw[show (p-x)*(p-x)=(x-p)*(x-p) by grind,show (q-y)*(q-y)=(y-q)*(y-q) by grind];omega
    have k2:p*(p-x)<q*(r-(q-y)):=by rw[Int.mul_sub q];omega
    have a0:0<p-x:=by
     rcases Int.lt_or_le 0 (p-x) with g|g
     ·exact g
     ·have : p - x = 0 := by omega
      rw[this] at k2 e1
      rcases Int.mul_eq_zero.1 e1 with f|f
      ·rw[f] at k2;simp at k2
      ·omega
    have k3:=Int.mul_lt_mul_of_pos_right k2 (show 0<r+(q-y) by omega)
    have k4:(p-x)*(p*(r+(q-y)))<(p-x)*(q*(p-x)):=by
     have e2:q*(r-(q-y))*(r+(q-y))=q*((r-(q-y))*(r+(q-y))):=by grind
     rw[e2,e1] at k3
     have e3:(p-x)*(p*(r+(q-y)))=p*(p-x)*(r+(q-y)):=by grind
     have e4:(p-x)*(q*(p-x))=q*((p-x)*(p-x)):=by grind
     omega
    have k5:p*(r+(q-y))<q*(p-x):=Int.lt_of_mul_lt_mul_left k4 (Int.le_of_lt a0)
    have k6:q*x<=p*y:=by
     rw[Int.mul_add,Int.mul_sub] at k5
     rw[Int.mul_sub q,Int.mul_comm q p] at k5
     have:=Int.mul_nonneg p0 (Int.le_of_lt r0)
     omega
    have m1:=Int.mul_nonneg p0 px
    have py:=Int.mul_nonneg p0 y0
    have m2:=Int.mul_nonneg q0 (show 0<=2*(p*y)-q*x by omega)
    omega
  ·
   refine h.swap.in_xm X.swap ht hn n1 (by omega) (su_pos (by rw[Int.add_comm];exact X.n) (by omega) (Int.mul_nonneg y0 ?_))
   have m1:p*(p*y)<=q*(q*y):=by
    have:=Int.mul_le_mul_of_nonneg_right (sq_up p0 hpq) y0
    rw[Int.mul_assoc,Int.mul_assoc] at this
    exact this
   have m2:=Int.mul_nonneg p0 (Int.mul_nonneg q0 x0)
   rw[Int.mul_sub,show p*(2*(q*x))=2*(p*(q*x)) by grind]
   omega
theorem Two.ins{C:Q4->Prop}{p q r s e f x y n:Int}(h:Two C p q r s e f)(he:e=1\/e = -1)(hf:f=1\/f = -1)(X:Pt p q r e f x y n)(ht:(⟨s,-1,n,1⟩:Q4).ok)(hn:n<s*s)(n1:0<n):∃z,C z/\cmpQ z ⟨s,-1,n,1⟩<=0:=by
 rcases he with rfl|rfl<;>rcases hf with rfl|rfl
 ·exact h.in_pp X ht hn n1
 ·exact h.in_pm X hn n1
 ·exact h.swap.in_pm X.swap hn n1
 ·rcases Int.le_total p q with g | g
  ·exact h.in_mm1 X ht hn n1 g
  ·exact h.swap.in_mm1 X.swap ht hn n1 g

set_option maxHeartbeats 4000000
section
theorem axes_two{a b:Ed}(oa:a.ok=true)(ob:b.ok=true)(ka:¬a.k=1)(kb:¬b.k=1):∃e f:Int,(e=1\/e = -1)/\(f=1\/f = -1) /\
    ((a.ux=e*b.ux/\a.uy=e*b.uy/\a.vx=f*b.vx/\a.vy=f*b.vy)\/(a.ux=f*b.vx/\a.uy=f*b.vy/\a.vx=e*b.ux/\a.vy=e*b.uy)):=by
  obtain⟨h1,h2⟩:=arc_axes' oa ka
  obtain⟨h3,h4⟩:=arc_axes' ob kb
  rcases h3 with⟨u1,u2⟩|⟨u1,u2⟩|⟨u1,u2⟩|⟨u1,u2⟩<;>rcases h4 with⟨v1,v2⟩|⟨v1,v2⟩ <;>
    (rw [u2] at v1; rw [u1] at v2; rw [u1, u2, v1, v2]
     rcases h1 with⟨w1,w2⟩|⟨w1,w2⟩|⟨w1,w2⟩|⟨w1,w2⟩<;>rcases h2 with⟨z1,z2⟩|⟨z1,z2⟩ <;>
      (rw [w2] at z1; rw [w1] at z2; rw [w1, w2, z1, z2]
       first
        | exact⟨1,1,.inl rfl,.inl rfl,by decide⟩
        | exact⟨1,-1,.inl rfl,.inr rfl,by decide⟩
        | exact⟨-1,1,.inr rfl,.inl rfl,by decide⟩
        | exact⟨-1,-1,.inr rfl,.inr rfl,by decide⟩))
structure Axes (u1 u2 v1 v2:Int):Prop where
  uu:u1*u1+u2*u2=1
  vv:v1*v1+v2*v2=1
  uv:u1*v1+u2*v2=0
  dt:∀a b c d:Int,a*c+b*d=(a*u1+b*u2)*(c*u1+d*u2)+(a*v1+b*v2)*(c*v1+d*v2)
theorem Axes.sq{u1 u2 v1 v2:Int}(h:Axes u1 u2 v1 v2){x y X Y:Int}(hx:x*u1+y*u2=X)(hy:x*v1+y*v2=Y):sqI x y=sqI X Y:=by
  unfold sqI
  rw[h.dt x y x y,hx,hy]
theorem lag(D1 D2 z1 z2 w1 w2:Int):(D1*z1+D2*z2)*(D1*w1+D2*w2)+(-D2*z1+D1*z2)*(-D2*w1+D1*w2)=(D1*D1+D2*D2)*(z1*w1+z2*w2):=by grind
theorem Co.of_on{e:Ed}{x y:Int}(h:onE e x y=true):Co x/\Co y:=by
  have ho:=ok_of_on h
  obtain⟨⟨a1,a2⟩,⟨b1,b2⟩,_⟩:=ok_right ho
  have g:inB (min e.ax e.bx) (min e.ay e.by') (max e.ax e.bx) (max e.ay e.by') x y=true:=by
    unfold onE at h
    split at h<;>simp only[Bool.and_eq_true] at h<;>exact h.2.1
  obtain⟨c1,c2⟩:=inB_iff.1 g
  unfold Btw at c1 c2
  unfold Co at *
  omega
theorem coA{P Q r e u1 u2 v1 v2 X T:Int}(h:P*v1+Q*v2=X)(hT:u1*v1+u2*v2=T):(P+r*(e*u1))*v1+(Q+r*(e*u2))*v2=X+e*r*T:=by rw[<- h,<- hT];grind
theorem coB{P Q r u1 u2 v1 v2 X T:Int}(h:P*v1+Q*v2=X)(hT:u1*v1+u2*v2=T):(r*u1-P)*v1+(r*u2-Q)*v2=r*T-X:=by rw[<- h,<- hT];grind
theorem coM{x y e u1 u2 X:Int}(h:x*u1+y*u2=X):x*(e*u1)+y*(e*u2)=e*X:=by rw[<- h];grind
theorem coN{P Q a b c d u v X:Int}(h:(a-b)*u+(c-d)*v=X)(h1:b-a=P)(h2:d-c=Q):P*u+Q*v=0-X:=by rw[<- h,<- h1,<- h2];grind
theorem vec_u{X Y u1 u2 v1 v2 w1 w2 s t:Int}(h1:u1*w1+u2*w2=s)(h2:v1*w1+v2*w2=t):(X*u1+Y*v1)*w1+(X*u2+Y*v2)*w2=X*s+Y*t:=by rw[<- h1,<- h2];grind
theorem lagK{D1 D2 z1 z2 w1 w2 k K S:Int}(dz:2*(D1*z1+D2*z2)=k*K)(hS:D1*D1+D2*D2=S):k*(K*(D1*w1+D2*w2))+(-D2*w1+D1*w2)*(2*(-D2*z1+D1*z2))=2*(S*(z1*w1+z2*w2)):=by
  have:=lag D1 D2 z1 z2 w1 w2
  rw[hS] at this
  have e1:k*(K*(D1*w1+D2*w2))=2*(D1*z1+D2*z2)*(D1*w1+D2*w2):=by rw[dz];grind
  rw[e1];grind
theorem lagS{D1 D2 z1 z2 k K S R:Int}(dz:2*(D1*z1+D2*z2)=k*K)(hS:D1*D1+D2*D2=S)(hR:z1*z1+z2*z2=R):2*(-D2*z1+D1*z2)*(2*(-D2*z1+D1*z2))=4*S*R-k*k*(K*K):=by
  have:=lag D1 D2 z1 z2 z1 z2
  rw[<- hR,<- hS]
  have e1:k*k*(K*K)=2*(D1*z1+D2*z2)*(2*(D1*z1+D2*z2)):=by rw[dz];grind
  rw[e1];grind
theorem lag3{k K S d g t x p:Int}(e1:k*(K*d)+g*t=2*(S*(x-k*p)))(hd:d=0-p):k*((K-2*S)*d)+g*t=2*(S*x):=by
  have e2:k*((K-2*S)*d)=k*(K*d)-2*(S*(k*d)):=by grind
  have e3:S*(x-k*p)=S*x+S*(k*d):=by rw[hd];grind
  rw[e2];omega
theorem line_z{a b:Ed}{p q e f k x y:Int}(AX:Axes b.ux b.uy b.vx b.vy)(Du:(b.cx-a.cx)*b.ux+(b.cy-a.cy)*b.uy=0-p)(Dv:(b.cx-a.cx)*b.vx+(b.cy-a.cy)*b.vy=0-q)
    (KK:∀x y X Y:Int,x*b.ux+y*b.uy=X->x*b.vx+y*b.vy=Y->((0<=x*a.ux+y*a.uy/\0<=x*a.vx+y*a.vy) <-> (0<=e*X/\0<=f*Y))) (sD:sqI (b.cx-a.cx) (b.cy-a.cy)=p*p+q*q) (L:OnL p q (radZ a) (radZ b) e f k x y) :
    ∃t:Int,t*t=4*(p*p+q*q)*((x-k*p)*(x-k*p)+(y-k*q)*(y-k*q))-k*k*((aaE a b).k*(aaE a b).k)/\(∀z∈(aaE a b).list,0<=k*z.1+z.2*t):=by
  have uv:=AX.uv
  have vu:b.vx*b.ux+b.vy*b.uy=0:=by rw[Int.mul_comm b.vx,Int.mul_comm b.vy];exact uv
  have c1:=vec_u (X:=x-k*p) (Y:=y-k*q) AX.uu vu
  have c2:=vec_u (X:=x-k*p) (Y:=y-k*q) uv AX.vv
  rw[Int.mul_one,Int.mul_zero,Int.add_zero] at c1
  rw[Int.mul_one,Int.mul_zero,Int.zero_add] at c2
  generalize (x-k*p)*b.ux+(y-k*q)*b.vx=z1 at *
  generalize (x-k*p)*b.uy+(y-k*q)*b.vy=z2 at *
  obtain⟨q1,q2⟩:=(KK z1 z2 _ _ c1 c2).2 ⟨L.ex,L.fy⟩
  obtain⟨D1,hD1⟩:∃D1,b.cx-a.cx=D1:=⟨_,rfl⟩
  obtain⟨D2,hD2⟩:∃D2,b.cy-a.cy=D2:=⟨_,rfl⟩
  have hS:D1*D1+D2*D2=p*p+q*q:=by rw[<- sD,hD1,hD2];rfl
  rw[hD1,hD2] at Du Dv
  have hL:(aaE a b).list=[((aaE a b).k*(D1*a.ux+D2*a.uy),-D2*a.ux+D1*a.uy),((aaE a b).k*(D1*a.vx+D2*a.vy),-D2*a.vx+D1*a.vy),(((aaE a b).k-2*(p*p+q*q))*(D1*b.ux+D2*b.uy),-D2*b.ux+D1*b.uy),(((aaE a b).k-2*(p*p+q*q))*(D1*b.vx+D2*b.vy),-D2*b.vx+D1*b.vy)]:=by
    rw[<- hS,<- hD1,<- hD2];rfl
  have hK:(aaE a b).k=p*p+q*q-(radZ b*radZ b-radZ a*radZ a):=by
    unfold AA.k aaE;simp only;rw[hD1,hD2,hS]
  have dz:2*(D1*z1+D2*z2)=k*(aaE a b).k:=by
    have:=AX.dt D1 D2 z1 z2
    rw[Du,Dv,c1,c2] at this
    have l:=L.l
    rw[this,hK]
    grind
  have S0:0<=p*p+q*q:=by have:=sqz_nn p;have:=sqz_nn q;omega
  have sz:z1*z1+z2*z2=(x-k*p)*(x-k*p)+(y-k*q)*(y-k*q):=by rw[AX.dt z1 z2 z1 z2,c1,c2]
  have mm:∀t:Int,0<=t->0<=2*((p*p+q*q)*t):=fun t ht=>by have:=Int.mul_nonneg S0 ht;omega
  refine⟨2*(-D2*z1+D1*z2),lagS dz hS sz,fun z hzl=>?_⟩
  rw[hL] at hzl
  simp only[List.mem_cons,List.not_mem_nil,or_false] at hzl
  rcases hzl with rfl|rfl|rfl|rfl
  . simp only;rw[lagK dz hS];exact mm _ q1
  . simp only;rw[lagK dz hS];exact mm _ q2
  . have e1 := lagK (w1 := b.ux) (w2 := b.uy) dz hS
    rw[c1] at e1
    simp only
    rw[lag3 e1 Du]
    exact mm x L.x0
  . have e1 := lagK (w1 := b.vx) (w2 := b.vy) dz hS
    rw[c2] at e1
    simp only
    rw[lag3 e1 Dv]
    exact mm y L.y0
theorem arcs_two{a b:Ed}(oa:a.ok=true)(ob:b.ok=true)(ka:¬a.k=1)(kb:¬b.k=1)(hm:countE a b=0):∃p q e f:Int,(e=1\/e = -1)/\(f=1\/f = -1)/\Two (·∈candQ a b) p q (radZ a) (radZ b) e f /\
    ∀x y,onE a x y=true->inQ b (x-b.cx) (y-b.cy)=true->Pt p q (radZ a) e f ((x-b.cx)*b.ux+(y-b.cy)*b.uy) ((x-b.cx)*b.vx+(y-b.cy)*b.vy) (sqI (x-b.cx) (y-b.cy)):=by
  obtain⟨e,f,he,hf,hef⟩:=axes_two oa ob ka kb
  obtain⟨r0,a1,a2,a3,a4,_,_,_,_,_,aT⟩:=arc_frame oa ka
  obtain⟨s0,b1,b2,b3,b4,uu,vv,uv,dt,_,bT⟩:=arc_frame ob kb
  have AX:Axes b.ux b.uy b.vx b.vy:=⟨uu,vv,uv,dt⟩
  have ee:e*e=1:=by rcases he with rfl|rfl<;>rfl
  have ff:f*f=1:=by rcases hf with rfl|rfl<;>rfl
  obtain⟨p,hp⟩:∃p,(a.cx-b.cx)*b.ux+(a.cy-b.cy)*b.uy=p:=⟨_,rfl⟩
  obtain⟨q,hq⟩:∃q,(a.cx-b.cx)*b.vx+(a.cy-b.cy)*b.vy=q:=⟨_,rfl⟩
  have KK:∀x y X Y:Int,x*b.ux+y*b.uy=X->x*b.vx+y*b.vy=Y->((0<=x*a.ux+y*a.uy/\0<=x*a.vx+y*a.vy) <-> (0<=e*X/\0<=f*Y)):=fun x y X Y hX hY=>by
    have e1:x*(e*b.ux)+y*(e*b.uy)=e*X:=coM hX
    have e2:x*(f*b.vx)+y*(f*b.vy)=f*Y:=coM hY
    rcases hef with⟨g1,g2,g3,g4⟩|⟨g1,g2,g3,g4⟩
    . rw[g1,g2,g3,g4,e1,e2]
    . rw[g1,g2,g3,g4,e1,e2];exact And.comm
  have QA:∀x y X Y:Int,x*b.ux+y*b.uy=X->x*b.vx+y*b.vy=Y->0<=e*X->0<=f*Y->0<sqI X Y->inQ a x y=true:=fun x y X Y hX hY h1 h2 h3=>by
    obtain⟨g1,g2⟩:=(KK x y X Y hX hY).2 ⟨h1,h2⟩
    exact inQ_mk oa ka g1 g2 (by rw[AX.sq hX hY];exact h3)
  have QB:∀x y X Y:Int,x*b.ux+y*b.uy=X->x*b.vx+y*b.vy=Y->0<=X->0<=Y->0<sqI X Y->inQ b x y=true:=fun x y X Y hX hY h1 h2 h3 =>
    inQ_mk ob kb (by omega) (by omega) (by rw[AX.sq hX hY];exact h3)
  have vu:b.vx*b.ux+b.vy*b.uy=0:=by rw[Int.mul_comm b.vx,Int.mul_comm b.vy];exact uv
  obtain⟨E1,F1,hE1,hF1,m1,o1⟩:∃E F:Int,(E-b.cx)*b.ux+(F-b.cy)*b.uy=p+e*radZ a/\(E-b.cx)*b.vx+(F-b.cy)*b.vy=q/\pointQ b E F∈candQ a b/\onE a E F=true:=by
    have c1:=coA (r:=radZ a) (e:=e) hp uu
    have c2:=coA (r:=radZ a) (e:=e) hq uv
    rw[Int.mul_one] at c1
    rw[Int.mul_zero,Int.add_zero] at c2
    rcases hef with⟨g1,g2,g3,g4⟩|⟨g1,g2,g3,g4⟩
    . rw [<- g1, <- g2, show a.cx - b.cx + radZ a * a.ux = a.ax - b.cx by omega, show a.cy - b.cy + radZ a * a.uy = a.ay - b.cy by omega] at c1 c2
      exact⟨a.ax,a.ay,c1,c2,cand1 a b,end_a oa⟩
    . rw [<- g3, <- g4, show a.cx - b.cx + radZ a * a.vx = a.bx - b.cx by omega, show a.cy - b.cy + radZ a * a.vy = a.by' - b.cy by omega] at c1 c2
      exact⟨a.bx,a.by',c1,c2,cand2 a b,end_b oa⟩
  obtain⟨E2,F2,hE2,hF2,m2,o2⟩:∃E F:Int,(E-b.cx)*b.ux+(F-b.cy)*b.uy=p/\(E-b.cx)*b.vx+(F-b.cy)*b.vy=q+f*radZ a/\pointQ b E F∈candQ a b/\onE a E F=true:=by
    have c1:=coA (r:=radZ a) (e:=f) hp vu
    have c2:=coA (r:=radZ a) (e:=f) hq vv
    rw[Int.mul_one] at c2
    rw[Int.mul_zero,Int.add_zero] at c1
    rcases hef with⟨g1,g2,g3,g4⟩|⟨g1,g2,g3,g4⟩
    . rw [<- g3, <- g4, show a.cx - b.cx + radZ a * a.vx = a.bx - b.cx by omega, show a.cy - b.cy + radZ a * a.vy = a.by' - b.cy by omega] at c1 c2
      exact⟨a.bx,a.by',c1,c2,cand2 a b,end_b oa⟩
    . rw [<- g1, <- g2, show a.cx - b.cx + radZ a * a.ux = a.ax - b.cx by omega, show a.cy - b.cy + radZ a * a.uy = a.ay - b.cy by omega] at c1 c2
      exact⟨a.ax,a.ay,c1,c2,cand1 a b,end_a oa⟩
  have B1u:(b.ax-a.cx)*b.ux+(b.ay-a.cy)*b.uy=radZ b-p:=by
    rw[show b.ax-a.cx=radZ b*b.ux-(a.cx-b.cx) by omega,show b.ay-a.cy=radZ b*b.uy-(a.cy-b.cy) by omega,coB hp uu,Int.mul_one]
  have B1v:(b.ax-a.cx)*b.vx+(b.ay-a.cy)*b.vy=0-q:=by
    rw[show b.ax-a.cx=radZ b*b.ux-(a.cx-b.cx) by omega,show b.ay-a.cy=radZ b*b.uy-(a.cy-b.cy) by omega,coB hq uv,Int.mul_zero]
  have B2u:(b.bx-a.cx)*b.ux+(b.by'-a.cy)*b.uy=0-p:=by
    rw[show b.bx-a.cx=radZ b*b.vx-(a.cx-b.cx) by omega,show b.by'-a.cy=radZ b*b.vy-(a.cy-b.cy) by omega,coB hp vu,Int.mul_zero]
  have B2v:(b.bx-a.cx)*b.vx+(b.by'-a.cy)*b.vy=radZ b-q:=by
    rw[show b.bx-a.cx=radZ b*b.vx-(a.cx-b.cx) by omega,show b.by'-a.cy=radZ b*b.vy-(a.cy-b.cy) by omega,coB hq vv,Int.mul_one]
  have Du:(b.cx-a.cx)*b.ux+(b.cy-a.cy)*b.uy=0-p:=coN hp rfl rfl
  have Dv:(b.cx-a.cx)*b.vx+(b.cy-a.cy)*b.vy=0-q:=coN hq rfl rfl
  have Nu : -(b.cx-a.cx)*b.ux + -(b.cy-a.cy)*b.uy=p:=by rw[show -(b.cx-a.cx)=a.cx-b.cx by omega,show -(b.cy-a.cy)=a.cy-b.cy by omega];exact hp
  have Nv : -(b.cx-a.cx)*b.vx + -(b.cy-a.cy)*b.vy=q:=by rw[show -(b.cx-a.cx)=a.cx-b.cx by omega,show -(b.cy-a.cy)=a.cy-b.cy by omega];exact hq
  have oC:=candQ_ok oa ob
  obtain⟨⟨ca1,ca2⟩,⟨cb1,cb2⟩,_⟩:=ok_right ob
  have sD:sqI (b.cx-a.cx) (b.cy-a.cy)=p*p+q*q:=by rw[AX.sq Du Dv];unfold sqI;grind
  have cent:∀z,z∈centQ a b->z∈candQ a b:=fun z hz=>by
    unfold candQ innerQ
    rw[if_neg ka,if_neg kb]
    exact List.mem_append_right _ hz
  have G:∀X Y E F u v:Int,onE a E F=true->pointQ a X Y∈candQ a b->Co X->Co Y->(X-E)*b.ux+(Y-F)*b.uy=u->(X-E)*b.vx+(Y-F)*b.vy=v ->
      (⟨0,1,sqI u v,1⟩:Q4).ok/\∀t:Q4,t.ok->cmpQ ⟨0,1,sqI u v,1⟩ t<=0->∃z,z∈candQ a b/\cmpQ z t<=0:=fun X Y E F u v oE mQ cX cY hu hv=>by
    obtain⟨cE,cF⟩:=Co.of_on oE
    have ok:=endQ_ok cX cY cE cF
    have pl:=point_le (x:=X) (y:=Y) oE
    unfold endQ at ok pl
    rw[AX.sq hu hv] at ok pl
    exact⟨ok,fun t ht hc=>⟨_,mQ,cmpQ_trans (oC _ mQ) ok ht pl hc⟩⟩
  have G1:=G b.ax b.ay E2 F2 (radZ b-p) (0-(q+f*radZ a)) o2 (cand3 a b) ca1 ca2
    (by rw[show b.ax-E2=radZ b*b.ux-(E2-b.cx) by omega,show b.ay-F2=radZ b*b.uy-(F2-b.cy) by omega,coB hE2 uu,Int.mul_one])
    (by rw[show b.ax-E2=radZ b*b.ux-(E2-b.cx) by omega,show b.ay-F2=radZ b*b.uy-(F2-b.cy) by omega,coB hF2 uv,Int.mul_zero])
  have G2:=G b.bx b.by' E1 F1 (0-(p+e*radZ a)) (radZ b-q) o1 (cand4 a b) cb1 cb2
    (by rw[show b.bx-E1=radZ b*b.vx-(E1-b.cx) by omega,show b.by'-F1=radZ b*b.vy-(F1-b.cy) by omega,coB hE1 vu,Int.mul_zero])
    (by rw[show b.bx-E1=radZ b*b.vx-(E1-b.cx) by omega,show b.by'-F1=radZ b*b.vy-(F1-b.cy) by omega,coB hF1 vv,Int.mul_one])
  rw[sqI_c (0-_) (radZ b-q)] at G2
  refine⟨p,q,e,f,he,hf,⟨r0,s0,ee,ff,oC,?_,?_,?_,?_,?_,?_,?_,?_,G1.1,G1.2,G2.1,G2.2,?_,?_,?_,?_⟩,?_⟩
  . intro h1 h2 h3
    have sb:=sqz_nn (radZ b)
    have:=arcQ_out (QB _ _ _ _ hE1 hF1 h1 h2 (by omega)) kb (by rw[AX.sq hE1 hF1];exact h3)
    rw[this,AX.sq hE1 hF1] at m1
    exact m1
  . intro h1 h2 h3 h4
    have:=arcQ_in (QB _ _ _ _ hE1 hF1 h1 h2 h4) kb (by rw[AX.sq hE1 hF1];exact h3)
    rw[this,AX.sq hE1 hF1] at m1
    exact m1
  . intro h1 h2 h3
    rw[sqI_c] at h3 ⊢
    have sb:=sqz_nn (radZ b)
    have:=arcQ_out (QB _ _ _ _ hE2 hF2 h2 h1 (by omega)) kb (by rw[AX.sq hE2 hF2];exact h3)
    rw[this,AX.sq hE2 hF2] at m2
    exact m2
  . intro h1 h2 h3 h4
    rw[sqI_c] at h3 h4 ⊢
    have:=arcQ_in (QB _ _ _ _ hE2 hF2 h2 h1 h4) kb (by rw[AX.sq hE2 hF2];exact h3)
    rw[this,AX.sq hE2 hF2] at m2
    exact m2
  . intro h1 h2 h3
    have sb:=sqz_nn (radZ a)
    have:=arcQ_out (QA _ _ _ _ B1u B1v h1 h2 (by omega)) ka (by rw[AX.sq B1u B1v];exact h3)
    have m:=cand3 a b
    rw[this,AX.sq B1u B1v] at m
    exact m
  . intro h1 h2 h3 h4
    have:=arcQ_in (QA _ _ _ _ B1u B1v h1 h2 h4) ka (by rw[AX.sq B1u B1v];exact h3)
    have m:=cand3 a b
    rw[this,AX.sq B1u B1v] at m
    exact m
  . intro h1 h2 h3
    rw[sqI_c] at h3 ⊢
    have sb:=sqz_nn (radZ a)
    have:=arcQ_out (QA _ _ _ _ B2u B2v h2 h1 (by omega)) ka (by rw[AX.sq B2u B2v];exact h3)
    have m:=cand4 a b
    rw[this,AX.sq B2u B2v] at m
    exact m
  . intro h1 h2 h3 h4
    rw[sqI_c] at h3 h4 ⊢
    have:=arcQ_in (QA _ _ _ _ B2u B2v h2 h1 h4) ka (by rw[AX.sq B2u B2v];exact h3)
    have m:=cand4 a b
    rw[this,AX.sq B2u B2v] at m
    exact m
  . intro h1 h2 h3 h4 h5
    refine cent _ ?_
    have z0:=sqz_nn (radZ a+radZ b)
    have ha:=QA _ _ _ _ Du Dv h2 h3 (by unfold sqI;rw[show (0-p)*(0-p)+(0-q)*(0-q)=p*p+q*q by grind];omega)
    have hb:=QB _ _ _ _ Nu Nv h4 h5 (by unfold sqI;omega)
    unfold centQ
    simp only[sD]
    rw[if_pos h1,ha,hb]
    exact List.mem_singleton.2 rfl
  . intro h1 hs hz h2 h3 h4 h5
    refine cent _ ?_
    have rs:=Int.mul_pos r0 s0
    have e1:(radZ a-radZ b)*(radZ a-radZ b)+4*(radZ a*radZ b)=(radZ a+radZ b)*(radZ a+radZ b):=by grind
    have zz:0<sqI (0-p) (0-q):=by unfold sqI;rw[show (0-p)*(0-p)+(0-q)*(0-q)=p*p+q*q by grind];omega
    have ha:=QA _ _ _ _ Du Dv h2 h3 zz
    have hb:=QB _ _ _ _ Du Dv (by omega) (by omega) zz
    unfold centQ
    simp only[sD]
    rw[if_neg (by omega),if_neg (by omega),if_pos hs,ha,hb]
    exact List.mem_singleton.2 rfl
  . intro h1 hs hz h2 h3 h4 h5
    refine cent _ ?_
    have rs:=Int.mul_pos r0 s0
    have e1:(radZ a-radZ b)*(radZ a-radZ b)+4*(radZ a*radZ b)=(radZ a+radZ b)*(radZ a+radZ b):=by grind
    have zz:0<sqI p q:=by unfold sqI;omega
    have ha:=QA _ _ _ _ Nu Nv h2 h3 zz
    have hb:=QB _ _ _ _ Nu Nv h4 h5 zz
    unfold centQ
    simp only[sD]
    rw[if_neg (by omega),if_neg (by omega),if_neg (by omega),ha,hb]
    exact List.mem_singleton.2 rfl
  . rintro ⟨k1, x1, y1, L1, I1⟩ ⟨k2, x2, y2, L2, I2⟩ hz
    have nc:¬(a.cx=b.cx/\a.cy=b.cy):=fun ⟨g1,g2⟩=>hz ⟨by rw[<- hp,g1,g2];simp,by rw[<- hq,g1,g2];simp⟩
    have hA:arcsZ a b=0:=by
      unfold countE at hm
      rw[oa,ob] at hm
      simpa[ka,kb] using hm
    unfold arcsZ at hA
    rw[if_neg nc,countZ_eq] at hA
    obtain⟨t1,T1,C1⟩:=line_z AX Du Dv KK sD L1
    obtain⟨t2,T2,C2⟩:=line_z AX Du Dv KK sD L2
    have w1:=onL_two L1
    have w2:=onL_two L2
    have S0:0<=p*p+q*q:=by have:=sqz_nn p;have:=sqz_nn q;omega
    obtain⟨K,hK⟩:∃K,(aaE a b).k=K:=⟨_,rfl⟩
    have hD:(aaE a b).delta=4*(p*p+q*q)*(radZ a*radZ a)-K*K:=by
      rw[<- sD,<- hK];rfl
    obtain⟨d,hd⟩:∃d,(aaE a b).delta=d:=⟨_,rfl⟩
    rw[hd] at hA hD
    rw[hK] at T1 T2
    have k10:=L1.k0
    have k20:=L2.k0
    have i1:t1*t1<=k1*k1*d:=by
      have m:=Int.mul_le_mul_of_nonneg_left (show (x1-k1*p)*(x1-k1*p)+(y1-k1*q)*(y1-k1*q)<=k1*k1*(radZ a*radZ a) by omega) (show 0<=4*(p*p+q*q) by omega)
      have e1:k1*k1*d=4*(p*p+q*q)*(k1*k1*(radZ a*radZ a))-k1*k1*(K*K):=by rw[hD];grind
      omega
    have i2:k2*k2*d<=t2*t2:=by
      have m:=Int.mul_le_mul_of_nonneg_left (show k2*k2*(radZ a*radZ a)<=(x2-k2*p)*(x2-k2*p)+(y2-k2*q)*(y2-k2*q) by omega) (show 0<=4*(p*p+q*q) by omega)
      have e1:k2*k2*d=4*(p*p+q*q)*(k2*k2*(radZ a*radZ a))-k2*k2*(K*K):=by rw[hD];grind
      omega
    have d0:0<=d:=by
      have:=sqz_nn t1
      rcases Int.lt_or_le d 0 with g|g
      . have:=Int.mul_neg_of_pos_of_neg (Int.mul_pos k10 k10) g;omega
      . exact g
    obtain⟨σ,hσ,hσ'⟩:∃σ:Int,(σ=1\/σ = -1)/\(σ=1/\0<=k1*t2\/σ = -1/\k1*t2<=0):=by
      rcases Int.le_total 0 (k1*t2) with g|g
      . exact⟨1,.inl rfl,.inl ⟨rfl,g⟩⟩
      . exact⟨-1,.inr rfl,.inr ⟨rfl,g⟩⟩
    refine countC_good d0 hσ (fun z hz=>?_) hA
    have c1:=Int.mul_nonneg (Int.le_of_lt k20) (C1 z hz)
    have c2:=Int.mul_nonneg (Int.le_of_lt k10) (C2 z hz)
    refine side_btw (k:=k1*k2) (s1:=k1*t2) (s2:=k2*t1) (Int.mul_pos k10 k20) d0 hσ' ?_ ?_ ?_ ?_
    . rw[show k1*k2*z.1+z.2*(k1*t2)=k1*(k2*z.1+z.2*t2) by grind];exact c2
    . rw[show k1*k2*z.1+z.2*(k2*t1)=k2*(k1*z.1+z.2*t1) by grind];exact c1
    . have := Int.mul_le_mul_of_nonneg_left i1 (sqz_nn k2)
      rw[show k2*t1*(k2*t1)=k2*k2*(t1*t1) by grind,show k1*k2*(k1*k2)*d=k2*k2*(k1*k1*d) by grind];exact this
    . have := Int.mul_le_mul_of_nonneg_left i2 (sqz_nn k1)
      rw[show k1*t2*(k1*t2)=k1*k1*(t2*t2) by grind,show k1*k2*(k1*k2)*d=k1*k1*(k2*k2*d) by grind];exact this
  . intro x y h hQ
    obtain⟨_,hr,w1,w2⟩:=onE_arc ka h
    obtain⟨g1,g2⟩:=bT _ _ hQ
    have hX:(x-a.cx)*b.ux+(y-a.cy)*b.uy=(x-b.cx)*b.ux+(y-b.cy)*b.uy-p:=by rw[<- hp];grind
    have hY:(x-a.cx)*b.vx+(y-a.cy)*b.vy=(x-b.cx)*b.vx+(y-b.cy)*b.vy-q:=by rw[<- hq];grind
    obtain⟨q1,q2⟩:=(KK _ _ _ _ hX hY).1 ⟨w1,w2⟩
    refine⟨g1,g2,q1,q2,?_,?_⟩
    . have := AX.sq hX hY
      unfold sqI at this
      rw[<- this];exact hr
    . exact (AX.sq rfl rfl).symm
theorem arcs_least{a b:Ed}{x y:Int}(ka:¬a.k=1)(kb:¬b.k=1)(ob:b.ok=true)(h:onE a x y=true)(hm:countE a b=0):∃z∈candQ a b,cmpQ z (pointQ b x y)<=0:=by
  have oa:=ok_of_on h
  cases hq:inQ b (x-b.cx) (y-b.cy) with
  | false=>exact arcQ_far hq kb h
  | true =>
    obtain⟨p,q,e,f,he,hf,T,P⟩:=arcs_two oa ob ka kb hm
    have X:=P x y h hq
    obtain⟨cx,cy⟩:=Co.of_on h
    have ok:=pointQ_ok (x:=x) (y:=y) ob cx cy
    have hr:¬sqI (x-b.cx) (y-b.cy)=radZ b*radZ b:=fun e=>absurd hm (common_point h (onE_arc_mk ob kb hq e))
    have n0:0<sqI (x-b.cx) (y-b.cy):=by
      refine sqI_pos fun ⟨e1,e2⟩=>?_
      rw[e1,e2] at hq
      simp[inQ] at hq
    rcases Int.lt_or_le (radZ b*radZ b) (sqI (x-b.cx) (y-b.cy)) with ho|ho
    . rw [arcQ_out hq kb ho] at ok ⊢
      exact T.out he hf X ok ho
    . have ho : sqI (x - b.cx) (y - b.cy) < radZ b * radZ b := by omega
      rw[arcQ_in hq kb ho] at ok ⊢
      exact T.ins he hf X ok ho n0
theorem least_le{a b:Ed}{x y z w:Int}(h:onE a x y=true)(h':onE b z w=true)(hm:countE a b=0):cmpQ (leastQ (candQ a b)) (endQ x y z w)<=0:=by
  have oa:=ok_of_on h
  have ob:=ok_of_on h'
  have oC:=candQ_ok oa ob
  obtain⟨cx,cy⟩:=Co.of_on h
  obtain⟨cz,cw⟩:=Co.of_on h'
  have key:∃t∈candQ a b,cmpQ t (endQ x y z w)<=0:=by
    by_cases ka:a.k=1
    . obtain⟨t,h1,h2⟩:∃t∈candQ a b,cmpQ t (pointQ b x y)<=0:=by
        by_cases kb:b.k=1
        . exact lines_least ka kb ob h hm
        . exact line_arc_least ka kb ob h hm
      exact⟨t,h1,cmpQ_trans (oC _ h1) (pointQ_ok ob cx cy) (endQ_ok cx cy cz cw) h2 (point_le h')⟩
    . by_cases kb : b.k = 1
      . obtain ⟨t, h1, h2⟩ := line_arc_least kb ka oa h' (by rw [countE_comm]; exact hm)
        have h1:=(candQ_comm b a t).1 h1
        rw[endQ_sym]
        exact⟨t,h1,cmpQ_trans (oC _ h1) (pointQ_ok oa cz cw) (endQ_ok cz cw cx cy) h2 (point_le h)⟩
      . obtain ⟨t, h1, h2⟩ := arcs_least ka kb ob h hm
        exact⟨t,h1,cmpQ_trans (oC _ h1) (pointQ_ok ob cx cy) (endQ_ok cx cy cz cw) h2 (point_le h')⟩
  obtain⟨t,h1,h2⟩:=key
  obtain⟨l1,l2⟩:=leastQ_le (candQ_ne a b) oC
  exact cmpQ_trans l1 (oC _ h1) (endQ_ok cx cy cz cw) (l2 t h1) h2
end
theorem nat_ml{x y:Int}{A B:Nat}(h1:x.natAbs<=A)(h2:y.natAbs<=B):(x*y).natAbs<=A*B:=by rw[Int.natAbs_mul];exact Nat.mul_le_mul h1 h2
theorem nat_dv(x y:Int):(x.tdiv y).natAbs<=x.natAbs:=by rw[Int.natAbs_tdiv];exact Nat.div_le_self _ _
theorem at6_sm{e:Ed}(L:List Int)(h:Sml e)(hr:0<=radZ e/\radZ e<=2097152):(at6 e L).1.natAbs<=c26/\(at6 e L).2.natAbs<=c26:=by
 obtain⟨a1,a2,a3,a4,a5,a6⟩:=h
 have hc:(c26:Nat)=67108864:=rfl
 have S:∀(j:Nat) (x y:Int),(-67108863<=x/\x<=67108863)->(-67108864<=y/\y<=67108864)->(-67108864<=(shX L j x y).1/\(shX L j x y).1<=67108864)/\(-67108864<=(shX L j x y).2/\(shX L j x y).2<=67108864):=fun j x y hx hy=>by
  have:=nV_bd L (j+1) (m:=3) (by omega)
  unfold shX
  split<;>simp only<;>omega
 have D:∀u v:Int,(-1048576<=u/\u<=1048576)->(-1048576<=v/\v<=1048576) -> -2097152<=((v-u)*nV L 3 5).tdiv 4/\((v-u)*nV L 3 5).tdiv 4<=2097152:=fun u v hu hv=>by
  have h3:=nV_bd L 3 (m:=5) (by omega)
  have h4:=nat_ml (x:=v-u) (y:=nV L 3 5) (A:=2097152) (B:=4) (by omega) (by omega)
  have h5:(((v-u)*nV L 3 5).tdiv 4).natAbs=((v-u)*nV L 3 5).natAbs/4:=Int.natAbs_tdiv _ _
  omega
 have G:∀(s i j:Int) (f:Int->Int),(0<=s/\s<2)->(f i).natAbs<=24->((sgV s*f i*radZ e).tdiv (hyV j)).natAbs<=50331648:=fun s i j f hs hf=>by
  have h1:(sgV s).natAbs<=1:=by
   obtain rfl|rfl:s=0\/s=1:=by omega
   all_goals decide
  have h2:=nat_ml (nat_ml h1 hf) (show (radZ e).natAbs<=2097152 by omega)
  have h3:=nat_dv (sgV s*f i*radZ e) (hyV j)
  omega
 have b0:=nV_bd L 0 (m:=241) (by omega)
 have b1:=nV_bd L 1 (m:=241) (by omega)
 have key:(-67108864<=(at6 e L).1/\(at6 e L).1<=67108864)/\(-67108864<=(at6 e L).2/\(at6 e L).2<=67108864):=by
  unfold at6
  split
  ·exact S _ _ _ (by omega) (by omega)
  split
  ·exact S _ _ _ (by omega) (by omega)
  split
  ·have d1 := D _ _ a1 a3
   have d2:=D _ _ a2 a4
   exact S _ _ _ (by omega) (by omega)
  split
  ·have h3 := nV_bd L 3 (m := 5) (by omega)
   have h5:=nV_bd L 5 (m:=2) (by omega)
   have h6:=nV_bd L 6 (m:=2) (by omega)
   have i1:(lxV (nV L 3 5)).natAbs<=24/\(lyV (nV L 3 5)).natAbs<=24:=by
    generalize nV L 3 5=i at *
    obtain rfl|rfl|rfl|rfl|rfl:i=0\/i=1\/i=2\/i=3\/i=4:=by omega
    all_goals decide
   have g1:=G (nV L 5 2) (nV L 3 5) (nV L 4 5) lxV h5 i1.1
   have g2:=G (nV L 6 2) (nV L 3 5) (nV L 4 5) lyV h6 i1.2
   exact S _ _ _ (by omega) (by omega)
  split
  ·exact S _ _ _ (by omega) (by omega)
  ·exact S _ _ _ (by omega) (by omega)
 omega
def dAtB:Con where
 f:=6
 g:=fun | [⟨true,l⟩,⟨false,[.ds L]⟩]=>(toEd l).map fun e=>(.one (ptV (at6 e L).1 (at6 e L).2 c26),[e.ok=true/\(at6 e L).1.natAbs<=c26/\(at6 e L).2.natAbs<=c26])|_=>none
 ok:=by
  intro args res ps h hp
  split at h<;>try cases h
  rename_i l L
  cases he:toEd l with
  | none=>simp[he] at h
  | some e =>
   simp only[he,Option.map_some,Option.some.injEq,Prod.mk.injEq] at h
   obtain⟨rfl,rfl⟩:=h
   refine (dAt.ok [⟨true,l⟩,⟨false,[.ds L]⟩] (.one (ptL (at6 e L))) [e.ok=true] (by show (toEd l).map _=_;rw[he];rfl) ⟨hp.1.1,trivial⟩).mono fun W x h=>?_
   obtain⟨_,h1,h2⟩:=hp.1
   simp only[RepA,ptL,rv_t,rl_i,rl_nil] at h
   obtain⟨_,⟨⟨_,i0⟩,_,rfl,⟨_,i1⟩,_,rfl,rfl⟩,rfl⟩:=h
   exact rv_t.2 ⟨_,rl_i.2 ⟨⟨by omega,i0⟩,_,rfl,rl_i.2 ⟨⟨by omega,i1⟩,_,rfl,rfl⟩⟩,rfl⟩
theorem rad_nn{e:Ed}(he:e.ok=true):0<=radZ e:=by
 by_cases hk:e.k=1
 ·rw[radZ_line hk];exact Int.le_refl 0
 ·have:=rad_pos he hk;omega
theorem co_c26{z:Int}(h:z.natAbs<=c26):Co z:=by
 have:c26=67108864:=rfl
 unfold Co;omega
end Go.Proofs.YtcfpcafnjgpfdaaGreat
