import Derived.Test.YtcfpcafnjgpfdaaGreatK31
set_option linter.unusedVariables false
set_option linter.unusedSimpArgs false

namespace Go.Proofs.YtcfpcafnjgpfdaaGreat
open Go.RowKit
theorem side_le{x y d:Int}(hd:0<=d)(hx:x<=0)(h:y*y*d<=x*x):sideZ x y d<=0:=by
 have:=side_ge (x := -x) (y := -y) hd (.inl ⟨by omega,by rw[Int.neg_mul_neg,Int.neg_mul_neg];exact h⟩)
 obtain⟨m,rfl⟩:=Int.eq_ofNat_of_zero_le hd
 have e:=sideZ_neg x y m
 omega
theorem le_rt_out{N D r n k w:Int}(N0:0<=N)(D0:0<D)(r0:0<r)(k0:0<k)(w0:0<=w)(h1:N*(k*k)<=w*w*D)(h2:(w+k*r)*(w+k*r)<=n*(k*k)):cmpQ ⟨0,1,N,D⟩ ⟨-r,1,n,1⟩<=0:=by
 have kk:0<k*k:=Int.mul_pos k0 k0
 have rD:0<r*D:=Int.mul_pos r0 D0
 have kr:0<k*r:=Int.mul_pos k0 r0
 have wk:=Int.mul_pos (show 0<w+k*r by omega) (show 0<w+k*r by omega)
 have n0:¬n=0:=fun e=>by rw[e,Int.zero_mul] at h2;omega
 unfold cmpQ cmpR
 simp only[Int.zero_sub,Int.neg_neg,Int.mul_one]
 have e1:sideZ (r*D) (nz 1 N) (N*D)=1:=by
  by_cases g:N=0
  ·rw[nz0P g,side_l0P,sgn_pP rD]
  ·rw [nz1P g]
   unfold sideZ
   rw[sgn_pP rD,sgn_pP (Int.mul_pos (show 0<N by omega) D0),show sgn 1=1 from rfl,if_pos (by decide)]
   decide
 rw[e1,nz1P n0,if_neg (by decide),Int.one_mul]
 have f1:k*k*(n*D-r*r*D-N)=(n*(k*k)-(w+k*r)*(w+k*r))*D+(w*w*D-N*(k*k))+2*(k*w*(r*D)):=by grind
 have f2:=Int.mul_nonneg (show 0<=n*(k*k)-(w+k*r)*(w+k*r) by omega) (Int.le_of_lt D0)
 have f3:=Int.mul_nonneg (Int.mul_nonneg (Int.le_of_lt k0) w0) (Int.le_of_lt rD)
 have f4:2*(k*w*(r*D))<=k*k*(n*D-r*r*D-N):=by omega
 have x0:0<=n*D-r*r*D-N:=by
  rcases Int.lt_or_le (n*D-r*r*D-N) 0 with g|g
  ·have:=Int.mul_neg_of_pos_of_neg kk g;omega
  ·exact g
 refine side_le (Int.mul_nonneg N0 (Int.le_of_lt D0)) (by omega) ?_
 by_cases g:N=0
 ·rw[g];simp only[Int.zero_mul,Int.mul_zero];exact sqz_nn _
 ·rw [nz1P g, Int.mul_one]
  have u:=sq_up (a:=2*(k*w*(r*D))) (by omega) f4
  have g1:2*(k*w*(r*D))*(2*(k*w*(r*D)))=k*k*(4*(r*r*D)*(w*w*D)):=by grind
  have g2:k*k*(n*D-r*r*D-N)*(k*k*(n*D-r*r*D-N))=k*k*(k*k*((r*r*D+N-n*D)*(r*r*D+N-n*D))):=by grind
  rw[g1,g2] at u
  have u2:=Int.le_of_mul_le_mul_left u kk
  have rr:0<=4*(r*r*D):=by have:=Int.mul_nonneg (sqz_nn r) (Int.le_of_lt D0);omega
  have u3:=Int.mul_le_mul_of_nonneg_left h1 rr
  have g3:4*(r*r*D)*(N*(k*k))=k*k*(2*r*(2*r)*(N*D)):=by grind
  rw[g3] at u3
  exact Int.le_of_mul_le_mul_left (Int.le_trans u3 u2) kk
theorem le_rt_in{N D r n k w:Int}(N0:0<=N)(D0:0<D)(r0:0<r)(k0:0<k)(w0:0<=w)(wr:w<=k*r)(n0:0<n)(h1:N*(k*k)<=w*w*D)(h2:n*(k*k)<=(k*r-w)*(k*r-w)):cmpQ ⟨0,1,N,D⟩ ⟨r,-1,n,1⟩<=0:=by
 have kk:0<k*k:=Int.mul_pos k0 k0
 have rD:0<r*D:=Int.mul_pos r0 D0
 have nd:0<=N*D:=Int.mul_nonneg N0 (Int.le_of_lt D0)
 have nk:=Int.mul_pos n0 kk
 have w1:w<k*r:=by
  rcases Int.lt_or_eq_of_le wr with g|g
  ·exact g
  ·rw[g,Int.sub_self,Int.zero_mul] at h2;omega
 have ww:w*w<k*r*(k*r):=by
  have:=sq_up w0 (show w<=k*r-1 by omega)
  have e:(k*r-1)*(k*r-1)=k*r*(k*r)-2*(k*r)+1:=by grind
  omega
 have z1:N<r*r*D:=by
  have:=Int.mul_lt_mul_of_pos_right ww D0
  refine Int.lt_of_mul_lt_mul_left (a:=k*k) ?_ (Int.le_of_lt kk)
  have e1:k*k*N=N*(k*k):=Int.mul_comm ..
  have e2:k*r*(k*r)*D=k*k*(r*r*D):=by grind
  omega
 have z2:N*D<r*D*(r*D):=by
  have:=Int.mul_lt_mul_of_pos_right z1 D0
  have e1:r*r*D*D=r*D*(r*D):=by grind
  omega
 unfold cmpQ cmpR
 simp only[Int.zero_sub,Int.mul_one]
 have sz:sideZ (-r*D) (nz 1 N) (N*D) = -1:=by
  rw[Int.neg_mul]
  by_cases g:N=0
  ·rw[nz0P g,side_l0P,sgn_mP (by omega)]
  ·rw [nz1P g]
   unfold sideZ
   rw[sgn_mP (show -(r*D)<0 by omega),sgn_pP (Int.mul_pos (show 0<N by omega) D0),show sgn 1=1 from rfl,if_neg (by decide),Int.neg_mul_neg]
   unfold cmpZ
   rw[if_neg (by omega),if_neg (by omega)]
   decide
 rw[sz,nz1P (by omega),if_neg (by decide)]
 have key:0<=sideZ (-r * -r*D+N-n*D) (2 * -r*nz 1 N) (N*D):=by
  have f1:k*k*(-r * -r*D+N-n*D)=((k*r-w)*(k*r-w)-n*(k*k))*D+((2*(k*r)-w)*w*D+N*(k*k)):=by grind
  have f2:=Int.mul_nonneg (show 0<=(k*r-w)*(k*r-w)-n*(k*k) by omega) (Int.le_of_lt D0)
  have f3:=Int.mul_nonneg (Int.mul_nonneg (show 0<=2*(k*r)-w by omega) w0) (Int.le_of_lt D0)
  have f4:=Int.mul_nonneg N0 (Int.le_of_lt kk)
  have f5:(2*(k*r)-w)*w*D+N*(k*k)<=k*k*(-r * -r*D+N-n*D):=by omega
  have x0:0 <= -r * -r*D+N-n*D:=by
   rcases Int.lt_or_le (-r * -r*D+N-n*D) 0 with g|g
   ·have:=Int.mul_neg_of_pos_of_neg kk g;omega
   ·exact g
  refine side_ge nd (.inl ⟨x0,?_⟩)
  have u:=sq_up (show 0<=(2*(k*r)-w)*w*D+N*(k*k) by omega) f5
  have v1:=sq_up w0 (show w<=2*(k*r)-w by omega)
  have v2:=Int.mul_le_mul_of_nonneg_right v1 (Int.le_of_lt D0)
  have v3:=Int.mul_nonneg (show 0<=w*w*D-N*(k*k) by omega) (show 0<=(2*(k*r)-w)*(2*(k*r)-w)*D-N*(k*k) by omega)
  have v4:((2*(k*r)-w)*w*D+N*(k*k))*((2*(k*r)-w)*w*D+N*(k*k))=(w*w*D-N*(k*k))*((2*(k*r)-w)*(2*(k*r)-w)*D-N*(k*k))+k*k*(k*k*(4*(r*r)*(N*D))):=by grind
  have v5:k*k*(-r * -r*D+N-n*D)*(k*k*(-r * -r*D+N-n*D))=k*k*(k*k*((-r * -r*D+N-n*D)*(-r * -r*D+N-n*D))):=by grind
  rw[v4,v5] at u
  have u2:=Int.le_of_mul_le_mul_left (Int.le_of_mul_le_mul_left (show k*k*(k*k*(4*(r*r)*(N*D)))<=k*k*(k*k*((-r * -r*D+N-n*D)*(-r * -r*D+N-n*D))) by omega) kk) kk
  by_cases g:N=0
  ·rw[nz0P g];simp only[Int.mul_zero,Int.zero_mul];exact sqz_nn _
  ·rw [nz1P g, Int.mul_one]
   have e:2 * -r*(2 * -r)*(N*D)=4*(r*r)*(N*D):=by grind
   omega
 omega
theorem le_mono{A n d m e:Int}(hn:0<=n)(hd:0<d)(hm:0<=m)(he:0<e)(h:n*e<=m*d):cmpQ ⟨A,1,n,d⟩ ⟨A,1,m,e⟩<=0:=by
 have:=le_sq2 hn hd hm he h
 unfold cmpQ at *
 simpa only[Int.sub_self] using this
theorem le_monoM{A n m:Int}(hm:0<m)(h:m<=n):cmpQ ⟨A,-1,n,1⟩ ⟨A,-1,m,1⟩<=0:=by
 unfold cmpQ cmpR
 simp only[Int.sub_self,Int.zero_mul,Int.mul_zero,Int.zero_add,Int.mul_one]
 rw[nz1P (show ¬n=0 by omega),nz1P (show ¬m=0 by omega)]
 have es:sideZ 0 (-1) n = -1:=by unfold sideZ;rw[sgn_pP (show 0<n by omega),show sgn 0=0 from rfl,show sgn (-1) = -1 from rfl,if_pos (by decide)];decide
 rw[es,if_neg (by decide),side_l0P]
 rcases sgn_cases (n-m) with⟨h,g⟩|⟨h,g⟩|⟨h,g⟩<;>omega
theorem exit_pt{u1 u2 v1 v2 p1 p2 V1 V2 m:Int}(or1:∀a b:Int,a=(a*u1+b*u2)*u1+(a*v1+b*v2)*v1)(or2:∀a b:Int,b=(a*u1+b*u2)*u2+(a*v1+b*v2)*v2)(h1:0<=p1*u1+p2*u2)(h2:0<=p1*v1+p2*v2)(m0:0<m)
  (h:(m*p1+V1)*u1+(m*p2+V2)*u2<0\/(m*p1+V1)*v1+(m*p2+V2)*v2<0) :
  ∃k p L:Int,0<k/\0<=p/\p*m<=k/\0<=L/\((k*p1+p*V1=L*u1/\k*p2+p*V2=L*u2)\/(k*p1+p*V1=L*v1/\k*p2+p*V2=L*v2)):=by
 have q1:=or1 p1 p2
 have q2:=or2 p1 p2
 have q3:=or1 V1 V2
 have q4:=or2 V1 V2
 rw[show (m*p1+V1)*u1+(m*p2+V2)*u2=m*(p1*u1+p2*u2)+(V1*u1+V2*u2) by grind,show (m*p1+V1)*v1+(m*p2+V2)*v2=m*(p1*v1+p2*v2)+(V1*v1+V2*v2) by grind] at h
 generalize p1*u1+p2*u2=a1 at *
 generalize p1*v1+p2*v2=a2 at *
 generalize V1*u1+V2*u2=b1 at *
 generalize V1*v1+V2*v2=b2 at *
 have z1:=Int.mul_nonneg (Int.le_of_lt m0) h1
 have z2:=Int.mul_nonneg (Int.le_of_lt m0) h2
 have e4:a1*b2-b1*a2=a1*(m*a2+b2)-(m*a1+b1)*a2:=by grind
 have D:(m*a1+b1<0/\0<=a1*b2-b1*a2)\/(m*a2+b2<0/\0<=a2*b1-b2*a1):=by
  have e3:a2*b1-b2*a1 = -(a1*b2-b1*a2):=by grind
  rw[e3]
  by_cases g1:m*a1+b1<0
  ·by_cases d : 0 <= a1 * b2 - b1 * a2
   ·exact .inl ⟨g1,d⟩
   ·by_cases g2 : m * a2 + b2 < 0
    ·exact .inr ⟨g2,by omega⟩
    ·exfalso
     have:=Int.mul_nonneg h1 (show 0<=m*a2+b2 by omega)
     have:=Int.mul_nonpos_of_nonpos_of_nonneg (show m*a1+b1<=0 by omega) h2
     omega
  ·have g2 : m * a2 + b2 < 0 := by omega
   refine .inr ⟨g2,?_⟩
   have:=Int.mul_nonpos_of_nonneg_of_nonpos h1 (show m*a2+b2<=0 by omega)
   have:=Int.mul_nonneg (show 0<=m*a1+b1 by omega) h2
   omega
 rcases D with⟨g,d⟩|⟨g,d⟩
 ·exact⟨-b1,a1,_,by omega,h1,by rw[Int.mul_comm];omega,d,.inr ⟨by grind,by grind⟩⟩
 ·exact⟨-b2,a2,_,by omega,h2,by rw[Int.mul_comm];omega,d,.inl ⟨by grind,by grind⟩⟩
theorem btw_par{t g S m k p:Int}(m0:0<m)(t0:0<=t)(t1:t<=S)(g0:0<=m*t+g)(g1:m*t+g<=m*S)(p0:0<=p)(pk:p*m<=k):0<=k*t+p*g/\k*t+p*g<=k*S:=by
 have e1:m*(k*t+p*g)=(k-p*m)*(m*t)+(p*m)*(m*t+g):=by grind
 have e2:m*(k*S-(k*t+p*g))=(k-p*m)*(m*(S-t))+(p*m)*(m*S-(m*t+g)):=by grind
 have pm:=Int.mul_nonneg p0 (Int.le_of_lt m0)
 have a1:=Int.mul_nonneg (show 0<=k-p*m by omega) (Int.mul_nonneg (Int.le_of_lt m0) t0)
 have a2:=Int.mul_nonneg (show 0<=k-p*m by omega) (Int.mul_nonneg (Int.le_of_lt m0) (show 0<=S-t by omega))
 have a3:=Int.mul_nonneg pm g0
 have a4:=Int.mul_nonneg pm (show 0<=m*S-(m*t+g) by omega)
 constructor
 ·exact Int.le_of_mul_le_mul_left (a:=m) (by rw[Int.mul_zero];omega) m0
 ·have : 0 <= k * S - (k * t + p * g) := Int.le_of_mul_le_mul_left (a := m) (by rw [Int.mul_zero]; omega) m0
  omega
structure Aim (a b:Ed) (x y V1 V2 m:Int):Prop where
 S0:0<sqI (a.bx-a.ax) (a.by'-a.ay)
 kb:¬b.k=1
 ob:b.ok=true
 hx:(a.bx-a.ax)*(y-a.ay)=(a.by'-a.ay)*(x-a.ax)
 t0:0<=(x-a.ax)*(a.bx-a.ax)+(y-a.ay)*(a.by'-a.ay)
 t1:(x-a.ax)*(a.bx-a.ax)+(y-a.ay)*(a.by'-a.ay)<=sqI (a.bx-a.ax) (a.by'-a.ay)
 hV:(a.bx-a.ax)*V2=(a.by'-a.ay)*V1
 m0:0<m
 g0:0<=m*((x-a.ax)*(a.bx-a.ax)+(y-a.ay)*(a.by'-a.ay))+(V1*(a.bx-a.ax)+V2*(a.by'-a.ay))
 g1:m*((x-a.ax)*(a.bx-a.ax)+(y-a.ay)*(a.by'-a.ay))+(V1*(a.bx-a.ax)+V2*(a.by'-a.ay))<=m*sqI (a.bx-a.ax) (a.by'-a.ay)
 pu:0<=(x-b.cx)*b.ux+(y-b.cy)*b.uy
 pv:0<=(x-b.cx)*b.vx+(y-b.cy)*b.vy
theorem Aim.par{a b:Ed}{x y V1 V2 m k p:Int}(h:Aim a b x y V1 V2 m)(p0:0<=p)(pk:p*m<=k) :
  (a.bx-a.ax)*(k*(y-b.cy)+p*V2-k*(a.ay-b.cy))=(a.by'-a.ay)*(k*(x-b.cx)+p*V1-k*(a.ax-b.cx)) /\
  0<=(k*(x-b.cx)+p*V1-k*(a.ax-b.cx))*(a.bx-a.ax)+(k*(y-b.cy)+p*V2-k*(a.ay-b.cy))*(a.by'-a.ay) /\
  (k*(x-b.cx)+p*V1-k*(a.ax-b.cx))*(a.bx-a.ax)+(k*(y-b.cy)+p*V2-k*(a.ay-b.cy))*(a.by'-a.ay)<=k*sqI (a.bx-a.ax) (a.by'-a.ay):=by
 obtain⟨q1,q2⟩:=btw_par h.m0 h.t0 h.t1 h.g0 h.g1 p0 pk
 have e1:=h.hx
 have e2:=h.hV
 generalize sqI (a.bx-a.ax) (a.by'-a.ay)=S at *
 have e3:k*(x-b.cx)+p*V1-k*(a.ax-b.cx)=k*(x-a.ax)+p*V1:=by grind
 have e4:k*(y-b.cy)+p*V2-k*(a.ay-b.cy)=k*(y-a.ay)+p*V2:=by grind
 rw[e3,e4]
 generalize a.bx-a.ax=d1 at *
 generalize a.by'-a.ay=d2 at *
 generalize x-a.ax=X at *
 generalize y-a.ay=Y at *
 have e5:(k*X+p*V1)*d1+(k*Y+p*V2)*d2=k*(X*d1+Y*d2)+p*(V1*d1+V2*d2):=by grind
 rw[e5]
 exact⟨by grind,q1,q2⟩
theorem Aim.cross{a b:Ed}{x y V1 V2 m k p:Int}(h:Aim a b x y V1 V2 m)(k0:0<k)(p0:0<=p)(pk:p*m<=k)(u2:0<=(k*(x-b.cx)+p*V1)*b.ux+(k*(y-b.cy)+p*V2)*b.uy)(v2:0<=(k*(x-b.cx)+p*V1)*b.vx+(k*(y-b.cy)+p*V2)*b.vy)
  (o:radZ b*radZ b<=sqI (x-b.cx) (y-b.cy)/\sqI (k*(x-b.cx)+p*V1) (k*(y-b.cy)+p*V2)<=k*k*(radZ b*radZ b)\/sqI (x-b.cx) (y-b.cy)<=radZ b*radZ b/\k*k*(radZ b*radZ b)<=sqI (k*(x-b.cx)+p*V1) (k*(y-b.cy)+p*V2)):crossZ a b≠0:=by
 have hk:0*m<=k:=by omega
 obtain⟨w1,w2,w3⟩:=h.par (k:=k) (p:=0) (Int.le_refl 0) hk
 obtain⟨z1,z2,z3⟩:=h.par (k:=k) (p:=p) p0 pk
 simp only[Int.zero_mul,Int.add_zero] at w1 w2 w3
 have pu:=h.pu
 have pv:=h.pv
 have ku:0<=k*(x-b.cx)*b.ux+k*(y-b.cy)*b.uy:=by
  have:=Int.mul_nonneg (Int.le_of_lt k0) pu
  rw[show k*(x-b.cx)*b.ux+k*(y-b.cy)*b.uy=k*((x-b.cx)*b.ux+(y-b.cy)*b.uy) by grind];exact this
 have kv:0<=k*(x-b.cx)*b.vx+k*(y-b.cy)*b.vy:=by
  have:=Int.mul_nonneg (Int.le_of_lt k0) pv
  rw[show k*(x-b.cx)*b.vx+k*(y-b.cy)*b.vy=k*((x-b.cx)*b.vx+(y-b.cy)*b.vy) by grind];exact this
 have ks:sqI (k*(x-b.cx)) (k*(y-b.cy))=k*k*sqI (x-b.cx) (y-b.cy):=by unfold sqI;grind
 have kk:0<=k*k:=sqz_nn k
 rcases o with⟨o1,o2⟩|⟨o1,o2⟩
 ·exact cross_arc k0 h.S0 w1 z1 w2 w3 z2 z3 ku kv u2 v2 (by rw[ks];exact Int.mul_le_mul_of_nonneg_left o1 kk) o2
 ·exact cross_arc k0 h.S0 z1 w1 z2 z3 w2 w3 u2 v2 ku kv o2 (by rw[ks];exact Int.mul_le_mul_of_nonneg_left o1 kk)
theorem Aim.frame{a b:Ed}{x y V1 V2 m:Int}(h:Aim a b x y V1 V2 m):(∀c d:Int,c=(c*b.ux+d*b.uy)*b.ux+(c*b.vx+d*b.vy)*b.vx)/\(∀c d:Int,d=(c*b.ux+d*b.uy)*b.uy+(c*b.vx+d*b.vy)*b.vy):=by
 obtain⟨_,_,_,_,_,_,_,_,dt,_⟩:=arc_frame h.ob h.kb
 refine⟨fun c d=>?_,fun c d=>?_⟩
 ·have := dt c d 1 0
  simpa using this
 ·have := dt c d 0 1
  simpa using this
theorem out_sq{k p m P1 P2 V1 V2:Int}(m0:0<m)(p0:0<=p)(pk:p*m<=k)(k0:0<k)(hQ:(m*P1+V1)*V1+(m*P2+V2)*V2<=0):sqI (k*P1+p*V1) (k*P2+p*V2)<=k*k*sqI P1 P2:=by
 have e1:k*k*sqI P1 P2=sqI (k*P1+p*V1) (k*P2+p*V2)-2*(p*((k*P1+p*V1)*V1+(k*P2+p*V2)*V2))+p*p*sqI V1 V2:=by unfold sqI;grind
 have e2:m*((k*P1+p*V1)*V1+(k*P2+p*V2)*V2)=k*((m*P1+V1)*V1+(m*P2+V2)*V2)-(k-p*m)*sqI V1 V2:=by unfold sqI;grind
 have n1:=Int.mul_nonneg (show 0<=k-p*m by omega) (sqI_nn V1 V2)
 have n2:=Int.mul_nonpos_of_nonneg_of_nonpos (Int.le_of_lt k0) hQ
 have n3:(k*P1+p*V1)*V1+(k*P2+p*V2)*V2<=0:=by
  rcases Int.lt_or_le 0 ((k*P1+p*V1)*V1+(k*P2+p*V2)*V2) with g|g
  ·have:=Int.mul_pos m0 g;omega
  ·exact g
 have n4:=Int.mul_nonpos_of_nonneg_of_nonpos p0 n3
 have n5:=Int.mul_nonneg (sqz_nn p) (sqI_nn V1 V2)
 omega
theorem in_sq{k p P1 P2 V1 V2:Int}(p0:0<=p)(k0:0<k)(hP:0<=P1*V1+P2*V2):k*k*sqI P1 P2<=sqI (k*P1+p*V1) (k*P2+p*V2):=by
 have e1:sqI (k*P1+p*V1) (k*P2+p*V2)=k*k*sqI P1 P2+2*(k*p*(P1*V1+P2*V2))+p*p*sqI V1 V2:=by unfold sqI;grind
 have n4:=Int.mul_nonneg (Int.mul_nonneg (Int.le_of_lt k0) p0) hP
 have n5:=Int.mul_nonneg (sqz_nn p) (sqI_nn V1 V2)
 omega
theorem sq_w{L w1 w2:Int}(ww:w1*w1+w2*w2=1):sqI (L*w1) (L*w2)=L*L:=by
 have:sqI (L*w1) (L*w2)=L*L*(w1*w1+w2*w2):=by unfold sqI;grind
 rw[this,ww,Int.mul_one]
theorem end_w{k X A x p V r w L c:Int}(h1:X-c=r*w)(h2:k*(x-c)+p*V=L*w):k*(X-A)-(k*(x-A)+p*V)=(k*r-L)*w:=by grind
theorem Aim.bend{a b:Ed}{x y V1 V2 m k p L:Int}(h:Aim a b x y V1 V2 m)(ka:a.k=1)(k0:0<k)(p0:0<=p)(pk:p*m<=k)
  (hW:(k*(x-b.cx)+p*V1=L*b.ux/\k*(y-b.cy)+p*V2=L*b.uy)\/(k*(x-b.cx)+p*V1=L*b.vx/\k*(y-b.cy)+p*V2=L*b.vy)) :
  sqI (k*(x-b.cx)+p*V1) (k*(y-b.cy)+p*V2)=L*L/\(0<=L->0<=(k*(x-b.cx)+p*V1)*b.ux+(k*(y-b.cy)+p*V2)*b.uy/\0<=(k*(x-b.cx)+p*V1)*b.vx+(k*(y-b.cy)+p*V2)*b.vy) /\
  ∃N D,(⟨0,1,N,D⟩:Q4)∈candQ a b/\0<=N/\0<D/\N*(k*k)<=(L-k*radZ b)*(L-k*radZ b)*D:=by
 obtain⟨r0,f1,f2,f3,f4,uu,vv,uv,_⟩:=arc_frame h.ob h.kb
 obtain⟨z1,z2,z3⟩:=h.par (k:=k) (p:=p) p0 pk
 have e3:∀w:Int,k*(x-b.cx)+p*V1-k*(a.ax-b.cx)=k*(x-a.ax)+p*V1:=fun _=>by grind
 have e4:k*(y-b.cy)+p*V2-k*(a.ay-b.cy)=k*(y-a.ay)+p*V2:=by grind
 rw[e3 0,e4] at z1 z2 z3
 have nz:a.bx-a.ax=0->a.by'-a.ay=0->k*(x-a.ax)+p*V1=0/\k*(y-a.ay)+p*V2=0:=fun g1 g2=>by
  have:=h.S0
  rw[g1,g2] at this
  exact absurd this (by decide)
 have key:∀X Y w1 w2:Int,X-b.cx=radZ b*w1->Y-b.cy=radZ b*w2->w1*w1+w2*w2=1->k*(x-b.cx)+p*V1=L*w1->k*(y-b.cy)+p*V2=L*w2->pointQ a X Y∈candQ a b ->
   sqI (k*(x-b.cx)+p*V1) (k*(y-b.cy)+p*V2)=L*L/\∃N D,(⟨0,1,N,D⟩:Q4)∈candQ a b/\0<=N/\0<D/\N*(k*k)<=(L-k*radZ b)*(L-k*radZ b)*D:=fun X Y w1 w2 hX hY ww g1 g2 hm=>by
  obtain⟨N,D,j1,j2,j3,j4⟩:=line_leK (e:=a) (x:=X) (y:=Y) k0 z1 z2 z3 nz
  refine⟨?_,N,D,?_,j2,j3,?_⟩
  ·rw[g1,g2];exact sq_w ww
  ·rw [<- j1]
   unfold pointQ at hm
   rw[if_pos ka] at hm
   exact hm
  ·rw [end_w hX g1, end_w hY g2, sq_w ww] at j4
   rw[show (L-k*radZ b)*(L-k*radZ b)=(k*radZ b-L)*(k*radZ b-L) by rw[<- Int.neg_mul_neg];congr 1<;>omega]
   exact j4
 rcases hW with⟨g1,g2⟩|⟨g1,g2⟩
 ·obtain ⟨c1, c2⟩ := key b.ax b.ay b.ux b.uy f1 f2 uu g1 g2 (cand3 a b)
  refine⟨c1,fun L0=>?_,c2⟩
  rw[g1,g2]
  have w1:L*b.ux*b.ux+L*b.uy*b.uy=L*(b.ux*b.ux+b.uy*b.uy):=by grind
  have w2:L*b.ux*b.vx+L*b.uy*b.vy=L*(b.ux*b.vx+b.uy*b.vy):=by grind
  rw[w1,w2,uu,uv]
  omega
 ·obtain ⟨c1, c2⟩ := key b.bx b.by' b.vx b.vy f3 f4 vv g1 g2 (cand4 a b)
  refine⟨c1,fun L0=>?_,c2⟩
  rw[g1,g2]
  have w1:L*b.vx*b.ux+L*b.vy*b.uy=L*(b.ux*b.vx+b.uy*b.vy):=by grind
  have w2:L*b.vx*b.vx+L*b.vy*b.vy=L*(b.vx*b.vx+b.vy*b.vy):=by grind
  rw[w1,w2,vv,uv]
  omega
theorem le_of_sqP{x y:Int}(hy:0<=y)(h:¬x*x<=y*y)(hx:0<=x):y<=x:=by
 rcases Int.lt_or_le x y with g|g
 ·exact absurd (sq_up hx (Int.le_of_lt g)) h
 ·exact g
theorem Aim.out{a b:Ed}{x y V1 V2 m:Int}(h:Aim a b x y V1 V2 m)(ka:a.k=1)(hc:crossZ a b=0)(hn:radZ b*radZ b<sqI (x-b.cx) (y-b.cy))(hQ:(m*(x-b.cx)+V1)*V1+(m*(y-b.cy)+V2)*V2<=0) :
  (0<=(m*(x-b.cx)+V1)*b.ux+(m*(y-b.cy)+V2)*b.uy/\0<=(m*(x-b.cx)+V1)*b.vx+(m*(y-b.cy)+V2)*b.vy/\m*m*(radZ b*radZ b)<sqI (m*(x-b.cx)+V1) (m*(y-b.cy)+V2)/\sqI (m*(x-b.cx)+V1) (m*(y-b.cy)+V2)<=m*m*sqI (x-b.cx) (y-b.cy)) \/
  ∃z∈candQ a b,cmpQ z ⟨-radZ b,1,sqI (x-b.cx) (y-b.cy),1⟩<=0:=by
 have r0:=rad_pos h.ob h.kb
 have m0:=h.m0
 have mm:1*m<=m:=by omega
 by_cases hq:0<=(m*(x-b.cx)+V1)*b.ux+(m*(y-b.cy)+V2)*b.uy/\0<=(m*(x-b.cx)+V1)*b.vx+(m*(y-b.cy)+V2)*b.vy
 ·left
  have s:=out_sq (k:=m) (p:=1) m0 (by decide) mm m0 hQ
  have cr:=fun u v=>h.cross (k:=m) (p:=1) m0 (by decide) mm u v
  simp only[Int.one_mul] at s cr
  refine⟨hq.1,hq.2,?_,s⟩
  rcases Int.lt_or_le (m*m*(radZ b*radZ b)) (sqI (m*(x-b.cx)+V1) (m*(y-b.cy)+V2)) with g|g
  ·exact g
  ·exact absurd hc (cr hq.1 hq.2 (.inl ⟨Int.le_of_lt hn,g⟩))
 ·right
  obtain⟨or1,or2⟩:=h.frame
  obtain⟨k,p,L,k0,p0,pk,L0,hW⟩:=exit_pt (V1:=V1) (V2:=V2) or1 or2 h.pu h.pv m0 (by omega)
  obtain⟨b1,b2,N,D,b3,b4,b5,b6⟩:=h.bend ka k0 p0 pk hW
  obtain⟨b7,b8⟩:=b2 L0
  have s:=out_sq m0 p0 pk k0 hQ
  rw[b1] at s
  have kr:0<=k*radZ b:=Int.mul_nonneg (Int.le_of_lt k0) (Int.le_of_lt r0)
  have e1:k*radZ b*(k*radZ b)=k*k*(radZ b*radZ b):=by grind
  have g:k*radZ b<=L:=by
   refine le_of_sqP kr (fun g=>?_) L0
   exact h.cross k0 p0 pk b7 b8 (.inl ⟨Int.le_of_lt hn,by rw[b1,<- e1];exact g⟩) hc
  refine⟨_,b3,le_rt_out b4 b5 r0 k0 (w:=L-k*radZ b) (by omega) b6 ?_⟩
  rw[show L-k*radZ b+k*radZ b=L by omega,Int.mul_comm (sqI _ _)]
  exact s
theorem Aim.ins{a b:Ed}{x y V1 V2 m:Int}(h:Aim a b x y V1 V2 m)(ka:a.k=1)(hc:crossZ a b=0)(hn:sqI (x-b.cx) (y-b.cy)<radZ b*radZ b)(n0:0<sqI (x-b.cx) (y-b.cy))(hP:0<=(x-b.cx)*V1+(y-b.cy)*V2) :
  (0<=(m*(x-b.cx)+V1)*b.ux+(m*(y-b.cy)+V2)*b.uy/\0<=(m*(x-b.cx)+V1)*b.vx+(m*(y-b.cy)+V2)*b.vy/\sqI (m*(x-b.cx)+V1) (m*(y-b.cy)+V2)<m*m*(radZ b*radZ b)/\m*m*sqI (x-b.cx) (y-b.cy)<=sqI (m*(x-b.cx)+V1) (m*(y-b.cy)+V2)) \/
  ∃z∈candQ a b,cmpQ z ⟨radZ b,-1,sqI (x-b.cx) (y-b.cy),1⟩<=0:=by
 have r0:=rad_pos h.ob h.kb
 have m0:=h.m0
 have mm:1*m<=m:=by omega
 by_cases hq:0<=(m*(x-b.cx)+V1)*b.ux+(m*(y-b.cy)+V2)*b.uy/\0<=(m*(x-b.cx)+V1)*b.vx+(m*(y-b.cy)+V2)*b.vy
 ·left
  have s:=in_sq (k:=m) (p:=1) (by decide) m0 hP
  have cr:=fun u v=>h.cross (k:=m) (p:=1) m0 (by decide) mm u v
  simp only[Int.one_mul] at s cr
  refine⟨hq.1,hq.2,?_,s⟩
  rcases Int.lt_or_le (sqI (m*(x-b.cx)+V1) (m*(y-b.cy)+V2)) (m*m*(radZ b*radZ b)) with g|g
  ·exact g
  ·exact absurd hc (cr hq.1 hq.2 (.inr ⟨Int.le_of_lt hn,g⟩))
 ·right
  obtain⟨or1,or2⟩:=h.frame
  obtain⟨k,p,L,k0,p0,pk,L0,hW⟩:=exit_pt (V1:=V1) (V2:=V2) or1 or2 h.pu h.pv m0 (by omega)
  obtain⟨b1,b2,N,D,b3,b4,b5,b6⟩:=h.bend ka k0 p0 pk hW
  obtain⟨b7,b8⟩:=b2 L0
  have s:=in_sq (k:=k) p0 k0 hP
  rw[b1] at s
  have kr:0<=k*radZ b:=Int.mul_nonneg (Int.le_of_lt k0) (Int.le_of_lt r0)
  have e1:k*radZ b*(k*radZ b)=k*k*(radZ b*radZ b):=by grind
  have g:L<=k*radZ b:=by
   refine le_of_sqP L0 (fun g=>?_) kr
   exact h.cross k0 p0 pk b7 b8 (.inr ⟨Int.le_of_lt hn,by rw[b1,<- e1];exact g⟩) hc
  have e2:(L-k*radZ b)*(L-k*radZ b)=(k*radZ b-L)*(k*radZ b-L):=by grind
  rw[e2] at b6
  refine⟨_,b3,le_rt_in b4 b5 r0 k0 (w:=k*radZ b-L) (by omega) (by omega) n0 b6 ?_⟩
  rw[show k*radZ b-(k*radZ b-L)=L by omega,Int.mul_comm (sqI _ _)]
  exact s
theorem inQ_mk{e:Ed}(ho:e.ok=true)(hk:¬e.k=1){x y:Int}(hu:0<=x*e.ux+y*e.uy)(hv:0<=x*e.vx+y*e.vy)(hn:0<sqI x y):inQ e x y=true:=by
  obtain⟨_,_,_,_,_,_,_,_,dt,iF,_⟩:=arc_frame ho hk
  cases h:inQ e x y with
  | true=>rfl
  | false =>
    rcases iF _ _ h with⟨g1,g2⟩|g|g
    . have := dt x y x y
      rw[g1,g2] at this
      unfold sqI at hn
      omega
    . omega
    . omega
theorem dot_nn{q t τ x y a b u v:Int}(hq:u*u+v*v=q)(q0:0<q)(hw:u*b=v*a)(hτ:a*u+b*v=τ)(ht:x*u+y*v=t)(h:0<=τ*t):0<=x*a+y*b:=by
  have:=dot_neg (x := -x) (y := -y) (t := -t) hq q0 hw hτ (by rw[<- ht];grind) (by rw[Int.mul_neg];omega)
  have e : -x*a + -y*b = -(x*a+y*b):=by grind
  omega
theorem foot_q1{d1 d2 X Y P1 P2:Int}(hl:d1*Y=d2*X):(d1*d1+d2*d2)*P1 + -(P1*d1+P2*d2)*d1=(d1*(Y-P2)-d2*(X-P1))*d2:=by
  have:(d1*(Y-P2)-d2*(X-P1))=d2*P1-d1*P2:=by rw[Int.mul_sub,Int.mul_sub];omega
  rw[this];grind
theorem foot_q2{d1 d2 X Y P1 P2:Int}(hl:d1*Y=d2*X):(d1*d1+d2*d2)*P2 + -(P1*d1+P2*d2)*d2 = -(d1*(Y-P2)-d2*(X-P1))*d1:=by
  have:(d1*(Y-P2)-d2*(X-P1))=d2*P1-d1*P2:=by rw[Int.mul_sub,Int.mul_sub];omega
  rw[this];grind
theorem aim_end{a b:Ed}{x y z w:Int}(S0:0<sqI (a.bx-a.ax) (a.by'-a.ay))(kb:¬b.k=1)(ob:b.ok=true)(hx:(a.bx-a.ax)*(y-a.ay)=(a.by'-a.ay)*(x-a.ax))
    (t0:0<=(x-a.ax)*(a.bx-a.ax)+(y-a.ay)*(a.by'-a.ay)) (t1:(x-a.ax)*(a.bx-a.ax)+(y-a.ay)*(a.by'-a.ay)<=sqI (a.bx-a.ax) (a.by'-a.ay)) (pu:0<=(x-b.cx)*b.ux+(y-b.cy)*b.uy) (pv:0<=(x-b.cx)*b.vx+(y-b.cy)*b.vy)
    (hz:z=a.ax/\w=a.ay\/z=a.bx/\w=a.by'):Aim a b x y (z-x) (w-y) 1:=by
  refine⟨S0,kb,ob,hx,t0,t1,?_,by decide,?_,?_,pu,pv⟩
  . rcases hz with⟨rfl,rfl⟩|⟨rfl,rfl⟩<;>grind
  . rcases hz with ⟨rfl, rfl⟩ | ⟨rfl, rfl⟩
    . have : 1 * ((x - a.ax) * (a.bx - a.ax) + (y - a.ay) * (a.by' - a.ay)) + ((a.ax - x) * (a.bx - a.ax) + (a.ay - y) * (a.by' - a.ay)) = 0 := by grind
      omega
    . have : 1 * ((x - a.ax) * (a.bx - a.ax) + (y - a.ay) * (a.by' - a.ay)) + ((a.bx - x) * (a.bx - a.ax) + (a.by' - y) * (a.by' - a.ay)) = sqI (a.bx - a.ax) (a.by' - a.ay) := by unfold sqI; grind
      omega
  . rcases hz with ⟨rfl, rfl⟩ | ⟨rfl, rfl⟩
    . have : 1 * ((x - a.ax) * (a.bx - a.ax) + (y - a.ay) * (a.by' - a.ay)) + ((a.ax - x) * (a.bx - a.ax) + (a.ay - y) * (a.by' - a.ay)) = 0 := by grind
      omega
    . have : 1 * ((x - a.ax) * (a.bx - a.ax) + (y - a.ay) * (a.by' - a.ay)) + ((a.bx - x) * (a.bx - a.ax) + (a.by' - y) * (a.by' - a.ay)) = sqI (a.bx - a.ax) (a.by' - a.ay) := by unfold sqI; grind
      omega
theorem arcQ_out{e:Ed}{x y:Int}(h:inQ e (x-e.cx) (y-e.cy)=true)(hk:¬e.k=1)(hn:radZ e*radZ e<sqI (x-e.cx) (y-e.cy)):pointQ e x y=⟨-radZ e,1,sqI (x-e.cx) (y-e.cy),1⟩:=by
  unfold pointQ arcQ
  rw[if_neg hk,if_pos h,if_pos (Int.le_of_lt hn)]
theorem arcQ_in{e:Ed}{x y:Int}(h:inQ e (x-e.cx) (y-e.cy)=true)(hk:¬e.k=1)(hn:sqI (x-e.cx) (y-e.cy)<radZ e*radZ e):pointQ e x y=⟨radZ e,-1,sqI (x-e.cx) (y-e.cy),1⟩:=by
  unfold pointQ arcQ
  rw[if_neg hk,if_pos h,if_neg (by omega)]
theorem arcQ_far{a e:Ed}{x y:Int}(h:inQ e (x-e.cx) (y-e.cy)=false)(hk:¬e.k=1)(ha:onE a x y=true):∃z∈candQ a e,cmpQ z (pointQ e x y)<=0:=by
  unfold pointQ arcQ
  rw[if_neg hk,if_neg (by rw[h];decide)]
  split
  . exact⟨_,cand4 a e,by rw[endQ_sym];exact point_le ha⟩
  . exact⟨_,cand3 a e,by rw[endQ_sym];exact point_le ha⟩
theorem foot_mem{a b:Ed}(ka:a.k=1)(kb:¬b.k=1){z:Q4}(h:z∈footQ a b):z∈candQ a b:=by
  unfold candQ innerQ
  rw[if_pos ka,if_neg kb]
  exact List.mem_append_right _ h
theorem line_arc_least{a b:Ed}{x y:Int}(ka:a.k=1)(kb:¬b.k=1)(ob:b.ok=true)(h:onE a x y=true)(hm:countE a b=0):∃z∈candQ a b,cmpQ z (pointQ b x y)<=0:=by
  obtain⟨oa,b1,b2,hl⟩:=onE_line ka h
  by_cases pt:a.bx-a.ax=0/\a.by'-a.ay=0
  . unfold Btw at b1 b2
    refine⟨_,cand1 a b,?_⟩
    rw[show x=a.ax by omega,show y=a.ay by omega,cmpQ_self (candQ_ok oa ob _ (cand1 a b))]
    exact Int.le_refl 0
  have S0:=sqI_pos pt
  have hc:crossZ a b=0:=by
    have pta:a.pt=false:=by
      cases hp:a.pt with
      | false=>rfl
      | true=>simp[Ed.pt] at hp;exact absurd ⟨by omega,by omega⟩ pt
    unfold countE at hm
    rw[oa,ob,pta] at hm
    simpa[ka,kb] using hm
  cases hq:inQ b (x-b.cx) (y-b.cy) with
  | false=>exact arcQ_far hq kb h
  | true =>
  obtain⟨r0,_,_,_,_,_,_,_,dt,iF,iT⟩:=arc_frame ob kb
  obtain⟨pu,pv⟩:=iT _ _ hq
  have m1:=btw_mul (btw_shift b1)
  have m2:=btw_mul (btw_shift b2)
  have t0:0<=(x-a.ax)*(a.bx-a.ax)+(y-a.ay)*(a.by'-a.ay):=by omega
  have t1:(x-a.ax)*(a.bx-a.ax)+(y-a.ay)*(a.by'-a.ay)<=sqI (a.bx-a.ax) (a.by'-a.ay):=by unfold sqI;omega
  have hS:(a.bx-a.ax)*(a.bx-a.ax)+(a.by'-a.ay)*(a.by'-a.ay)=sqI (a.bx-a.ax) (a.by'-a.ay):=rfl
  have hr:¬sqI (x-b.cx) (y-b.cy)=radZ b*radZ b:=fun e=>absurd hm (common_point h (onE_arc_mk ob kb hq e))
  have n0:0<sqI (x-b.cx) (y-b.cy):=by
    refine sqI_pos fun ⟨e1,e2⟩=>?_
    rw[e1,e2] at hq
    simp[inQ] at hq
  obtain⟨t,ht⟩:∃t,(x-a.ax)*(a.bx-a.ax)+(y-a.ay)*(a.by'-a.ay)=t:=⟨_,rfl⟩
  obtain⟨g,hg⟩:∃g,(x-b.cx)*(a.bx-a.ax)+(y-b.cy)*(a.by'-a.ay)=g:=⟨_,rfl⟩
  have AA:=fun z w hz=>aim_end (z:=z) (w:=w) S0 kb ob hl t0 t1 pu pv hz
  have oA:∀z w,(z=a.ax/\w=a.ay\/z=a.bx/\w=a.by')->pointQ b z w∈candQ a b:=fun z w hz=>by
    rcases hz with⟨rfl,rfl⟩|⟨rfl,rfl⟩
    . exact cand1 a b
    . exact cand2 a b
  have r2:0<radZ b*radZ b:=Int.mul_pos r0 r0
  have s1:∀z w:Int,1*(x-b.cx)+(z-x)=z-b.cx/\1*(y-b.cy)+(w-y)=w-b.cy:=fun z w=>by omega
  rcases Int.lt_or_le (radZ b*radZ b) (sqI (x-b.cx) (y-b.cy)) with ho|ho
  . rw [arcQ_out hq kb ho]
    have END:∀z w,(z=a.ax/\w=a.ay\/z=a.bx/\w=a.by')->(z-b.cx)*(z-x)+(w-b.cy)*(w-y)<=0->∃z∈candQ a b,cmpQ z ⟨-radZ b,1,sqI (x-b.cx) (y-b.cy),1⟩<=0:=fun z w hz hQ=>by
      have A:=(AA z w hz).out ka hc ho (by rw[(s1 z w).1,(s1 z w).2];exact hQ)
      rw[(s1 z w).1,(s1 z w).2] at A
      rcases A with⟨q1,q2,q3,q4⟩|A
      . refine ⟨_, oA z w hz, ?_⟩
        rw[arcQ_out (inQ_mk ob kb q1 q2 (by omega)) kb (by omega)]
        exact le_mono (by omega) (by decide) (by omega) (by decide) (by omega)
      . exact A
    by_cases c1:t-g<=0
    . refine END a.ax a.ay (.inl ⟨rfl, rfl⟩) (dot_neg hS S0 (t := g - t) (τ := -t) (by grind) (by rw [<- ht]; grind) (by rw [<- ht, <- hg]; grind) ?_)
      rw[Int.neg_mul]
      have:=Int.mul_nonneg (show 0<=t by omega) (show 0<=g-t by omega)
      omega
    by_cases c2:sqI (a.bx-a.ax) (a.by'-a.ay)<=t-g
    . refine END a.bx a.by' (.inr ⟨rfl, rfl⟩) (dot_neg hS S0 (t := sqI (a.bx - a.ax) (a.by' - a.ay) + g - t) (τ := sqI (a.bx - a.ax) (a.by' - a.ay) - t) (by grind) (by rw [<- ht, <- hS]; grind) (by rw [<- ht, <- hg, <- hS]; grind) ?_)
      exact Int.mul_nonpos_of_nonneg_of_nonpos (by omega) (by omega)
    obtain⟨S,hS'⟩:∃S,sqI (a.bx-a.ax) (a.by'-a.ay)=S:=⟨_,rfl⟩
    have V1 : -g*(a.bx-a.ax)*(a.bx-a.ax) + -g*(a.by'-a.ay)*(a.by'-a.ay) = -(g*S):=by rw[<- hS',<- hS];grind
    have A:Aim a b x y (-g*(a.bx-a.ax)) (-g*(a.by'-a.ay)) S:=by
      refine⟨S0,kb,ob,hl,t0,t1,by grind,by omega,?_,?_,pu,pv⟩
      . rw [V1, ht, show S * t + -(g * S) = S * (t - g) by grind]
        exact Int.mul_nonneg (by omega) (by omega)
      . rw [V1, ht, hS', show S * t + -(g * S) = S * (t - g) by grind]
        exact Int.mul_le_mul_of_nonneg_left (by omega) (by omega)
    obtain⟨c,hc'⟩:∃c,(a.bx-a.ax)*(b.cy-a.ay)-(a.by'-a.ay)*(b.cx-a.ax)=c:=⟨_,rfl⟩
    have Q1:S*(x-b.cx) + -g*(a.bx-a.ax)=c*(a.by'-a.ay):=by
      rw[<- hS',<- hg,<- hc',<- hS,foot_q1 hl,show y-a.ay-(y-b.cy)=b.cy-a.ay by omega,show x-a.ax-(x-b.cx)=b.cx-a.ax by omega]
    have Q2:S*(y-b.cy) + -g*(a.by'-a.ay) = -c*(a.bx-a.ax):=by
      rw[<- hS',<- hg,<- hc',<- hS,foot_q2 hl,show y-a.ay-(y-b.cy)=b.cy-a.ay by omega,show x-a.ax-(x-b.cx)=b.cx-a.ax by omega]
    have B := A.out ka hc ho (by rw [Q1, Q2]; have : c * (a.by' - a.ay) * (-g * (a.bx - a.ax)) + -c * (a.bx - a.ax) * (-g * (a.by' - a.ay)) = 0 := by grind
                                 omega)
    rw[Q1,Q2] at B
    rcases B with⟨q1,q2,q3,q4⟩|B
    . have cc : sqI (c * (a.by' - a.ay)) (-c * (a.bx - a.ax)) = S * (c * c) := by rw [<- hS', <- hS]; unfold sqI; grind
      rw[cc] at q3 q4
      have S0':0<S:=by omega
      have q5:S*(radZ b*radZ b)<c*c:=Int.lt_of_mul_lt_mul_left (a:=S) (by rw[<- Int.mul_assoc S S];exact q3) (Int.le_of_lt S0')
      have q6:c*c<=S*sqI (x-b.cx) (y-b.cy):=Int.le_of_mul_le_mul_left (a:=S) (by rw[<- Int.mul_assoc S S];exact q4) S0'
      have ht':(b.cx-a.ax)*(a.bx-a.ax)+(b.cy-a.ay)*(a.by'-a.ay)=t-g:=by rw[<- ht,<- hg];grind
      have c0:¬c=0:=fun e=>by
        rw[e] at q5
        have:=Int.mul_nonneg (Int.le_of_lt S0') (Int.le_of_lt r2)
        omega
      have hin:inQ b (if 0<c then a.by'-a.ay else -(a.by'-a.ay)) (if 0<c then -(a.bx-a.ax) else a.bx-a.ax)=true:=by
        have sg:∀k z:Int,0<k->0<=k*z->0<=z:=fun k z hk hz=>Int.le_of_mul_le_mul_left (a:=k) (by rw[Int.mul_zero];exact hz) hk
        by_cases cp:0<c
        . rw [if_pos cp, if_pos cp]
          refine inQ_mk ob kb (sg c _ cp ?_) (sg c _ cp ?_) ?_
          . rw[show c*((a.by'-a.ay)*b.ux + -(a.bx-a.ax)*b.uy)=c*(a.by'-a.ay)*b.ux + -c*(a.bx-a.ax)*b.uy by grind];exact q1
          . rw[show c*((a.by'-a.ay)*b.vx + -(a.bx-a.ax)*b.vy)=c*(a.by'-a.ay)*b.vx + -c*(a.bx-a.ax)*b.vy by grind];exact q2
          . rw[show sqI (a.by'-a.ay) (-(a.bx-a.ax))=sqI (a.bx-a.ax) (a.by'-a.ay) by unfold sqI;grind];exact S0
        . rw [if_neg cp, if_neg cp]
          have cn:0 < -c:=by omega
          refine inQ_mk ob kb (sg (-c) _ cn ?_) (sg (-c) _ cn ?_) ?_
          . rw[show -c*(-(a.by'-a.ay)*b.ux+(a.bx-a.ax)*b.uy)=c*(a.by'-a.ay)*b.ux + -c*(a.bx-a.ax)*b.uy by grind];exact q1
          . rw[show -c*(-(a.by'-a.ay)*b.vx+(a.bx-a.ax)*b.vy)=c*(a.by'-a.ay)*b.vx + -c*(a.bx-a.ax)*b.vy by grind];exact q2
          . rw[show sqI (-(a.by'-a.ay)) (a.bx-a.ax)=sqI (a.bx-a.ax) (a.by'-a.ay) by unfold sqI;grind];exact S0
      refine⟨⟨-radZ b,1,c*c,S⟩,foot_mem ka kb ?_,?_⟩
      . unfold footQ
        simp only[ht',hc',hS']
        rw[if_neg (by rw[hin,Int.mul_comm (radZ b*radZ b)];simp;omega)]
        exact List.mem_singleton.2 rfl
      . exact le_mono (sqz_nn c) S0' (Int.le_of_lt n0) (by decide) (by rw[Int.mul_one,Int.mul_comm (sqI _ _)];exact q6)
    . exact B
  . have ho : sqI (x - b.cx) (y - b.cy) < radZ b * radZ b := by omega
    rw[arcQ_in hq kb ho]
    have END:∀z w,(z=a.ax/\w=a.ay\/z=a.bx/\w=a.by')->0<=(x-b.cx)*(z-x)+(y-b.cy)*(w-y)->∃z∈candQ a b,cmpQ z ⟨radZ b,-1,sqI (x-b.cx) (y-b.cy),1⟩<=0:=fun z w hz hP=>by
      have A:=(AA z w hz).ins ka hc ho n0 hP
      rw[(s1 z w).1,(s1 z w).2] at A
      rcases A with⟨q1,q2,q3,q4⟩|A
      . refine ⟨_, oA z w hz, ?_⟩
        rw[arcQ_in (inQ_mk ob kb q1 q2 (by omega)) kb (by omega)]
        exact le_monoM n0 (by omega)
      . exact A
    by_cases g0:0<=g
    . exact END a.bx a.by' (.inr ⟨rfl,rfl⟩) (dot_nn hS S0 (t:=g) (τ:=sqI (a.bx-a.ax) (a.by'-a.ay)-t) (by grind) (by rw[<- ht,<- hS];grind) hg (Int.mul_nonneg (by omega) g0))
    . refine END a.ax a.ay (.inl ⟨rfl, rfl⟩) (dot_nn hS S0 (t := g) (τ := -t) (by grind) (by rw [<- ht]; grind) hg ?_)
      have:=Int.mul_nonneg (show 0<=t by omega) (show 0 <= -g by omega)
      rw[Int.neg_mul];rw[Int.mul_neg] at this;omega
def Su(d x y:Int):Prop:=(0<=x/\y*y*d<=x*x)\/(0<=y/\x*x<=y*y*d)
theorem sq_mul_le{a b c e:Int}(ha:0<=a)(hb:0<=b)(hce:c*c*(e*e)<=a*a*(b*b)) : -(a*b)<=c*e/\c*e<=a*b:=by
  refine abs_leP (Int.mul_nonneg ha hb) ?_
  have e1:c*e*(c*e)=c*c*(e*e):=by grind
  have e2:a*b*(a*b)=a*a*(b*b):=by grind
  omega
theorem mul_le2{a b c e:Int}(h1:a<=b)(h2:c<=e)(ha:0<=a)(hc:0<=c):a*c<=b*e:=Int.mul_le_mul h1 h2 hc (by omega)
theorem Su.int{d x:Int}(h:0<=x):Su d x 0:=by
  left
  refine⟨h,?_⟩
  have:=sqz_nn x
  simpa using this
theorem not_su{d x:Int}(h:x<0):¬Su d x 0:=by
  rintro (⟨h1,_⟩|⟨_,h2⟩)
  . omega
  . have := Int.mul_pos_of_neg_of_neg h h
    simp at h2
    omega
theorem su_total(d x y:Int):Su d x y\/Su d (-x) (-y):=by
  unfold Su
  rw[Int.neg_mul_neg,Int.neg_mul_neg]
  omega
theorem su_of_side{d x y:Int}(hd:0<=d)(h:0<=sideZ x y d):Su d x y:=by
  unfold sideZ at h
  rcases Int.lt_or_eq_of_le hd with h0|h0
  . rw [sgn_pos h0, Int.mul_one] at h
    rcases Int.lt_trichotomy x 0 with hx|hx|hx
    . rw [sgn_neg hx] at h
      rcases Int.lt_trichotomy y 0 with hy|hy|hy
      . rw[sgn_neg hy,if_pos (by decide)] at h;exfalso;revert h;decide
      . subst hy;rw[sgn_zero,if_pos (by decide)] at h;exfalso;revert h;decide
      . rw [sgn_pos hy, if_neg (by decide)] at h
        right
        refine⟨by omega,?_⟩
        unfold cmpZ at h
        (repeat' split at h)<;>omega
    . subst hx
      rw[sgn_zero,Int.zero_mul,if_pos (Int.le_refl _)] at h
      right
      refine⟨?_,by have:=Int.mul_nonneg (sqz_nn y) hd;omega⟩
      rcases (show y<0\/0<=y by omega) with hy|hy
      . rw[sgn_neg hy] at h;exfalso;revert h;decide
      . exact hy
    . rw [sgn_pos hx] at h
      rcases Int.lt_trichotomy y 0 with hy|hy|hy
      . rw [sgn_neg hy, if_neg (by decide)] at h
        left
        refine⟨by omega,?_⟩
        unfold cmpZ at h
        (repeat' split at h)<;>omega
      . subst hy
        exact Su.int (by omega)
      . unfold Su
        omega
  . subst h0
    rw[sgn_zero,Int.mul_zero,Int.mul_zero,if_pos (Int.le_refl _)] at h
    left
    refine⟨?_,by have:=sqz_nn x;simpa using this⟩
    rcases (show x<0\/0<=x by omega) with hx|hx
    . rw[sgn_neg hx] at h;exfalso;revert h;decide
    . exact hx
theorem Su.mul{d a b x y:Int}(hd:0<=d)(h:Su d a b)(k:Su d x y):Su d (a*x+b*y*d) (a*y+b*x):=by
  have hn:(a*x+b*y*d)*(a*x+b*y*d)-(a*y+b*x)*(a*y+b*x)*d=(a*a-b*b*d)*(x*x-y*y*d):=by grind
  have sb:=Int.mul_nonneg (sqz_nn b) hd
  have sy:=Int.mul_nonneg (sqz_nn y) hd
  rcases h with⟨h1,h2⟩|⟨h1,h2⟩<;>rcases k with⟨k1,k2⟩|⟨k1,k2⟩
  . left
    have:=Int.mul_nonneg (show 0<=a*a-b*b*d by omega) (show 0<=x*x-y*y*d by omega)
    refine⟨?_,by omega⟩
    have q:=mul_le2 h2 k2 sb sy
    have := (sq_mul_le (c := b * y) (e := d) h1 k1 (by have e : b * y * (b * y) * (d * d) = b * b * d * (y * y * d) := by grind
                                                       omega)).1
    omega
  . right
    have:=Int.mul_nonneg (show 0<=a*a-b*b*d by omega) (show 0<=y*y*d-x*x by omega)
    have e3:(a*a-b*b*d)*(x*x-y*y*d) = -((a*a-b*b*d)*(y*y*d-x*x)):=by grind
    refine⟨?_,by omega⟩
    rcases Int.lt_or_eq_of_le hd with h0|h0
    . have q := mul_le2 h2 k2 sb (sqz_nn x)
      have q2:b*b*(x*x)<=a*a*(y*y):=by
        refine Int.le_of_mul_le_mul_left (a:=d) ?_ h0
        have e1:d*(b*b*(x*x))=b*b*d*(x*x):=by grind
        have e2:d*(a*a*(y*y))=a*a*(y*y*d):=by grind
        omega
      have:=(sq_mul_le (c:=b) (e:=x) h1 k1 q2).1
      omega
    . subst h0
      have hx:x=0:=by
        simp at k2
        rcases (show x=0\/x≠0 by omega) with g|g
        . exact g
        . have := sq_pos (x := x) (y := 0) (by omega)
          omega
      subst hx
      have:=Int.mul_nonneg h1 k1
      omega
  . right
    have:=Int.mul_nonneg (show 0<=b*b*d-a*a by omega) (show 0<=x*x-y*y*d by omega)
    have e3:(a*a-b*b*d)*(x*x-y*y*d) = -((b*b*d-a*a)*(x*x-y*y*d)):=by grind
    refine⟨?_,by omega⟩
    rcases Int.lt_or_eq_of_le hd with h0|h0
    . have q := mul_le2 k2 h2 sy (sqz_nn a)
      have q2:y*y*(a*a)<=x*x*(b*b):=by
        refine Int.le_of_mul_le_mul_left (a:=d) ?_ h0
        have e1:d*(y*y*(a*a))=y*y*d*(a*a):=by grind
        have e2:d*(x*x*(b*b))=x*x*(b*b*d):=by grind
        omega
      have:=(sq_mul_le (c:=y) (e:=a) k1 h1 q2).1
      have e1:x*b=b*x:=Int.mul_comm ..
      have e2:y*a=a*y:=Int.mul_comm ..
      omega
    . subst h0
      have hx:a=0:=by
        simp at h2
        rcases (show a=0\/a≠0 by omega) with g|g
        . exact g
        . have := sq_pos (x := a) (y := 0) (by omega)
          omega
      subst hx
      have:=Int.mul_nonneg h1 k1
      omega
  . left
    have:=Int.mul_nonneg (show 0<=b*b*d-a*a by omega) (show 0<=y*y*d-x*x by omega)
    have e3:(a*a-b*b*d)*(x*x-y*y*d)=(b*b*d-a*a)*(y*y*d-x*x):=by grind
    refine⟨?_,by omega⟩
    have q:=mul_le2 h2 k2 (sqz_nn a) (sqz_nn x)
    have := (sq_mul_le (a := b * y) (b := d) (c := a) (e := x) (Int.mul_nonneg h1 k1) hd (by have e : b * y * (b * y) * (d * d) = b * b * d * (y * y * d) := by grind
                                                                                             omega)).1
    omega
theorem Su.add{d a b x y:Int}(hd:0<=d)(h:Su d a b)(k:Su d x y):Su d (a+x) (b+y):=by
  have ex:(a+x)*(a+x)=a*a+2*(a*x)+x*x:=by grind
  have ey:(b+y)*(b+y)*d=b*b*d+2*(b*y*d)+y*y*d:=by grind
  have sb:=Int.mul_nonneg (sqz_nn b) hd
  have sy:=Int.mul_nonneg (sqz_nn y) hd
  have mixed {a b x y:Int} (h1:0<=a) (h2:b*b*d<=a*a) (k1:0<=y) (k2:x*x<=y*y*d):Su d (a+x) (b+y):=by
    have sb:=Int.mul_nonneg (sqz_nn b) hd
    have sy:=Int.mul_nonneg (sqz_nn y) hd
    have e2:y*y*d=(b+y)*(b+y)*d-2*((b+y)*b*d)+b*b*d:=by grind
    have e1:x*x=(a+x)*(a+x)+2*(-(a+x)*a)+a*a:=by grind
    rcases (show 0<=b+y\/b+y<0 by omega) with g|g
    . rcases (show (a + x) * (a + x) <= (b + y) * (b + y) * d \/ (b + y) * (b + y) * d < (a + x) * (a + x) by omega) with g1 | g1
      . exact .inr ⟨g,g1⟩
      . rcases (show 0 <= a + x \/ a + x < 0 by omega) with g2 | g2
        . exact .inl ⟨g2,by omega⟩
        . exfalso
          have q:=mul_le2 (Int.le_of_lt g1) h2 (Int.mul_nonneg (sqz_nn _) hd) sb
          have q':=sq_mul_le (a := -(a+x)) (b:=a) (c:=(b+y)*b) (e:=d) (by omega) h1 (by
            have e:(b+y)*b*((b+y)*b)*(d*d)=(b+y)*(b+y)*d*(b*b*d):=by grind
            have e2 : -(a+x) * -(a+x)*(a*a)=(a+x)*(a+x)*(a*a):=by grind
            omega)
          omega
    . rcases (show 0 <= a + x \/ a + x < 0 by omega) with g2 | g2
      . rcases (show (b + y) * (b + y) * d <= (a + x) * (a + x) \/ (a + x) * (a + x) < (b + y) * (b + y) * d by omega) with g1 | g1
        . exact .inl ⟨g2,g1⟩
        . exfalso
          have q:=mul_le2 (Int.le_of_lt g1) k2 (sqz_nn _) (sqz_nn _)
          have q':=sq_mul_le (a := -(b+y)*y) (b:=d) (c:=a+x) (e:=x) (Int.mul_nonneg (by omega) k1) hd (by
            have e : -(b+y)*y*(-(b+y)*y)*(d*d)=(b+y)*(b+y)*d*(y*y*d):=by grind
            omega)
          have e3:a*a=(a+x)*(a+x)-2*((a+x)*x)+x*x:=by grind
          have e4:b*b*d=(b+y)*(b+y)*d+2*(-(b+y)*y*d)+y*y*d:=by grind
          omega
      . exfalso
        have h3:=Int.mul_nonneg (show 0 <= -(a+x) by omega) h1
        have h4:=Int.mul_pos_of_neg_of_neg g2 g2
        have h5:=Int.mul_nonneg (Int.mul_nonneg (show 0 <= -(b+y) by omega) k1) hd
        have h6:=Int.mul_nonneg (sqz_nn (b+y)) hd
        have e4:b*b*d=(b+y)*(b+y)*d+2*(-(b+y)*y*d)+y*y*d:=by grind
        omega
  rcases h with⟨h1,h2⟩|⟨h1,h2⟩<;>rcases k with⟨k1,k2⟩|⟨k1,k2⟩
  . left
    refine⟨by omega,?_⟩
    have q:=mul_le2 h2 k2 sb sy
    have := (sq_mul_le (c := b * y) (e := d) h1 k1 (by have e : b * y * (b * y) * (d * d) = b * b * d * (y * y * d) := by grind
                                                       omega)).2
    omega
  . exact mixed h1 h2 k1 k2
  . have := mixed k1 k2 h1 h2
    rw[Int.add_comm x,Int.add_comm y] at this
    exact this
  . right
    refine⟨by omega,?_⟩
    have q:=mul_le2 h2 k2 (sqz_nn a) (sqz_nn x)
    have := (sq_mul_le (a := b * y) (b := d) (c := a) (e := x) (Int.mul_nonneg h1 k1) hd (by have e : b * y * (b * y) * (d * d) = b * b * d * (y * y * d) := by grind
                                                                                             omega)).2
    omega
end Go.Proofs.YtcfpcafnjgpfdaaGreat
