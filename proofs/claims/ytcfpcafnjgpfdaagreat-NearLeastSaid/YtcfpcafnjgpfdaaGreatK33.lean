import Derived.Test.YtcfpcafnjgpfdaaGreatK32
set_option linter.unusedVariables false
set_option linter.unusedSimpArgs false

namespace Go.Proofs.YtcfpcafnjgpfdaaGreat
open Go.RowKit
theorem side_su{d x y:Int}(hd:0<=d)(h:Su d x y):0<=sideZ x y d:=side_ge hd h
theorem side_suN{d x y:Int}(hd:0<=d)(h:Su d (-x) (-y)):sideZ x y d<=0:=by
 obtain⟨k,rfl⟩:=Int.eq_ofNat_of_zero_le hd
 have:=side_su hd h
 rw[sideZ_neg] at this
 omega
theorem side_bd2(x y d:Int):sideZ x y d = -1\/sideZ x y d=0\/sideZ x y d=1:=by
 unfold sideZ
 have:=cmpZ_cases (x*x) (y*y*d)
 rcases sgn_cases x with⟨h1,_⟩|⟨h1,_⟩|⟨h1,_⟩<;>rw[h1]<;>split<;>omega
theorem cmpA{a b n m σ:Int}(hz:(⟨b,-1,m,1⟩:Q4).ok)(ht:(⟨a,σ,n,1⟩:Q4).ok)(n0:0<n)(m0:0<m)(h:Su n (-(a-b)) (-σ)->Su n (-((a-b)*(a-b)+n-m)) (-(2*(a-b)*σ))):cmpQ ⟨b,-1,m,1⟩ ⟨a,σ,n,1⟩<=0:=by
 have key:0<=cmpQ ⟨a,σ,n,1⟩ ⟨b,-1,m,1⟩:=by
  unfold cmpQ cmpR
  simp only[Int.mul_one]
  rw[nz1P (show ¬n=0 by omega),nz1P (show ¬m=0 by omega)]
  have b1:=side_bd2 (a-b) σ n
  have b2:=side_bd2 ((a-b)*(a-b)+n-m) (2*(a-b)*σ) n
  split
  ·omega
  ·rename_i g
   have g:=Classical.not_not.1 g
   have k:Su n (-(a-b)) (-σ):=by
    refine su_of_side (Int.le_of_lt n0) ?_
    obtain⟨c,rfl⟩:=Int.eq_ofNat_of_zero_le (Int.le_of_lt n0)
    rw[sideZ_neg,g];decide
   have:=side_suN (Int.le_of_lt n0) (h k)
   rw[g]
   omega
 rw[cmpQ_anti ht hz]
 omega
theorem cmpB{a b n m σ:Int}(hz:(⟨b,1,m,1⟩:Q4).ok)(ht:(⟨a,σ,n,1⟩:Q4).ok)(n0:0<n)(g:sideZ (a-b) σ n=1)(h:Su n ((a-b)*(a-b)+n-m) (2*(a-b)*σ)):cmpQ ⟨b,1,m,1⟩ ⟨a,σ,n,1⟩<=0:=by
 have key:0<=cmpQ ⟨a,σ,n,1⟩ ⟨b,1,m,1⟩:=by
  unfold cmpQ cmpR
  simp only[Int.mul_one]
  rw[nz1P (show ¬n=0 by omega),g]
  have:=side_su (Int.le_of_lt n0) h
  have e:nz 1 m=0\/nz 1 m=1:=by unfold nz;split<;>simp
  split<;>omega
 rw[cmpQ_anti ht hz]
 omega
theorem side_p1{A n:Int}(n0:0<n)(h:0<=A\/A*A<n):sideZ A 1 n=1:=by
 unfold sideZ
 rw[sgn_pP n0,show sgn 1=1 from rfl]
 by_cases g:A<0
 ·rw [sgn_mP g, if_neg (by decide), Int.one_mul, Int.one_mul]
  unfold cmpZ
  rw[if_pos (by omega)];decide
 ·by_cases g2 : A = 0
  ·rw[g2,show sgn 0=0 from rfl,if_pos (by decide)];decide
  ·rw[sgn_pP (show 0<A by omega),if_pos (by decide)];decide
theorem side_m1{A n:Int}(n0:0<n)(h:0<A)(h2:n<A*A):sideZ A (-1) n=1:=by
 unfold sideZ
 rw[sgn_pP n0,show sgn (-1) = -1 from rfl,sgn_pP h,if_neg (by decide),Int.neg_mul_neg,Int.one_mul,Int.one_mul,Int.one_mul]
 unfold cmpZ
 rw[if_neg (by omega),if_neg (by omega)]
theorem su_cauchy{n r c:Int}(hr:0<=r)(h:c*c<=r*r*n):Su n c r:=.inr ⟨hr,h⟩
theorem su_le{d a b x y:Int}(h:Su d a b)(e1:a=x)(e2:b=y):Su d x y:=by rw[<- e1,<- e2];exact h
def inKK(p q e f x y:Int):Prop:=0<=x/\0<=y/\0<=e*(x-p)/\0<=f*(y-q)
def gF(p q r s x y:Int):Int:=2*(p*x+q*y)-(p*p+q*q-r*r+s*s)
structure OnL (p q r s e f k x y:Int):Prop where
 k0:0<k
 l:2*(p*x+q*y)=k*(p*p+q*q-r*r+s*s)
 x0:0<=x
 y0:0<=y
 ex:0<=e*(x-k*p)
 fy:0<=f*(y-k*q)
def LI(p q r s e f:Int):Prop:=∃k x y,OnL p q r s e f k x y/\x*x+y*y<=k*k*(s*s)
def LO(p q r s e f:Int):Prop:=∃k x y,OnL p q r s e f k x y/\k*k*(s*s)<=x*x+y*y
theorem gF_eq(p q r s x y:Int):gF p q r s x y=(x*x+y*y-s*s)-((x-p)*(x-p)+(y-q)*(y-q)-r*r):=by unfold gF;grind
def opp(a b:Int):Prop:=a<=0/\0<=b\/0<=a/\b<=0
theorem opp_mix{a b:Int}(h:opp a b):∃α β:Int,0<=α/\0<=β/\0<α+β/\α*a+β*b=0:=by
 by_cases h0:a=0
 ·exact⟨1,0,by decide,by decide,by decide,by rw[h0];simp⟩
 ·rcases h with ⟨h1, h2⟩ | ⟨h1, h2⟩
  ·exact⟨b,-a,h2,by omega,by omega,by grind⟩
  ·exact⟨-b,a,by omega,h1,by omega,by grind⟩
theorem opp.trans{a c:Int}(h:opp a c)(b:Int):opp a b\/opp b c:=by unfold opp at *;omega
theorem onL_mix{p q r s e f x y z w α β:Int}(h1:inKK p q e f x y)(h2:inKK p q e f z w)(ha:0<=α)(hb:0<=β)(hk:0<α+β)(h:α*gF p q r s x y+β*gF p q r s z w=0):OnL p q r s e f (α+β) (α*x+β*z) (α*y+β*w):=by
 obtain⟨a1,a2,a3,a4⟩:=h1
 obtain⟨b1,b2,b3,b4⟩:=h2
 refine⟨hk,?_,?_,?_,?_,?_⟩
 ·unfold gF at h;grind
 ·have:=Int.mul_nonneg ha a1;have:=Int.mul_nonneg hb b1;omega
 ·have:=Int.mul_nonneg ha a2;have:=Int.mul_nonneg hb b2;omega
 ·have := Int.mul_nonneg ha a3; have := Int.mul_nonneg hb b3
  have e:e*(α*x+β*z-(α+β)*p)=α*(e*(x-p))+β*(e*(z-p)):=by grind
  omega
 ·have := Int.mul_nonneg ha a4; have := Int.mul_nonneg hb b4
  have e:f*(α*y+β*w-(α+β)*q)=α*(f*(y-q))+β*(f*(w-q)):=by grind
  omega
theorem mix_in{α β x y z w R:Int}(ha:0<=α)(hb:0<=β)(h1:x*x+y*y<=R)(h2:z*z+w*w<=R):(α*x+β*z)*(α*x+β*z)+(α*y+β*w)*(α*y+β*w)<=(α+β)*(α+β)*R:=by
 have e:(α+β)*(α+β)*R-((α*x+β*z)*(α*x+β*z)+(α*y+β*w)*(α*y+β*w))=(α*α+α*β)*(R-(x*x+y*y))+(β*β+α*β)*(R-(z*z+w*w))+α*β*((x-z)*(x-z)+(y-w)*(y-w)):=by grind
 have ab:=Int.mul_nonneg ha hb
 have n1:=Int.mul_nonneg (show 0<=α*α+α*β by have:=sqz_nn α;omega) (show 0<=R-(x*x+y*y) by omega)
 have n2:=Int.mul_nonneg (show 0<=β*β+α*β by have:=sqz_nn β;omega) (show 0<=R-(z*z+w*w) by omega)
 have n3:=Int.mul_nonneg ab (show 0<=(x-z)*(x-z)+(y-w)*(y-w) by have:=sqz_nn (x-z);have:=sqz_nn (y-w);omega)
 omega
theorem mix_out{α β x y z w R:Int}(ha:0<=α)(hb:0<=β)(h1:R<=x*x+y*y)(h2:0<=x*(z-x)+y*(w-y)):(α+β)*(α+β)*R<=(α*x+β*z)*(α*x+β*z)+(α*y+β*w)*(α*y+β*w):=by
 have e:(α*x+β*z)*(α*x+β*z)+(α*y+β*w)*(α*y+β*w)-(α+β)*(α+β)*R=(α+β)*(α+β)*(x*x+y*y-R)+2*((α+β)*β*(x*(z-x)+y*(w-y)))+β*β*((z-x)*(z-x)+(w-y)*(w-y)):=by grind
 have n1:=Int.mul_nonneg (sqz_nn (α+β)) (show 0<=x*x+y*y-R by omega)
 have n2:=Int.mul_nonneg (Int.mul_nonneg (show 0<=α+β by omega) hb) h2
 have n3:=Int.mul_nonneg (sqz_nn β) (show 0<=(z-x)*(z-x)+(w-y)*(w-y) by have:=sqz_nn (z-x);have:=sqz_nn (w-y);omega)
 omega
theorem onL_two{p q r s e f k x y:Int}(h:OnL p q r s e f k x y):x*x+y*y-k*k*(s*s)=(x-k*p)*(x-k*p)+(y-k*q)*(y-k*q)-k*k*(r*r):=by
 have:=h.l
 have e1:(x-k*p)*(x-k*p)+(y-k*q)*(y-k*q)=x*x+y*y-k*(2*(p*x+q*y))+k*k*(p*p+q*q):=by grind
 rw[e1,this]
 grind
theorem leg_b{p q r s e f x y z w:Int}(h1:inKK p q e f x y)(h2:inKK p q e f z w)(h:opp (gF p q r s x y) (gF p q r s z w))(i1:x*x+y*y<=s*s)(i2:z*z+w*w<=s*s):LI p q r s e f:=by
 obtain⟨α,β,ha,hb,hk,hg⟩:=opp_mix h
 exact⟨_,_,_,onL_mix h1 h2 ha hb hk hg,mix_in ha hb i1 i2⟩
theorem leg_a{p q r s e f x y z w:Int}(h1:inKK p q e f x y)(h2:inKK p q e f z w)(h:opp (gF p q r s x y) (gF p q r s z w))(i1:(x-p)*(x-p)+(y-q)*(y-q)<=r*r)(i2:(z-p)*(z-p)+(w-q)*(w-q)<=r*r):LI p q r s e f:=by
 obtain⟨α,β,ha,hb,hk,hg⟩:=opp_mix h
 have L:=onL_mix h1 h2 ha hb hk hg
 refine⟨_,_,_,L,?_⟩
 have t:=onL_two L
 have m:=mix_in ha hb i1 i2
 have e1:α*x+β*z-(α+β)*p=α*(x-p)+β*(z-p):=by grind
 have e2:α*y+β*w-(α+β)*q=α*(y-q)+β*(w-q):=by grind
 rw[e1,e2] at t
 omega
theorem out_b{p q r s e f x y z w:Int}(h1:inKK p q e f x y)(h2:inKK p q e f z w)(h:opp (gF p q r s x y) (gF p q r s z w))(i1:s*s<=x*x+y*y)(i2:0<=x*(z-x)+y*(w-y)):LO p q r s e f:=by
 obtain⟨α,β,ha,hb,hk,hg⟩:=opp_mix h
 exact⟨_,_,_,onL_mix h1 h2 ha hb hk hg,mix_out ha hb i1 i2⟩
theorem out_a{p q r s e f x y z w:Int}(h1:inKK p q e f x y)(h2:inKK p q e f z w)(h:opp (gF p q r s x y) (gF p q r s z w))(i1:r*r<=(x-p)*(x-p)+(y-q)*(y-q))(i2:0<=(x-p)*(z-x)+(y-q)*(w-y)):LO p q r s e f:=by
 obtain⟨α,β,ha,hb,hk,hg⟩:=opp_mix h
 have L:=onL_mix h1 h2 ha hb hk hg
 refine⟨_,_,_,L,?_⟩
 have t:=onL_two L
 have m:=mix_out (z:=z-p) (w:=w-q) ha hb i1 (by rw[show z-p-(x-p)=z-x by omega,show w-q-(y-q)=w-y by omega];exact i2)
 have e1:α*x+β*z-(α+β)*p=α*(x-p)+β*(z-p):=by grind
 have e2:α*y+β*w-(α+β)*q=α*(y-q)+β*(w-q):=by grind
 rw[e1,e2] at t
 omega
theorem opp.symm{a b:Int}(h:opp a b):opp b a:=by unfold opp at *;omega
structure Two (C:Q4->Prop) (p q r s e f:Int):Prop where
 r0:0<r
 s0:0<s
 ee:e*e=1
 ff:f*f=1
 okC:∀z,C z->z.ok
 e1o:0<=p+e*r->0<=q->s*s<sqI (p+e*r) q->C ⟨-s,1,sqI (p+e*r) q,1⟩
 e1i:0<=p+e*r->0<=q->sqI (p+e*r) q<s*s->0<sqI (p+e*r) q->C ⟨s,-1,sqI (p+e*r) q,1⟩
 e2o:0<=q+f*r->0<=p->s*s<sqI (q+f*r) p->C ⟨-s,1,sqI (q+f*r) p,1⟩
 e2i:0<=q+f*r->0<=p->sqI (q+f*r) p<s*s->0<sqI (q+f*r) p->C ⟨s,-1,sqI (q+f*r) p,1⟩
 b1o:0<=e*(s-p)->0<=f*(0-q)->r*r<sqI (s-p) (0-q)->C ⟨-r,1,sqI (s-p) (0-q),1⟩
 b1i:0<=e*(s-p)->0<=f*(0-q)->sqI (s-p) (0-q)<r*r->0<sqI (s-p) (0-q)->C ⟨r,-1,sqI (s-p) (0-q),1⟩
 b2o:0<=f*(s-q)->0<=e*(0-p)->r*r<sqI (s-q) (0-p)->C ⟨-r,1,sqI (s-q) (0-p),1⟩
 b2i:0<=f*(s-q)->0<=e*(0-p)->sqI (s-q) (0-p)<r*r->0<sqI (s-q) (0-p)->C ⟨r,-1,sqI (s-q) (0-p),1⟩
 k1:(⟨0,1,sqI (s-p) (0-(q+f*r)),1⟩:Q4).ok
 g1:∀t:Q4,t.ok->cmpQ ⟨0,1,sqI (s-p) (0-(q+f*r)),1⟩ t<=0->∃z,C z/\cmpQ z t<=0
 k2:(⟨0,1,sqI (s-q) (0-(p+e*r)),1⟩:Q4).ok
 g2:∀t:Q4,t.ok->cmpQ ⟨0,1,sqI (s-q) (0-(p+e*r)),1⟩ t<=0->∃z,C z/\cmpQ z t<=0
 co:(r+s)*(r+s)<p*p+q*q->0<=e*(0-p)->0<=f*(0-q)->0<=p->0<=q->C ⟨-r-s,1,p*p+q*q,1⟩
 ci:p*p+q*q<(r-s)*(r-s)->s<r->0<p*p+q*q->0<=e*(0-p)->0<=f*(0-q)->0 <= -p->0 <= -q->C ⟨r-s,-1,p*p+q*q,1⟩
 cx:p*p+q*q<(r-s)*(r-s)->r<s->0<p*p+q*q->0<=e*p->0<=f*q->0<=p->0<=q->C ⟨s-r,-1,p*p+q*q,1⟩
 meet:LI p q r s e f->LO p q r s e f->¬(p=0/\q=0)->False
theorem OnL.swap{p q r s e f k x y:Int}(h:OnL p q r s e f k x y):OnL q p r s f e k y x:=⟨h.k0,by have:=h.l;grind,h.y0,h.x0,h.fy,h.ex⟩
theorem LI.swap{p q r s e f:Int}(h:LI p q r s e f):LI q p r s f e:=by
 obtain⟨k,x,y,h1,h2⟩:=h
 exact⟨k,y,x,h1.swap,by omega⟩
theorem LO.swap{p q r s e f:Int}(h:LO p q r s e f):LO q p r s f e:=by
 obtain⟨k,x,y,h1,h2⟩:=h
 exact⟨k,y,x,h1.swap,by omega⟩
theorem Two.swap{C:Q4->Prop}{p q r s e f:Int}(h:Two C p q r s e f):Two C q p r s f e where
 r0:=h.r0
 s0:=h.s0
 ee:=h.ff
 ff:=h.ee
 okC:=h.okC
 e1o:=h.e2o
 e1i:=h.e2i
 e2o:=h.e1o
 e2i:=h.e1i
 b1o:=h.b2o
 b1i:=h.b2i
 b2o:=h.b1o
 b2i:=h.b1i
 k1:=h.k2
 g1:=h.g2
 k2:=h.k1
 g2:=h.g1
 co:=fun a b c d i=>by have:=h.co (by omega) c b i d;rwa [Int.add_comm (p*p)] at this
 ci:=fun a g z b c d i=>by have:=h.ci (by omega) g (by omega) c b i d;rwa [Int.add_comm (p*p)] at this
 cx:=fun a g z b c d i=>by have:=h.cx (by omega) g (by omega) c b i d;rwa [Int.add_comm (p*p)] at this
 meet:=fun a b c=>h.meet a.swap b.swap fun g=>c ⟨g.2,g.1⟩
structure Pt (p q r e f x y n:Int):Prop where
 x0:0<=x
 y0:0<=y
 ex:0<=e*(x-p)
 fy:0<=f*(y-q)
 c:(x-p)*(x-p)+(y-q)*(y-q)=r*r
 n:x*x+y*y=n
theorem Pt.swap{p q r e f x y n:Int}(h:Pt p q r e f x y n):Pt q p r f e y x n:=⟨h.y0,h.x0,h.fy,h.ex,by have:=h.c;omega,by have:=h.n;omega⟩
theorem Pt.k{p q r e f x y n:Int}(h:Pt p q r e f x y n):inKK p q e f x y:=⟨h.x0,h.y0,h.ex,h.fy⟩
theorem Pt.pq{p q r e f x y n:Int}(h:Pt p q r e f x y n):n+(p*p+q*q)-r*r=2*(p*x+q*y):=by rw[<- h.n,<- h.c];grind
theorem Pt.g{p q r e f x y n:Int}(h:Pt p q r e f x y n)(s:Int):gF p q r s x y=n-s*s:=by rw[gF_eq,h.n,h.c];omega
theorem quart_bd3{t u r:Int}(r0:0<r)(t0:0<=t)(u0:0<=u)(h:t*t+u*u=r*r):t<=r/\u<=r/\r<=t+u:=by
 have tt:=sqz_nn t
 have uu:=sqz_nn u
 have tu:=Int.mul_nonneg t0 u0
 refine⟨(abs_leP (Int.le_of_lt r0) (by omega)).2,(abs_leP (Int.le_of_lt r0) (by omega)).2,(abs_leP (by omega) ?_).2⟩
 have e:(t+u)*(t+u)=t*t+u*u+2*(t*u):=by grind
 omega
theorem sqI_e1{p q r e:Int}(ee:e*e=1):sqI (p+e*r) q=p*p+q*q+r*r+2*(e*p*r):=by
 have:(p+e*r)*(p+e*r)=p*p+2*(e*p*r)+e*e*(r*r):=by grind
 unfold sqI
 rw[this,ee];omega
theorem Two.meet1{C:Q4->Prop}{p q r s e f x y n:Int}(h:Two C p q r s e f)(X:Pt p q r e f x y n)(h1:0<=p+e*r)(h2:0<=q)(ho:opp (n-s*s) (sqI (p+e*r) q-s*s))(hz:¬(p=0/\q=0)):False:=by
 have ee:=h.ee
 have r0:=h.r0
 have kE:inKK p q e f (p+e*r) q:=⟨h1,h2,by rw[show p+e*r-p=e*r by omega,<- Int.mul_assoc,ee];omega,by simp⟩
 have kO:inKK p q e f (p+e*r) y:=⟨h1,X.y0,by rw[show p+e*r-p=e*r by omega,<- Int.mul_assoc,ee];omega,X.fy⟩
 have cE:(p+e*r-p)*(p+e*r-p)+(q-q)*(q-q)=r*r:=by
  rw[show p+e*r-p=e*r by omega,Int.sub_self]
  have:e*r*(e*r)=e*e*(r*r):=by grind
  rw[this,ee];omega
 have gE:gF p q r s (p+e*r) q=sqI (p+e*r) q-s*s:=by rw[gF_eq,cE];unfold sqI;omega
 have hg:opp (gF p q r s x y) (gF p q r s (p+e*r) q):=by rw[X.g,gE];exact ho
 refine h.meet (leg_a X.k kE hg (Int.le_of_eq X.c) (Int.le_of_eq cE)) ?_ hz
 rcases hg.trans (gF p q r s (p+e*r) y) with g|g
 ·refine out_a X.k kO g (Int.le_of_eq X.c.symm) ?_
  have t1:(e*(x-p))*(e*(x-p))<=r*r:=by
   have:(e*(x-p))*(e*(x-p))=e*e*((x-p)*(x-p)):=by grind
   rw[this,ee];have:=X.c;have:=sqz_nn (y-q);omega
  have t2:=(abs_leP (Int.le_of_lt r0) t1).2
  have t3:=Int.mul_nonneg X.ex (show 0<=r-e*(x-p) by omega)
  have t4:(x-p)*(p+e*r-x)+(y-q)*(y-y)=e*(x-p)*r-1*((x-p)*(x-p)):=by grind
  have t5:e*(x-p)*(r-e*(x-p))=e*(x-p)*r-e*e*((x-p)*(x-p)):=by grind
  rw[ee] at t5
  omega
 ·refine out_a kE kO g.symm (Int.le_of_eq cE.symm) ?_
  simp
theorem Two.finO1{C:Q4->Prop}{p q r s e f x y n:Int}(h:Two C p q r s e f)(X:Pt p q r e f x y n)(ht:(⟨-s,1,n,1⟩:Q4).ok)(hn:s*s<n)(h1:0<=p+e*r)(h2:0<=q)(hle:sqI (p+e*r) q<=n):∃z,C z/\cmpQ z ⟨-s,1,n,1⟩<=0:=by
 by_cases g:s*s<sqI (p+e*r) q
 ·exact⟨_,h.e1o h1 h2 g,le_mono (sqI_nn _ _) (by decide) (by have:=sqz_nn s;omega) (by decide) (by omega)⟩
 ·refine (h.meet1 X h1 h2 (.inr ⟨by omega, by omega⟩) fun ⟨z1, z2⟩ => ?_).elim
  have:=X.pq
  rw[sqI_e1 h.ee] at g
  rw[z1,z2] at this g
  simp at this g
  omega
theorem Two.finI1{C:Q4->Prop}{p q r s e f x y n:Int}(h:Two C p q r s e f)(X:Pt p q r e f x y n)(hn:n<s*s)(n0:0<n)(h1:0<=p+e*r)(h2:0<=q)(hle:n<=sqI (p+e*r) q):∃z,C z/\cmpQ z ⟨s,-1,n,1⟩<=0:=by
 by_cases g:sqI (p+e*r) q<s*s
 ·exact⟨_,h.e1i h1 h2 g (by omega),le_monoM n0 hle⟩
 ·refine (h.meet1 X h1 h2 (.inl ⟨by omega, by omega⟩) fun ⟨z1, z2⟩ => ?_).elim
  have:=X.pq
  rw[sqI_e1 h.ee] at g
  rw[z1,z2] at this g
  simp at this g
  omega
theorem Pt.pp{p q r x y n:Int}(h:Pt p q r 1 1 x y n)(r0:0<r):p<=x/\q<=y/\x-p<=r/\y-q<=r/\r<=x-p+(y-q):=by
 have h1:=h.ex
 have h2:=h.fy
 have:=quart_bd3 r0 (show 0<=x-p by omega) (show 0<=y-q by omega) h.c
 omega
theorem Pt.mm{p q r x y n:Int}(h:Pt p q r (-1) (-1) x y n)(r0:0<r):x<=p/\y<=q/\p-x<=r/\q-y<=r/\r<=p-x+(q-y):=by
 have h1:=h.ex
 have h2:=h.fy
 have:=quart_bd3 r0 (show 0<=p-x by omega) (show 0<=q-y by omega) (by rw[<- h.c];grind)
 omega
theorem Pt.pm{p q r x y n:Int}(h:Pt p q r 1 (-1) x y n)(r0:0<r):p<=x/\y<=q/\x-p<=r/\q-y<=r/\r<=x-p+(q-y):=by
 have h1:=h.ex
 have h2:=h.fy
 have:=quart_bd3 r0 (show 0<=x-p by omega) (show 0<=q-y by omega) (by rw[<- h.c];grind)
 omega
theorem Pt.nn{p q r e f x y n:Int}(h:Pt p q r e f x y n):0<=n/\x*x<=n/\y*y<=n:=by
 have:=sqz_nn x
 have:=sqz_nn y
 have:=h.n
 omega
theorem su_ge{n a x:Int}(h:x*x<=n)(h0:0<=x)(ha:a<=x):Su n (-a) 1:=by
 have h1:Su n (-x) 1:=.inr ⟨by decide,by rw[Int.neg_mul_neg];omega⟩
 have n0:0<=n:=by have:=sqz_nn x;omega
 exact su_le (Su.add n0 h1 (Su.int (show 0<=x-a by omega))) (by omega) (by omega)
theorem su_cau{x y t u r n R:Int}(hn:x*x+y*y=n)(hr:t*t+u*u=R)(h0:0<=r)(hR:R=r*r):Su n (x*t+y*u) r/\Su n (-(x*t+y*u)) r:=by
 have e:r*r*n=(x*t+y*u)*(x*t+y*u)+(x*u-y*t)*(x*u-y*t):=by rw[<- hn,<- hR,<- hr];grind
 have:=sqz_nn (x*u-y*t)
 exact⟨su_cauchy h0 (by omega),su_cauchy h0 (by rw[Int.neg_mul_neg];omega)⟩
theorem sqI_c(x y:Int):sqI x y=sqI y x:=by unfold sqI;omega
theorem Two.out_pp{C:Q4->Prop}{p q r s x y n:Int}(h:Two C p q r s 1 1)(X:Pt p q r 1 1 x y n)(ht:(⟨-s,1,n,1⟩:Q4).ok)(hn:s*s<n):∃z,C z/\cmpQ z ⟨-s,1,n,1⟩<=0:=by
 have r0:=h.r0
 have s0:=h.s0
 obtain⟨b1,b2,b3,b4,b5⟩:=X.pp r0
 have x0:=X.x0
 have y0:=X.y0
 have hp:=X.pq
 obtain⟨n0,_,_⟩:=X.nn
 have s2:=sqz_nn s
 have E1:p*r<=p*(x-p)+q*(y-q)->sqI (p+1*r) q<=n:=fun g=>by
  rw[sqI_e1 (by decide)]
  rw[Int.mul_sub,Int.mul_sub] at g
  rw[show 1*p*r=p*r by rw[Int.one_mul]]
  omega
 have E2:q*r<=p*(x-p)+q*(y-q)->sqI (q+1*r) p<=n:=fun g=>by
  rw[sqI_e1 (by decide)]
  rw[Int.mul_sub,Int.mul_sub] at g
  rw[show 1*q*r=q*r by rw[Int.one_mul]]
  omega
 by_cases hp0:0<=p
 ·by_cases hq0 : 0 <= q
  ·by_cases hpq : p <= q
   ·refine h.finO1 X ht hn (by omega) hq0 (E1 ?_)
    have m1:=Int.mul_le_mul_of_nonneg_left b5 hp0
    have m2:=Int.mul_le_mul_of_nonneg_right hpq (show 0<=y-q by omega)
    rw[Int.mul_add] at m1;omega
   ·refine h.swap.finO1 X.swap ht hn (by omega) hp0 (E2 ?_)
    have m1:=Int.mul_le_mul_of_nonneg_left b5 hq0
    have m2:=Int.mul_le_mul_of_nonneg_right (show q<=p by omega) (show 0<=x-p by omega)
    rw[Int.mul_add] at m1;omega
  ·refine h.swap.finO1 X.swap ht hn (by omega) hp0 (E2 ?_)
   have m1:=Int.mul_nonneg hp0 (show 0<=x-p by omega)
   have m2:=Int.mul_le_mul_of_nonpos_left (a:=q) (by omega) b4
   omega
 ·by_cases hq0 : 0 <= q
  ·refine h.finO1 X ht hn (by omega) hq0 (E1 ?_)
   have m1:=Int.mul_nonneg hq0 (show 0<=y-q by omega)
   have m2:=Int.mul_le_mul_of_nonpos_left (a:=p) (by omega) b3
   omega
  ·
   have p2:0<p*p:=Int.mul_pos_of_neg_of_neg (by omega) (by omega)
   have q2:0<q*q:=Int.mul_pos_of_neg_of_neg (by omega) (by omega)
   have m1:=Int.mul_nonpos_of_nonpos_of_nonneg (show p<=0 by omega) x0
   have m2:=Int.mul_nonpos_of_nonpos_of_nonneg (show q<=0 by omega) y0
   have rs:(r-s)*(r-s)=r*r+s*s-2*(r*s):=by grind
   have rsp:=Int.mul_pos r0 s0
   by_cases hc:p*p+q*q<(r-s)*(r-s)
   ·have hs:s<r:=by
     rcases Int.lt_or_le s r with g|g
     ·exact g
     ·have:=Int.mul_le_mul_of_nonneg_right g (Int.le_of_lt r0);rw[Int.mul_comm s r] at this;omega
    refine⟨_,h.ci hc hs (by omega) (by omega) (by omega) (by omega) (by omega),?_⟩
    refine cmpA (h.okC _ (h.ci hc hs (by omega) (by omega) (by omega) (by omega) (by omega))) ht (by omega) (by omega) fun _=>?_
    obtain⟨_,c1⟩:=su_cau (t:=x-p) (u:=y-q) X.n X.c (Int.le_of_lt r0) rfl
    refine su_le (Su.mul n0 (Su.int (show 0<=(2:Int) by decide)) c1) ?_ ?_
    ·rw[show (-s-(r-s))*(-s-(r-s))=r*r by grind,show x*(x-p)+y*(y-q)=(x*x+y*y)-(p*x+q*y) by grind,X.n];omega
    ·omega
   ·exfalso
    refine h.meet ?_ ?_ (by omega)
    ·refine ⟨2 * (p * p + q * q), p * (p * p + q * q - r * r + s * s), q * (p * p + q * q - r * r + s * s), ⟨by omega, by grind, ?_, ?_, ?_, ?_⟩, ?_⟩
     ·exact Int.mul_nonneg_of_nonpos_of_nonpos (by omega) (by omega)
     ·exact Int.mul_nonneg_of_nonpos_of_nonpos (by omega) (by omega)
     ·rw [show 1 * (p * (p * p + q * q - r * r + s * s) - 2 * (p * p + q * q) * p) = p * (s * s - r * r - (p * p + q * q)) by grind]
      exact Int.mul_nonneg_of_nonpos_of_nonpos (by omega) (by omega)
     ·rw [show 1 * (q * (p * p + q * q - r * r + s * s) - 2 * (p * p + q * q) * q) = q * (s * s - r * r - (p * p + q * q)) by grind]
      exact Int.mul_nonneg_of_nonpos_of_nonpos (by omega) (by omega)
     ·have hA : 0 <= (p * p + q * q - (r - s) * (r - s)) * (4 * (r * s) - (p * p + q * q - (r - s) * (r - s))) := Int.mul_nonneg (by omega) (by omega)
      have hM:=Int.mul_nonneg (show 0<=p*p+q*q by omega) hA
      have e:2*(p*p+q*q)*(2*(p*p+q*q))*(s*s)-(p*(p*p+q*q-r*r+s*s)*(p*(p*p+q*q-r*r+s*s))+q*(p*p+q*q-r*r+s*s)*(q*(p*p+q*q-r*r+s*s)))=(p*p+q*q)*((p*p+q*q-(r-s)*(r-s))*(4*(r*s)-(p*p+q*q-(r-s)*(r-s)))):=by grind
      omega
    ·have k := X.k
     have t0:0<=r*r-(p*p+q*q)-s*s:=by omega
     refine out_b k (z:=x+(r*r-(p*p+q*q)-s*s)) (w:=y) ⟨by omega,y0,by omega,X.fy⟩ ?_ (show s*s<=x*x+y*y by rw[X.n];omega) ?_
     ·refine .inr ⟨by rw [X.g]; omega, ?_⟩
      unfold gF
      have m3:=Int.mul_le_mul_of_nonneg_right (show p <= -1 by omega) t0
      rw[Int.mul_add p]
      omega
     ·have := Int.mul_nonneg x0 t0
      rw[show x+(r*r-(p*p+q*q)-s*s)-x=r*r-(p*p+q*q)-s*s by omega,Int.sub_self,Int.mul_zero]
      omega
theorem Two.out_mm{C:Q4->Prop}{p q r s x y n:Int}(h:Two C p q r s (-1) (-1))(X:Pt p q r (-1) (-1) x y n)(ht:(⟨-s,1,n,1⟩:Q4).ok)(hn:s*s<n):∃z,C z/\cmpQ z ⟨-s,1,n,1⟩<=0:=by
 have r0:=h.r0
 have s0:=h.s0
 obtain⟨b1,b2,b3,b4,b5⟩:=X.mm r0
 have x0:=X.x0
 have y0:=X.y0
 have hp:=X.pq
 obtain⟨n0,_,_⟩:=X.nn
 have s2:=sqz_nn s
 have r2:=Int.mul_pos r0 r0
 have rsp:=Int.mul_pos r0 s0
 have px:=Int.mul_le_mul_of_nonneg_left b1 (show 0<=p by omega)
 have qy:=Int.mul_le_mul_of_nonneg_left b2 (show 0<=q by omega)
 have xx:=Int.mul_le_mul_of_nonneg_right b1 x0
 have yy:=Int.mul_le_mul_of_nonneg_right b2 y0
 have hX:=X.n
 have hS:r*r<=p*p+q*q:=by have:=Int.mul_nonneg (show 0<=p by omega) x0;have:=Int.mul_nonneg (show 0<=q by omega) y0;omega
 have rs:(r+s)*(r+s)=r*r+s*s+2*(r*s):=by grind
 by_cases hc:(r+s)*(r+s)<p*p+q*q
 ·have c0 := h.co hc (by omega) (by omega) (by omega) (by omega)
  refine⟨_,c0,?_⟩
  refine cmpB (h.okC _ c0) ht (by omega) (side_p1 (by omega) (.inl (by omega))) ?_
  obtain⟨c1,_⟩:=su_cau (t:=x-p) (u:=y-q) X.n X.c (Int.le_of_lt r0) rfl
  refine su_le (Su.mul n0 (Su.int (show 0<=(2:Int) by decide)) c1) ?_ ?_
  ·rw[show (-s-(-r-s))*(-s-(-r-s))=r*r by grind,show x*(x-p)+y*(y-q)=(x*x+y*y)-(p*x+q*y) by grind,X.n];omega
  ·omega
 ·exfalso
  refine h.meet ?_ ?_ (by rintro⟨rfl,rfl⟩;omega)
  ·refine ⟨2 * (p * p + q * q), p * (p * p + q * q - r * r + s * s), q * (p * p + q * q - r * r + s * s), ⟨by omega, by grind, ?_, ?_, ?_, ?_⟩, ?_⟩
   ·exact Int.mul_nonneg (by omega) (by omega)
   ·exact Int.mul_nonneg (by omega) (by omega)
   ·rw [show -1 * (p * (p * p + q * q - r * r + s * s) - 2 * (p * p + q * q) * p) = p * ((p * p + q * q) + r * r - s * s) by grind]
    exact Int.mul_nonneg (by omega) (by omega)
   ·rw [show -1 * (q * (p * p + q * q - r * r + s * s) - 2 * (p * p + q * q) * q) = q * ((p * p + q * q) + r * r - s * s) by grind]
    exact Int.mul_nonneg (by omega) (by omega)
   ·have rm:r*r+s*s-2*(r*s)<=p*p+q*q:=by
     rcases Int.le_total s r with g|g
     ·have := Int.mul_le_mul_of_nonneg_right g (Int.le_of_lt s0)
      omega
     ·have := Int.mul_le_mul_of_nonneg_right g (Int.le_of_lt r0)
      rw[Int.mul_comm s r] at this
      omega
    have hA:0<=((r+s)*(r+s)-(p*p+q*q))*(4*(r*s)-((r+s)*(r+s)-(p*p+q*q))):=Int.mul_nonneg (by omega) (by omega)
    have hM:=Int.mul_nonneg (show 0<=p*p+q*q by omega) hA
    have e:2*(p*p+q*q)*(2*(p*p+q*q))*(s*s)-(p*(p*p+q*q-r*r+s*s)*(p*(p*p+q*q-r*r+s*s))+q*(p*p+q*q-r*r+s*s)*(q*(p*p+q*q-r*r+s*s)))=(p*p+q*q)*(((r+s)*(r+s)-(p*p+q*q))*(4*(r*s)-((r+s)*(r+s)-(p*p+q*q)))):=by grind
    omega
  ·have k1 : inKK p q (-1) (-1) 0 y := ⟨by decide, y0, by omega, X.fy⟩
   have k2:inKK p q (-1) (-1) 0 0:=⟨by decide,by decide,by omega,by omega⟩
   have hg:opp (gF p q r s x y) (gF p q r s 0 0):=.inr ⟨by rw[X.g];omega,by unfold gF;simp;omega⟩
   rcases hg.trans (gF p q r s 0 y) with g|g
   ·refine out_a X.k k1 g (Int.le_of_eq X.c.symm) ?_
    have:=Int.mul_nonneg (show 0<=p-x by omega) x0
    rw[Int.sub_self,Int.mul_zero,show (x-p)*(0-x)=(p-x)*x by grind]
    omega
   ·refine out_a k1 k2 g ?_ ?_
    ·have := X.c
     have e:(p-x)*(p-x)<=p*p:=sq_up (by omega) (by omega)
     rw[show (0-p)*(0-p)=p*p by grind]
     rw[show (x-p)*(x-p)=(p-x)*(p-x) by grind] at this
     omega
    ·have := Int.mul_nonneg (show 0 <= q - y by omega) y0
     rw[Int.sub_self,Int.mul_zero,show (y-q)*(0-y)=(q-y)*y by grind]
     omega
theorem Two.out_y{C:Q4->Prop}{p q r s x y n:Int}(h:Two C p q r s 1 (-1))(X:Pt p q r 1 (-1) x y n)(ht:(⟨-s,1,n,1⟩:Q4).ok)(hn:s*s<n)(hq:q*q<=r*r)(hc:p<0->p*p+q*q<=r*r):∃z,C z/\cmpQ z ⟨-s,1,n,1⟩<=0:=by
 have r0:=h.r0
 have s0:=h.s0
 obtain⟨b1,b2,b3,b4,b5⟩:=X.pm r0
 have x0:=X.x0
 have y0:=X.y0
 have hp:=X.pq
 obtain⟨n0,nx,ny⟩:=X.nn
 have s2:=sqz_nn s
 have q0:0<=q:=by omega
 have qr:q<=r:=(abs_leP (Int.le_of_lt r0) hq).2
 have qy:=Int.mul_nonneg q0 y0
 have F:Su n (p*x+q*y) (-p):=by
  by_cases p0:0<=p
  ·left
   have px:=Int.mul_nonneg p0 x0
   refine⟨by omega,?_⟩
   have e:(p*x+q*y)*(p*x+q*y) - -p * -p*n=y*(q*(q*y)+p*(2*(q*x)-p*y)):=by rw[<- X.n];grind
   have m1:=Int.mul_nonneg q0 qy
   have m2:=Int.mul_le_mul b1 b2 y0 x0
   have m3:=Int.mul_nonneg p0 (show 0<=2*(q*x)-p*y by have:=Int.mul_nonneg q0 x0;rw[Int.mul_comm x q] at m2;omega)
   have:=Int.mul_nonneg y0 (show 0<=q*(q*y)+p*(2*(q*x)-p*y) by omega)
   omega
  ·have h1:Su n (p*x) (-p):=by
    refine .inr ⟨by omega,?_⟩
    have:=Int.mul_le_mul_of_nonneg_left nx (sqz_nn p)
    rw[Int.neg_mul_neg]
    have e:p*x*(p*x)=p*p*(x*x):=by grind
    omega
   exact su_le (Su.add n0 h1 (Su.int qy)) rfl (by omega)
 have A:Su n (-s) 1:=.inr ⟨by decide,by rw[Int.neg_mul_neg];omega⟩
 by_cases hsp:s<=p
 ·refine h.g1 _ ht (cmpB h.k1 ht (by omega) (side_p1 (by omega) (.inr (by rw [show (-s - 0) * (-s - 0) = s * s by grind]; omega))) ?_)
  have P:Su n (-p) 1:=su_ge nx x0 b1
  have k1:=Su.mul n0 P (Su.int (show 0<=2*(p-s) by omega))
  have k2:=Su.mul n0 (Su.int (show 0<=(2:Int) by decide)) F
  have k3:Su n (2*(q*(r-q))) 0:=Su.int (by have:=Int.mul_nonneg q0 (show 0<=r-q by omega);omega)
  refine su_le (Su.add n0 (Su.add n0 k1 k2) k3) ?_ ?_
  ·unfold sqI;grind
  ·omega
 ·by_cases hm : r * r <= sqI (s - p) (0 - q)
  ·exfalso
   unfold sqI at hm
   rw[show (0-q)*(0-q)=q*q by grind] at hm
   have kB:inKK p q 1 (-1) s 0:=⟨by omega,by decide,by omega,by omega⟩
   have gB:gF p q r s s 0<=0:=by rw[gF_eq];rw[show (0-q)*(0-q)=q*q by grind];omega
   have hg:opp (gF p q r s x y) (gF p q r s s 0):=.inr ⟨by rw[X.g];omega,gB⟩
   refine h.meet ?_ ?_ ?_
   ·obtain ⟨z, hz⟩ : ∃ z, max p 0 = z := ⟨_, rfl⟩
    have kZ:inKK p q 1 (-1) z 0:=⟨by omega,by decide,by omega,by omega⟩
    rcases hg.trans (gF p q r s z 0) with g|g
    ·refine leg_a X.k kZ g (Int.le_of_eq X.c) ?_
     rw[show (0-q)*(0-q)=q*q by grind]
     by_cases p0:p<0
     ·have := hc p0
      rw[show z=0 by omega,show (0-p)*(0-p)=p*p by grind]
      omega
     ·rw[show z-p=0 by omega];omega
    ·refine leg_b kZ kB g ?_ (by omega)
     have:=sq_up (show 0<=z by omega) (show z<=s by omega)
     omega
   ·have k1 : inKK p q 1 (-1) x 0 := ⟨x0, by decide, X.ex, by omega⟩
    have o1:r*r<=(x-p)*(x-p)+(0-q)*(0-q):=by
     have:=sq_up (show 0<=q-y by omega) (show q-y<=q by omega)
     have c:=X.c
     rw[show (y-q)*(y-q)=(q-y)*(q-y) by grind] at c
     rw[show (0-q)*(0-q)=q*q by grind]
     omega
    rcases hg.trans (gF p q r s x 0) with g|g
    ·refine out_a X.k k1 g (Int.le_of_eq X.c.symm) ?_
     have:=Int.mul_nonneg (show 0<=q-y by omega) y0
     rw[Int.sub_self,Int.mul_zero,show (y-q)*(0-y)=(q-y)*y by grind]
     omega
    ·by_cases hx : x <= s
     ·refine out_a k1 kB g o1 ?_
      have:=Int.mul_nonneg (show 0<=x-p by omega) (show 0<=s-x by omega)
      rw[Int.sub_self,Int.mul_zero]
      omega
     ·refine out_b kB k1 g.symm (by omega) ?_
      have:=Int.mul_nonneg (Int.le_of_lt s0) (show 0<=x-s by omega)
      omega
   ·rintro ⟨rfl, rfl⟩
    have:=Int.mul_pos r0 r0
    have c:=X.c
    have n':=X.n
    simp at hm c
    omega
  ·have m0 : 0 < sqI (s - p) (0 - q) := sqI_pos (by omega)
   have c0:=h.b1i (by omega) (by omega) (by omega) m0
   refine⟨_,c0,cmpA (h.okC _ c0) ht (by omega) m0 fun k=>?_⟩
   rw[show -(2*(-s-r)*1)=2*(s+r) by omega]
   have e2:sqI (s-p) (0-q)-(s+r)*(s+r)-n = -((-s-r)*(-s-r)+n-sqI (s-p) (0-q)):=by grind
   rw[<- e2]
   have B:Su n (s+r) (-1):=su_le k (by omega) rfl
   rcases su_total n (r+p) (-1) with g|g
   ·refine su_le (Su.mul n0 (Su.int (show 0 <= (2 : Int) by decide)) (Su.add n0 (Su.mul n0 A g) F)) ?_ ?_
    ·unfold sqI;grind
    ·grind
   ·have g1 : Su n (s - p + (s + r)) (-1) := su_le (Su.add n0 (Su.int (show 0 <= s - p by omega)) B) rfl (by omega)
    have k2:=Su.mul n0 g g1
    refine su_le (Su.add n0 k2 (Su.int (sqz_nn q))) ?_ ?_
    ·unfold sqI;grind
    ·grind
theorem Two.out_x{C:Q4->Prop}{p q r s x y n:Int}(h:Two C p q r s 1 (-1))(X:Pt p q r 1 (-1) x y n)(ht:(⟨-s,1,n,1⟩:Q4).ok)(hn:s*s<n)(hp0:p<0)(hc:r*r<p*p+q*q):∃z,C z/\cmpQ z ⟨-s,1,n,1⟩<=0:=by
 have r0:=h.r0
 have s0:=h.s0
 obtain⟨b1,b2,b3,b4,b5⟩:=X.pm r0
 have x0:=X.x0
 have y0:=X.y0
 have hp:=X.pq
 obtain⟨n0,nx,ny⟩:=X.nn
 have s2:=sqz_nn s
 have q0:0<=q:=by omega
 have A:Su n (-s) 1:=.inr ⟨by decide,by rw[Int.neg_mul_neg];omega⟩
 have pp:p*p<=r*r:=by have:=sq_up (show 0 <= -p by omega) (show -p<=r by omega);rw[Int.neg_mul_neg] at this;exact this
 have G:Su n (-(p*x+q*y)) q:=by
  have h1:Su n (-(q*y)) q:=by
   refine .inr ⟨q0,?_⟩
   have:=Int.mul_le_mul_of_nonneg_left ny (sqz_nn q)
   rw[Int.neg_mul_neg]
   have e:q*y*(q*y)=q*q*(y*y):=by grind
   omega
  have:=Int.mul_nonpos_of_nonpos_of_nonneg (show p<=0 by omega) x0
  exact su_le (Su.add n0 h1 (Su.int (show 0 <= -(p*x) by omega))) (by omega) (by omega)
 by_cases hm:sqI (s-q) (0-p)<=r*r
 ·exfalso
  unfold sqI at hm
  rw[show (0-p)*(0-p)=p*p by grind] at hm
  have kO:inKK p q 1 (-1) 0 0:=⟨by decide,by decide,by omega,by omega⟩
  have hg:opp (gF p q r s x y) (gF p q r s 0 0):=.inr ⟨by rw[X.g];omega,by unfold gF;simp;omega⟩
  refine h.meet ?_ ?_ (by omega)
  ·obtain ⟨z, hz⟩ : ∃ z, min s q = z := ⟨_, rfl⟩
   have kZ:inKK p q 1 (-1) 0 z:=⟨by decide,by omega,by omega,by omega⟩
   rcases hg.trans (gF p q r s 0 z) with g|g
   ·refine leg_a X.k kZ g (Int.le_of_eq X.c) ?_
    rw[show (0-p)*(0-p)=p*p by grind]
    by_cases hs:s<=q
    ·rw[show z=s by omega];omega
    ·rw[show z-q=0 by omega];omega
   ·refine leg_b kZ kO g ?_ (by omega)
    have:=sq_up (show 0<=z by omega) (show z<=s by omega)
    omega
  ·have k1 : inKK p q 1 (-1) x 0 := ⟨x0, by decide, X.ex, by omega⟩
   rcases hg.trans (gF p q r s x 0) with g|g
   ·refine out_a X.k k1 g (Int.le_of_eq X.c.symm) ?_
    have:=Int.mul_nonneg (show 0<=q-y by omega) y0
    rw[Int.sub_self,Int.mul_zero,show (y-q)*(0-y)=(q-y)*y by grind]
    omega
   ·refine out_a kO k1 g.symm ?_ ?_
    ·rw[show (0-p)*(0-p)=p*p by grind,show (0-q)*(0-q)=q*q by grind];omega
    ·have := Int.mul_nonneg (show 0 <= -p by omega) x0
     rw[Int.sub_self,Int.mul_zero,show (0-p)*(x-0) = -p*x by grind]
     omega
 ·have hsq:s<=q:=by
   rcases Int.lt_or_le q s with g|g
   ·exfalso
    have k1:Su n (s-2*q) 1:=su_le (Su.add n0 A (Su.int (show 0<=2*(s-q) by omega))) (by omega) (by omega)
    have k2:=Su.mul n0 A k1
    have k3:=Su.add n0 k2 (Su.mul n0 (Su.int (show 0<=(2:Int) by decide)) G)
    have k4:Su n (r*r-sqI (s-q) (0-p)) 0:=su_le k3 (by unfold sqI;grind) (by grind)
    exact not_su (by omega) k4
   ·exact g
  have c0:=h.b2o (by omega) (by omega) (by omega)
  have Y:Su n (r-q) 1:=su_le (su_ge (a:=q-r) ny y0 (by omega)) (by omega) rfl
  refine⟨_,c0,cmpB (h.okC _ c0) ht (by omega) (side_p1 (by omega) ?_) ?_⟩
  ·rcases Int.le_total s r with g | g
   ·left;omega
   ·right
    have:=sq_up (show 0<=s-r by omega) (show s-r<=s by omega)
    rw[show (-s - -r)*(-s - -r)=(s-r)*(s-r) by grind]
    omega
  ·refine su_le (Su.mul n0 (Su.int (show 0 <= (2 : Int) by decide)) (Su.add n0 (Su.mul n0 A Y) G)) ?_ ?_
   ·unfold sqI;grind
   ·grind
theorem Two.out_pm{C:Q4->Prop}{p q r s x y n:Int}(h:Two C p q r s 1 (-1))(X:Pt p q r 1 (-1) x y n)(ht:(⟨-s,1,n,1⟩:Q4).ok)(hn:s*s<n):∃z,C z/\cmpQ z ⟨-s,1,n,1⟩<=0:=by
 have r0:=h.r0
 obtain⟨b1,b2,b3,b4,b5⟩:=X.pm r0
 have x0:=X.x0
 have y0:=X.y0
 have hp:=X.pq
 have q0:0<=q:=by omega
 by_cases p0:p<0
 ·by_cases hc : p * p + q * q <= r * r
  ·exact h.out_y X ht hn (by have:=sqz_nn p;omega) fun _=>hc
  ·exact h.out_x X ht hn p0 (by omega)
 ·by_cases hqr : q <= r
  ·exact h.out_y X ht hn (sq_up q0 hqr) fun g=>absurd g p0
  ·refine h.swap.finO1 X.swap ht hn (by omega) (by omega) ?_
   rw[sqI_e1 (by decide)]
   have m1:=Int.mul_nonneg (show 0<=p by omega) (show 0<=x-p by omega)
   have m2:=Int.mul_le_mul_of_nonneg_left b4 q0
   rw[Int.mul_sub] at m1 m2
   rw[show -1*q*r = -(q*r) by grind]
   omega
theorem Two.out{C:Q4->Prop}{p q r s e f x y n:Int}(h:Two C p q r s e f)(he:e=1\/e = -1)(hf:f=1\/f = -1)(X:Pt p q r e f x y n)(ht:(⟨-s,1,n,1⟩:Q4).ok)(hn:s*s<n):∃z,C z/\cmpQ z ⟨-s,1,n,1⟩<=0:=by
 rcases he with rfl|rfl<;>rcases hf with rfl|rfl
 ·exact h.out_pp X ht hn
 ·exact h.out_pm X ht hn
 ·exact h.swap.out_pm X.swap ht hn
 ·exact h.out_mm X ht hn
end Go.Proofs.YtcfpcafnjgpfdaaGreat
