import Derived.Test.YteajakbpmeebnaaGreatH33
set_option linter.unusedVariables false
set_option linter.unusedSimpArgs false

namespace Go.Proofs.YteajakbpmeebnaaGreat
open Go.RowKit

section
theorem sgQ{x y:Q4}(hx:x.ok)(hy:y.ok):Sg (cmpQ x y) (df x.rt y.rt):=by
 obtain⟨_,k1,r1⟩:=hx.root
 obtain⟨_,k2,r2⟩:=hy.root
 rw[<- cmpQ_rt hx hy]
 unfold cmpRt
 rw[r1,r2]
 exact cmpRt_sg k1 k2
theorem cmpQ_anti{x y:Q4}(hx:x.ok)(hy:y.ok):cmpQ y x = -cmpQ x y:=by
 refine Sg.uniq (sgQ hy hx) (Sg.eq (sgQ hx hy).neg fun k=>?_)
 rw[neg_f,df_f,df_f]
 grind
theorem cmpQ_self{x:Q4}(hx:x.ok):cmpQ x x=0:=by have:=cmpQ_anti hx hx;omega
theorem cmpQ_trans{x y z:Q4}(hx:x.ok)(hy:y.ok)(hz:z.ok)(h1:cmpQ x y<=0)(h2:cmpQ y z<=0):cmpQ x z<=0 :=
 ((cmp_trans hx.root.2.1 hy.root.2.1 hz.root.2.1 (sgQ hx hy) (sgQ hy hz) (sgQ hx hz)).1 h1 h2).1
theorem fold_le:∀ {m:List Q4} {y:Q4},y.ok->(∀z∈m,z.ok)->(m.foldl (fun x y=>if cmpQ y x<0 then y else x) y).ok/\cmpQ (m.foldl (fun x y=>if cmpQ y x<0 then y else x) y) y<=0/\∀z∈m,cmpQ (m.foldl (fun x y=>if cmpQ y x<0 then y else x) y) z<=0
 | [],y,hy,_=>⟨hy,by rw[show List.foldl _ y []=y from rfl,cmpQ_self hy];exact Int.le_refl 0,nofun⟩
 | b::m,y,hy,hm=>by
  have hb:=hm b (List.mem_cons_self ..)
  have hm':∀z∈m,z.ok:=fun z hz=>hm z (List.mem_cons_of_mem _ hz)
  simp only[List.foldl_cons]
  split
  ·rename_i h
   obtain⟨k0,k1,k2⟩:=fold_le (y:=b) hb hm'
   refine⟨k0,cmpQ_trans k0 hb hy k1 (Int.le_of_lt h),fun z hz=>?_⟩
   rcases List.mem_cons.1 hz with rfl|hz
   ·exact k1
   ·exact k2 z hz
  ·rename_i h
   obtain⟨k0,k1,k2⟩:=fold_le (y:=y) hy hm'
   refine⟨k0,k1,fun z hz=>?_⟩
   rcases List.mem_cons.1 hz with rfl|hz
   ·exact cmpQ_trans k0 hy hb k1 (by rw[cmpQ_anti hb hy];omega)
   ·exact k2 z hz
theorem leastQ_le{m:List Q4}(h0:m ≠ [])(hm:∀z∈m,z.ok):(leastQ m).ok/\∀z∈m,cmpQ (leastQ m) z<=0:=by
 cases m with
 | nil=>exact absurd rfl h0
 | cons y m =>
  obtain⟨k0,k1,k2⟩:=fold_le (m:=m) (hm y (List.mem_cons_self ..)) fun z hz=>hm z (List.mem_cons_of_mem _ hz)
  refine⟨k0,fun z hz=>?_⟩
  rcases List.mem_cons.1 hz with rfl|hz
  ·exact k1
  ·exact k2 z hz
theorem arc_ends{e:Ed}(h:e.ok=true)(hk:¬e.k=1):(e.k=2/\e.bx-e.cx = -(e.ay-e.cy)/\e.by'-e.cy=e.ax-e.cx)\/(e.k=3/\e.bx-e.cx=e.ay-e.cy/\e.by'-e.cy = -(e.ax-e.cx)):=by
 have hk':=kind_of h
 unfold Ed.ok at h
 simp only[Bool.and_eq_true] at h
 obtain⟨_,h2⟩:=h
 rcases hk' with k|k|k
 ·exact absurd k hk
 ·rw [k] at h2
  simp only[show ¬(2:Int)=1 by decide,if_false,if_true,Ed.quarter,quarterB,Bool.and_eq_true,beq_iff_eq,rot] at h2
  exact .inl ⟨k,h2.2.1,h2.2.2⟩
 ·rw [k] at h2
  simp only[show ¬(3:Int)=1 by decide,show ¬(3:Int)=2 by decide,if_false,if_true,Ed.quarter,quarterB,Bool.and_eq_true,beq_iff_eq,rot] at h2
  refine .inr ⟨k,?_,?_⟩<;>omega
def dotA(e:Ed)(x y:Int):Int:=x*(e.ax-e.cx)+y*(e.ay-e.cy)
def dotB(e:Ed)(x y:Int):Int:=x*(e.bx-e.cx)+y*(e.by'-e.cy)
theorem inQ_dot{e:Ed}(h:e.ok=true)(hk:¬e.k=1)(x y:Int):inQ e x y=(!(x==0&&y==0)&&(decide (0<=dotA e x y)&&decide (0<=dotB e x y))):=by
 unfold inQ wiB dotA dotB
 rcases arc_ends h hk with⟨k,e1,e2⟩|⟨k,e1,e2⟩
 ·rw [if_neg (by omega), e1, e2]
  rw[show (e.ax-e.cx)*y-(e.ay-e.cy)*x=x * -(e.ay-e.cy)+y*(e.ax-e.cx) by grind,show x*(e.ax-e.cx)-y * -(e.ay-e.cy)=x*(e.ax-e.cx)+y*(e.ay-e.cy) by grind]
  congr 1
  exact Bool.and_comm _ _
 ·rw [if_pos k, e1, e2]
  rw[show (e.ay-e.cy)*y - -(e.ax-e.cx)*x=x*(e.ax-e.cx)+y*(e.ay-e.cy) by grind,show x*(e.ay-e.cy)-y*(e.ax-e.cx)=x*(e.ay-e.cy)+y * -(e.ax-e.cx) by grind]
variable {a b c d x y:Int} {e e' f f':Ed}
theorem sq_iso(h:IsoOk a b c d)(u v:Int):sqI (a*u+b*v) (c*u+d*v)=sqI u v:=dot_iso h u v u v
theorem zero_iso(h:IsoOk a b c d)(u v:Int):(a*u+b*v==0&&c*u+d*v==0)=(u==0&&v==0):=by
 rw[Bool.eq_iff_iff]
 simp only[Bool.and_eq_true,beq_iff_eq]
 have:=eq_iso h u v 0 0
 simp only[Int.mul_zero,Int.add_zero] at this
 exact this
theorem Mvd.inQ(h:Mvd a b c d x y e e')(hk:¬e.k=1)(u v:Int):inQ e' (a*u+b*v) (c*u+d*v)=inQ e u v:=by
 rw[inQ_dot h.ok hk,inQ_dot h.ok' (fun g=>hk (h.k.1 g)),zero_iso h.iso]
 unfold dotA dotB
 rw[h.ax,h.ay,h.bx,h.by',h.cx hk,h.cy hk,sub_iso,sub_iso,sub_iso,sub_iso,dot_iso h.iso,dot_iso h.iso]
theorem endQ_iso(h:IsoOk a b c d)(p q r s:Int):endQ (a*p+b*q+x) (c*p+d*q+y) (a*r+b*s+x) (c*r+d*s+y)=endQ p q r s:=by
 unfold endQ
 rw[sub_iso,sub_iso,sq_iso h]
theorem crs_sq(h:IsoOk a b c d)(p q r s:Int):((a*p+b*q)*(c*r+d*s)-(c*p+d*q)*(a*r+b*s))*((a*p+b*q)*(c*r+d*s)-(c*p+d*q)*(a*r+b*s))=(p*s-q*r)*(p*s-q*r):=by
 rw[crs_iso]
 rcases det_iso h with g|g<;>rw[g]
 ·rw[Int.one_mul]
 ·rw[Int.neg_one_mul,Int.neg_mul_neg]
theorem Mvd.lineQ(h:Mvd a b c d x y e e')(p q:Int):lineQ e' (a*p+b*q+x) (c*p+d*q+y)=lineQ e p q:=by
 unfold Go.Proofs.YteajakbpmeebnaaGreat.lineQ
 simp only[h.ax,h.ay,h.bx,h.by',sub_iso,dot_iso h.iso,sq_iso h.iso,endQ_iso h.iso,crs_sq h.iso]
theorem Mvd.pointQ(h:Mvd a b c d x y e e')(p q:Int):pointQ e' (a*p+b*q+x) (c*p+d*q+y)=pointQ e p q:=by
 unfold Go.Proofs.YteajakbpmeebnaaGreat.pointQ
 by_cases hk:e.k=1
 ·rw[if_pos hk,if_pos (h.k.2 hk),h.lineQ]
 ·rw [if_neg hk, if_neg (fun g => hk (h.k.1 g))]
  unfold arcQ
  simp only[h.ax,h.ay,h.bx,h.by',h.cx hk,h.cy hk,sub_iso,h.inQ hk,h.rad hk,sq_iso h.iso,endQ_iso h.iso]
end
theorem inQ_mk{e:Ed}(ho:e.ok=true)(hk:¬e.k=1){x y:Int}(hu:0<=x*e.ux+y*e.uy)(hv:0<=x*e.vx+y*e.vy)(hn:0<sqI x y):inQ e x y=true:=by
  obtain⟨_,_,_,_,_,_,_,_,dt,iF,_⟩:=arc_frame ho hk
  cases h:inQ e x y with
  | true=>rfl
  | false =>
    rcases iF _ _ h with⟨g1,g2⟩|g|g
    . have := dt x y x y
      rw[g1,g2] at this
      unfold sqI at hn
      omega
    . omega
    . omega
def Su(d x y:Int):Prop:=(0<=x/\y*y*d<=x*x)\/(0<=y/\x*x<=y*y*d)
theorem Su.int{d x:Int}(h:0<=x):Su d x 0:=by
  left
  refine⟨h,?_⟩
  have:=sqz_nn x
  simpa using this
theorem su_of_side{d x y:Int}(hd:0<=d)(h:0<=sideZ x y d):Su d x y:=by
  unfold sideZ at h
  rcases Int.lt_or_eq_of_le hd with h0|h0
  . rw [sgn_pos h0, Int.mul_one] at h
    rcases Int.lt_trichotomy x 0 with hx|hx|hx
    . rw [sgn_neg hx] at h
      rcases Int.lt_trichotomy y 0 with hy|hy|hy
      . rw[sgn_neg hy,if_pos (by decide)] at h;exfalso;revert h;decide
      . subst hy;rw[sgn_zero,if_pos (by decide)] at h;exfalso;revert h;decide
      . rw [sgn_pos hy, if_neg (by decide)] at h
        right
        refine⟨by omega,?_⟩
        unfold cmpZ at h
        (repeat' split at h)<;>omega
    . subst hx
      rw[sgn_zero,Int.zero_mul,if_pos (Int.le_refl _)] at h
      right
      refine⟨?_,by have:=Int.mul_nonneg (sqz_nn y) hd;omega⟩
      rcases (show y<0\/0<=y by omega) with hy|hy
      . rw[sgn_neg hy] at h;exfalso;revert h;decide
      . exact hy
    . rw [sgn_pos hx] at h
      rcases Int.lt_trichotomy y 0 with hy|hy|hy
      . rw [sgn_neg hy, if_neg (by decide)] at h
        left
        refine⟨by omega,?_⟩
        unfold cmpZ at h
        (repeat' split at h)<;>omega
      . subst hy
        exact Su.int (by omega)
      . unfold Su
        omega
  . subst h0
    rw[sgn_zero,Int.mul_zero,Int.mul_zero,if_pos (Int.le_refl _)] at h
    left
    refine⟨?_,by have:=sqz_nn x;simpa using this⟩
    rcases (show x<0\/0<=x by omega) with hx|hx
    . rw[sgn_neg hx] at h;exfalso;revert h;decide
    . exact hx
theorem side_su{d x y:Int}(hd:0<=d)(h:Su d x y):0<=sideZ x y d:=side_ge hd h
theorem side_bd2(x y d:Int):sideZ x y d = -1\/sideZ x y d=0\/sideZ x y d=1:=by
 unfold sideZ
 have:=cmpZ_cases (x*x) (y*y*d)
 rcases sgn_cases x with⟨h1,_⟩|⟨h1,_⟩|⟨h1,_⟩<;>rw[h1]<;>split<;>omega
def inKK(p q e f x y:Int):Prop:=0<=x/\0<=y/\0<=e*(x-p)/\0<=f*(y-q)
def gF(p q r s x y:Int):Int:=2*(p*x+q*y)-(p*p+q*q-r*r+s*s)
structure OnL (p q r s e f k x y:Int):Prop where
 k0:0<k
 l:2*(p*x+q*y)=k*(p*p+q*q-r*r+s*s)
 x0:0<=x
 y0:0<=y
 ex:0<=e*(x-k*p)
 fy:0<=f*(y-k*q)
def LIa(p q r s e f:Int):Prop:=∃k x y,OnL p q r s e f k x y/\x*x+y*y<=k*k*(s*s)
def LOa(p q r s e f:Int):Prop:=∃k x y,OnL p q r s e f k x y/\k*k*(s*s)<=x*x+y*y
theorem gF_eq(p q r s x y:Int):gF p q r s x y=(x*x+y*y-s*s)-((x-p)*(x-p)+(y-q)*(y-q)-r*r):=by unfold gF;grind
def opp(a b:Int):Prop:=a<=0/\0<=b\/0<=a/\b<=0
theorem opp_mix{a b:Int}(h:opp a b):∃α β:Int,0<=α/\0<=β/\0<α+β/\α*a+β*b=0:=by
 by_cases h0:a=0
 ·exact⟨1,0,by decide,by decide,by decide,by rw[h0];simp⟩
 ·rcases h with ⟨h1, h2⟩ | ⟨h1, h2⟩
  ·exact⟨b,-a,h2,by omega,by omega,by grind⟩
  ·exact⟨-b,a,by omega,h1,by omega,by grind⟩
theorem opp.trans{a c:Int}(h:opp a c)(b:Int):opp a b\/opp b c:=by unfold opp at *;omega
theorem onL_mix{p q r s e f x y z w α β:Int}(h1:inKK p q e f x y)(h2:inKK p q e f z w)(ha:0<=α)(hb:0<=β)(hk:0<α+β)(h:α*gF p q r s x y+β*gF p q r s z w=0):OnL p q r s e f (α+β) (α*x+β*z) (α*y+β*w):=by
 obtain⟨a1,a2,a3,a4⟩:=h1
 obtain⟨b1,b2,b3,b4⟩:=h2
 refine⟨hk,?_,?_,?_,?_,?_⟩
 ·unfold gF at h;grind
 ·have:=Int.mul_nonneg ha a1;have:=Int.mul_nonneg hb b1;omega
 ·have:=Int.mul_nonneg ha a2;have:=Int.mul_nonneg hb b2;omega
 ·have := Int.mul_nonneg ha a3; have := Int.mul_nonneg hb b3
  have e:e*(α*x+β*z-(α+β)*p)=α*(e*(x-p))+β*(e*(z-p)):=by grind
  omega
 ·have := Int.mul_nonneg ha a4; have := Int.mul_nonneg hb b4
  have e:f*(α*y+β*w-(α+β)*q)=α*(f*(y-q))+β*(f*(w-q)):=by grind
  omega
theorem mix_in{α β x y z w R:Int}(ha:0<=α)(hb:0<=β)(h1:x*x+y*y<=R)(h2:z*z+w*w<=R):(α*x+β*z)*(α*x+β*z)+(α*y+β*w)*(α*y+β*w)<=(α+β)*(α+β)*R:=by
 have e:(α+β)*(α+β)*R-((α*x+β*z)*(α*x+β*z)+(α*y+β*w)*(α*y+β*w))=(α*α+α*β)*(R-(x*x+y*y))+(β*β+α*β)*(R-(z*z+w*w))+α*β*((x-z)*(x-z)+(y-w)*(y-w)):=by grind
 have ab:=Int.mul_nonneg ha hb
 have n1:=Int.mul_nonneg (show 0<=α*α+α*β by have:=sqz_nn α;omega) (show 0<=R-(x*x+y*y) by omega)
 have n2:=Int.mul_nonneg (show 0<=β*β+α*β by have:=sqz_nn β;omega) (show 0<=R-(z*z+w*w) by omega)
 have n3:=Int.mul_nonneg ab (show 0<=(x-z)*(x-z)+(y-w)*(y-w) by have:=sqz_nn (x-z);have:=sqz_nn (y-w);omega)
 omega
theorem mix_out{α β x y z w R:Int}(ha:0<=α)(hb:0<=β)(h1:R<=x*x+y*y)(h2:0<=x*(z-x)+y*(w-y)):(α+β)*(α+β)*R<=(α*x+β*z)*(α*x+β*z)+(α*y+β*w)*(α*y+β*w):=by
 have e:(α*x+β*z)*(α*x+β*z)+(α*y+β*w)*(α*y+β*w)-(α+β)*(α+β)*R=(α+β)*(α+β)*(x*x+y*y-R)+2*((α+β)*β*(x*(z-x)+y*(w-y)))+β*β*((z-x)*(z-x)+(w-y)*(w-y)):=by grind
 have n1:=Int.mul_nonneg (sqz_nn (α+β)) (show 0<=x*x+y*y-R by omega)
 have n2:=Int.mul_nonneg (Int.mul_nonneg (show 0<=α+β by omega) hb) h2
 have n3:=Int.mul_nonneg (sqz_nn β) (show 0<=(z-x)*(z-x)+(w-y)*(w-y) by have:=sqz_nn (z-x);have:=sqz_nn (w-y);omega)
 omega
theorem onL_two{p q r s e f k x y:Int}(h:OnL p q r s e f k x y):x*x+y*y-k*k*(s*s)=(x-k*p)*(x-k*p)+(y-k*q)*(y-k*q)-k*k*(r*r):=by
 have:=h.l
 have e1:(x-k*p)*(x-k*p)+(y-k*q)*(y-k*q)=x*x+y*y-k*(2*(p*x+q*y))+k*k*(p*p+q*q):=by grind
 rw[e1,this]
 grind
theorem leg_b{p q r s e f x y z w:Int}(h1:inKK p q e f x y)(h2:inKK p q e f z w)(h:opp (gF p q r s x y) (gF p q r s z w))(i1:x*x+y*y<=s*s)(i2:z*z+w*w<=s*s):LIa p q r s e f:=by
 obtain⟨α,β,ha,hb,hk,hg⟩:=opp_mix h
 exact⟨_,_,_,onL_mix h1 h2 ha hb hk hg,mix_in ha hb i1 i2⟩
theorem leg_a{p q r s e f x y z w:Int}(h1:inKK p q e f x y)(h2:inKK p q e f z w)(h:opp (gF p q r s x y) (gF p q r s z w))(i1:(x-p)*(x-p)+(y-q)*(y-q)<=r*r)(i2:(z-p)*(z-p)+(w-q)*(w-q)<=r*r):LIa p q r s e f:=by
 obtain⟨α,β,ha,hb,hk,hg⟩:=opp_mix h
 have L:=onL_mix h1 h2 ha hb hk hg
 refine⟨_,_,_,L,?_⟩
 have t:=onL_two L
 have m:=mix_in ha hb i1 i2
 have e1:α*x+β*z-(α+β)*p=α*(x-p)+β*(z-p):=by grind
 have e2:α*y+β*w-(α+β)*q=α*(y-q)+β*(w-q):=by grind
 rw[e1,e2] at t
 omega
theorem out_b{p q r s e f x y z w:Int}(h1:inKK p q e f x y)(h2:inKK p q e f z w)(h:opp (gF p q r s x y) (gF p q r s z w))(i1:s*s<=x*x+y*y)(i2:0<=x*(z-x)+y*(w-y)):LOa p q r s e f:=by
 obtain⟨α,β,ha,hb,hk,hg⟩:=opp_mix h
 exact⟨_,_,_,onL_mix h1 h2 ha hb hk hg,mix_out ha hb i1 i2⟩
theorem out_a{p q r s e f x y z w:Int}(h1:inKK p q e f x y)(h2:inKK p q e f z w)(h:opp (gF p q r s x y) (gF p q r s z w))(i1:r*r<=(x-p)*(x-p)+(y-q)*(y-q))(i2:0<=(x-p)*(z-x)+(y-q)*(w-y)):LOa p q r s e f:=by
 obtain⟨α,β,ha,hb,hk,hg⟩:=opp_mix h
 have L:=onL_mix h1 h2 ha hb hk hg
 refine⟨_,_,_,L,?_⟩
 have t:=onL_two L
 have m:=mix_out (z:=z-p) (w:=w-q) ha hb i1 (by rw[show z-p-(x-p)=z-x by omega,show w-q-(y-q)=w-y by omega];exact i2)
 have e1:α*x+β*z-(α+β)*p=α*(x-p)+β*(z-p):=by grind
 have e2:α*y+β*w-(α+β)*q=α*(y-q)+β*(w-q):=by grind
 rw[e1,e2] at t
 omega
theorem opp.symm{a b:Int}(h:opp a b):opp b a:=by unfold opp at *;omega
theorem OnL.swap{p q r s e f k x y:Int}(h:OnL p q r s e f k x y):OnL q p r s f e k y x:=⟨h.k0,by have:=h.l;grind,h.y0,h.x0,h.fy,h.ex⟩
theorem LIa.swap{p q r s e f:Int}(h:LIa p q r s e f):LIa q p r s f e:=by
 obtain⟨k,x,y,h1,h2⟩:=h
 exact⟨k,y,x,h1.swap,by omega⟩
theorem LOa.swap{p q r s e f:Int}(h:LOa p q r s e f):LOa q p r s f e:=by
 obtain⟨k,x,y,h1,h2⟩:=h
 exact⟨k,y,x,h1.swap,by omega⟩

set_option maxHeartbeats 4000000
section
structure Axes (u1 u2 v1 v2:Int):Prop where
  uu:u1*u1+u2*u2=1
  vv:v1*v1+v2*v2=1
  uv:u1*v1+u2*v2=0
  dt:∀a b c d:Int,a*c+b*d=(a*u1+b*u2)*(c*u1+d*u2)+(a*v1+b*v2)*(c*v1+d*v2)
theorem Axes.sq{u1 u2 v1 v2:Int}(h:Axes u1 u2 v1 v2){x y X Y:Int}(hx:x*u1+y*u2=X)(hy:x*v1+y*v2=Y):sqI x y=sqI X Y:=by
  unfold sqI
  rw[h.dt x y x y,hx,hy]
theorem lag(D1 D2 z1 z2 w1 w2:Int):(D1*z1+D2*z2)*(D1*w1+D2*w2)+(-D2*z1+D1*z2)*(-D2*w1+D1*w2)=(D1*D1+D2*D2)*(z1*w1+z2*w2):=by grind
theorem coN{P Q a b c d u v X:Int}(h:(a-b)*u+(c-d)*v=X)(h1:b-a=P)(h2:d-c=Q):P*u+Q*v=0-X:=by rw[<- h,<- h1,<- h2];grind
theorem vec_u{X Y u1 u2 v1 v2 w1 w2 s t:Int}(h1:u1*w1+u2*w2=s)(h2:v1*w1+v2*w2=t):(X*u1+Y*v1)*w1+(X*u2+Y*v2)*w2=X*s+Y*t:=by rw[<- h1,<- h2];grind
theorem lagK{D1 D2 z1 z2 w1 w2 k K S:Int}(dz:2*(D1*z1+D2*z2)=k*K)(hS:D1*D1+D2*D2=S):k*(K*(D1*w1+D2*w2))+(-D2*w1+D1*w2)*(2*(-D2*z1+D1*z2))=2*(S*(z1*w1+z2*w2)):=by
  have:=lag D1 D2 z1 z2 w1 w2
  rw[hS] at this
  have e1:k*(K*(D1*w1+D2*w2))=2*(D1*z1+D2*z2)*(D1*w1+D2*w2):=by rw[dz];grind
  rw[e1];grind
theorem lagS{D1 D2 z1 z2 k K S R:Int}(dz:2*(D1*z1+D2*z2)=k*K)(hS:D1*D1+D2*D2=S)(hR:z1*z1+z2*z2=R):2*(-D2*z1+D1*z2)*(2*(-D2*z1+D1*z2))=4*S*R-k*k*(K*K):=by
  have:=lag D1 D2 z1 z2 z1 z2
  rw[<- hR,<- hS]
  have e1:k*k*(K*K)=2*(D1*z1+D2*z2)*(2*(D1*z1+D2*z2)):=by rw[dz];grind
  rw[e1];grind
theorem lag3{k K S d g t x p:Int}(e1:k*(K*d)+g*t=2*(S*(x-k*p)))(hd:d=0-p):k*((K-2*S)*d)+g*t=2*(S*x):=by
  have e2:k*((K-2*S)*d)=k*(K*d)-2*(S*(k*d)):=by grind
  have e3:S*(x-k*p)=S*x+S*(k*d):=by rw[hd];grind
  rw[e2];omega
theorem line_z{a b:Ed}{p q e f k x y:Int}(AX:Axes b.ux b.uy b.vx b.vy)(Du:(b.cx-a.cx)*b.ux+(b.cy-a.cy)*b.uy=0-p)(Dv:(b.cx-a.cx)*b.vx+(b.cy-a.cy)*b.vy=0-q)
    (KK:∀x y X Y:Int,x*b.ux+y*b.uy=X->x*b.vx+y*b.vy=Y->((0<=x*a.ux+y*a.uy/\0<=x*a.vx+y*a.vy) <-> (0<=e*X/\0<=f*Y))) (sD:sqI (b.cx-a.cx) (b.cy-a.cy)=p*p+q*q) (L:OnL p q (radZ a) (radZ b) e f k x y) :
    ∃t:Int,t*t=4*(p*p+q*q)*((x-k*p)*(x-k*p)+(y-k*q)*(y-k*q))-k*k*((aaE a b).k*(aaE a b).k)/\(∀z∈(aaE a b).list,0<=k*z.1+z.2*t):=by
  have uv:=AX.uv
  have vu:b.vx*b.ux+b.vy*b.uy=0:=by rw[Int.mul_comm b.vx,Int.mul_comm b.vy];exact uv
  have c1:=vec_u (X:=x-k*p) (Y:=y-k*q) AX.uu vu
  have c2:=vec_u (X:=x-k*p) (Y:=y-k*q) uv AX.vv
  rw[Int.mul_one,Int.mul_zero,Int.add_zero] at c1
  rw[Int.mul_one,Int.mul_zero,Int.zero_add] at c2
  generalize (x-k*p)*b.ux+(y-k*q)*b.vx=z1 at *
  generalize (x-k*p)*b.uy+(y-k*q)*b.vy=z2 at *
  obtain⟨q1,q2⟩:=(KK z1 z2 _ _ c1 c2).2 ⟨L.ex,L.fy⟩
  obtain⟨D1,hD1⟩:∃D1,b.cx-a.cx=D1:=⟨_,rfl⟩
  obtain⟨D2,hD2⟩:∃D2,b.cy-a.cy=D2:=⟨_,rfl⟩
  have hS:D1*D1+D2*D2=p*p+q*q:=by rw[<- sD,hD1,hD2];rfl
  rw[hD1,hD2] at Du Dv
  have hL:(aaE a b).list=[((aaE a b).k*(D1*a.ux+D2*a.uy),-D2*a.ux+D1*a.uy),((aaE a b).k*(D1*a.vx+D2*a.vy),-D2*a.vx+D1*a.vy),(((aaE a b).k-2*(p*p+q*q))*(D1*b.ux+D2*b.uy),-D2*b.ux+D1*b.uy),(((aaE a b).k-2*(p*p+q*q))*(D1*b.vx+D2*b.vy),-D2*b.vx+D1*b.vy)]:=by
    rw[<- hS,<- hD1,<- hD2];rfl
  have hK:(aaE a b).k=p*p+q*q-(radZ b*radZ b-radZ a*radZ a):=by
    unfold AA.k aaE;simp only;rw[hD1,hD2,hS]
  have dz:2*(D1*z1+D2*z2)=k*(aaE a b).k:=by
    have:=AX.dt D1 D2 z1 z2
    rw[Du,Dv,c1,c2] at this
    have l:=L.l
    rw[this,hK]
    grind
  have S0:0<=p*p+q*q:=by have:=sqz_nn p;have:=sqz_nn q;omega
  have sz:z1*z1+z2*z2=(x-k*p)*(x-k*p)+(y-k*q)*(y-k*q):=by rw[AX.dt z1 z2 z1 z2,c1,c2]
  have mm:∀t:Int,0<=t->0<=2*((p*p+q*q)*t):=fun t ht=>by have:=Int.mul_nonneg S0 ht;omega
  refine⟨2*(-D2*z1+D1*z2),lagS dz hS sz,fun z hzl=>?_⟩
  rw[hL] at hzl
  simp only[List.mem_cons,List.not_mem_nil,or_false] at hzl
  rcases hzl with rfl|rfl|rfl|rfl
  . simp only;rw[lagK dz hS];exact mm _ q1
  . simp only;rw[lagK dz hS];exact mm _ q2
  . have e1 := lagK (w1 := b.ux) (w2 := b.uy) dz hS
    rw[c1] at e1
    simp only
    rw[lag3 e1 Du]
    exact mm x L.x0
  . have e1 := lagK (w1 := b.vx) (w2 := b.vy) dz hS
    rw[c2] at e1
    simp only
    rw[lag3 e1 Dv]
    exact mm y L.y0
end

section
def Beyo(r h g:Int):Prop:=0<=h/\r*r<h*h+g*g
def Befo(r h g:Int):Prop:=h<0\/h*h+g*g<r*r
theorem opp3{a b c:Int}(h:opp a c):opp a b\/opp b c:=opp.trans h b
theorem kk4{p q e f x y:Int}(h1:0<=x:=by omega)(h2:0<=y:=by omega)(h3:0<=e*(x-p):=by omega)(h4:0<=f*(y-q):=by omega):inKK p q e f x y:=⟨h1,h2,h3,h4⟩
theorem opL{p q r s x y z w:Int}(h1:gF p q r s x y<=0:=by unfold gF;grind)(h2:0<=gF p q r s z w:=by unfold gF;grind):opp (gF p q r s x y) (gF p q r s z w):=.inl ⟨h1,h2⟩
theorem opR2{p q r s x y z w:Int}(h1:0<=gF p q r s x y:=by unfold gF;grind)(h2:gF p q r s z w<=0:=by unfold gF;grind):opp (gF p q r s x y) (gF p q r s z w):=.inr ⟨h1,h2⟩
theorem lgB{p q r s e f x y z w:Int}(h1:inKK p q e f x y)(h2:inKK p q e f z w)(h:opp (gF p q r s x y) (gF p q r s z w))(i1:x*x+y*y<=s*s:=by grind)(i2:z*z+w*w<=s*s:=by grind):LIa p q r s e f:=leg_b h1 h2 h i1 i2
theorem lgA{p q r s e f x y z w:Int}(h1:inKK p q e f x y)(h2:inKK p q e f z w)(h:opp (gF p q r s x y) (gF p q r s z w))(i1:(x-p)*(x-p)+(y-q)*(y-q)<=r*r:=by grind)(i2:(z-p)*(z-p)+(w-q)*(w-q)<=r*r:=by grind):LIa p q r s e f:=leg_a h1 h2 h i1 i2
theorem ouB{p q r s e f x y z w:Int}(h1:inKK p q e f x y)(h2:inKK p q e f z w)(h:opp (gF p q r s x y) (gF p q r s z w))(i1:s*s<=x*x+y*y:=by grind)(i2:0<=x*(z-x)+y*(w-y):=by grind):LOa p q r s e f:=out_b h1 h2 h i1 i2
theorem ouA{p q r s e f x y z w:Int}(h1:inKK p q e f x y)(h2:inKK p q e f z w)(h:opp (gF p q r s x y) (gF p q r s z w))(i1:r*r<=(x-p)*(x-p)+(y-q)*(y-q):=by grind)(i2:0<=(x-p)*(z-x)+(y-q)*(w-y):=by grind):LOa p q r s e f:=out_a h1 h2 h i1 i2
section
variable {p q r s:Int}
theorem arc_po(r0:0<r)(s0:0<s)(q1 : -r<=q)(q0:q<=0)(g0:0<=q+r)(g1:q+r<=s)(M:LIa p q r s 1 1->LOa p q r s 1 1->False)
  (h:(s<p\/(s-p)*(s-p)+q*q<r*r)/\(p<0\/p*p+(q+r)*(q+r)<s*s)\/(p<=s/\r*r<(s-p)*(s-p)+q*q)/\(0<=p/\s*s<p*p+(q+r)*(q+r))):False:=by
 have hs:(q+r)*(q+r)<=s*s:=sq_up g0 g1
 have hq:q*q<=r*r:=by have:=sq_up (a := -q) (b:=r) (by omega) (by omega);grind
 have pp:=sqz_nn p
 have tt:=sqz_nn (q+r)
 rcases h with⟨h1,h2⟩|⟨⟨h1,h2⟩,h3,h4⟩
 ·have n1:¬s<p:=fun g=>by
   rcases h2 with h2|h2
   ·omega
   ·have:=sq_up (a:=s) (b:=p) (by omega) (by omega);grind
  have hB:(s-p)*(s-p)+q*q<r*r:=h1.resolve_left n1
  by_cases hp:0<=p
  ·have hT : p * p + (q + r) * (q + r) < s * s := h2.resolve_left (by omega)
   have kB:inKK p q 1 1 s 0:=kk4
   have kT:inKK p q 1 1 p (q+r):=kk4
   have kK:inKK p q 1 1 s (q+r):=kk4
   have o:opp (gF p q r s s 0) (gF p q r s p (q+r)):=opR2
   refine M (lgB kB kT o) ?_
   rcases opp3 (b:=gF p q r s s (q+r)) o with o|o
   ·exact ouB kB kK o
   ·exact ouA kT kK o.symm
  ·have kB : inKK p q 1 1 s 0 := kk4
   have kT:inKK p q 1 1 0 (q+r):=kk4
   have kK:inKK p q 1 1 s (q+r):=kk4
   have o:opp (gF p q r s s 0) (gF p q r s 0 (q+r)):=opR2
   have ps:0 <= -p*s:=Int.mul_nonneg (by omega) (by omega)
   refine M (lgB kB kT o) ?_
   rcases opp3 (b:=gF p q r s s (q+r)) o with o|o
   ·exact ouB kB kK o
   ·exact ouA kT kK o.symm
 ·have kB : inKK p q 1 1 s 0 := kk4
  have kT:inKK p q 1 1 p (q+r):=kk4
  have kK:inKK p q 1 1 s (q+r):=kk4
  have kI:inKK p q 1 1 p 0:=kk4
  have o:opp (gF p q r s s 0) (gF p q r s p (q+r)):=opL
  have ps:p*p<=s*s:=sq_up h3 h1
  refine M ?_ ?_
  ·rcases opp3 (b := gF p q r s p 0) o with o | o
   ·exact lgB kB kI o
   ·exact lgA kI kT o
  ·rcases opp3 (b := gF p q r s s (q + r)) o with o | o
   ·exact ouB kB kK o
   ·exact ouA kT kK o.symm
theorem arc_pm(r0:0<r)(s0:0<s)(q1 : -r<=q)(q0:q<=0)(g0:0<=q+r)(g1:q+r<=s)(M:LIa p q r s (-1) 1->LOa p q r s (-1) 1->False)
  (h:(s<=p/\r*r<(s-p)*(s-p)+q*q)/\(p<0\/p*p+(q+r)*(q+r)<s*s)\/(p<s\/(s-p)*(s-p)+q*q<r*r)/\(0<=p/\s*s<p*p+(q+r)*(q+r))):False:=by
 have hs:(q+r)*(q+r)<=s*s:=sq_up g0 g1
 have hq:q*q<=r*r:=by have:=sq_up (a := -q) (b:=r) (by omega) (by omega);grind
 have pp:=sqz_nn p
 have tt:=sqz_nn (q+r)
 rcases h with⟨⟨h1,h2⟩,h3⟩|⟨h1,h3,h4⟩
 ·rcases h3 with h3 | h3
  ·omega
  ·have:=sq_up (a:=s) (b:=p) (by omega) (by omega);grind
 ·have kT : inKK p q (-1) 1 p (q + r) := kk4
  have kV:inKK p q (-1) 1 0 (q+r):=kk4
  have oT:opp (gF p q r s p (q+r)) (gF p q r s 0 (q+r)):=opR2
  have L2:=ouA kT kV oT
  by_cases hsp:s<=p
  ·have h1 : (s - p) * (s - p) + q * q < r * r := h1.resolve_left (by omega)
   have kB:inKK p q (-1) 1 s 0:=kk4
   exact M (lgB kV kB (opL)) L2
  ·have kW : inKK p q (-1) 1 p 0 := kk4
   have ps:p*p<=s*s:=sq_up h3 (by omega)
   refine M ?_ L2
   rcases Int.le_total 0 (gF p q r s p 0) with g|g
   ·exact lgB kV kW (.inl ⟨by unfold gF;grind,g⟩)
   ·exact lgA kW kT (.inl ⟨g,by unfold gF;grind⟩)
theorem arc_ep(r0:0<r)(s0:0<s)(q0:0<=q)(q1:q<=r)(q2:q<=s)(M:LIa p q r s 1 (-1)->LOa p q r s 1 (-1)->False)
  (h:(s<p\/(s-p)*(s-p)+q*q<r*r)/\(p+r<0\/(p+r)*(p+r)+q*q<s*s)\/(p<=s/\r*r<(s-p)*(s-p)+q*q)/\(0<=p+r/\s*s<(p+r)*(p+r)+q*q)):False:=by
 have hq:q*q<=r*r:=sq_up q0 q1
 have hs:q*q<=s*s:=sq_up q0 q2
 have pp:=sqz_nn p
 have qq:=sqz_nn q
 rcases h with⟨h1,h2⟩|⟨⟨h1,h2⟩,h3,h4⟩
 ·rcases h2 with h2 | h2
  ·rcases h1 with h1 | h1
   ·omega
   ·have:=sq_up (a:=r) (b:=s-p) (by omega) (by omega);grind
  ·have l1:p+r<s:=by
    rcases Int.lt_or_le (p+r) s with g|g
    ·exact g
    ·have:=sq_up (a:=s) (b:=p+r) (by omega) g;grind
   rcases h1 with h1|h1
   ·omega
   ·have:=sq_up (a:=r) (b:=s-p) (by omega) (by omega);grind
 ·have kB : inKK p q 1 (-1) s 0 := kk4
  have kE:inKK p q 1 (-1) (p+r) q:=kk4
  have o:opp (gF p q r s s 0) (gF p q r s (p+r) q):=opL
  refine M ?_ ?_
  ·by_cases hp : 0 <= p
   ·have kI : inKK p q 1 (-1) p 0 := kk4
    have ps:p*p<=s*s:=sq_up hp h1
    rcases opp3 (b:=gF p q r s p 0) o with o|o
    ·exact lgB kB kI o
    ·exact lgA kI kE o
   ·have kI : inKK p q 1 (-1) 0 q := kk4
    have pr:p*p<=r*r:=by have:=sq_up (a := -p) (b:=r) (by omega) (by omega);grind
    rcases opp3 (b:=gF p q r s 0 q) o with o|o
    ·exact lgB kB kI o
    ·exact lgA kI kE o
  ·obtain ⟨X, x1, x2⟩ : ∃ X, s <= X /\ p + r <= X := ⟨max s (p + r), by omega, by omega⟩
   have kK:inKK p q 1 (-1) X q:=kk4
   have m1:0<=s*(X-s):=Int.mul_nonneg (by omega) (by omega)
   have m2:0<=r*(X-p-r):=Int.mul_nonneg (by omega) (by omega)
   rcases opp3 (b:=gF p q r s X q) o with o|o
   ·exact ouB kB kK o
   ·exact ouA kE kK o.symm
theorem arc_em(r0:0<r)(s0:0<s)(q0:0<=q)(q1:q<=r)(q2:q<=s)(M:LIa p q r s (-1) (-1)->LOa p q r s (-1) (-1)->False)
  (h:(s<=p/\r*r<(s-p)*(s-p)+q*q)/\(p-r<0\/(p-r)*(p-r)+q*q<s*s)\/(p<s\/(s-p)*(s-p)+q*q<r*r)/\(0<=p-r/\s*s<(p-r)*(p-r)+q*q)):False:=by
 have hq:q*q<=r*r:=sq_up q0 q1
 have hs:q*q<=s*s:=sq_up q0 q2
 have pp:=sqz_nn p
 have qq:=sqz_nn q
 rcases h with⟨⟨h1,h2⟩,h3⟩|⟨h1,h3,h4⟩
 ·have ps : s * s <= p * p := sq_up (by omega) h1
  have kB:inKK p q (-1) (-1) s 0:=kk4
  have kP:inKK p q (-1) (-1) p q:=kk4
  have kW:inKK p q (-1) (-1) p 0:=kk4
  have m1:0<=s*(p-s):=Int.mul_nonneg (by omega) (by omega)
  refine M ?_ (ouB kB kW (opL))
  by_cases hp:0<=p-r
  ·have h3 : (p - r) * (p - r) + q * q < s * s := h3.resolve_left (by omega)
   have kE:inKK p q (-1) (-1) (p-r) q:=kk4
   exact lgA kE kP (opL)
  ·have kV : inKK p q (-1) (-1) 0 q := kk4
   have pr:p*p<=r*r:=sq_up (by omega) (by omega)
   rcases Int.le_total 0 (gF p q r s 0 q) with g|g
   ·exact lgB kV kB (.inr ⟨g,by unfold gF;grind⟩)
   ·exact lgA kV kP (.inl ⟨g,by unfold gF;grind⟩)
 ·have kE : inKK p q (-1) (-1) (p - r) q := kk4
  have kW:inKK p q (-1) (-1) (p-r) 0:=kk4
  have l1:p-r<s:=by
   rcases h1 with h1|h1
   ·omega
   ·rcases Int.lt_or_le (p - r) s with g | g
    ·exact g
    ·have:=sq_up (a:=r) (b:=p-s) (by omega) (by omega);grind
  have w1:(p-r)*(p-r)<=s*s:=sq_up h3 (by omega)
  have oE:opp (gF p q r s (p-r) q) (gF p q r s (p-r) 0):=opR2
  have L2:=ouA kE kW oE
  refine M ?_ L2
  by_cases hsp:s<=p
  ·have h1 : (s - p) * (s - p) + q * q < r * r := h1.resolve_left (by omega)
   have kB:inKK p q (-1) (-1) s 0:=kk4
   exact lgB kW kB (opL)
  ·have kZ : inKK p q (-1) (-1) p 0 := kk4
   have ps:p*p<=s*s:=sq_up (by omega) (by omega)
   rcases Int.le_total 0 (gF p q r s p 0) with g|g
   ·exact lgB kW kZ (.inl ⟨by unfold gF;grind,g⟩)
   ·exact lgA kZ kE (.inl ⟨g,by unfold gF;grind⟩)
theorem arc_pp(r0:0<r)(s0:0<s)(q0:0<=q-r)(q1:q-r<=s)(q2:s<=q)(M:LIa p q r s 1 (-1)->LOa p q r s 1 (-1)->False)
  (h:(p<0\/p*p+(q-r)*(q-r)<s*s)/\(0<p\/p*p+(s-q)*(s-q)<r*r)\/(0<=p/\s*s<p*p+(q-r)*(q-r))/\(p<=0/\r*r<p*p+(s-q)*(s-q))):False:=by
 have hs:(q-r)*(q-r)<=s*s:=sq_up q0 q1
 have ht:(s-q)*(s-q)<=r*r:=by have:=sq_up (a:=q-s) (b:=r) (by omega) (by omega);grind
 have pp:=sqz_nn p
 have t1:=sqz_nn (q-r)
 have t2:=sqz_nn (s-q)
 rcases h with⟨h1,h2⟩|⟨⟨h1,h2⟩,h3,h4⟩
 ·have kR:inKK p q 1 (-1) s (q-r)\/¬p<=s:=by
   by_cases g:p<=s
   ·exact .inl kk4
   ·exact .inr g
  have m3:0<=(q-r)*(s-(q-r)):=Int.mul_nonneg q0 (by omega)
  by_cases hp:0<p
  ·have h1 : p * p + (q - r) * (q - r) < s * s := h1.resolve_left (by omega)
   have lps:p<=s:=by
    rcases Int.lt_or_le s p with g|g
    ·have:=sq_up (a:=s) (b:=p) (by omega) (by omega);grind
    ·exact g
   have kR:inKK p q 1 (-1) s (q-r):=kR.resolve_right (fun g=>g lps)
   have kP:inKK p q 1 (-1) p (q-r):=kk4
   have kW:inKK p q 1 (-1) p s:=kk4
   have kS:inKK p q 1 (-1) s s:=kk4
   have m1:0<=p*(s-p):=Int.mul_nonneg (by omega) (by omega)
   refine M (lgA kP kW (opL)) ?_
   have o:opp (gF p q r s p (q-r)) (gF p q r s s s):=opL
   rcases opp3 (b:=gF p q r s s (q-r)) o with o|o
   ·exact ouA kP kR o
   ·exact ouB kR kS o
  ·have h2 : p * p + (s - q) * (s - q) < r * r := h2.resolve_left hp
   have kR:inKK p q 1 (-1) s (q-r):=kR.resolve_right (fun g=>g (by omega))
   have kU:inKK p q 1 (-1) 0 (q-r):=kk4
   have kB:inKK p q 1 (-1) 0 s:=kk4
   have kS:inKK p q 1 (-1) s s:=kk4
   have m1:0 <= -p*s:=Int.mul_nonneg (by omega) (by omega)
   have o:opp (gF p q r s 0 (q-r)) (gF p q r s 0 s):=opL
   refine M (lgB kU kB o) ?_
   rcases opp3 (b:=gF p q r s s (q-r)) o with o|o
   ·exact ouA kU kR o
   ·rcases opp3 (b := gF p q r s s s) o with o | o
    ·exact ouB kR kS o
    ·exact ouB kB kS o.symm
 ·obtain rfl : p = 0 := by omega
  grind
theorem arc_pn(r0:0<r)(s0:0<s)(q0:0<=q-r)(q1:q-r<=s)(q2:s<=q)(M:LIa p q r s (-1) (-1)->LOa p q r s (-1) (-1)->False)
  (h:(0<=p/\s*s<p*p+(q-r)*(q-r))/\(p<0\/p*p+(s-q)*(s-q)<r*r)\/(p<0\/p*p+(q-r)*(q-r)<s*s)/\(0<=p/\r*r<p*p+(s-q)*(s-q))):False:=by
 have hs:(q-r)*(q-r)<=s*s:=sq_up q0 q1
 have ht:(s-q)*(s-q)<=r*r:=by have:=sq_up (a:=q-s) (b:=r) (by omega) (by omega);grind
 have pp:=sqz_nn p
 have t1:=sqz_nn (q-r)
 have t2:=sqz_nn (s-q)
 rcases h with⟨⟨h1,h2⟩,h3⟩|⟨h3,h1,h2⟩
 ·have h3 : p * p + (s - q) * (s - q) < r * r := h3.resolve_left (by omega)
  have kP:inKK p q (-1) (-1) p (q-r):=kk4
  have kB:inKK p q (-1) (-1) 0 s:=kk4
  have kU:inKK p q (-1) (-1) 0 (q-r):=kk4
  exact M (lgB kU kB (opL)) (ouA kP kU (opR2))
 ·have h3 : p * p + (q - r) * (q - r) < s * s := h3.resolve_left (by omega)
  have kP:inKK p q (-1) (-1) p (q-r):=kk4
  have kB:inKK p q (-1) (-1) 0 s:=kk4
  have kW:inKK p q (-1) (-1) p s:=kk4
  exact M (lgA kP kW (opL)) (ouB kB kW (opL))
end
end

section
section
variable {p q r s f:Int}
theorem arc_ip(r0:0<r)(s0:0<s)(hf:f=1\/f = -1)(q0:0<=q)(q1:q<=s)(g0:0<=q+f*r)(g1:q+f*r<=s)(M:LIa p q r s 1 f->LOa p q r s 1 f->False)
  (h:Beyo s (p+r) q/\Befo s p (q+f*r)\/Befo s (p+r) q/\Beyo s p (q+f*r)):False:=by
 have ff:f*f=1:=by rcases hf with rfl|rfl<;>rfl
 have hq:q*q<=s*s:=sq_up q0 q1
 have hg:(q+f*r)*(q+f*r)<=s*s:=sq_up g0 g1
 have pp:=sqz_nn p
 have f1:f*(q-q)=0:=by grind
 have f2:f*(q+f*r-q)=r:=by grind
 have f3:(q+f*r-q)*(q+f*r-q)=r*r:=by grind
 unfold Beyo Befo at h
 by_cases hp:0<=p
 ·have kE : inKK p q 1 f (p + r) q := kk4
  have kP:inKK p q 1 f p (q+f*r):=kk4
  have kK:inKK p q 1 f (p+r) (q+f*r):=kk4
  have o:opp (gF p q r s (p+r) q) (gF p q r s p (q+f*r)):=by
   rw[gF_eq,gF_eq]
   rcases h with⟨h1,h2⟩|⟨h1,h2⟩
   ·exact .inr ⟨by grind,by grind⟩
   ·exact .inl ⟨by grind,by grind⟩
  refine M (lgA kE kP o) ?_
  rcases opp3 (b:=gF p q r s (p+r) (q+f*r)) o with o|o
  ·exact ouA kE kK o
  ·exact ouA kP kK o.symm
 ·rcases h with ⟨⟨h1, h2⟩, _⟩ | ⟨_, h1, _⟩
  ·have kE : inKK p q 1 f (p + r) q := kk4
   have kU:inKK p q 1 f 0 (q+f*r):=kk4
   have kV:inKK p q 1 f 0 q:=kk4
   have kK:inKK p q 1 f (p+r) (q+f*r):=kk4
   have pr:p*p<=r*r:=by have:=sq_up (a := -p) (b:=r) (by omega) (by omega);grind
   have m1:0 <= -p*(p+r):=Int.mul_nonneg (by omega) h1
   have oE:0<=gF p q r s (p+r) q:=by rw[gF_eq];grind
   have oU:gF p q r s 0 (q+f*r)<=0:=by rw[gF_eq];grind
   refine M ?_ ?_
   ·rcases Int.le_total 0 (gF p q r s 0 q) with g | g
    ·exact lgB kV kU (.inr ⟨g,oU⟩)
    ·exact lgA kV kE (.inl ⟨g,oE⟩)
   ·rcases opp3 (b := gF p q r s (p + r) (q + f * r)) (show opp (gF p q r s 0 (q + f * r)) (gF p q r s (p + r) q) from .inl ⟨oU, oE⟩) with o | o
    ·exact ouA kU kK o
    ·exact ouA kE kK o.symm
  ·omega
theorem arc_im(r0:0<r)(s0:0<s)(hf:f=1\/f = -1)(q0:0<=q)(q1:q<=s)(g0:0<=q+f*r)(g1:q+f*r<=s)(M:LIa p q r s (-1) f->LOa p q r s (-1) f->False)
  (h:Beyo s (p-r) q/\Befo s p (q+f*r)\/Befo s (p-r) q/\Beyo s p (q+f*r)):False:=by
 have ff:f*f=1:=by rcases hf with rfl|rfl<;>rfl
 have hq:q*q<=s*s:=sq_up q0 q1
 have hg:(q+f*r)*(q+f*r)<=s*s:=sq_up g0 g1
 have pp:=sqz_nn p
 have f1:f*(q-q)=0:=by grind
 have f2:f*(q+f*r-q)=r:=by grind
 have f3:(q+f*r-q)*(q+f*r-q)=r*r:=by grind
 unfold Beyo Befo at h
 by_cases hp:0<=p-r
 ·have kE : inKK p q (-1) f (p - r) q := kk4
  have kP:inKK p q (-1) f p (q+f*r):=kk4
  have kK:inKK p q (-1) f (p-r) (q+f*r):=kk4
  have o:opp (gF p q r s (p-r) q) (gF p q r s p (q+f*r)):=by
   rw[gF_eq,gF_eq]
   rcases h with⟨h1,h2⟩|⟨h1,h2⟩
   ·exact .inr ⟨by grind,by grind⟩
   ·exact .inl ⟨by grind,by grind⟩
  refine M (lgA kE kP o) ?_
  rcases opp3 (b:=gF p q r s (p-r) (q+f*r)) o with o|o
  ·exact ouA kE kK o
  ·exact ouA kP kK o.symm
 ·rcases h with ⟨⟨h1, h2⟩, _⟩ | ⟨_, h1, h2⟩
  ·omega
  ·have kP : inKK p q (-1) f p (q + f * r) := kk4
   have kU:inKK p q (-1) f 0 q:=kk4
   have kV:inKK p q (-1) f 0 (q+f*r):=kk4
   have pr:p*p<=r*r:=sq_up h1 (by omega)
   have oP:0<=gF p q r s p (q+f*r):=by rw[gF_eq];grind
   have oV:gF p q r s 0 (q+f*r)<=0:=by rw[gF_eq];grind
   refine M ?_ (ouA kP kV (.inr ⟨oP,oV⟩))
   rcases Int.le_total 0 (gF p q r s 0 q) with g|g
   ·exact lgB kU kV (.inr ⟨g,oV⟩)
   ·exact lgA kU kP (.inl ⟨g,oP⟩)
end
end
theorem arcs_meet{a b:Ed}(oa:a.ok=true)(ob:b.ok=true)(ka:¬a.k=1)(kb:¬b.k=1)(hm:countE a b=0){p q e f:Int}(hp:(a.cx-b.cx)*b.ux+(a.cy-b.cy)*b.uy=p)(hq:(a.cx-b.cx)*b.vx+(a.cy-b.cy)*b.vy=q)
    (KK:∀x y X Y:Int,x*b.ux+y*b.uy=X->x*b.vx+y*b.vy=Y->((0<=x*a.ux+y*a.uy/\0<=x*a.vx+y*a.vy) <-> (0<=e*X/\0<=f*Y))):LIa p q (radZ a) (radZ b) e f->LOa p q (radZ a) (radZ b) e f->¬(p=0/\q=0)->False:=by
  obtain⟨s0,b1,b2,b3,b4,uu,vv,uv,dt,_,bT⟩:=arc_frame ob kb
  have AX:Axes b.ux b.uy b.vx b.vy:=⟨uu,vv,uv,dt⟩
  have Du:(b.cx-a.cx)*b.ux+(b.cy-a.cy)*b.uy=0-p:=coN hp rfl rfl
  have Dv:(b.cx-a.cx)*b.vx+(b.cy-a.cy)*b.vy=0-q:=coN hq rfl rfl
  have sD:sqI (b.cx-a.cx) (b.cy-a.cy)=p*p+q*q:=by rw[AX.sq Du Dv];unfold sqI;grind
  rintro⟨k1,x1,y1,L1,I1⟩ ⟨k2,x2,y2,L2,I2⟩ hz
  have nc:¬(a.cx=b.cx/\a.cy=b.cy):=fun ⟨g1,g2⟩=>hz ⟨by rw[<- hp,g1,g2];simp,by rw[<- hq,g1,g2];simp⟩
  have hA:arcsZ a b=0:=by
    unfold countE at hm
    rw[oa,ob] at hm
    simpa[ka,kb] using hm
  unfold arcsZ at hA
  rw[if_neg nc,countZ_eq] at hA
  obtain⟨t1,T1,C1⟩:=line_z AX Du Dv KK sD L1
  obtain⟨t2,T2,C2⟩:=line_z AX Du Dv KK sD L2
  have w1:=onL_two L1
  have w2:=onL_two L2
  have S0:0<=p*p+q*q:=by have:=sqz_nn p;have:=sqz_nn q;omega
  obtain⟨K,hK⟩:∃K,(aaE a b).k=K:=⟨_,rfl⟩
  have hD:(aaE a b).delta=4*(p*p+q*q)*(radZ a*radZ a)-K*K:=by
    rw[<- sD,<- hK];rfl
  obtain⟨d,hd⟩:∃d,(aaE a b).delta=d:=⟨_,rfl⟩
  rw[hd] at hA hD
  rw[hK] at T1 T2
  have k10:=L1.k0
  have k20:=L2.k0
  have i1:t1*t1<=k1*k1*d:=by
    have m:=Int.mul_le_mul_of_nonneg_left (show (x1-k1*p)*(x1-k1*p)+(y1-k1*q)*(y1-k1*q)<=k1*k1*(radZ a*radZ a) by omega) (show 0<=4*(p*p+q*q) by omega)
    have e1:k1*k1*d=4*(p*p+q*q)*(k1*k1*(radZ a*radZ a))-k1*k1*(K*K):=by rw[hD];grind
    omega
  have i2:k2*k2*d<=t2*t2:=by
    have m:=Int.mul_le_mul_of_nonneg_left (show k2*k2*(radZ a*radZ a)<=(x2-k2*p)*(x2-k2*p)+(y2-k2*q)*(y2-k2*q) by omega) (show 0<=4*(p*p+q*q) by omega)
    have e1:k2*k2*d=4*(p*p+q*q)*(k2*k2*(radZ a*radZ a))-k2*k2*(K*K):=by rw[hD];grind
    omega
  have d0:0<=d:=by
    have:=sqz_nn t1
    rcases Int.lt_or_le d 0 with g|g
    . have:=Int.mul_neg_of_pos_of_neg (Int.mul_pos k10 k10) g;omega
    . exact g
  obtain⟨σ,hσ,hσ'⟩:∃σ:Int,(σ=1\/σ = -1)/\(σ=1/\0<=k1*t2\/σ = -1/\k1*t2<=0):=by
    rcases Int.le_total 0 (k1*t2) with g|g
    . exact⟨1,.inl rfl,.inl ⟨rfl,g⟩⟩
    . exact⟨-1,.inr rfl,.inr ⟨rfl,g⟩⟩
  refine countC_good d0 hσ (fun z hz=>?_) hA
  have c1:=Int.mul_nonneg (Int.le_of_lt k20) (C1 z hz)
  have c2:=Int.mul_nonneg (Int.le_of_lt k10) (C2 z hz)
  refine side_btw (k:=k1*k2) (s1:=k1*t2) (s2:=k2*t1) (Int.mul_pos k10 k20) d0 hσ' ?_ ?_ ?_ ?_
  . rw[show k1*k2*z.1+z.2*(k1*t2)=k1*(k2*z.1+z.2*t2) by grind];exact c2
  . rw[show k1*k2*z.1+z.2*(k2*t1)=k2*(k1*z.1+z.2*t1) by grind];exact c1
  . have := Int.mul_le_mul_of_nonneg_left i1 (sqz_nn k2)
    rw[show k2*t1*(k2*t1)=k2*k2*(t1*t1) by grind,show k1*k2*(k1*k2)*d=k2*k2*(k1*k1*d) by grind];exact this
  . have := Int.mul_le_mul_of_nonneg_left i2 (sqz_nn k1)
    rw[show k1*t2*(k1*t2)=k1*k1*(t2*t2) by grind,show k1*k2*(k1*k2)*d=k1*k1*(k2*k2*d) by grind];exact this
structure Qf (e:Ed) (σ τ:Int):Prop where
  s:σ=1\/σ = -1
  t:τ=1\/τ = -1
  r0:0<radZ e
  c:(e.ux=σ/\e.uy=0/\e.vx=0/\e.vy=τ/\e.ax=e.cx+σ*radZ e/\e.ay=e.cy/\e.bx=e.cx/\e.by'=e.cy+τ*radZ e)\/(e.ux=0/\e.uy=τ/\e.vx=σ/\e.vy=0/\e.ax=e.cx/\e.ay=e.cy+τ*radZ e/\e.bx=e.cx+σ*radZ e/\e.by'=e.cy)
theorem qf_of{e:Ed}(ho:e.ok=true)(hk:¬e.k=1):∃σ τ,Qf e σ τ:=by
  obtain⟨r0,hu,hv,a1,a2,a3,a4⟩:=arc_axes ho hk
  obtain⟨r,R⟩:∃r,radZ e=r:=⟨_,rfl⟩
  rw[R] at r0 a1 a2 a3 a4
  have m0:r*0=0:=by omega
  have m1:r*1=r:=by omega
  have m2:r * -1 = -r:=by omega
  have n0 : -(0:Int)=0:=rfl
  have n1 : -(-1:Int)=1:=rfl
  rcases hu with⟨u1,u2⟩|⟨u1,u2⟩|⟨u1,u2⟩|⟨u1,u2⟩<;>rcases hv with⟨k0,v1,v2⟩|⟨k0,v1,v2⟩ <;>
    (rw [u1] at a1 v2; rw [u2] at a2 v1; rw [v1] at a3; rw [v2] at a4
     simp only[m0,m1,m2,n0,n1] at a1 a2 a3 a4 v1 v2
     first
      | exact⟨1,1,.inl rfl,.inl rfl,by rw[R];exact r0,.inl ⟨by omega,by omega,by omega,by omega,by omega,by omega,by omega,by omega⟩⟩
      | exact⟨1,-1,.inl rfl,.inr rfl,by rw[R];exact r0,.inl ⟨by omega,by omega,by omega,by omega,by omega,by omega,by omega,by omega⟩⟩
      | exact⟨-1,1,.inr rfl,.inl rfl,by rw[R];exact r0,.inl ⟨by omega,by omega,by omega,by omega,by omega,by omega,by omega,by omega⟩⟩
      | exact⟨-1,-1,.inr rfl,.inr rfl,by rw[R];exact r0,.inl ⟨by omega,by omega,by omega,by omega,by omega,by omega,by omega,by omega⟩⟩
      | exact⟨1,1,.inl rfl,.inl rfl,by rw[R];exact r0,.inr ⟨by omega,by omega,by omega,by omega,by omega,by omega,by omega,by omega⟩⟩
      | exact⟨1,-1,.inl rfl,.inr rfl,by rw[R];exact r0,.inr ⟨by omega,by omega,by omega,by omega,by omega,by omega,by omega,by omega⟩⟩
      | exact⟨-1,1,.inr rfl,.inl rfl,by rw[R];exact r0,.inr ⟨by omega,by omega,by omega,by omega,by omega,by omega,by omega,by omega⟩⟩
      | exact⟨-1,-1,.inr rfl,.inr rfl,by rw[R];exact r0,.inr ⟨by omega,by omega,by omega,by omega,by omega,by omega,by omega,by omega⟩⟩)
theorem pm_sq{σ:Int}(h:σ=1\/σ = -1):σ*σ=1:=by rcases h with rfl|rfl<;>rfl
theorem arcs_M{a b:Ed}(oa:a.ok=true)(ob:b.ok=true)(ka:¬a.k=1)(kb:¬b.k=1)(hm:countE a b=0){σ τ σ' τ':Int}(A:Qf a σ τ)(B:Qf b σ' τ') :
    LIa (σ'*(a.cx-b.cx)) (τ'*(a.cy-b.cy)) (radZ a) (radZ b) (σ*σ') (τ*τ')->LOa (σ'*(a.cx-b.cx)) (τ'*(a.cy-b.cy)) (radZ a) (radZ b) (σ*σ') (τ*τ')->¬(a.cx=b.cx/\a.cy=b.cy)->False:=by
  intro h1 h2 hz
  have s2:=pm_sq B.s
  have t2:=pm_sq B.t
  have ex:∀x:Int,σ*σ'*(x*σ')=x*σ:=fun x=>by grind
  have ey:∀y:Int,τ*τ'*(y*τ')=y*τ:=fun y=>by grind
  have hz':¬(σ'*(a.cx-b.cx)=0/\τ'*(a.cy-b.cy)=0):=fun ⟨g1,g2⟩=>hz (by rcases B.s with h|h<;>rcases B.t with h'|h'<;>subst h<;>subst h'<;>omega)
  rcases B.c with⟨u1,u2,v1,v2,_⟩|⟨u1,u2,v1,v2,_⟩
  . refine arcs_meet oa ob ka kb hm (p := σ' * (a.cx - b.cx)) (q := τ' * (a.cy - b.cy)) (e := σ * σ') (f := τ * τ') (by rw [u1, u2]; grind) (by rw [v1, v2]; grind) (fun x y X Y hX hY => ?_) h1 h2 hz'
    rw[u1,u2] at hX
    rw[v1,v2] at hY
    rw[show X=x*σ' by omega,show Y=y*τ' by omega,ex,ey]
    rcases A.c with⟨w1,w2,z1,z2,_⟩|⟨w1,w2,z1,z2,_⟩
    . rw[w1,w2,z1,z2];simp
    . rw[w1,w2,z1,z2];simp[And.comm]
  . refine arcs_meet oa ob ka kb hm (p := τ' * (a.cy - b.cy)) (q := σ' * (a.cx - b.cx)) (e := τ * τ') (f := σ * σ') (by rw [u1, u2]; grind) (by rw [v1, v2]; grind) (fun x y X Y hX hY => ?_) h1.swap h2.swap (fun g => hz' ⟨g.2, g.1⟩)
    rw[u1,u2] at hX
    rw[v1,v2] at hY
    rw[show X=y*τ' by omega,show Y=x*σ' by omega,ex,ey]
    rcases A.c with⟨w1,w2,z1,z2,_⟩|⟨w1,w2,z1,z2,_⟩
    . rw[w1,w2,z1,z2];simp[And.comm]
    . rw[w1,w2,z1,z2];simp

set_option maxHeartbeats 4000000
section
def rayM(x1 y1 x2 y2 s:Int):Int :=
  if y1<=0/\0<y2/\(0<min x1 x2\/(0<max x1 x2/\0<s)) then 1 else if y2<=0/\0<y1/\(0<min x1 x2\/(0<max x1 x2/\s<0)) then -1 else 0
def Bx0(x1 y1 x2 y2:Int):Prop:=(min x1 x2<=0/\0<=max x1 x2)/\min y1 y2<=0/\0<=max y1 y2
def Mono(x1 y1 x2 y2 s:Int):Prop:=(s=1\/s = -1)/\(Bx0 x1 y1 x2 y2 ->
  (x1=0->((0<x2/\y1<0\/x2<0/\0<y1)/\s=1\/(0<x2/\0<y1\/x2<0/\y1<0)/\s = -1)) /\
  (x2=0->((0<x1/\0<y2\/x1<0/\y2<0)/\s=1\/(0<x1/\y2<0\/x1<0/\0<y2)/\s = -1)) /\
  (y1=0->((0<x1/\0<y2\/x1<0/\y2<0)/\s=1\/(0<x1/\y2<0\/x1<0/\0<y2)/\s = -1)) /\
  (y2=0->((0<x2/\y1<0\/x2<0/\0<y1)/\s=1\/(0<x2/\0<y1\/x2<0/\y1<0)/\s = -1)))
def phI(a b c d x y:Int):Int :=
  if b=0 then
    (if a = 1 then (if d = 1 then 0 else if y = 0 /\ 0 < x then 1 else 0)
     else if d=1 then (if y<0\/y=0/\¬x=0 then 1 else 0) else if y<0\/y=0/\0<x then -1 else 0)
  else if b=1 then (if c=1 then (if 0<x/\0<y then 0 else 1) else if 0<=x/\0<y then 0 else -1)
  else if c=1 then (if 0<x/\y<=0 then -1 else 0) else if 0<=x/\y<=0 then 1 else 0
theorem ray_iso{a b c d:Int}(h:IsoOk a b c d){x1 y1 x2 y2 s:Int}(hm:Mono x1 y1 x2 y2 s)(h1:¬(x1=0/\y1=0))(h2:¬(x2=0/\y2=0)) :
    rayM (a*x1+b*y1) (c*x1+d*y1) (a*x2+b*y2) (c*x2+d*y2) ((a*d-b*c)*s)=(a*d-b*c)*rayM x1 y1 x2 y2 s+phI a b c d x1 y1-phI a b c d x2 y2:=by
  obtain⟨hs,hb⟩:=hm
  unfold Bx0 at hb
  have hb:(¬((min x1 x2<=0/\0<=max x1 x2)/\min y1 y2<=0/\0<=max y1 y2))\/_:=(Classical.em _).symm.imp_right hb
  unfold rayM phI
  rcases h with⟨rfl,rfl,rfl|rfl,rfl|rfl⟩|⟨rfl,rfl,rfl|rfl,rfl|rfl⟩ <;>
    simp only[Int.zero_mul,Int.one_mul,Int.neg_mul,Int.mul_zero,Int.mul_one,Int.mul_neg,Int.sub_zero,Int.zero_sub,Int.add_zero,Int.zero_add,Int.neg_neg,if_true,if_false,reduceCtorEq,show ¬((1:Int)=0) by decide,show ¬((-1:Int)=0) by decide,show ¬((-1:Int)=1) by decide,show -(1:Int) = -1 from rfl] <;>
    rcases hs with rfl|rfl <;>
    (repeat' split)<;>omega
end
end Go.Proofs.YteajakbpmeebnaaGreat
