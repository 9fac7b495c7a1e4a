import Derived.Test.YtceemiodpccbhaaGreatD33
set_option linter.unusedVariables false
set_option linter.unusedSimpArgs false

namespace Go.Proofs.YtceemiodpccbhaaGreat

section
open Go.RowKit
theorem gap_least {c:Nat->Pr} {f:Nat->Q4}:∀ k,0 < k->(∀ i,i < k->(f i).ok/\(c i).d=(f i).rt)->∃ i,i < k/\gapK c k=(c i).gp/\∀ j,j < k->cmpQ (f i) (f j)<=0
 | 0,h,_=>absurd h (Nat.lt_irrefl _)
 | k+1,_,H=>by
  have okk:=(H k (by omega)).1
  by_cases hk:k=0
  ·subst hk
   refine ⟨0,by omega,by unfold gapK;simp,fun j hj=>?_⟩
   rw [show j=0 by omega,cmpQ_self okk];exact Int.le_refl 0
  obtain ⟨i,hi,e,hl⟩:=gap_least k (by omega) fun i hi=>H i (by omega)
  have oki:=(H i (by omega)).1
  have hc:cmpRt (c k).d (gapK c k).d=cmpQ (f k) (f i):=by
   rw [e,(H k (by omega)).2,show ((c i).gp).d=(c i).d from rfl,(H i (by omega)).2,cmpQ_rt okk oki]
  unfold gapK
  rw [hc]
  split
  ·rename_i h
   have h':cmpQ (f k) (f i) < 0:=by simpa [hk] using h
   refine ⟨k,by omega,rfl,fun j hj=>?_⟩
   rcases Nat.lt_or_ge j k with g | g
   ·exact cmpQ_trans okk oki (H j (by omega)).1 (Int.le_of_lt h') (hl j g)
   ·rw [show j=k by omega,cmpQ_self okk];exact Int.le_refl 0
  ·rename_i h
   have h':¬ cmpQ (f k) (f i) < 0:=by simpa [hk] using h
   refine ⟨i,by omega,e,fun j hj=>?_⟩
   rcases Nat.lt_or_ge j k with g | g
   ·exact hl j g
   ·rw [show j=k by omega,cmpQ_anti okk oki];omega
theorem le_sq1 {N n d:Int} (hN:0<=N) (hn:0<=n) (hd:0 < d) (h:N*d<=n):cmpQ ⟨0,1,N,1⟩ ⟨0,1,n,d⟩<=0:=by
 unfold cmpQ cmpR
 simp only [Int.sub_zero,Int.zero_mul,Int.mul_zero,Int.zero_add,Int.mul_one]
 by_cases h1:N=0
 ·rw [nz0P h1, side_l0P, show sgn 0 = 0 from rfl]
  by_cases h2:n=0
  ·rw [nz0P h2];simp
  ·rw [nz1P h2,if_pos (by decide)];decide
 ·have h0 : 0 < N * d := Int.mul_pos (by omega) hd
  have h2:¬ n=0:=by omega
  have e:sideZ 0 1 N=1:=by unfold sideZ;rw [sgn_pP (show 0 < N by omega),show sgn 0=0 from rfl,show sgn 1=1 from rfl,if_pos (by decide)];decide
  rw [nz1P h1,nz1P h2,e,if_neg (by decide),Int.one_mul,side_l0P]
  rcases sgn_cases (N*d - n) with ⟨h,g⟩ | ⟨h,g⟩ | ⟨h,g⟩<;>omega
def GeQ (N:Int) (z:Q4):Prop:=∃ n d,z=⟨0,1,n,d⟩/\0<=n/\0 < d/\N*d<=n
theorem near_dist {s:Sh} {px py p N u v:Int} (hs:OkS s) (hd:OkS (discS px py p)) (hm:metB s (discS px py p)=false) (hl:∀ i,i < s.n->∀ z ∈ candQ (s.e i) (lnEd px py px py),GeQ N z)
  (hi:∃ i,i < s.n/\onE (s.e i) u v=true) (hN:sqI (px - u) (py - v)=N) (h1:Co px) (h2:Co py) (h3:Co u) (h4:Co v):∃ z,CoreQ s (discS px py p) z/\cmpQ z ⟨0,1,N,1⟩=0:=by
 have hn:=n_pos hs
 have hob:(lnEd px py px py).ok=true:=hd.ok 0 (n_pos hd)
 have hsep:∀ i,i < s.n->countE (s.e i) (lnEd px py px py)=0:=fun i hi=>by
  have hm':=hm
  unfold metB at hm'
  simp only [Bool.or_eq_false_iff,Bool.not_eq_false'] at hm'
  have:=allB_t.1 hm'.2 i (by show i < s.n*1;omega)
  unfold sep at this
  rw [show i / (discS px py p).n=i from Nat.div_one i,show i % (discS px py p).n=0 from Nat.mod_one i] at this
  rw [show (discS px py p).e 0=lnEd px py px py from rfl] at this
  simpa using this
 have hc:∀ i,i < s.n->(leastQ (candQ (s.e i) (lnEd px py px py))).ok/\(cnd s (discS px py p) i).d=(leastQ (candQ (s.e i) (lnEd px py px py))).rt:=fun i hi=>by
  refine ⟨(leastQ_le (candQ_ne _ _) (candQ_ok (hs.ok i hi) hob)).1,?_⟩
  unfold cnd
  rw [show i / (discS px py p).n=i from Nat.div_one i,show i % (discS px py p).n=0 from Nat.mod_one i]
  exact edgesR_Q (hs.ok i hi) hob (hsep i hi)
 obtain ⟨i,hi1,hg,hle⟩:=gap_least (c:=cnd s (discS px py p)) (f:=fun i=>leastQ (candQ (s.e i) (lnEd px py px py))) s.n hn hc
 have hmem:=leastQ_mem (candQ_ne (s.e i) (lnEd px py px py))
 have hN0:(Q4.mk 0 1 N 1).ok:=by rw [<- hN];exact endQ_ok h1 h2 h3 h4
 refine ⟨_,⟨(hc i hi1).1,cand_a (hs.ok i hi1) hob _ hmem,fun h=>(by rw [hm] at h;cases h),fun _=>⟨least_gt (hs.ok i hi1) hob (hsep i hi1),?_,?_⟩⟩,?_⟩
 ·rw [show s.n*(discS px py p).n=s.n from Nat.mul_one _,hg];exact (hc i hi1).2
 ·rw [show s.n*(discS px py p).n=s.n from Nat.mul_one _,hg];rfl
 ·obtain ⟨j, hj, hon⟩ := hi
  obtain ⟨k1,k2⟩:=leastQ_le (candQ_ne (s.e j) (lnEd px py px py)) (candQ_ok (hs.ok j hj) hob)
  have a1:=k2 (pointQ (s.e j) px py) (by unfold candQ;simp [lnEd])
  have a2:cmpQ (pointQ (s.e j) px py) ⟨0,1,N,1⟩<=0:=by rw [<- hN];exact point_le hon
  have a3:=cmpQ_trans (hc i hi1).1 k1 hN0 (hle j hj) (cmpQ_trans k1 (pointQ_ok (hs.ok j hj) h1 h2) hN0 a1 a2)
  obtain ⟨n,d,e,g0,g1,g2⟩:=hl i hi1 _ hmem
  have a4:cmpQ ⟨0,1,N,1⟩ (leastQ (candQ (s.e i) (lnEd px py px py)))<=0:=by rw [e];exact le_sq1 hN0.n0 g0 g1 g2
  rw [cmpQ_anti (hc i hi1).1 hN0] at a4
  show cmpQ (leastQ (candQ (s.e i) (lnEd px py px py))) _=0
  omega
theorem point_pt (x y u v:Int):pointQ (lnEd x y x y) u v=endQ u v x y:=by
 unfold pointQ lnEd lineQ
 simp
theorem end_ge {N px py x y:Int} (h:N<=sqI (px - x) (py - y)):GeQ N (endQ px py x y) :=
 ⟨_,1,rfl,sqI_nn _ _,by decide,by omega⟩
theorem sq_sym (x y:Int):(x - y)*(x - y)=(y - x)*(y - x):=by grind
theorem line_ge {N ax ay bx by' px py:Int} (h1:N<=sqI (px - ax) (py - ay)) (h2:N<=sqI (px - bx) (py - by')) (h3:GeQ N (lineQ (lnEd ax ay bx by') px py)):∀ z ∈ candQ (lnEd ax ay bx by') (lnEd px py px py),GeQ N z:=by
 intro z hz
 have e:candQ (lnEd ax ay bx by') (lnEd px py px py)=[pointQ (lnEd px py px py) ax ay,pointQ (lnEd px py px py) bx by',pointQ (lnEd ax ay bx by') px py,pointQ (lnEd ax ay bx by') px py]:=rfl
 rw [e,point_pt,point_pt] at hz
 have s1:=sq_sym px ax
 have s2:=sq_sym py ay
 have s3:=sq_sym px bx
 have s4:=sq_sym py by'
 simp only [List.mem_cons,List.not_mem_nil,or_false] at hz
 rcases hz with rfl | rfl | rfl | rfl
 ·exact end_ge (by unfold sqI at *;omega)
 ·exact end_ge (by unfold sqI at *;omega)
 ·exact h3
 ·exact h3
end

section
open Go.RowKit
theorem clamp_sq {a b c p:Int} (hab:a<=b) (hc:a<=c/\c<=b):(p - max a (min p b))*(p - max a (min p b))<=(p - c)*(p - c):=by
 by_cases h1:p < a
 ·rw [show max a (min p b) = a by omega, sq_sym p a, sq_sym p c]
  exact Int.mul_self_le_mul_self (by omega) (by omega)
 ·by_cases h2 : p <= b
  ·rw [show max a (min p b) = p by omega, Int.sub_self]
   exact sq0 _
  ·rw [show max a (min p b) = b by omega]
   exact Int.mul_self_le_mul_self (by omega) (by omega)
theorem btw_dx {p a b:Int} (h1:0 < (p - a)*(b - a)) (h2:(p - a)*(b - a) < (b - a)*(b - a)):min a b < p/\p < max a b:=by
 rcases Int.lt_trichotomy a b with h | h | h
 ·have g1 : ¬ p - a <= 0 := fun g => by have := Int.mul_nonneg (show 0 <= -(p - a) by omega) (show 0 <= b - a by omega); rw [Int.neg_mul] at this; omega
  have g2:¬ b - a<=p - a:=fun g=>by have:=Int.mul_le_mul_of_nonneg_right g (show 0<=b - a by omega);omega
  omega
 ·subst h;rw [Int.sub_self,Int.mul_zero] at h1;omega
 ·have g1 : ¬ 0 <= p - a := fun g => by have := Int.mul_nonneg g (show 0 <= -(b - a) by omega); rw [Int.mul_neg] at this; omega
  have g2:¬ p - a<=b - a:=fun g=>by
   have:=Int.mul_le_mul_of_nonneg_right g (show 0 <= -(b - a) by omega)
   rw [Int.mul_neg,Int.mul_neg] at this
   omega
  omega
theorem hor_ge {N xa xb c px py:Int} (h1:N<=sqI (px - xa) (py - c)) (h2:N<=sqI (px - xb) (py - c)) (h3:min xa xb < px->px < max xa xb->N<=(py - c)*(py - c)):GeQ N (lineQ (lnEd xa c xb c) px py):=by
 unfold lineQ
 split
 ·exact end_ge h1
 ·split
  ·exact end_ge h2
  ·rename_i g1 g2
   simp only [lnEd,sqI,Int.sub_self,Int.mul_zero,Int.zero_mul,Int.add_zero,Int.sub_zero] at g1 g2 ⊢
   obtain ⟨b1,b2⟩:=btw_dx (p:=px) (a:=xa) (b:=xb) (by omega) (by omega)
   have q:=Int.mul_le_mul_of_nonneg_right (h3 b1 b2) (sq0 (xb - xa))
   exact ⟨_,_,rfl,sq0 _,by omega,by rw [show (xb - xa)*(py - c)*((xb - xa)*(py - c))=(py - c)*(py - c)*((xb - xa)*(xb - xa)) by grind];exact q⟩
theorem ver_ge {N ya yb c px py:Int} (h1:N<=sqI (px - c) (py - ya)) (h2:N<=sqI (px - c) (py - yb)) (h3:min ya yb < py->py < max ya yb->N<=(px - c)*(px - c)):GeQ N (lineQ (lnEd c ya c yb) px py):=by
 unfold lineQ
 split
 ·exact end_ge h1
 ·split
  ·exact end_ge h2
  ·rename_i g1 g2
   simp only [lnEd,sqI,Int.sub_self,Int.mul_zero,Int.zero_mul,Int.zero_add,Int.zero_sub] at g1 g2 ⊢
   obtain ⟨b1,b2⟩:=btw_dx (p:=py) (a:=ya) (b:=yb) (by omega) (by omega)
   have q:=Int.mul_le_mul_of_nonneg_right (h3 b1 b2) (sq0 (yb - ya))
   exact ⟨_,_,rfl,sq0 _,by omega,by rw [show -((yb - ya)*(px - c)) * -((yb - ya)*(px - c))=(px - c)*(px - c)*((yb - ya)*(yb - ya)) by grind];exact q⟩
def clm (a b p:Int):Int:=max a (min p b)
def nrN (x0 y0 x1 y1 px py:Int):Int:=sqI (px - clm x0 x1 px) (py - clm y0 y1 py)
theorem lt_four {P:Nat->Prop} (h0:P 0) (h1:P 1) (h2:P 2) (h3:P 3):∀ i,i < 4->P i
 | 0,_=>h0
 | 1,_=>h1
 | 2,_=>h2
 | 3,_=>h3
 | i+4,h=>absurd h (by omega)
theorem rect_ge {x0 y0 x1 y1:Int} (px py:Int) (hx:x0 < x1) (hy:y0 < y1):∀ i,i < (rectS x0 y0 x1 y1).n->∀ z ∈ candQ ((rectS x0 y0 x1 y1).e i) (lnEd px py px py),GeQ (nrN x0 y0 x1 y1 px py) z:=by
 have cx0:=clamp_sq (p:=px) (Int.le_of_lt hx) (c:=x0) (by omega)
 have cx1:=clamp_sq (p:=px) (Int.le_of_lt hx) (c:=x1) (by omega)
 have cy0:=clamp_sq (p:=py) (Int.le_of_lt hy) (c:=y0) (by omega)
 have cy1:=clamp_sq (p:=py) (Int.le_of_lt hy) (c:=y1) (by omega)
 have zx:x0 < px->px < x1->(px - max x0 (min px x1))*(px - max x0 (min px x1))=0:=fun h1 h2=>by rw [show max x0 (min px x1)=px by omega,Int.sub_self];rfl
 have zy:y0 < py->py < y1->(py - max y0 (min py y1))*(py - max y0 (min py y1))=0:=fun h1 h2=>by rw [show max y0 (min py y1)=py by omega,Int.sub_self];rfl
 unfold nrN clm
 show ∀ i,i < 4->_
 refine lt_four ?_ ?_ ?_ ?_
 ·exact line_ge (by unfold sqI;omega) (by unfold sqI;omega) (hor_ge (by unfold sqI;omega) (by unfold sqI;omega) fun h1 h2=>by unfold sqI;have:=zx (by omega) (by omega);omega)
 ·exact line_ge (by unfold sqI;omega) (by unfold sqI;omega) (ver_ge (by unfold sqI;omega) (by unfold sqI;omega) fun h1 h2=>by unfold sqI;have:=zy (by omega) (by omega);omega)
 ·exact line_ge (by unfold sqI;omega) (by unfold sqI;omega) (hor_ge (by unfold sqI;omega) (by unfold sqI;omega) fun h1 h2=>by unfold sqI;have:=zx (by omega) (by omega);omega)
 ·exact line_ge (by unfold sqI;omega) (by unfold sqI;omega) (ver_ge (by unfold sqI;omega) (by unfold sqI;omega) fun h1 h2=>by unfold sqI;have:=zy (by omega) (by omega);omega)
theorem on_ax {ax ay bx by' x y:Int} (ho:(lnEd ax ay bx by').ok=true) (h:(ax=bx/\x=ax)\/(ay=by'/\y=ay)) (h1:min ax bx<=x/\x<=max ax bx) (h2:min ay by'<=y/\y<=max ay by'):onE (lnEd ax ay bx by') x y=true:=by
 have e:(bx - ax)*(y - ay) - (by' - ay)*(x - ax)=0:=by
  rcases h with ⟨rfl,rfl⟩ | ⟨rfl,rfl⟩
  ·rw [Int.sub_self,Int.zero_mul,Int.mul_zero];rfl
  ·rw [Int.sub_self,Int.zero_mul,Int.mul_zero];rfl
 obtain ⟨h1,h3⟩:=h1
 obtain ⟨h2,h4⟩:=h2
 unfold onE inB
 rw [ho]
 simp [lnEd,e,h1,h2,h3,h4,sideI]
theorem on_off {ax ay bx by' x y:Int} (h:x < min ax bx\/max ax bx < x\/y < min ay by'\/max ay by' < y):onE (lnEd ax ay bx by') x y=false:=by
 rw [Bool.eq_false_iff]
 intro g
 unfold onE inB at g
 rw [Bool.and_eq_true,Bool.and_eq_true,Bool.and_eq_true,Bool.and_eq_true,Bool.and_eq_true] at g
 obtain ⟨_,⟨g1,g2,g3,g4⟩,_⟩:=g
 have g1:=of_decide_eq_true g1
 have g2:=of_decide_eq_true g2
 have g3:=of_decide_eq_true g3
 have g4:=of_decide_eq_true g4
 simp only [lnEd] at g1 g2 g3 g4
 omega
end

section
open Go.RowKit
def Bd2 (x:Int):Prop := -2000<=x/\x<=2000
theorem Bd2.co {x:Int} (h:Bd2 x):Co x:=by unfold Bd2 at h;unfold Co;omega
theorem ln_ok {ax ay bx by':Int} (h1:Bd2 ax) (h2:Bd2 ay) (h3:Bd2 bx) (h4:Bd2 by'):(lnEd ax ay bx by').ok=true:=line_ok h1.co h2.co h3.co h4.co
theorem rect_okS {x0 y0 x1 y1:Int} (h1:Bd2 x0) (h2:Bd2 y0) (h3:Bd2 x1) (h4:Bd2 y1):OkS (rectS x0 y0 x1 y1) :=
 okS_list (.inr rfl) (by simp) (by simp) (all1 (ln_ok h1 h2 h3 h2) (all1 (ln_ok h3 h2 h3 h4) (all1 (ln_ok h3 h4 h1 h4) (all1 (ln_ok h1 h4 h1 h2) all0)))) ⟨⟨rfl,rfl⟩,⟨rfl,rfl⟩,⟨rfl,rfl⟩,trivial,trivial⟩ (fun _=>⟨rfl,rfl⟩) ⟨by decide,fun _=>rfl⟩
theorem disc_okS {x y r:Int} (h1:Bd2 x) (h2:Bd2 y) (hr:0<=r/\r<=100):OkS (discS x y r) :=
 okS_list (.inl rfl) (by simp) (by simp) (all1 (ln_ok h1 h2 h1 h2) all0) ⟨trivial,trivial⟩ (fun h=>by cases h) ⟨by omega,fun h=>by cases h⟩
theorem near_ver {x a b p:Int} (h:a < b) (h1:a<=p/\p<=b):nearC (lnEd x a x b) x p 0=true:=by
 unfold nearC frZ alZ loZ crZ lnEd
 simp only [Int.sub_self,Int.mul_zero,Int.zero_mul,Int.zero_add,if_true]
 split
 ·rfl
 ·rename_i g1
  split
  ·rfl
  ·rename_i g2
   have e1:p ≠ a:=fun g=>g1 (by rw [g,Int.sub_self];decide)
   have e2:p ≠ b:=fun g=>g2 (by rw [g,Int.sub_self];decide)
   have k1:0 < (p - a)*(b - a):=Int.mul_pos (by omega) (by omega)
   have k2:(p - a)*(b - a) < (b - a)*(b - a):=Int.mul_lt_mul_of_pos_right (by omega) (by omega)
   rw [if_neg (by omega),if_neg (by omega)]
   decide
theorem near_hor {y a b p:Int} (h:a < b) (h1:a<=p/\p<=b):nearC (lnEd b y a y) p y 0=true:=by
 unfold nearC frZ alZ loZ crZ lnEd
 simp only [Int.sub_self,Int.mul_zero,Int.zero_mul,Int.add_zero,if_true]
 split
 ·rfl
 ·rename_i g1
  split
  ·rfl
  ·rename_i g2
   have e1:p ≠ b:=fun g=>g1 (by rw [g,Int.sub_self];decide)
   have e2:p ≠ a:=fun g=>g2 (by rw [g,Int.sub_self];decide)
   have k1:0 < (b - p)*(b - a):=Int.mul_pos (by omega) (by omega)
   have k2:(b - p)*(b - a) < (b - a)*(b - a):=Int.mul_lt_mul_of_pos_right (by omega) (by omega)
   have k3:(p - b)*(a - b)=(b - p)*(b - a):=by grind
   have k4:=sq_sym a b
   rw [if_neg (by omega),if_neg (by omega)]
   decide
def InR (x0 y0 x1 y1 px py:Int):Prop:=(x0<=px/\px<=x1)/\y0<=py/\py<=y1
theorem rect_bx {x0 y0 x1 y1:Int} (h1:Bd2 x0) (h2:Bd2 y0) (h3:Bd2 x1) (h4:Bd2 y1) (hx:x0 < x1) (hy:y0 < y1) (px py:Int):inBx (rectS x0 y0 x1 y1) px py=inB x0 y0 x1 y1 px py:=by
 unfold Bd2 at *
 have e1:bX0 (rectS x0 y0 x1 y1)=x0:=by
  show IntKind.i64.wrap (min (min (min (min x0 x1) (min x1 x1)) (min x1 x0)) (min x0 x0) - 0)=x0
  rw [wrap_in (by unfold I64;omega)];omega
 have e2:bY0 (rectS x0 y0 x1 y1)=y0:=by
  show IntKind.i64.wrap (min (min (min (min y0 y0) (min y0 y1)) (min y1 y1)) (min y1 y0) - 0)=y0
  rw [wrap_in (by unfold I64;omega)];omega
 have e3:bX1 (rectS x0 y0 x1 y1)=x1:=by
  show IntKind.i64.wrap (max (max (max (max x0 x1) (max x1 x1)) (max x1 x0)) (max x0 x0)+0)=x1
  rw [wrap_in (by unfold I64;omega)];omega
 have e4:bY1 (rectS x0 y0 x1 y1)=y1:=by
  show IntKind.i64.wrap (max (max (max (max y0 y0) (max y0 y1)) (max y1 y1)) (max y1 y0)+0)=y1
  rw [wrap_in (by unfold I64;omega)];omega
 unfold inBx
 rw [e1,e2,e3,e4]
theorem ray_0 {a x b px py:Int}:rayZ (lnEd a x b x) px py=0:=by
 unfold rayZ
 rw [if_neg (fun ⟨g1,g2,_⟩=>absurd g2 (Int.not_lt.2 g1)),if_neg (fun ⟨g1,g2,_⟩=>absurd g2 (Int.not_lt.2 g1))]
theorem rect_wnd {x0 y0 x1 y1 px py:Int} (h1:x0<=px) (h2:px < x1) (h3:y0<=py) (h4:py < y1):wnd (rectS x0 y0 x1 y1).e px py 4=1:=by
 show 0+rayZ (lnEd x0 y0 x1 y0) px py+rayZ (lnEd x1 y0 x1 y1) px py+rayZ (lnEd x1 y1 x0 y1) px py+rayZ (lnEd x0 y1 x0 y0) px py=1
 have e1:rayZ (lnEd x1 y0 x1 y1) px py=1:=by
  unfold rayZ
  exact if_pos ⟨h3,h4,by unfold beyZ;exact if_pos (show px < min x1 x1 by omega)⟩
 have e2:rayZ (lnEd x0 y1 x0 y0) px py=0:=by
  have b:beyZ (lnEd x0 y1 x0 y0) px py=false:=by
   unfold beyZ
   exact (if_neg (show ¬ px < min x0 x0 by omega)).trans (if_pos (show px >= max x0 x0 by omega))
  unfold rayZ
  rw [b,if_neg (fun g=>by cases g.2.2),if_neg (fun g=>by cases g.2.2)]
 rw [ray_0,ray_0,e1,e2]
 rfl
theorem rect_ins {x0 y0 x1 y1:Int} (h1:Bd2 x0) (h2:Bd2 y0) (h3:Bd2 x1) (h4:Bd2 y1) (hx:x0 < x1) (hy:y0 < y1) {px py:Int}:(InR x0 y0 x1 y1 px py->insS (rectS x0 y0 x1 y1) px py=true)/\(¬ InR x0 y0 x1 y1 px py->insS (rectS x0 y0 x1 y1) px py=false):=by
 have hc:=(rect_okS h1 h2 h3 h4).chk
 have e:insS (rectS x0 y0 x1 y1) px py=if inB x0 y0 x1 y1 px py=false then false else if allB (farB (rectS x0 y0 x1 y1) px py) 4=false then true else decide ((2:Int)=2)&&decide (wnd (rectS x0 y0 x1 y1).e px py 4 ≠ 0):=by
  unfold insS
  rw [if_neg (fun g=>g hc),rect_bx h1 h2 h3 h4 hx hy]
  rfl
 constructor
 ·rintro ⟨⟨a1, a2⟩, a3, a4⟩
  have b:inB x0 y0 x1 y1 px py=true:=by unfold inB;simp [a1,a2,a3,a4]
  rw [e,b,if_neg (by decide)]
  have far:∀ k,k < 4->nearC ((rectS x0 y0 x1 y1).e k) px py 0=true->allB (farB (rectS x0 y0 x1 y1) px py) 4=false:=fun k hk g=>by
   rw [Bool.eq_false_iff]
   intro f
   have:=allB_t.1 f k hk
   unfold farB at this
   rw [show (rectS x0 y0 x1 y1).r=0 from rfl,g] at this
   cases this
  by_cases p1:px=x1
  ·rw [if_pos (far 1 (by omega) (by rw [p1];exact near_ver hy ⟨a3,a4⟩))]
  ·by_cases p2 : py = y1
   ·rw [if_pos (far 2 (by omega) (by rw [p2];exact near_hor hx ⟨a1,a2⟩))]
   ·rw [rect_wnd a1 (by omega) a3 (by omega)]
    split<;>rfl
 ·intro g
  have b:inB x0 y0 x1 y1 px py=false:=by
   rw [Bool.eq_false_iff]
   intro f
   unfold inB at f
   simp only [Bool.and_eq_true,decide_eq_true_eq] at f
   exact g ⟨⟨f.1,f.2.1⟩,f.2.2.1,f.2.2.2⟩
  rw [e,b,if_pos rfl]
theorem count_pt {e:Ed} (h:e.ok=true) {x y:Int} (hx:Co x) (hy:Co y):countE e (lnEd x y x y)=onZ e x y:=by
 have op:(Ed.mk 1 x y x y 0 0).ok=true:=line_ok hx hy hx hy
 have pp:(Ed.mk 1 x y x y 0 0).pt=true:=by simp [Ed.pt]
 unfold countE lnEd
 rw [h,op,pp]
 simp only [Bool.and_self,Bool.not_true,Bool.false_eq_true,if_false,if_true]
 by_cases k1:e.k=1
 ·rw [if_pos k1]
  cases p1:e.pt with
  | true =>
   rw [if_pos rfl]
   have hq:e.ax=e.bx/\e.ay=e.by':=by simpa [Ed.pt] using p1
   unfold onZ
   have:onE (Ed.mk 1 x y x y 0 0) e.ax e.ay=onE e x y:=by
    rw [Bool.eq_iff_iff]
    constructor
    ·intro g
     obtain ⟨g1,g2⟩:=pt_on rfl pp g
     simp only at g1 g2
     rw [<- g1,<- g2]
     exact onE_self h k1
    ·intro g
     obtain ⟨g1,g2⟩:=pt_on k1 p1 g
     rw [<- g1,<- g2]
     exact onE_self op rfl
   rw [this]
  | false=>simp
 ·rw [if_neg k1]
theorem aro_disc (x y r:Int) (s:Sh):aroB (discS x y r) s=false:=rfl
theorem sep_on {s:Sh} {px py p:Int} (hs:OkS s) (h1:Co px) (h2:Co py):allB (sep s (discS px py p)) (s.n*(discS px py p).n)=true <-> ∀ i,i < s.n->onE (s.e i) px py=false:=by
 rw [show s.n*(discS px py p).n=s.n from Nat.mul_one _,allB_t]
 have e:∀ i,i < s.n->(sep s (discS px py p) i=true <-> onE (s.e i) px py=false):=fun i hi=>by
  unfold sep
  rw [show i / (discS px py p).n=i from Nat.div_one i,show i % (discS px py p).n=0 from Nat.mod_one i,show (discS px py p).e 0=lnEd px py px py from rfl,count_pt (hs.ok i hi) h1 h2]
  unfold onZ
  cases onE (s.e i) px py<;>simp
 exact ⟨fun h i hi=>(e i hi).1 (h i hi),fun h i hi=>(e i hi).2 (h i hi)⟩
theorem rect_met {x0 y0 x1 y1 px py p:Int} (h1:Bd2 x0) (h2:Bd2 y0) (h3:Bd2 x1) (h4:Bd2 y1) (h5:Bd2 px) (h6:Bd2 py) (hx:x0 < x1) (hy:y0 < y1) :
  (InR x0 y0 x1 y1 px py->metB (rectS x0 y0 x1 y1) (discS px py p)=true/\metB (discS px py p) (rectS x0 y0 x1 y1)=true)/\(¬ InR x0 y0 x1 y1 px py->metB (rectS x0 y0 x1 y1) (discS px py p)=false):=by
 have R:=rect_ins h1 h2 h3 h4 hx hy (px:=px) (py:=py)
 have e:aroB (rectS x0 y0 x1 y1) (discS px py p)=insS (rectS x0 y0 x1 y1) px py:=rfl
 constructor
 ·intro g
  unfold metB
  rw [e,R.1 g,Bool.or_true]
  exact ⟨rfl,rfl⟩
 ·intro g
  have S:=(sep_on (p:=p) (rect_okS h1 h2 h3 h4) h5.co h6.co).2 (by
   show ∀ i,i < 4->_
   unfold InR at g
   exact lt_four (on_off (by omega)) (on_off (by omega)) (on_off (by omega)) (on_off (by omega)))
  unfold metB
  rw [e,R.2 g,aro_disc,S]
  rfl
theorem disc_met {ax ay px py r p:Int} (h1:Bd2 ax) (h2:Bd2 ay) (h5:Bd2 px) (h6:Bd2 py) (hr:0<=r/\r<=100):((ax=px/\ay=py)->metB (discS ax ay r) (discS px py p)=true)/\(¬ (ax=px/\ay=py)->metB (discS ax ay r) (discS px py p)=false):=by
 have S:=sep_on (p:=p) (disc_okS h1 h2 hr) h5.co h6.co
 have e:(∀ i,i < (discS ax ay r).n->onE ((discS ax ay r).e i) px py=false) <-> onE (lnEd ax ay ax ay) px py=false:=⟨fun h=>h 0 (show 0 < 1 by decide),fun h i hi=>by
  have:i=0:=by have:i < 1:=hi;omega
  subst this;exact h⟩
 rw [e] at S
 unfold metB
 rw [aro_disc,aro_disc]
 constructor
 ·rintro ⟨rfl, rfl⟩
  have o:onE (lnEd ax ay ax ay) ax ay=true:=on_ax (ln_ok h1 h2 h1 h2) (.inl ⟨rfl,rfl⟩) ⟨by omega,by omega⟩ ⟨by omega,by omega⟩
  have:allB (sep (discS ax ay r) (discS ax ay p)) ((discS ax ay r).n*(discS ax ay p).n)=false:=by
   rw [Bool.eq_false_iff]
   intro f
   rw [S.1 f] at o
   cases o
  rw [this];rfl
 ·intro g
  rw [S.2 (on_off (by omega))];rfl
structure IsQ (G:Gp × Bool) (N k:Int):Prop where
 ok:G.2=true
 m:G.1.m=false
 r:Rt.right G.1.d=true
 c:cmpRt G.1.d (Q4.mk (-k) 1 N 1).rt=0
theorem is_q {s:Sh} {px py p N k:Int} (hs:OkS s) (hd:OkS (discS px py p)) (hm:metB s (discS px py p)=false) (h:∃ z,CoreQ s (discS px py p) z/\cmpQ z ⟨0,1,N,1⟩=0) (hN:(Q4.mk 0 1 N 1).ok) (hk:k=s.r+p):IsQ (ofQ s (discS px py p)) N k:=by
 obtain ⟨z,C,hz⟩:=h
 have D:=core_dist hs hd C
 have e : -s.r - (discS px py p).r = -k:=by rw [hk];show -s.r - p=_;omega
 have d:=D.eq.2.2
 rw [e] at d
 refine ⟨D.eq.1,D.eq.2.1.trans hm,by rw [d];exact (shQ_ok D.ok _).root.2.2,?_⟩
 have o:(Q4.mk (-k) 1 N 1).ok:=⟨hN.s,hN.n0,hN.n1,hN.d0,hN.d1⟩
 rw [d,cmpQ_rt (shQ_ok D.ok _) o,<- hz]
 unfold cmpQ shQ
 simp only
 rw [show z.a + -k - -k=z.a - 0 by omega]
theorem rect_is {x0 y0 x1 y1 px py p:Int} (h1:Bd2 x0) (h2:Bd2 y0) (h3:Bd2 x1) (h4:Bd2 y1) (h5:Bd2 px) (h6:Bd2 py) (hx:x0 < x1) (hy:y0 < y1) (hp:0<=p/\p<=100) (h:¬ InR x0 y0 x1 y1 px py) :
  IsQ (ofQ (rectS x0 y0 x1 y1) (discS px py p)) (nrN x0 y0 x1 y1 px py) p:=by
 have hm:=(rect_met (p:=p) h1 h2 h3 h4 h5 h6 hx hy).2 h
 have hs:=rect_okS h1 h2 h3 h4
 have c1:Bd2 (clm x0 x1 px):=by unfold Bd2 clm at *;omega
 have c2:Bd2 (clm y0 y1 py):=by unfold Bd2 clm at *;omega
 have on:∃ i,i < (rectS x0 y0 x1 y1).n/\onE ((rectS x0 y0 x1 y1).e i) (clm x0 x1 px) (clm y0 y1 py)=true:=by
  unfold InR at h
  unfold clm
  by_cases g1:px < x0
  ·exact ⟨3,(show 3 < 4 by decide),on_ax (ln_ok h1 h4 h1 h2) (.inl ⟨rfl,by omega⟩) (by omega) (by omega)⟩
  ·by_cases g2 : x1 < px
   ·exact ⟨1,(show 1 < 4 by decide),on_ax (ln_ok h3 h2 h3 h4) (.inl ⟨rfl,by omega⟩) (by omega) (by omega)⟩
   ·by_cases g3 : py < y0
    ·exact ⟨0,(show 0 < 4 by decide),on_ax (ln_ok h1 h2 h3 h2) (.inr ⟨rfl,by omega⟩) (by omega) (by omega)⟩
    ·exact ⟨2,(show 2 < 4 by decide),on_ax (ln_ok h3 h4 h1 h4) (.inr ⟨rfl,by omega⟩) (by omega) (by omega)⟩
 refine is_q hs (disc_okS h5 h6 hp) hm (near_dist hs (disc_okS h5 h6 hp) hm (rect_ge px py hx hy) on rfl h5.co h6.co c1.co c2.co) (endQ_ok h5.co h6.co c1.co c2.co) ?_
 show p=0+p
 omega
theorem disc_is {ax ay px py r p:Int} (h1:Bd2 ax) (h2:Bd2 ay) (h5:Bd2 px) (h6:Bd2 py) (hr:0<=r/\r<=100) (hp:0<=p/\p<=100) (h:¬ (ax=px/\ay=py)):IsQ (ofQ (discS ax ay r) (discS px py p)) (sqI (px - ax) (py - ay)) (r+p):=by
 have hm:=(disc_met (p:=p) h1 h2 h5 h6 hr).2 h
 have hs:=disc_okS h1 h2 hr
 have s1:=sq_sym px ax
 refine is_q hs (disc_okS h5 h6 hp) hm (near_dist hs (disc_okS h5 h6 hp) hm (fun i hi=>?_) ⟨0,(show 0 < 1 by decide),on_ax (ln_ok h1 h2 h1 h2) (.inl ⟨rfl,rfl⟩) ⟨by omega,by omega⟩ ⟨by omega,by omega⟩⟩ rfl h5.co h6.co h1.co h2.co) (endQ_ok h5.co h6.co h1.co h2.co) rfl
 have:i=0:=by have:i < 1:=hi;omega
 subst this
 exact line_ge (Int.le_refl _) (Int.le_refl _) (by
  have:=point_pt ax ay px py
  rw [show lineQ (lnEd ax ay ax ay) px py=pointQ (lnEd ax ay ax ay) px py from rfl,this]
  exact end_ge (Int.le_refl _))
theorem met_q {a b:Sh} (ha:OkS a) (hb:OkS b) (hm:metB a b=true):(ofQ a b).2=true/\(ofQ a b).1.m=true/\(ofQ a b).1.d=(intQ (-a.r - b.r)).rt:=by
 obtain ⟨z,D⟩:=dist_q ha hb
 refine ⟨D.eq.1,D.eq.2.1.trans hm,?_⟩
 rw [D.eq.2.2,(D.met hm).1]
 unfold shQ intQ
 rw [Int.zero_add]
theorem met_0 {a b:Sh} (ha:OkS a) (hb:OkS b) (hm:metB a b=true):cmpRt (ofQ a b).1.d ⟨-a.r - b.r,0,zero,ofZ 1⟩=0:=by
 rw [(met_q ha hb hm).2.2,<- intQ_rt,cmpQ_rt (intQ_ok _) (intQ_ok _),cmpQ_self (intQ_ok _)]
theorem met_touch {a b:Sh} (ha:OkS a) (hb:OkS b) (hm:metB a b=true):touchQ a b=true:=by
 obtain ⟨e1,_,e2⟩:=met_q ha hb hm
 have h1:=ha.r.1
 have h2:=hb.r.1
 unfold touchQ cmpG
 rw [e1,e2,<- intQ_rt,cmpQ_rt (intQ_ok _) (intQ_ok _)]
 have:cmpQ (intQ (-a.r - b.r)) (intQ 0)=sgn (-a.r - b.r):=by
  unfold cmpQ cmpR intQ
  simp only [nz0P,Int.sub_zero,Int.mul_one,Int.mul_zero,Int.zero_mul]
  rw [side_l0P]
  rcases sgn_cases (-a.r - b.r) with ⟨g,h⟩ | ⟨g,h⟩ | ⟨g,h⟩<;>rw [g]<;>simp<;>decide
 rw [this]
 rcases sgn_cases (-a.r - b.r) with ⟨g,h⟩ | ⟨g,h⟩ | ⟨g,h⟩<;>rw [g]<;>first | decide | omega
end
end Go.Proofs.YtceemiodpccbhaaGreat
