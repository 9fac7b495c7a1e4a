import Derived.Test.YtceemiodpccbhaaGreatD32
set_option linter.unusedVariables false
set_option linter.unusedSimpArgs false

namespace Go.Proofs.YtceemiodpccbhaaGreat

section
open Go.RowKit
theorem abs_leP {x y:Int} (hy:0<=y) (h:x*x<=y*y) : -y<=x/\x<=y:=by
  constructor
  . rcases (show -y <= x \/ x < -y by omega) with g | g
    . exact g
    . have := Int.mul_lt_mul_of_pos_right (show y < -x by omega) (show 0 < -x by omega)
      have:=Int.mul_le_mul_of_nonneg_left (show y <= -x by omega) hy
      have e : -x * -x=x*x:=Int.neg_mul_neg ..
      omega
  . rcases (show x <= y \/ y < x by omega) with g | g
    . exact g
    . have := Int.mul_lt_mul_of_pos_right (show y < x by omega) (show 0 < x by omega)
      have:=Int.mul_le_mul_of_nonneg_left (show y<=x by omega) hy
      omega
theorem onE_arc_mk {e:Ed} {x y:Int} (ho:e.ok=true) (hk:¬ e.k=1) (hq:inQ e (x - e.cx) (y - e.cy)=true) (hr:sqI (x - e.cx) (y - e.cy)=radZ e*radZ e):onE e x y=true:=by
  obtain ⟨r0,hu,hv,a1,a2,a3,a4⟩:=arc_axes ho hk
  unfold onE
  rw [ho,if_neg hk]
  simp only [Bool.true_and,Bool.and_eq_true,beq_iff_eq]
  unfold sqI at hr
  obtain ⟨r,R⟩:∃ r,radZ e=r:=⟨_,rfl⟩
  rw [R] at a1 a2 a3 a4 hr r0
  obtain ⟨p,P⟩:∃ p,x - e.cx=p:=⟨_,rfl⟩
  obtain ⟨q,Q⟩:∃ q,y - e.cy=q:=⟨_,rfl⟩
  unfold inQ wiB at hq
  simp only [Bool.and_eq_true,Bool.not_eq_true'] at hq
  obtain ⟨_,hq⟩:=hq
  rw [P,Q] at hr hq
  have hp:p*p<=r*r:=by have:=sqz_nn q;omega
  have hq2:q*q<=r*r:=by have:=sqz_nn p;omega
  have b1:=abs_leP (Int.le_of_lt r0) hp
  have b2:=abs_leP (Int.le_of_lt r0) hq2
  have m0:r*0=0:=by omega
  have m1:r*1=r:=by omega
  have m2:r * -1 = -r:=by omega
  have n0 : -(0:Int)=0:=rfl
  have n1 : -(-1:Int)=1:=rfl
  have f1:e.ax - e.cx=r*e.ux:=by omega
  have f2:e.ay - e.cy=r*e.uy:=by omega
  have f3:e.bx - e.cx=r*e.vx:=by omega
  have f4:e.by' - e.cy=r*e.vy:=by omega
  rw [f1,f2,f3,f4] at hq
  have sg:∀ t:Int,0<=r*t->0<=t:=fun t h=>by
    rcases Int.lt_or_le t 0 with g | g
    . have:=Int.mul_neg_of_pos_of_neg r0 g;omega
    . exact g
  have sg1:=sg p
  have sg2:=sg q
  have sg3:=sg (-p)
  have sg4:=sg (-q)
  rw [Int.mul_neg] at sg3 sg4
  constructor
  . refine inB_iff.2 ⟨?_, ?_⟩
    all_goals
      rcases hu with ⟨u1,u2⟩ | ⟨u1,u2⟩ | ⟨u1,u2⟩ | ⟨u1,u2⟩<;>rcases hv with ⟨k0,v1,v2⟩ | ⟨k0,v1,v2⟩ <;>
      (rw [u1] at a1 v2 hq; rw [u2] at a2 v1 hq; rw [v1] at a3 hq; rw [v2] at a4 hq
       rw [k0] at hq
       simp only [show ¬ (2:Int)=3 by decide,if_false,if_true,m0,m1,m2,n0,n1,Int.mul_zero,Int.zero_mul,Int.neg_mul,Int.mul_neg,Int.mul_one,Int.sub_zero,Int.zero_sub,Int.neg_neg,Bool.and_eq_true,decide_eq_true_eq,Int.mul_comm p r,Int.mul_comm q r] at a1 a2 a3 a4 hq
       unfold Btw
       omega)
  . unfold powerI
    rcases hu with ⟨u1,u2⟩ | ⟨u1,u2⟩ | ⟨u1,u2⟩ | ⟨u1,u2⟩ <;>
      (rw [P, Q, f1, f2, u1, u2, hr]
       simp only [m0,m1,m2,Int.neg_mul_neg,Int.mul_zero,Int.zero_mul]
       omega)
theorem sgn_pP {x:Int} (h:0 < x):sgn x=1:=by rcases sgn_cases x with ⟨h,g⟩ | ⟨h,g⟩ | ⟨h,g⟩<;>omega
theorem sgn_mP {x:Int} (h:x < 0):sgn x = -1:=by rcases sgn_cases x with ⟨h,g⟩ | ⟨h,g⟩ | ⟨h,g⟩<;>omega
theorem side_l0P (a c:Int):sideZ a 0 c=sgn a:=by
  unfold sideZ
  rw [show sgn 0=0 from rfl,Int.zero_mul,Int.mul_zero,if_pos (Int.le_refl 0)]
  rcases sgn_cases a with ⟨h,_⟩ | ⟨h,_⟩ | ⟨h,_⟩<;>rw [h]<;>decide
theorem nz0P {s n:Int} (h:n=0):nz s n=0:=by unfold nz;rw [if_pos h]
theorem nz1P {s n:Int} (h:¬ n=0):nz s n=s:=by unfold nz;rw [if_neg h]
theorem gt0 {a s n d:Int} (h:0 < sideZ (a*d) (nz s n) (n*d)):0 < cmpQ ⟨a,s,n,d⟩ (intQ 0):=by
  unfold cmpQ intQ cmpR
  simp only [Int.sub_zero]
  rw [show nz 1 0=0 from rfl,if_pos (by omega)]
  omega
theorem gt_posQ {n d:Int} (hn:0 < n) (hd:0 < d):0 < cmpQ ⟨0,1,n,d⟩ (intQ 0):=by
  refine gt0 ?_
  have h2:0 < n*d:=Int.mul_pos hn hd
  rw [Int.zero_mul,nz1P (by omega)]
  unfold sideZ
  rw [sgn_pP h2,show sgn 0=0 from rfl,show sgn 1=1 from rfl,if_pos (by decide)]
  decide
theorem gt_outQ {r n d:Int} (hr:0<=r) (hd:0 < d) (h:r*r*d < n):0 < cmpQ ⟨-r,1,n,d⟩ (intQ 0):=by
  have h0:0<=r*r*d:=Int.mul_nonneg (sqz_nn r) (Int.le_of_lt hd)
  rcases Int.lt_or_eq_of_le hr with h1 | h1
  . refine gt0 ?_
    have h2:0 < n*d:=Int.mul_pos (by omega) hd
    have h3:0 < r*d:=Int.mul_pos h1 hd
    have h4:r*r*d*d < n*d:=Int.mul_lt_mul_of_pos_right h hd
    rw [nz1P (by omega),Int.neg_mul]
    unfold sideZ
    rw [sgn_mP (show -(r*d) < 0 by omega),sgn_pP h2,show sgn 1=1 from rfl,if_neg (by decide),Int.neg_mul_neg,Int.one_mul,Int.one_mul]
    have e:r*d*(r*d)=r*r*d*d:=by grind
    unfold cmpZ
    rw [if_pos (by omega)]
    decide
  . subst h1
    exact gt_posQ (by omega) hd
theorem gt_inQ {r n:Int} (hr:0 < r) (hn:0<=n) (h:n < r*r):0 < cmpQ ⟨r,-1,n,1⟩ (intQ 0):=by
  refine gt0 ?_
  rw [Int.mul_one,Int.mul_one]
  by_cases h0:n=0
  . rw [nz0P h0,side_l0P,sgn_pP hr];decide
  . rw [nz1P h0]
    unfold sideZ
    rw [sgn_pP hr,sgn_pP (show 0 < n by omega),show sgn (-1) = -1 from rfl,if_neg (by decide),Int.neg_mul_neg,Int.one_mul,Int.one_mul,Int.one_mul]
    unfold cmpZ
    rw [if_neg (by omega),if_neg (by omega)]
    decide
theorem end_gt {e:Ed} {x y a b:Int} (h:onE e x y=false) (ha:onE e a b=true):0 < cmpQ (endQ x y a b) (intQ 0):=by
  refine gt_posQ (sqI_pos fun ⟨g1,g2⟩=>?_) (by decide)
  rw [show x=a by omega,show y=b by omega,ha] at h
  cases h
theorem between {a b p x y u v t q:Int} (hq:u*u+v*v=q) (hc:u*y - v*x=0) (ht:x*u+y*v=t) (t0:0 < t) (t1:t < q) (ha:u=b - a) (hp:x=p - a):Btw a p b:=by
  have e1:q*x=t*u:=by subst hq ht;grind
  unfold Btw
  rcases Int.lt_trichotomy u 0 with h | h | h
  . have h1 : t * u < 0 := Int.mul_neg_of_pos_of_neg t0 h
    have h2:x < 0:=by
      rcases Int.lt_or_le x 0 with g | g
      . exact g
      . have:=Int.mul_nonneg (show 0<=q by omega) g;omega
    have h3:u<=x:=by
      rcases Int.lt_or_le x u with g | g
      . have k1 := Int.mul_lt_mul_of_pos_left g (show 0 < q by omega)
        have k2:q*u<=t*u:=Int.mul_le_mul_of_nonpos_right (by omega) (by omega)
        omega
      . exact g
    omega
  . have : q * x = 0 := by rw [e1, h, Int.mul_zero]
    have:x=0:=by rcases Int.mul_eq_zero.1 this with g | g<;>omega
    omega
  . have h1 : 0 < t * u := Int.mul_pos t0 h
    have h2:0 < x:=by
      rcases Int.lt_or_le 0 x with g | g
      . exact g
      . have:=Int.mul_nonpos_of_nonneg_of_nonpos (show 0<=q by omega) g;omega
    have h3:x<=u:=by
      rcases Int.lt_or_le u x with g | g
      . have k1 := Int.mul_lt_mul_of_pos_left g (show 0 < q by omega)
        have k2:t*u<=q*u:=Int.mul_le_mul_of_nonneg_right (by omega) (by omega)
        omega
      . exact g
    omega
theorem point_gt {e:Ed} {x y:Int} (ho:e.ok=true) (h:onE e x y=false):0 < cmpQ (pointQ e x y) (intQ 0):=by
  unfold pointQ
  by_cases hk:e.k=1
  . rw [if_pos hk]
    unfold lineQ
    split
    . exact end_gt h (end_a ho)
    split
    . exact end_gt h (end_b ho)
    . rename_i h1 h2
      refine gt_posQ ?_ (by omega)
      have:=sqz_nn ((e.bx - e.ax)*(y - e.ay) - (e.by' - e.ay)*(x - e.ax))
      rcases Int.lt_or_eq_of_le this with g | g
      . exact g
      . exfalso
        have hc:(e.bx - e.ax)*(y - e.ay) - (e.by' - e.ay)*(x - e.ax)=0:=by rcases Int.mul_eq_zero.1 g.symm with g | g<;>exact g
        have b1:=between (a:=e.ax) (b:=e.bx) (p:=x) rfl hc rfl (by omega) (Int.not_le.1 h2) rfl rfl
        have b2:=between (a:=e.ay) (b:=e.by') (p:=y) (u:=e.by' - e.ay) (v:=e.bx - e.ax) (x:=y - e.ay) (y:=x - e.ax) (t:=(x - e.ax)*(e.bx - e.ax)+(y - e.ay)*(e.by' - e.ay)) (q:=sqI (e.bx - e.ax) (e.by' - e.ay)) (by unfold sqI;omega) (by omega) (by omega) (by omega) (by omega) rfl rfl
        rw [onE_line_mk hk ho b1 b2 (by omega)] at h
        cases h
  . rw [if_neg hk]
    have hr:=rad_pos ho hk
    unfold arcQ
    split
    . rename_i hq
      have hn:¬ sqI (x - e.cx) (y - e.cy)=radZ e*radZ e:=fun g=>by rw [onE_arc_mk ho hk hq g] at h;cases h
      split
      . exact gt_outQ (Int.le_of_lt hr) (by decide) (by omega)
      . exact gt_inQ hr (sqI_nn _ _) (by omega)
    split
    . exact end_gt h (end_b ho)
    . exact end_gt h (end_a ho)
theorem foot_gt (l:Ed) {a:Ed} (ha:a.ok=true) (hk:¬ a.k=1):∀ z ∈ footQ l a,0 < cmpQ z (intQ 0):=by
  intro z hz
  by_cases h:((a.cx - l.ax)*(l.bx - l.ax)+(a.cy - l.ay)*(l.by' - l.ay)<=0\/sqI (l.bx - l.ax) (l.by' - l.ay)<=(a.cx - l.ax)*(l.bx - l.ax)+(a.cy - l.ay)*(l.by' - l.ay)\/((l.bx - l.ax)*(a.cy - l.ay) - (l.by' - l.ay)*(a.cx - l.ax))*((l.bx - l.ax)*(a.cy - l.ay) - (l.by' - l.ay)*(a.cx - l.ax))<=radZ a*radZ a*sqI (l.bx - l.ax) (l.by' - l.ay)\/inQ a (if 0 < (l.bx - l.ax)*(a.cy - l.ay) - (l.by' - l.ay)*(a.cx - l.ax) then l.by' - l.ay else -(l.by' - l.ay)) (if 0 < (l.bx - l.ax)*(a.cy - l.ay) - (l.by' - l.ay)*(a.cx - l.ax) then -(l.bx - l.ax) else l.bx - l.ax)=false)
  . rw [show footQ l a=[] from if_pos h] at hz;cases hz
  . rw [show footQ l a = [⟨-radZ a, 1, ((l.bx - l.ax) * (a.cy - l.ay) - (l.by' - l.ay) * (a.cx - l.ax)) * ((l.bx - l.ax) * (a.cy - l.ay) - (l.by' - l.ay) * (a.cx - l.ax)), sqI (l.bx - l.ax) (l.by' - l.ay)⟩] from if_neg h] at hz
    simp only [not_or,Int.not_le] at h
    obtain ⟨h1,h2,h3,_⟩:=h
    simp only [List.mem_cons,List.not_mem_nil,or_false] at hz
    subst hz
    exact gt_outQ (Int.le_of_lt (rad_pos ha hk)) (by omega) h3
theorem cent_gt {a b:Ed} (ha:a.ok=true) (hb:b.ok=true) (hk:¬ a.k=1) (gk:¬ b.k=1):∀ z ∈ centQ a b,0 < cmpQ z (intQ 0):=by
  intro z hz
  have r1:=rad_pos ha hk
  have r2:=rad_pos hb gk
  have hn:=sqI_nn (b.cx - a.cx) (b.cy - a.cy)
  unfold centQ at hz
  simp only at hz
  generalize sqI (b.cx - a.cx) (b.cy - a.cy)=n at *
  split at hz
  . rename_i h1
    split at hz
    . simp only [List.mem_cons, List.not_mem_nil, or_false] at hz
      subst hz
      rw [show -radZ a - radZ b = -(radZ a+radZ b) by omega]
      exact gt_outQ (by omega) (by decide) (by omega)
    . cases hz
  split at hz
  . cases hz
  rename_i h1 h2
  split at hz
  . rename_i h3
    split at hz
    . simp only [List.mem_cons, List.not_mem_nil, or_false] at hz
      subst hz
      exact gt_inQ (by omega) hn (by omega)
    . cases hz
  . rename_i h3
    have h4:¬ radZ a=radZ b:=fun h=>by rw [h] at h2;simp at h2;omega
    split at hz
    . simp only [List.mem_cons, List.not_mem_nil, or_false] at hz
      subst hz
      have e:(radZ b - radZ a)*(radZ b - radZ a)=(radZ a - radZ b)*(radZ a - radZ b):=by grind
      exact gt_inQ (by omega) hn (by omega)
    . cases hz
theorem least_gt {a b:Ed} (ha:a.ok=true) (hb:b.ok=true) (hc:countE a b=0):0 < cmpQ (leastQ (candQ a b)) (intQ 0):=by
  have off:∀ x y,onE a x y=true->onE b x y=false:=fun x y h=>by
    cases g:onE b x y with
    | false=>rfl
    | true=>exact absurd hc (common_point h g)
  have off':∀ x y,onE b x y=true->onE a x y=false:=fun x y h=>by
    cases g:onE a x y with
    | false=>rfl
    | true=>exact absurd hc (common_point g h)
  have hm:=leastQ_mem (candQ_ne a b)
  revert hm
  generalize leastQ (candQ a b)=z
  intro hm
  unfold candQ at hm
  simp only [List.cons_append,List.nil_append,List.mem_cons] at hm
  rcases hm with rfl | rfl | rfl | rfl | hm
  . exact point_gt hb (off _ _ (end_a ha))
  . exact point_gt hb (off _ _ (end_b ha))
  . exact point_gt ha (off' _ _ (end_a hb))
  . exact point_gt ha (off' _ _ (end_b hb))
  . unfold innerQ at hm
    split at hm
    . split at hm
      . cases hm
      . exact foot_gt a hb (by assumption) _ hm
    . split at hm
      . exact foot_gt b ha (by assumption) _ hm
      . exact cent_gt ha hb (by assumption) (by assumption) _ hm
end

set_option maxHeartbeats 1000000
set_option maxRecDepth 100000
section
open Go.RowKit
def rowL (e:Nat->Ed):Nat->List Value
 | 0=>[]
 | n+1=>rowL e n++edL (e n)
end

section
open Go.RowKit
attribute [local go_sem] Gives givesU
def movS (s:Sh) (x y t:Int) (m:Bool):Sh:=⟨s.k,s.n,fun i=>moveE (s.e i) x y (modZ t 4) m,s.r⟩
def ptE (e f:Nat->Ed) (k i:Nat):Ed:=if i < k then f i else e i
structure MI (w W:World) (s:Sh) (x y t:Int) (m:Bool) (g cp:Nat) (sl:List Value) (k:Nat):Prop where
 ex:Ext w W
 b2:W.heap[w.heap.size]? = some (.cells #[.int .i64 s.k,.slice (some ⟨g,0,none⟩) s.n cp,.int .i64 s.r] 24)
 b3:W.heap[w.heap.size+1]? = some (.cells #[.int .i64 x,.int .i64 y,.int .i64 t,.bool m] 59)
 b4:W.heap[w.heap.size+1+1]? = some (.cells #[.int .i64 0,.slice none 0 0,.int .i64 0] 24)
 bg:W.heap[g]? = some (.cells (rowL (ptE s.e (movS s x y t m).e k) s.n++sl).toArray 70)
 lt:w.heap.size+1+1 < g
theorem MI.ext {w W W':World} {s:Sh} {x y t:Int} {m:Bool} {g cp:Nat} {sl:List Value} {k:Nat} (h:MI w W s x y t m g cp sl k) (hx:Ext W W'):MI w W' s x y t m g cp sl k:=⟨Ext.step h.ex hx,heap_ext h.b2 hx,heap_ext h.b3 hx,heap_ext h.b4 hx,heap_ext h.bg hx,h.lt⟩
theorem MI.cells {w W:World} {s:Sh} {x y t:Int} {m:Bool} {g cp:Nat} {sl:List Value} {k:Nat} (h:MI w W s x y t m g cp sl k):(W.cell? ⟨w.heap.size,0,none⟩=some (.int .i64 s.k)/\W.cell? ⟨w.heap.size,1,none⟩=some (.slice (some ⟨g,0,none⟩) s.n cp)/\W.cell? ⟨w.heap.size,2,none⟩=some (.int .i64 s.r)) /\
  W.cell? ⟨w.heap.size+1,0,none⟩=some (.int .i64 x)/\W.cell? ⟨w.heap.size+1,1,none⟩=some (.int .i64 y)/\W.cell? ⟨w.heap.size+1,2,none⟩=some (.int .i64 t)/\W.cell? ⟨w.heap.size+1,3,none⟩=some (.bool m):=by
 have e2:=h.b2
 have e3:=h.b3
 have c2:∀ i,W.cell? ⟨w.heap.size,i,none⟩=(#[.int .i64 s.k,.slice (some ⟨g,0,none⟩) s.n cp,.int .i64 s.r]:Array Value)[i]? := fun i=>by rw [cell_of_row _ _ _ _ _ _ e2]
 have c3:∀ i,W.cell? ⟨w.heap.size+1,i,none⟩=(#[.int .i64 x,.int .i64 y,.int .i64 t,.bool m]:Array Value)[i]? := fun i=>by rw [cell_of_row _ _ _ _ _ _ e3]
 exact ⟨⟨(c2 0).trans rfl,(c2 1).trans rfl,(c2 2).trans rfl⟩,(c3 0).trans rfl,(c3 1).trans rfl,(c3 2).trans rfl,(c3 3).trans rfl⟩
end

section
open Go.RowKit
def shQ (z:Q4) (n:Int):Q4:=⟨z.a+n,z.s,z.n,z.d⟩
theorem shQ_ok {z:Q4} (h:z.ok) (n:Int):(shQ z n).ok:=⟨h.s,h.n0,h.n1,h.d0,h.d1⟩
theorem q_rt {z:Q4} (h:z.ok):z.rt=⟨z.a,nz z.s z.n.toNat,ofZ ((z.n.toNat / Nat.gcd z.n.toNat z.d.toNat:Nat):Int),ofZ ((z.d.toNat / Nat.gcd z.n.toNat z.d.toNat:Nat):Int)⟩:=by
 rw [h.root.1,rootOf_nz h.s (by have:=h.d0;omega)]
theorem plus_q {z:Q4} (h:z.ok) {n:Int} (hi:inI (z.a+n)=true):plusR z.rt n=((shQ z n).rt,true):=by
 unfold plusR
 have ha:z.rt.add=z.a:=by rw [q_rt h]
 rw [h.root.2.2,ha,hi,q_rt (shQ_ok h n),q_rt h]
 rfl
theorem zrt_q (a b:Sh):zrt a b=(shQ (intQ 0) (sumR a b)).rt:=by
 have e:(ofP (sumR a b) 0 (ofZ ((0:Nat):Int)) (ofZ ((1:Nat):Int)))=(rootOf (sumR a b) 0 0 1,true):=ofP_nat (by decide) (by decide) (by decide) (by decide)
 have e2:shQ (intQ 0) (sumR a b)=intQ (sumR a b):=by unfold shQ intQ;simp
 rw [e2,intQ_rt]
 exact congrArg Prod.fst e
def Bd30 (x:Int):Prop := -1073741824<=x/\x<=1073741824
theorem point_a {e:Ed} (ho:e.ok=true) (x y:Int) : -134217728<=(pointQ e x y).a/\(pointQ e x y).a<=134217728:=by
 have hr:=(rad_b ho).1
 unfold pointQ lineQ arcQ endQ
 (repeat' split)<;>simp only<;>omega
theorem cand_a {a b:Ed} (ha:a.ok=true) (hb:b.ok=true):∀ z ∈ candQ a b,Bd30 z.a:=by
 intro z hz
 have r1:=(rad_b ha).1
 have r2:=(rad_b hb).1
 unfold Bd30
 unfold candQ at hz
 rcases List.mem_append.1 hz with hz | hz
 ·simp only [List.mem_cons, List.not_mem_nil, or_false] at hz
  rcases hz with rfl | rfl | rfl | rfl
  ·have:=point_a hb a.ax a.ay;omega
  ·have:=point_a hb a.bx a.by';omega
  ·have:=point_a ha b.ax b.ay;omega
  ·have:=point_a ha b.bx b.by';omega
 ·unfold innerQ footQ centQ at hz
  simp only at hz
  (repeat' split at hz)<;>first | (cases hz;done) | (simp only [List.mem_cons,List.not_mem_nil,or_false] at hz;subst hz;simp only;omega)
theorem gap_some (c:Nat->Pr):∀ k,0 < k->∃ i,i < k/\gapK c k=(c i).gp
 | 0,h=>absurd h (Nat.lt_irrefl _)
 | k+1,_=>by
  unfold gapK
  split
  ·exact ⟨k,Nat.lt_succ_self _,rfl⟩
  ·rename_i h
   have hk:0 < k:=by
    rcases Nat.eq_zero_or_pos k with h0 | h0
    ·subst h0;simp at h
    ·exact h0
   obtain ⟨i,h1,h2⟩:=gap_some c k hk
   exact ⟨i,by omega,h2⟩
theorem sum_r {a b:Sh} (ha:OkS a) (hb:OkS b):sumR a b = -a.r - b.r:=by
 obtain ⟨⟨a0,a1⟩,_⟩:=ha.r
 obtain ⟨⟨b0,b1⟩,_⟩:=hb.r
 unfold sumR
 have e:IntKind.i64.wrap (0 - a.r) = -a.r:=(wrap_in (by unfold I64;omega)).trans (by omega)
 rw [e,wrap_in (by unfold I64;omega)]
structure DistQ (a b:Sh) (z:Q4):Prop where
 ok:z.ok
 bd:Bd30 z.a
 eq:(ofQ a b).2=true/\(ofQ a b).1.m=metB a b/\(ofQ a b).1.d=(shQ z (-a.r - b.r)).rt
 met:metB a b=true->z=intQ 0/\(ofQ a b).1.a=Sp.no/\(ofQ a b).1.b=Sp.no
 far:metB a b=false->0 < cmpQ z (intQ 0)
theorem n_pos {s:Sh} (h:OkS s):0 < s.n:=by
 have:=h.n0
 unfold fewS at this
 split at this<;>omega
structure CoreQ (a b:Sh) (z:Q4):Prop where
 ok:z.ok
 bd:Bd30 z.a
 met:metB a b=true->z=intQ 0
 far:metB a b=false->0 < cmpQ z (intQ 0)/\(gapK (cnd a b) (a.n*b.n)).d=z.rt/\(gapK (cnd a b) (a.n*b.n)).m=false
theorem core_q {a b:Sh} (ha:OkS a) (hb:OkS b):∃ z,CoreQ a b z:=by
 cases hm:metB a b with
 | true=>exact ⟨intQ 0,intQ_ok 0,by unfold Bd30 intQ;simp only;omega,fun _=>rfl,fun h=>(by rw [hm] at h;cases h)⟩
 | false =>
  have hn:0 < a.n*b.n:=Nat.mul_pos (n_pos ha) (n_pos hb)
  obtain ⟨i,hi,hg⟩:=gap_some (cnd a b) (a.n*b.n) hn
  have hbn:=n_pos hb
  have i1:i / b.n < a.n:=(Nat.div_lt_iff_lt_mul hbn).2 hi
  have i2:i % b.n < b.n:=Nat.mod_lt _ hbn
  have oa:=ha.ok _ i1
  have ob:=hb.ok _ i2
  have hsep:sep a b i=true:=by
   have hm':=hm
   unfold metB at hm'
   simp only [Bool.or_eq_false_iff,Bool.not_eq_false'] at hm'
   exact allB_t.1 hm'.2 i hi
  have hc:countE (a.e (i / b.n)) (b.e (i % b.n))=0:=by unfold sep at hsep;simpa using hsep
  have hd:(gapK (cnd a b) (a.n*b.n)).d=(leastQ (candQ (a.e (i / b.n)) (b.e (i % b.n)))).rt:=by
   rw [hg]
   exact edgesR_Q oa ob hc
  have hmem:=leastQ_mem (candQ_ne (a.e (i / b.n)) (b.e (i % b.n)))
  exact ⟨_,candQ_ok oa ob _ hmem,cand_a oa ob _ hmem,fun h=>(by rw [hm] at h;cases h),fun _=>⟨least_gt oa ob hc,hd,by rw [hg];rfl⟩⟩
theorem core_dist {a b:Sh} (ha:OkS a) (hb:OkS b) {z:Q4} (C:CoreQ a b z):DistQ a b z:=by
 have h0:¬ (chkS a ≠ 0\/chkS b ≠ 0):=fun h=>h.elim (fun g=>g ha.chk) (fun g=>g hb.chk)
 have hs:=sum_r ha hb
 have ra:=ha.r.1
 have rb:=hb.r.1
 cases hm:metB a b with
 | true =>
  have e:ofQ a b=(metR a b,true):=by unfold ofQ;rw [if_neg h0,if_pos hm]
  refine ⟨C.ok,C.bd,⟨by rw [e],by rw [e,hm];rfl,?_⟩,fun _=>⟨C.met hm,by rw [e];exact ⟨rfl,rfl⟩⟩,fun h=>(by rw [hm] at h;cases h)⟩
  rw [e,<- hs,C.met hm]
  exact zrt_q a b
 | false =>
  have e:ofQ a b=({ gapK (cnd a b) (a.n*b.n) with d:=(plusR (gapK (cnd a b) (a.n*b.n)).d (sumR a b)).1 },true):=by unfold ofQ;rw [if_neg h0,if_neg (by rw [hm];decide)]
  obtain ⟨hgt,hd,hmf⟩:=C.far hm
  have hba:=C.bd
  refine ⟨C.ok,C.bd,⟨by rw [e],by rw [e,hm];exact hmf,?_⟩,fun h=>(by rw [hm] at h;cases h),fun _=>hgt⟩
  rw [e]
  show (plusR (gapK (cnd a b) (a.n*b.n)).d (sumR a b)).1=_
  unfold Bd30 at hba
  rw [hd,hs,plus_q C.ok (inI_iff.2 (by omega))]
theorem dist_q {a b:Sh} (ha:OkS a) (hb:OkS b):∃ z,DistQ a b z:=(core_q ha hb).imp fun _ C=>core_dist ha hb C
end

section
open Go.RowKit
def tI (e:Ed) (x y:Int):Int:=(x - e.ax)*(e.bx - e.ax)+(y - e.ay)*(e.by' - e.ay)
def cI (e:Ed) (x y:Int):Int:=(e.bx - e.ax)*(y - e.ay) - (e.by' - e.ay)*(x - e.ax)
def qI (e:Ed):Int:=sqI (e.bx - e.ax) (e.by' - e.ay)
end

section
open Go.RowKit
theorem sgQ {x y:Q4} (hx:x.ok) (hy:y.ok):Sg (cmpQ x y) (df x.rt y.rt):=by
 obtain ⟨_,k1,r1⟩:=hx.root
 obtain ⟨_,k2,r2⟩:=hy.root
 rw [<- cmpQ_rt hx hy]
 unfold cmpRt
 rw [r1,r2]
 exact cmpRt_sg k1 k2
theorem cmpQ_anti {x y:Q4} (hx:x.ok) (hy:y.ok):cmpQ y x = -cmpQ x y:=by
 refine Sg.uniq (sgQ hy hx) (Sg.eq (sgQ hx hy).neg fun k=>?_)
 rw [neg_f,df_f,df_f]
 grind
theorem cmpQ_self {x:Q4} (hx:x.ok):cmpQ x x=0:=by have:=cmpQ_anti hx hx;omega
theorem cmpQ_trans {x y z:Q4} (hx:x.ok) (hy:y.ok) (hz:z.ok) (h1:cmpQ x y<=0) (h2:cmpQ y z<=0):cmpQ x z<=0 :=
 ((cmp_trans hx.root.2.1 hy.root.2.1 hz.root.2.1 (sgQ hx hy) (sgQ hy hz) (sgQ hx hz)).1 h1 h2).1
theorem fold_le:∀ {m:List Q4} {y:Q4},y.ok->(∀ z ∈ m,z.ok)->(m.foldl (fun x y=>if cmpQ y x < 0 then y else x) y).ok/\cmpQ (m.foldl (fun x y=>if cmpQ y x < 0 then y else x) y) y<=0/\∀ z ∈ m,cmpQ (m.foldl (fun x y=>if cmpQ y x < 0 then y else x) y) z<=0
 | [],y,hy,_=>⟨hy,by rw [show List.foldl _ y []=y from rfl,cmpQ_self hy];exact Int.le_refl 0,nofun⟩
 | b::m,y,hy,hm=>by
  have hb:=hm b (List.mem_cons_self ..)
  have hm':∀ z ∈ m,z.ok:=fun z hz=>hm z (List.mem_cons_of_mem _ hz)
  simp only [List.foldl_cons]
  split
  ·rename_i h
   obtain ⟨k0,k1,k2⟩:=fold_le (y:=b) hb hm'
   refine ⟨k0,cmpQ_trans k0 hb hy k1 (Int.le_of_lt h),fun z hz=>?_⟩
   rcases List.mem_cons.1 hz with rfl | hz
   ·exact k1
   ·exact k2 z hz
  ·rename_i h
   obtain ⟨k0,k1,k2⟩:=fold_le (y:=y) hy hm'
   refine ⟨k0,k1,fun z hz=>?_⟩
   rcases List.mem_cons.1 hz with rfl | hz
   ·exact cmpQ_trans k0 hy hb k1 (by rw [cmpQ_anti hb hy];omega)
   ·exact k2 z hz
theorem leastQ_le {m:List Q4} (h0:m ≠ []) (hm:∀ z ∈ m,z.ok):(leastQ m).ok/\∀ z ∈ m,cmpQ (leastQ m) z<=0:=by
 cases m with
 | nil=>exact absurd rfl h0
 | cons y m =>
  obtain ⟨k0,k1,k2⟩:=fold_le (m:=m) (hm y (List.mem_cons_self ..)) fun z hz=>hm z (List.mem_cons_of_mem _ hz)
  refine ⟨k0,fun z hz=>?_⟩
  rcases List.mem_cons.1 hz with rfl | hz
  ·exact k1
  ·exact k2 z hz
theorem arc_ends {e:Ed} (h:e.ok=true) (hk:¬ e.k=1):(e.k=2/\e.bx - e.cx = -(e.ay - e.cy)/\e.by' - e.cy=e.ax - e.cx)\/(e.k=3/\e.bx - e.cx=e.ay - e.cy/\e.by' - e.cy = -(e.ax - e.cx)):=by
 have hk':=kind_of h
 unfold Ed.ok at h
 simp only [Bool.and_eq_true] at h
 obtain ⟨_,h2⟩:=h
 rcases hk' with k | k | k
 ·exact absurd k hk
 ·rw [k] at h2
  simp only [show ¬ (2:Int)=1 by decide,if_false,if_true,Ed.quarter,quarterB,Bool.and_eq_true,beq_iff_eq,rot] at h2
  exact .inl ⟨k,h2.2.1,h2.2.2⟩
 ·rw [k] at h2
  simp only [show ¬ (3:Int)=1 by decide,show ¬ (3:Int)=2 by decide,if_false,if_true,Ed.quarter,quarterB,Bool.and_eq_true,beq_iff_eq,rot] at h2
  refine .inr ⟨k,?_,?_⟩<;>omega
def dotA (e:Ed) (x y:Int):Int:=x*(e.ax - e.cx)+y*(e.ay - e.cy)
def dotB (e:Ed) (x y:Int):Int:=x*(e.bx - e.cx)+y*(e.by' - e.cy)
theorem inQ_dot {e:Ed} (h:e.ok=true) (hk:¬ e.k=1) (x y:Int):inQ e x y=(!(x==0&&y==0)&&(decide (0<=dotA e x y)&&decide (0<=dotB e x y))):=by
 unfold inQ wiB dotA dotB
 rcases arc_ends h hk with ⟨k,e1,e2⟩ | ⟨k,e1,e2⟩
 ·rw [if_neg (by omega), e1, e2]
  rw [show (e.ax - e.cx)*y - (e.ay - e.cy)*x=x * -(e.ay - e.cy)+y*(e.ax - e.cx) by grind,show x*(e.ax - e.cx) - y * -(e.ay - e.cy)=x*(e.ax - e.cx)+y*(e.ay - e.cy) by grind]
  congr 1
  exact Bool.and_comm _ _
 ·rw [if_pos k, e1, e2]
  rw [show (e.ay - e.cy)*y - -(e.ax - e.cx)*x=x*(e.ax - e.cx)+y*(e.ay - e.cy) by grind,show x*(e.ay - e.cy) - y*(e.ax - e.cx)=x*(e.ay - e.cy)+y * -(e.ax - e.cx) by grind]
theorem footQ_eq (l a:Ed):footQ l a=if tI l a.cx a.cy<=0\/qI l<=tI l a.cx a.cy\/cI l a.cx a.cy*cI l a.cx a.cy<=radZ a*radZ a*qI l\/inQ a (if 0 < cI l a.cx a.cy then l.by' - l.ay else -(l.by' - l.ay)) (if 0 < cI l a.cx a.cy then -(l.bx - l.ax) else l.bx - l.ax)=false then [] else [⟨-radZ a,1,cI l a.cx a.cy*cI l a.cx a.cy,qI l⟩]:=rfl
variable {a b c d x y:Int} {e e' f f':Ed}
theorem sq_iso (h:IsoOk a b c d) (u v:Int):sqI (a*u+b*v) (c*u+d*v)=sqI u v:=dot_iso h u v u v
theorem zero_iso (h:IsoOk a b c d) (u v:Int):(a*u+b*v==0&&c*u+d*v==0)=(u==0&&v==0):=by
 rw [Bool.eq_iff_iff]
 simp only [Bool.and_eq_true,beq_iff_eq]
 have:=eq_iso h u v 0 0
 simp only [Int.mul_zero,Int.add_zero] at this
 exact this
theorem Mvd.inQ (h:Mvd a b c d x y e e') (hk:¬ e.k=1) (u v:Int):inQ e' (a*u+b*v) (c*u+d*v)=inQ e u v:=by
 rw [inQ_dot h.ok hk,inQ_dot h.ok' (fun g=>hk (h.k.1 g)),zero_iso h.iso]
 unfold dotA dotB
 rw [h.ax,h.ay,h.bx,h.by',h.cx hk,h.cy hk,sub_iso,sub_iso,sub_iso,sub_iso,dot_iso h.iso,dot_iso h.iso]
theorem endQ_iso (h:IsoOk a b c d) (p q r s:Int):endQ (a*p+b*q+x) (c*p+d*q+y) (a*r+b*s+x) (c*r+d*s+y)=endQ p q r s:=by
 unfold endQ
 rw [sub_iso,sub_iso,sq_iso h]
theorem crs_sq (h:IsoOk a b c d) (p q r s:Int):((a*p+b*q)*(c*r+d*s) - (c*p+d*q)*(a*r+b*s))*((a*p+b*q)*(c*r+d*s) - (c*p+d*q)*(a*r+b*s))=(p*s - q*r)*(p*s - q*r):=by
 rw [crs_iso]
 rcases det_iso h with g | g<;>rw [g]
 ·rw [Int.one_mul]
 ·rw [Int.neg_one_mul,Int.neg_mul_neg]
theorem Mvd.lineQ (h:Mvd a b c d x y e e') (p q:Int):lineQ e' (a*p+b*q+x) (c*p+d*q+y)=lineQ e p q:=by
 unfold Go.Proofs.YtceemiodpccbhaaGreat.lineQ
 simp only [h.ax,h.ay,h.bx,h.by',sub_iso,dot_iso h.iso,sq_iso h.iso,endQ_iso h.iso,crs_sq h.iso]
theorem Mvd.pointQ (h:Mvd a b c d x y e e') (p q:Int):pointQ e' (a*p+b*q+x) (c*p+d*q+y)=pointQ e p q:=by
 unfold Go.Proofs.YtceemiodpccbhaaGreat.pointQ
 by_cases hk:e.k=1
 ·rw [if_pos hk,if_pos (h.k.2 hk),h.lineQ]
 ·rw [if_neg hk, if_neg (fun g => hk (h.k.1 g))]
  unfold arcQ
  simp only [h.ax,h.ay,h.bx,h.by',h.cx hk,h.cy hk,sub_iso,h.inQ hk,h.rad hk,sq_iso h.iso,endQ_iso h.iso]
theorem Mvd.footQ (h:Mvd a b c d x y e e') (g:Mvd a b c d x y f f') (hk:¬ f.k=1):footQ e' f'=footQ e f:=by
 rw [footQ_eq,footQ_eq]
 have e1:tI e' f'.cx f'.cy=tI e f.cx f.cy:=by unfold tI;simp only [h.ax,h.ay,h.bx,h.by',g.cx hk,g.cy hk,sub_iso,dot_iso h.iso]
 have e2:cI e' f'.cx f'.cy=(a*d - b*c)*cI e f.cx f.cy:=by unfold cI;simp only [h.ax,h.ay,h.bx,h.by',g.cx hk,g.cy hk,sub_iso];exact crs_iso ..
 have e3:qI e'=qI e:=by unfold qI;simp only [h.ax,h.ay,h.bx,h.by',sub_iso,sq_iso h.iso]
 have e4:e'.by' - e'.ay=c*(e.bx - e.ax)+d*(e.by' - e.ay):=by rw [h.ay,h.by',sub_iso]
 have e5:e'.bx - e'.ax=a*(e.bx - e.ax)+b*(e.by' - e.ay):=by rw [h.ax,h.bx,sub_iso]
 have hq:0<=qI e:=sqI_nn _ _
 have e6:(a*d - b*c)*cI e f.cx f.cy*((a*d - b*c)*cI e f.cx f.cy)=cI e f.cx f.cy*cI e f.cx f.cy:=by
  rcases det_iso h.iso with g | g<;>rw [g]
  ·rw [Int.one_mul]
  ·rw [Int.neg_one_mul,Int.neg_mul_neg]
 rw [e1,e2,e3,e4,e5,e6,g.rad hk]
 by_cases h0:cI e f.cx f.cy=0
 ·have h1:cI e f.cx f.cy*cI e f.cx f.cy<=radZ f*radZ f*qI e:=by
   rw [h0,Int.zero_mul];exact Int.mul_nonneg (sqz_nn _) hq
  rw [if_pos (.inr (.inr (.inl h1))),if_pos (.inr (.inr (.inl h1)))]
 ·generalize e.bx - e.ax = u
  generalize e.by' - e.ay=v
  have key:∃ n m:Int,(n=if 0 < cI e f.cx f.cy then v else -v)/\(m=if 0 < cI e f.cx f.cy then -u else u)/\(if 0 < (a*d - b*c)*cI e f.cx f.cy then c*u+d*v else -(c*u+d*v))=a*n+b*m/\(if 0 < (a*d - b*c)*cI e f.cx f.cy then -(a*u+b*v) else a*u+b*v)=c*n+d*m:=by
   refine ⟨_,_,rfl,rfl,?_⟩
   generalize cI e f.cx f.cy=C at *
   rcases h.iso with ⟨rfl,rfl,rfl | rfl,rfl | rfl⟩ | ⟨rfl,rfl,rfl | rfl,rfl | rfl⟩<;>by_cases hC:0 < C<;>simp [hC,h0]<;>(try (constructor))<;>(try split)<;>omega
  obtain ⟨n,m,hn,hm,k1,k2⟩:=key
  rw [k1,k2,g.inQ hk,<- hn,<- hm]
theorem Mvd.centQ (h:Mvd a b c d x y e e') (g:Mvd a b c d x y f f') (hk:¬ e.k=1) (gk:¬ f.k=1):centQ e' f'=centQ e f:=by
 have n1:∀ u v:Int,-(a*u+b*v)=a * -u+b * -v:=fun u v=>by grind
 have n2:∀ u v:Int,-(c*u+d*v)=c * -u+d * -v:=fun u v=>by grind
 unfold Go.Proofs.YtceemiodpccbhaaGreat.centQ
 simp only [h.cx hk,h.cy hk,g.cx gk,g.cy gk,sub_iso,n1,n2,h.inQ hk,g.inQ gk,h.rad hk,g.rad gk,sq_iso h.iso]
theorem Mvd.candQ (h:Mvd a b c d x y e e') (g:Mvd a b c d x y f f'):candQ e' f'=candQ e f:=by
 have hi:innerQ e' f'=innerQ e f:=by
  unfold innerQ
  by_cases k1:e.k=1
  ·by_cases k2 : f.k = 1
   ·simp only [if_pos k1,if_pos k2,if_pos (h.k.2 k1),if_pos (g.k.2 k2)]
   ·simp only [if_pos k1,if_neg k2,if_pos (h.k.2 k1),if_neg (fun t=>k2 (g.k.1 t)),h.footQ g k2]
  ·by_cases k2 : f.k = 1
   ·simp only [if_neg k1,if_pos k2,if_neg (fun t=>k1 (h.k.1 t)),if_pos (g.k.2 k2),g.footQ h k1]
   ·simp only [if_neg k1,if_neg k2,if_neg (fun t=>k1 (h.k.1 t)),if_neg (fun t=>k2 (g.k.1 t)),h.centQ g k1 k2]
 unfold Go.Proofs.YtceemiodpccbhaaGreat.candQ
 rw [hi,h.ax,h.ay,h.bx,h.by',g.ax,g.ay,g.bx,g.by',g.pointQ,g.pointQ,h.pointQ,h.pointQ]
end

section
open Go.RowKit
theorem side_leP {p r n:Int} (hr:0 < r) (hn:0 < n) (h:p*p<=r*r*n):sideZ (2*p) (2 * -r*1) n<=0:=by
  unfold sideZ
  rw [sgn_pP hn,sgn_mP (show 2 * -r*1 < 0 by omega)]
  rcases Int.lt_trichotomy p 0 with g | g | g
  . rw [sgn_mP (show 2*p < 0 by omega),if_pos (by decide)];decide
  . subst g;rw [show sgn (2*0)=0 from rfl,if_pos (by decide)];decide
  . rw [sgn_pP (show 0 < 2 * p by omega), if_neg (by decide), Int.one_mul]
    unfold cmpZ
    have e1:2*p*(2*p)=4*(p*p):=by grind
    have e2:2 * -r*1*(2 * -r*1)*n=4*(r*r*n):=by grind
    split
    . decide
    . rw [if_pos (by omega)];decide
theorem le_sqQ {n d m:Int} (hn:0<=n) (hd:0 < d) (hm:0<=m) (h:n<=m*d):cmpQ ⟨0,1,n,d⟩ ⟨0,1,m,1⟩<=0:=by
  unfold cmpQ cmpR
  simp only [Int.sub_zero,Int.zero_mul,Int.mul_zero,Int.zero_add,Int.mul_one]
  by_cases h1:n=0
  . rw [nz0P h1, side_l0P, show sgn 0 = 0 from rfl]
    by_cases h2:m=0
    . rw [nz0P h2];simp
    . rw [nz1P h2,if_pos (by decide)];decide
  . have h2 : ¬ m = 0 := fun g => by rw [g, Int.zero_mul] at h; omega
    have h3:0 < n*d:=Int.mul_pos (by omega) hd
    have e:sideZ 0 1 (n*d)=1:=by unfold sideZ;rw [sgn_pP h3,show sgn 0=0 from rfl,show sgn 1=1 from rfl,if_pos (by decide)];decide
    rw [nz1P h1,nz1P h2,e,if_neg (by decide),Int.one_mul,side_l0P]
    rcases sgn_cases (n - m*d) with ⟨h,g⟩ | ⟨h,g⟩ | ⟨h,g⟩<;>omega
theorem le_outQ {r n m p:Int} (hr:0 < r) (hn:r*r<=n) (hm:0<=m) (h:n+r*r - m=2*p) (hp:p*p<=r*r*n):cmpQ ⟨-r,1,n,1⟩ ⟨0,1,m,1⟩<=0:=by
  have r0:0 < r*r:=Int.mul_pos hr hr
  unfold cmpQ cmpR
  simp only [Int.sub_zero,Int.mul_one]
  rw [nz1P (show ¬ n=0 by omega)]
  have e:sideZ (-r) 1 n=if n=r*r then 0 else 1:=by
    unfold sideZ
    rw [sgn_mP (show -r < 0 by omega),sgn_pP (show 0 < n by omega),show sgn 1=1 from rfl,if_neg (by decide),Int.neg_mul_neg,Int.one_mul,Int.one_mul]
    unfold cmpZ
    split
    . rw [if_neg (by omega)];decide
    . rw [if_pos (by omega),if_pos (by omega)];decide
  rw [e]
  by_cases h1:n=r*r
  . rw [if_pos h1]
    by_cases h2:m=0
    . rw [nz0P h2];simp
    . rw [nz1P h2,if_pos (by decide)];decide
  . rw [if_neg h1]
    by_cases h2:m=0
    . exfalso
      have e1:4*(p*p)=(n+r*r)*(n+r*r):=by rw [show n+r*r=2*p by omega];grind
      have e2:(n+r*r)*(n+r*r)=(n - r*r)*(n - r*r)+4*(r*r*n):=by grind
      have e3:0 < (n - r*r)*(n - r*r):=Int.mul_pos (by omega) (by omega)
      omega
    . rw [nz1P h2, if_neg (by decide), Int.one_mul, Int.neg_mul_neg, show r * r + n - m = 2 * p by omega]
      have:=side_leP hr (show 0 < n by omega) hp
      simpa using this
theorem le_inQ {r n m p:Int} (hr:0 < r) (h0:0<=n) (hn:n < r*r) (hm:0<=m) (h:n+r*r - m=2*p) (hp:p*p<=r*r*n):cmpQ ⟨r,-1,n,1⟩ ⟨0,1,m,1⟩<=0:=by
  have r0:0 < r*r:=Int.mul_pos hr hr
  have h2:¬ m=0:=fun g=>by
    have e1:4*(p*p)=(n+r*r)*(n+r*r):=by rw [show n+r*r=2*p by omega];grind
    have e2:(n+r*r)*(n+r*r)=(r*r - n)*(r*r - n)+4*(r*r*n):=by grind
    have e3:0 < (r*r - n)*(r*r - n):=Int.mul_pos (by omega) (by omega)
    omega
  unfold cmpQ cmpR
  simp only [Int.sub_zero,Int.mul_one]
  rw [nz1P h2]
  by_cases h1:n=0
  . rw [nz0P h1, side_l0P, sgn_pP hr, if_neg (by decide), Int.one_mul, Int.mul_zero, side_l0P]
    have:p=0:=by
      rw [h1,Int.mul_zero] at hp
      have:=sqz_nn p
      rcases Int.mul_eq_zero.1 (show p*p=0 by omega) with g | g<;>exact g
    rcases sgn_cases (r*r+n - m) with ⟨h,g⟩ | ⟨h,g⟩ | ⟨h,g⟩<;>omega
  . have e:sideZ r (-1) n=1:=by
      unfold sideZ
      rw [sgn_pP hr,sgn_pP (show 0 < n by omega),show sgn (-1) = -1 from rfl,if_neg (by decide),Int.neg_mul_neg,Int.one_mul,Int.one_mul,Int.one_mul]
      unfold cmpZ
      rw [if_neg (by omega),if_neg (by omega)]
    rw [nz1P h1,e,if_neg (by decide),Int.one_mul,show r*r+n - m=2*p by omega,show 2*r * -1=2 * -r*1 by omega]
    exact side_leP hr (by omega) hp
theorem le_endQ {x y a b c d:Int} (h:sqI (x - a) (y - b)<=sqI (x - c) (y - d)):cmpQ (endQ x y a b) (endQ x y c d)<=0 :=
  le_sqQ (sqI_nn _ _) (by decide) (sqI_nn _ _) (by omega)
theorem dot_neg {q t τ x y a b u v:Int} (hq:u*u+v*v=q) (q0:0 < q) (hw:u*b=v*a) (hτ:a*u+b*v=τ) (ht:x*u+y*v=t) (h:τ*t<=0):x*a+y*b<=0:=by
  have e:q*(x*a+y*b)=τ*t:=by
    have e1:q*a=τ*u:=by subst hq hτ;grind
    have e2:q*b=τ*v:=by subst hq hτ;grind
    have:q*(x*a+y*b)=x*(q*a)+y*(q*b):=by grind
    rw [this,e1,e2];subst ht;grind
  rcases Int.lt_or_le 0 (x*a+y*b) with g | g
  . have:=Int.mul_pos q0 g;omega
  . exact g
theorem sub_sqI (x y a b c d:Int) (h:(x - a)*(c - a)+(y - b)*(d - b)<=0):sqI (x - a) (y - b)<=sqI (x - c) (y - d):=by
  have e:sqI (x - c) (y - d)=sqI (x - a) (y - b) - 2*((x - a)*(c - a)+(y - b)*(d - b))+sqI (c - a) (d - b):=by unfold sqI;grind
  have:=sqI_nn (c - a) (d - b)
  omega
theorem line_le {e:Ed} {x y a b:Int} (hk:e.k=1) (h:onE e a b=true):cmpQ (lineQ e x y) (endQ x y a b)<=0:=by
  obtain ⟨ho,b1,b2,hc⟩:=onE_line hk h
  have m1:=btw_mul (btw_shift b1)
  have m2:=btw_mul (btw_shift b2)
  unfold lineQ
  obtain ⟨q,hq⟩:∃ q,sqI (e.bx - e.ax) (e.by' - e.ay)=q:=⟨_,rfl⟩
  obtain ⟨t,ht⟩:∃ t,(x - e.ax)*(e.bx - e.ax)+(y - e.ay)*(e.by' - e.ay)=t:=⟨_,rfl⟩
  obtain ⟨τ,hτ⟩:∃ τ,(a - e.ax)*(e.bx - e.ax)+(b - e.ay)*(e.by' - e.ay)=τ:=⟨_,rfl⟩
  have t0:0<=τ:=by omega
  have t1:τ<=q:=by rw [<- hq];unfold sqI;omega
  have q0:0<=q:=by rw [<- hq];exact sqI_nn _ _
  have z0:q=0->a=e.ax/\b=e.ay/\a=e.bx/\b=e.by':=fun g=>by
    have:e.bx - e.ax=0/\e.by' - e.ay=0:=by
      apply Classical.byContradiction
      intro hn
      have:=sqI_pos hn
      omega
    unfold Btw at b1 b2
    omega
  rw [hq,ht]
  by_cases h1:t<=0
  . rw [if_pos h1]
    refine le_endQ ?_
    by_cases g:q=0
    . obtain ⟨z1, z2, _⟩ := z0 g
      rw [z1,z2];exact Int.le_refl _
    . refine sub_sqI _ _ _ _ _ _ (dot_neg (q := q) (u := e.bx - e.ax) (v := e.by' - e.ay) (by rw [<- hq]; rfl) (by omega) hc hτ ht ?_)
      exact Int.mul_nonpos_of_nonneg_of_nonpos t0 h1
  rw [if_neg h1]
  by_cases h2:q<=t
  . rw [if_pos h2]
    refine le_endQ ?_
    by_cases g:q=0
    . obtain ⟨_, _, z1, z2⟩ := z0 g
      rw [z1,z2];exact Int.le_refl _
    . refine sub_sqI _ _ _ _ _ _ (dot_neg (q := q) (t := t - q) (τ := τ - q) (u := e.bx - e.ax) (v := e.by' - e.ay) (by rw [<- hq]; rfl) (by omega) ?_ ?_ ?_ ?_)
      . grind
      . rw [<- hτ,<- hq];unfold sqI;grind
      . rw [<- ht,<- hq];unfold sqI;grind
      . have := Int.mul_nonneg (show 0 <= q - τ by omega) (show 0 <= t - q by omega)
        have e:(τ - q)*(t - q) = -((q - τ)*(t - q)):=by grind
        omega
  . rw [if_neg h2]
    refine le_sqQ (sqz_nn _) (by omega) (sqI_nn _ _) ?_
    have e:sqI (x - a) (y - b)*q=(t - τ)*(t - τ)+((e.bx - e.ax)*(y - e.ay) - (e.by' - e.ay)*(x - e.ax))*((e.bx - e.ax)*(y - e.ay) - (e.by' - e.ay)*(x - e.ax)):=by
      have hx:∀ u v p r s w:Int,u*w=v*s->((p - s)*(p - s)+(r - w)*(r - w))*(u*u+v*v)=(p*u+r*v - (s*u+w*v))*(p*u+r*v - (s*u+w*v))+(u*r - v*p)*(u*r - v*p):=fun u v p r s w h=>by grind
      have:=hx (e.bx - e.ax) (e.by' - e.ay) (x - e.ax) (y - e.ay) (a - e.ax) (b - e.ay) hc
      rw [<- ht,<- hτ,<- hq,<- this]
      unfold sqI
      grind
    rw [e]
    have:=sqz_nn (t - τ)
    omega
theorem dot_max {p q α β r:Int} (hr:0 < r) (ha:0<=α) (hb:0<=β) (hs:α*α+β*β=r*r) (h:(p=0/\q=0)\/p < 0\/q < 0):p*α+q*β<=max (p*r) (q*r):=by
  have a1:α<=r:=(abs_leP (Int.le_of_lt hr) (by have:=sqz_nn β;omega)).2
  have b1:β<=r:=(abs_leP (Int.le_of_lt hr) (by have:=sqz_nn α;omega)).2
  have s1:r<=α+β:=by
    have e:(α+β)*(α+β)=α*α+β*β+2*(α*β):=by grind
    have:=Int.mul_nonneg ha hb
    exact (abs_leP (x:=r) (show 0<=α+β by omega) (by omega)).2
  have k1:0<=p->p*α<=p*r:=fun h=>Int.mul_le_mul_of_nonneg_left a1 h
  have k2:0<=q->q*β<=q*r:=fun h=>Int.mul_le_mul_of_nonneg_left b1 h
  have k3:p<=0->p*α<=0:=fun h=>Int.mul_nonpos_of_nonpos_of_nonneg h ha
  have k4:q<=0->q*β<=0:=fun h=>Int.mul_nonpos_of_nonpos_of_nonneg h hb
  by_cases hp:0<=p
  . by_cases hq : 0 <= q
    . rcases h with ⟨rfl, rfl⟩ | h | h
      . simp
      . omega
      . omega
    . have:=k1 hp;have:=k4 (by omega);omega
  . by_cases hq : 0 <= q
    . have:=k3 (by omega);have:=k2 hq;omega
    . rcases Int.le_total p q with g | g
      . have e1 := Int.mul_le_mul_of_nonneg_right g ha
        have e2:q*(α+β)<=q*r:=Int.mul_le_mul_of_nonpos_left (by omega) s1
        rw [Int.mul_add] at e2
        omega
      . have e1 := Int.mul_le_mul_of_nonneg_right g hb
        have e2:p*(α+β)<=p*r:=Int.mul_le_mul_of_nonpos_left (by omega) s1
        rw [Int.mul_add] at e2
        omega
theorem arc_frame {e:Ed} (ho:e.ok=true) (hk:¬ e.k=1):0 < radZ e/\e.ax - e.cx=radZ e*e.ux/\e.ay - e.cy=radZ e*e.uy/\e.bx - e.cx=radZ e*e.vx/\e.by' - e.cy=radZ e*e.vy/\e.ux*e.ux+e.uy*e.uy=1/\e.vx*e.vx+e.vy*e.vy=1/\e.ux*e.vx+e.uy*e.vy=0 /\
    (∀ a b c d:Int,a*c+b*d=(a*e.ux+b*e.uy)*(c*e.ux+d*e.uy)+(a*e.vx+b*e.vy)*(c*e.vx+d*e.vy)) /\
    (∀ x y:Int,inQ e x y=false->(x*e.ux+y*e.uy=0/\x*e.vx+y*e.vy=0)\/x*e.ux+y*e.uy < 0\/x*e.vx+y*e.vy < 0) /\
    (∀ x y:Int,inQ e x y=true->0<=x*e.ux+y*e.uy/\0<=x*e.vx+y*e.vy):=by
  obtain ⟨r0,hu,hv,a1,a2,a3,a4⟩:=arc_axes ho hk
  have f1:e.ax - e.cx=radZ e*e.ux:=by omega
  have f2:e.ay - e.cy=radZ e*e.uy:=by omega
  have f3:e.bx - e.cx=radZ e*e.vx:=by omega
  have f4:e.by' - e.cy=radZ e*e.vy:=by omega
  refine ⟨r0,f1,f2,f3,f4,?_⟩
  unfold inQ wiB
  rw [f1,f2,f3,f4]
  obtain ⟨r,R⟩:∃ r,radZ e=r:=⟨_,rfl⟩
  rw [R] at r0 ⊢
  have m0:r*0=0:=by omega
  have m1:r*1=r:=by omega
  have m2:r * -1 = -r:=by omega
  have n0 : -(0:Int)=0:=rfl
  have n1 : -(-1:Int)=1:=rfl
  have sg:∀ t:Int,(0<=r*t <-> 0<=t):=fun t=>by
    constructor
    . intro h
      rcases Int.lt_or_le t 0 with g | g
      . have:=Int.mul_neg_of_pos_of_neg r0 g;omega
      . exact g
    . exact fun h=>Int.mul_nonneg (Int.le_of_lt r0) h
  have sn:∀ t:Int,(0 <= -(r*t) <-> 0 <= -t):=fun t=>by rw [<- Int.mul_neg];exact sg (-t)
  rcases hu with ⟨u1,u2⟩ | ⟨u1,u2⟩ | ⟨u1,u2⟩ | ⟨u1,u2⟩<;>rcases hv with ⟨k0,v1,v2⟩ | ⟨k0,v1,v2⟩ <;>
    (rw [u1] at v2 ⊢; rw [u2] at v1 ⊢; rw [v1, v2, k0]
     simp only [show ¬ (2:Int)=3 by decide,if_false,if_true,m0,m1,m2,n0,n1,Int.mul_zero,Int.zero_mul,Int.neg_mul,Int.mul_neg,Int.mul_one,Int.sub_zero,Int.zero_sub,Int.neg_neg,Int.add_zero,Int.zero_add]
     refine ⟨by decide,by decide,by decide,fun a b c d=>by grind,fun x y h=>?_,fun x y h=>?_⟩
     . simp only [Int.mul_comm x r, Int.mul_comm y r, sg, sn, Int.sub_neg] at h
       simp only [Bool.and_eq_false_iff,Bool.not_eq_false',Bool.and_eq_true,beq_iff_eq,decide_eq_false_iff_not] at h
       omega
     . simp only [Int.mul_comm x r, Int.mul_comm y r, sg, sn, Int.sub_neg] at h
       simp only [Bool.and_eq_true,decide_eq_true_eq] at h
       omega)
theorem arc_le {e:Ed} {x y a b:Int} (hk:¬ e.k=1) (h:onE e a b=true):cmpQ (arcQ e x y) (endQ x y a b)<=0:=by
  obtain ⟨ho,hw,w1,w2⟩:=onE_arc hk h
  obtain ⟨r0,f1,f2,f3,f4,uu,vv,uv,dt,iF,iT⟩:=arc_frame ho hk
  have hm:∀ {p:Int},p=(x - e.cx)*(a - e.cx)+(y - e.cy)*(b - e.cy)->sqI (x - e.cx) (y - e.cy)+radZ e*radZ e - sqI (x - a) (y - b)=2*p:=fun hp=>by
    rw [hp,<- hw];unfold sqI;grind
  have hc:((x - e.cx)*(a - e.cx)+(y - e.cy)*(b - e.cy))*((x - e.cx)*(a - e.cx)+(y - e.cy)*(b - e.cy))<=radZ e*radZ e*sqI (x - e.cx) (y - e.cy):=by
    have e1:radZ e*radZ e*sqI (x - e.cx) (y - e.cy)=((x - e.cx)*(a - e.cx)+(y - e.cy)*(b - e.cy))*((x - e.cx)*(a - e.cx)+(y - e.cy)*(b - e.cy))+((x - e.cx)*(b - e.cy) - (y - e.cy)*(a - e.cx))*((x - e.cx)*(b - e.cy) - (y - e.cy)*(a - e.cx)):=by rw [<- hw];unfold sqI;grind
    have:=sqz_nn ((x - e.cx)*(b - e.cy) - (y - e.cy)*(a - e.cx))
    omega
  unfold arcQ
  cases hq:inQ e (x - e.cx) (y - e.cy) with
  | true =>
    rw [if_pos rfl]
    by_cases g:radZ e*radZ e<=sqI (x - e.cx) (y - e.cy)
    . rw [if_pos g]
      exact le_outQ r0 g (sqI_nn _ _) (hm rfl) hc
    . rw [if_neg g]
      exact le_inQ r0 (sqI_nn _ _) (by omega) (sqI_nn _ _) (hm rfl) hc
  | false =>
    rw [if_neg (by decide)]
    have h1:=iF _ _ hq
    have ws:((a - e.cx)*e.ux+(b - e.cy)*e.uy)*((a - e.cx)*e.ux+(b - e.cy)*e.uy)+((a - e.cx)*e.vx+(b - e.cy)*e.vy)*((a - e.cx)*e.vx+(b - e.cy)*e.vy)=radZ e*radZ e:=by rw [<- hw];exact (dt _ _ _ _).symm
    have h2:=dot_max r0 w1 w2 ws h1
    rw [<- dt] at h2
    have h3:=hm (p:=(x - e.cx)*(a - e.cx)+(y - e.cy)*(b - e.cy)) rfl
    have ea:sqI (x - e.ax) (y - e.ay)=sqI (x - e.cx) (y - e.cy)+radZ e*radZ e - 2*(((x - e.cx)*e.ux+(y - e.cy)*e.uy)*radZ e):=by
      have e1:x - e.ax=x - e.cx - radZ e*e.ux:=by omega
      have e2:y - e.ay=y - e.cy - radZ e*e.uy:=by omega
      have e3:radZ e*radZ e*(e.ux*e.ux+e.uy*e.uy)=radZ e*radZ e:=by rw [uu,Int.mul_one]
      rw [e1,e2]
      unfold sqI
      grind
    have eb:sqI (x - e.bx) (y - e.by')=sqI (x - e.cx) (y - e.cy)+radZ e*radZ e - 2*(((x - e.cx)*e.vx+(y - e.cy)*e.vy)*radZ e):=by
      have e1:x - e.bx=x - e.cx - radZ e*e.vx:=by omega
      have e2:y - e.by'=y - e.cy - radZ e*e.vy:=by omega
      have e3:radZ e*radZ e*(e.vx*e.vx+e.vy*e.vy)=radZ e*radZ e:=by rw [vv,Int.mul_one]
      rw [e1,e2]
      unfold sqI
      grind
    split
    . exact le_endQ (by omega)
    . exact le_endQ (by omega)
theorem point_le {e:Ed} {x y a b:Int} (h:onE e a b=true):cmpQ (pointQ e x y) (endQ x y a b)<=0:=by
  unfold pointQ
  by_cases hk:e.k=1
  . rw [if_pos hk];exact line_le hk h
  . rw [if_neg hk];exact arc_le hk h
end
end Go.Proofs.YtceemiodpccbhaaGreat
