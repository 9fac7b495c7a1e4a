import Derived.Test.YteajakbpmeebnaaGreatH25
set_option linter.unusedVariables false
set_option linter.unusedSimpArgs false

namespace Go.Proofs.YteajakbpmeebnaaGreat
open Go.RowKit
theorem int_rt(i:Int):Rt.right ⟨i,0,zero,ofZ 1⟩=true:=by
 have h:=ofP_nat (add:=i) (s:=0) (n:=0) (d:=1) (by decide) (by decide +kernel) (by decide +kernel) (by decide)
 obtain⟨q1,q2,_⟩:=ofP_ok (dig_digs _) (dig_digs _) h
 have e:rootOf i 0 0 1=⟨i,0,zero,ofZ 1⟩:=by unfold rootOf;rw[if_pos (.inl rfl)]
 rw[e] at q1 q2
 exact right_of q2 q1.nr q1.dr
theorem cmp_rint{add s i:Int}{n d:Nat}(hs:s=1\/s = -1)(hn:n<4294967296 ^ 8)(hd:d<4294967296 ^ 8)(h0:0<d):cmpRt (rootOf add s n d) ⟨i,0,zero,ofZ 1⟩=sideZ ((add-i)*d) s ((n:Int)*d):=by
 unfold cmpRt
 rw[(whole_ok (by omega) hn hd h0).2,int_rt]
 simp only[Bool.and_self,if_true]
 rw[zero_z,ofZ_z]
 exact cmp_int h0 (by omega)
theorem dR_root{add s n d:Int}(hs : -1<=s/\s<=1)(hn:0<=n)(hn2:n<85070591730234615865843651857942052864*4)(hd:0<d)(hd2:d<85070591730234615865843651857942052864*4):dR add s n d=rootOf add s n.toNat d.toNat/\n.toNat<4294967296 ^ 8/\d.toNat<4294967296 ^ 8/\0<d.toNat:=by
 have b:(85070591730234615865843651857942052864*4:Int)<((4294967296 ^ 8:Nat):Int):=by decide +kernel
 have h1:n.toNat<4294967296 ^ 8:=by omega
 have h2:d.toNat<4294967296 ^ 8:=by omega
 refine⟨?_,h1,h2,by omega⟩
 have:=ofP_nat (add:=add) hs h1 h2 (by omega)
 rw[Int.toNat_of_nonneg hn,Int.toNat_of_nonneg (by omega)] at this
 unfold dR
 rw[this]
theorem sq_lt{c:Int}(h : -9223372036854775808<=c/\c<=9223372036854775807):0<=c*c/\c*c<85070591730234615865843651857942052864*4:=by
 refine⟨sqz_nn c,?_⟩
 have h1:c.natAbs<=9223372036854775808:=by omega
 have h2:=Nat.mul_le_mul h1 h1
 rw[<- Int.natAbs_mul_self]
 omega
theorem foot_cmp{r c q:Int}(hr:0<=r)(hc : -9223372036854775808<=c/\c<=9223372036854775807)(hq:0<q)(hq2:q<=9223372036854775807):cmpRt (dR (-r) 1 (c*c) q) ⟨0,0,zero,ofZ 1⟩<=0 <-> c*c<=r*r*q:=by
 obtain⟨s1,s2⟩:=sq_lt hc
 obtain⟨e,h1,h2,h3⟩:=dR_root (add := -r) (s:=1) (by decide) s1 s2 hq (by omega)
 rw[e,cmp_rint (.inl rfl) h1 h2 h3,Int.toNat_of_nonneg s1,Int.toNat_of_nonneg (by omega),show (-r-0) = -r by omega,side_whole hr hq s1]
 have e2:q*r*r=r*r*q:=by rw[Int.mul_assoc,Int.mul_comm]
 rw[e2]
 unfold sgn cmpZ
 (repeat' split)<;>omega

set_option maxHeartbeats 4000000
set_option maxRecDepth 100000
section
def KE:List Con:=[cPoint,cLeast,cMeet,cCmpInt,cNOf,cPower,cRtOf,cChk,cRad,cQuarter]
def edgV(p:Pr):AV:=.tup [rtV p.d,spV p.a,spV p.b]
theorem edges_no(e f:Ed)(h:(e.ok&&f.ok&&(countE e f==0))=false):Fok Tryz.prog 41 [edV e lim lim,edV f lim lim] (edgV ⟨Rt.no,Sp.no,Sp.no⟩):=by
 cases h1:e.ok with
 | false=>exact fok KE [true] [pT (chk_T h1)] (by kernel_rfl)
 | true =>
  cases h2:f.ok with
  | false=>exact fok KE [false,true] [pF (chk_F h1),pT (chk_T h2)] (by kernel_rfl)
  | true =>
   rw[h1,h2] at h
   have h3:(!(countE e f==0))=true:=by simpa using h
   exact fok KE [false,false,true] [pF (chk_F h1),pF (chk_F h2),pT h3] (by kernel_rfl)
theorem leastP_cand(e f:Ed){l:List Pr}(h:innerR e f=l):leastP (candR e f)=leastP ([⟨(pointR f e.ax e.ay).1,spP e.ax e.ay,(pointR f e.ax e.ay).2⟩,⟨(pointR f e.bx e.by').1,spP e.bx e.by',(pointR f e.bx e.by').2⟩,
  ⟨(pointR e f.ax f.ay).1,(pointR e f.ax f.ay).2,spP f.ax f.ay⟩,⟨(pointR e f.bx f.by').1,(pointR e f.bx f.by').2,spP f.bx f.by'⟩]++l):=by subst h;rfl
def tF(l a:Ed):Int:=(a.cx-l.ax)*(l.bx-l.ax)+(a.cy-l.ay)*(l.by'-l.ay)
def cF(l a:Ed):Int:=(l.bx-l.ax)*(a.cy-l.ay)-(l.by'-l.ay)*(a.cx-l.ax)
def qF(l:Ed):Int:=sqI (l.bx-l.ax) (l.by'-l.ay)
def dF(l a:Ed):Rt:=dR (0-radZ a) 1 (cF l a*cF l a) (max (qF l) 1)
def zF:Rt:=⟨0,0,zero,ofZ 1⟩
theorem footR_eq(l a:Ed)(nx ny:Int)(hx:nx=if 0<cF l a then l.by'-l.ay else 0-(l.by'-l.ay))(hy:ny=if 0<cF l a then 0-(l.bx-l.ax) else l.bx-l.ax) :
  footR l a=if tF l a<=0\/qF l<=tF l a\/cF l a*cF l a<=radZ a*radZ a*qF l\/inQ a nx ny=false then [] else [⟨dR (-radZ a) 1 (cF l a*cF l a) (qF l),⟨l.ax,l.ay,l.bx-l.ax,l.by'-l.ay,tF l a,qF l,0⟩,⟨a.cx,a.cy,nx,ny,0,0,radZ a⟩⟩]:=by
 subst hx hy
 simp only[zero_sub']
 rfl
theorem foot_cases{l a:Ed}(hl:l.ok=true)(ha:a.ok=true)(ka:¬a.k=1)(nx ny:Int)(hx:nx=if 0<cF l a then l.by'-l.ay else 0-(l.by'-l.ay))(hy:ny=if 0<cF l a then 0-(l.bx-l.ax) else l.bx-l.ax) :
  (tF l a<=0/\footR l a=[])\/(¬tF l a<=0/\qF l<=tF l a/\footR l a=[])\/(¬tF l a<=0/\¬qF l<=tF l a/\cmpRt (dF l a) zF<=0/\footR l a=[]) \/
  (¬tF l a<=0/\¬qF l<=tF l a/\¬cmpRt (dF l a) zF<=0/\inQ a nx ny=false/\footR l a=[]) \/
  (¬tF l a<=0/\¬qF l<=tF l a/\¬cmpRt (dF l a) zF<=0/\inQ a nx ny=true/\footR l a=[⟨dF l a,⟨l.ax,l.ay,l.bx-l.ax,l.by'-l.ay,tF l a,qF l,0⟩,⟨a.cx,a.cy,nx,ny,0,0,radZ a⟩⟩]):=by
 have E:=footR_eq l a nx ny hx hy
 obtain⟨⟨l1,l2⟩,⟨l3,l4⟩,_⟩:=ok_right hl
 obtain⟨_,_,a5,a6⟩:=ok_right ha
 have iC:I64 (cF l a):=(l3.sub l1).cross (a6.sub l2) (l4.sub l2) (a5.sub l1)
 have iQ:I64 (qF l):=(l3.sub l1).sq (l4.sub l2)
 have hr:=rad_pos ha ka
 by_cases h1:tF l a<=0
 ·exact .inl ⟨h1,by rw[E,if_pos (.inl h1)]⟩
 by_cases h2:qF l<=tF l a
 ·exact .inr (.inl ⟨h1,h2,by rw[E,if_pos (.inr (.inl h2))]⟩)
 have hm:max (qF l) 1=qF l:=by omega
 have hd:dF l a=dR (-radZ a) 1 (cF l a*cF l a) (qF l):=by unfold dF;rw[hm,zero_sub']
 have hc:=foot_cmp (r:=radZ a) (c:=cF l a) (q:=qF l) (by omega) iC (by omega) iQ.2
 rw[<- hd] at hc
 by_cases h3:cmpRt (dF l a) zF<=0
 ·exact .inr (.inr (.inl ⟨h1,h2,h3,by rw[E,if_pos (.inr (.inr (.inl (hc.1 h3))))]⟩))
 have h3':¬cF l a*cF l a<=radZ a*radZ a*qF l:=fun h=>h3 (hc.2 h)
 cases h4:inQ a nx ny with
 | false=>exact .inr (.inr (.inr (.inl ⟨h1,h2,h3,rfl,by rw[E,if_pos (.inr (.inr (.inr h4)))]⟩)))
 | true =>
  refine .inr (.inr (.inr (.inr ⟨h1,h2,h3,rfl,?_⟩)))
  rw[E,if_neg (by rintro (h|h|h|h);exact h1 h;exact h2 h;exact h3' h;rw[h4] at h;cases h),hd]
theorem edges_2T(e f:Ed)(h1:e.ok=true)(h2:f.ok=true)(h3:(!(countE e f==0))=false)(L1:eqZ [.b (e.k==1),.b (f.k==1)] [.b true,.b false]=true)(kf:¬f.k=1)(IN:innerR e f=footR e f)(hc:0<cF e f):Fok Tryz.prog 41 [edV e 3 c26,edV f 3 c26] (edgV (leastP (candR e f))):=by
 rcases foot_cases (l:=e) (a:=f) h1 h2 kf (e.by'-e.ay) (0-(e.bx-e.ax)) (by rw[if_pos hc]) (by rw[if_pos hc]) with⟨a1,a9⟩|⟨a1,a2,a9⟩|⟨a1,a2,a3,a9⟩|⟨a1,a2,a3,a4,a9⟩|⟨a1,a2,a3,a4,a9⟩
 ·rw [leastP_cand e f (l := _) (by rw [IN, a9])]
  exact fok KE [false,false,false,true,true,true] [pF (chk_F h1),pF (chk_F h2),pF h3,pT L1,pP h2,pT (gt_T hc),pT (decide_eq_true a1)] (by kernel_rfl)
 ·rw [leastP_cand e f (l := _) (by rw [IN, a9])]
  exact fok KE [false,false,false,true,true,false,true] [pF (chk_F h1),pF (chk_F h2),pF h3,pT L1,pP h2,pT (gt_T hc),pF (decide_eq_false a1),pT (ge_T a2)] (by kernel_rfl)
 ·rw [leastP_cand e f (l := _) (by rw [IN, a9])]
  exact fok KE [false,false,false,true,true,false,false,true] [pF (chk_F h1),pF (chk_F h2),pF h3,pT L1,pP h2,pT (gt_T hc),pF (decide_eq_false a1),pF (ge_F a2),pT (decide_eq_true a3)] (by kernel_rfl)
 ·rw [leastP_cand e f (l := _) (by rw [IN, a9])]
  exact fok KE [false,false,false,true,true,false,false,false,true] [pF (chk_F h1),pF (chk_F h2),pF h3,pT L1,pP h2,pT (gt_T hc),pF (decide_eq_false a1),pF (ge_F a2),pF (decide_eq_false a3),pP h2,pT (not_T a4)] (by kernel_rfl)
 ·rw [leastP_cand e f (l := _) (by rw [IN, a9])]
  exact fok KE [false,false,false,true,true,false,false,false,false] [pF (chk_F h1),pF (chk_F h2),pF h3,pT L1,pP h2,pT (gt_T hc),pF (decide_eq_false a1),pF (ge_F a2),pF (decide_eq_false a3),pP h2,pF (not_F a4)] (by kernel_rfl)
theorem edges_2F(e f:Ed)(h1:e.ok=true)(h2:f.ok=true)(h3:(!(countE e f==0))=false)(L1:eqZ [.b (e.k==1),.b (f.k==1)] [.b true,.b false]=true)(kf:¬f.k=1)(IN:innerR e f=footR e f)(hc:¬0<cF e f):Fok Tryz.prog 41 [edV e 3 c26,edV f 3 c26] (edgV (leastP (candR e f))):=by
 rcases foot_cases (l:=e) (a:=f) h1 h2 kf (0-(e.by'-e.ay)) (e.bx-e.ax) (by rw[if_neg hc]) (by rw[if_neg hc]) with⟨a1,a9⟩|⟨a1,a2,a9⟩|⟨a1,a2,a3,a9⟩|⟨a1,a2,a3,a4,a9⟩|⟨a1,a2,a3,a4,a9⟩
 ·rw [leastP_cand e f (l := _) (by rw [IN, a9])]
  exact fok KE [false,false,false,true,false,true] [pF (chk_F h1),pF (chk_F h2),pF h3,pT L1,pP h2,pF (gt_F hc),pT (decide_eq_true a1)] (by kernel_rfl)
 ·rw [leastP_cand e f (l := _) (by rw [IN, a9])]
  exact fok KE [false,false,false,true,false,false,true] [pF (chk_F h1),pF (chk_F h2),pF h3,pT L1,pP h2,pF (gt_F hc),pF (decide_eq_false a1),pT (ge_T a2)] (by kernel_rfl)
 ·rw [leastP_cand e f (l := _) (by rw [IN, a9])]
  exact fok KE [false,false,false,true,false,false,false,true] [pF (chk_F h1),pF (chk_F h2),pF h3,pT L1,pP h2,pF (gt_F hc),pF (decide_eq_false a1),pF (ge_F a2),pT (decide_eq_true a3)] (by kernel_rfl)
 ·rw [leastP_cand e f (l := _) (by rw [IN, a9])]
  exact fok KE [false,false,false,true,false,false,false,false,true] [pF (chk_F h1),pF (chk_F h2),pF h3,pT L1,pP h2,pF (gt_F hc),pF (decide_eq_false a1),pF (ge_F a2),pF (decide_eq_false a3),pP h2,pT (not_T a4)] (by kernel_rfl)
 ·rw [leastP_cand e f (l := _) (by rw [IN, a9])]
  exact fok KE [false,false,false,true,false,false,false,false,false] [pF (chk_F h1),pF (chk_F h2),pF h3,pT L1,pP h2,pF (gt_F hc),pF (decide_eq_false a1),pF (ge_F a2),pF (decide_eq_false a3),pP h2,pF (not_F a4)] (by kernel_rfl)
theorem edges_3T(e f:Ed)(h1:e.ok=true)(h2:f.ok=true)(h3:(!(countE e f==0))=false)(L1:eqZ [.b (e.k==1),.b (f.k==1)] [.b true,.b false]=false)(L2:eqZ [.b (e.k==1),.b (f.k==1)] [.b false,.b true]=true)(ke:¬e.k=1)(IN:innerR e f=(footR f e).map Pr.swap)(hc:0<cF f e):Fok Tryz.prog 41 [edV e 3 c26,edV f 3 c26] (edgV (leastP (candR e f))):=by
 rcases foot_cases (l:=f) (a:=e) h2 h1 ke (f.by'-f.ay) (0-(f.bx-f.ax)) (by rw[if_pos hc]) (by rw[if_pos hc]) with⟨a1,a9⟩|⟨a1,a2,a9⟩|⟨a1,a2,a3,a9⟩|⟨a1,a2,a3,a4,a9⟩|⟨a1,a2,a3,a4,a9⟩
 ·rw [leastP_cand e f (l := _) (by rw [IN, a9])]
  exact fok KE [false,false,false,false,true,true,true] [pF (chk_F h1),pF (chk_F h2),pF h3,pF L1,pT L2,pP h1,pT (gt_T hc),pT (decide_eq_true a1)] (by kernel_rfl)
 ·rw [leastP_cand e f (l := _) (by rw [IN, a9])]
  exact fok KE [false,false,false,false,true,true,false,true] [pF (chk_F h1),pF (chk_F h2),pF h3,pF L1,pT L2,pP h1,pT (gt_T hc),pF (decide_eq_false a1),pT (ge_T a2)] (by kernel_rfl)
 ·rw [leastP_cand e f (l := _) (by rw [IN, a9])]
  exact fok KE [false,false,false,false,true,true,false,false,true] [pF (chk_F h1),pF (chk_F h2),pF h3,pF L1,pT L2,pP h1,pT (gt_T hc),pF (decide_eq_false a1),pF (ge_F a2),pT (decide_eq_true a3)] (by kernel_rfl)
 ·rw [leastP_cand e f (l := _) (by rw [IN, a9])]
  exact fok KE [false,false,false,false,true,true,false,false,false,true] [pF (chk_F h1),pF (chk_F h2),pF h3,pF L1,pT L2,pP h1,pT (gt_T hc),pF (decide_eq_false a1),pF (ge_F a2),pF (decide_eq_false a3),pP h1,pT (not_T a4)] (by kernel_rfl)
 ·rw [leastP_cand e f (l := _) (by rw [IN, a9])]
  exact fok KE [false,false,false,false,true,true,false,false,false,false] [pF (chk_F h1),pF (chk_F h2),pF h3,pF L1,pT L2,pP h1,pT (gt_T hc),pF (decide_eq_false a1),pF (ge_F a2),pF (decide_eq_false a3),pP h1,pF (not_F a4)] (by kernel_rfl)
theorem edges_3F(e f:Ed)(h1:e.ok=true)(h2:f.ok=true)(h3:(!(countE e f==0))=false)(L1:eqZ [.b (e.k==1),.b (f.k==1)] [.b true,.b false]=false)(L2:eqZ [.b (e.k==1),.b (f.k==1)] [.b false,.b true]=true)(ke:¬e.k=1)(IN:innerR e f=(footR f e).map Pr.swap)(hc:¬0<cF f e):Fok Tryz.prog 41 [edV e 3 c26,edV f 3 c26] (edgV (leastP (candR e f))):=by
 rcases foot_cases (l:=f) (a:=e) h2 h1 ke (0-(f.by'-f.ay)) (f.bx-f.ax) (by rw[if_neg hc]) (by rw[if_neg hc]) with⟨a1,a9⟩|⟨a1,a2,a9⟩|⟨a1,a2,a3,a9⟩|⟨a1,a2,a3,a4,a9⟩|⟨a1,a2,a3,a4,a9⟩
 ·rw [leastP_cand e f (l := _) (by rw [IN, a9])]
  exact fok KE [false,false,false,false,true,false,true] [pF (chk_F h1),pF (chk_F h2),pF h3,pF L1,pT L2,pP h1,pF (gt_F hc),pT (decide_eq_true a1)] (by kernel_rfl)
 ·rw [leastP_cand e f (l := _) (by rw [IN, a9])]
  exact fok KE [false,false,false,false,true,false,false,true] [pF (chk_F h1),pF (chk_F h2),pF h3,pF L1,pT L2,pP h1,pF (gt_F hc),pF (decide_eq_false a1),pT (ge_T a2)] (by kernel_rfl)
 ·rw [leastP_cand e f (l := _) (by rw [IN, a9])]
  exact fok KE [false,false,false,false,true,false,false,false,true] [pF (chk_F h1),pF (chk_F h2),pF h3,pF L1,pT L2,pP h1,pF (gt_F hc),pF (decide_eq_false a1),pF (ge_F a2),pT (decide_eq_true a3)] (by kernel_rfl)
 ·rw [leastP_cand e f (l := _) (by rw [IN, a9])]
  exact fok KE [false,false,false,false,true,false,false,false,false,true] [pF (chk_F h1),pF (chk_F h2),pF h3,pF L1,pT L2,pP h1,pF (gt_F hc),pF (decide_eq_false a1),pF (ge_F a2),pF (decide_eq_false a3),pP h1,pT (not_T a4)] (by kernel_rfl)
 ·rw [leastP_cand e f (l := _) (by rw [IN, a9])]
  exact fok KE [false,false,false,false,true,false,false,false,false,false] [pF (chk_F h1),pF (chk_F h2),pF h3,pF L1,pT L2,pP h1,pF (gt_F hc),pF (decide_eq_false a1),pF (ge_F a2),pF (decide_eq_false a3),pP h1,pF (not_F a4)] (by kernel_rfl)
def nFr(e f:Ed):Int:=sqI (f.cx-e.cx) (f.cy-e.cy)
def wF(e f:Ed)(x y u v:Int)(d:Rt):List Pr:=if inQ e x y&&inQ f u v then [⟨d,⟨e.cx,e.cy,x,y,0,0,radZ e⟩,⟨f.cx,f.cy,u,v,0,0,radZ f⟩⟩] else []
theorem centR_eq(e f:Ed):centR e f=if (radZ e+radZ f)*(radZ e+radZ f)<nFr e f then wF e f (f.cx-e.cx) (f.cy-e.cy) (0-(f.cx-e.cx)) (0-(f.cy-e.cy)) (dR (0-radZ e-radZ f) 1 (nFr e f) 1)
  else if (radZ e-radZ f)*(radZ e-radZ f)<=nFr e f then []
  else if radZ f<radZ e then wF e f (f.cx-e.cx) (f.cy-e.cy) (f.cx-e.cx) (f.cy-e.cy) (dR (radZ e-radZ f) (-1) (nFr e f) 1)
  else wF e f (0-(f.cx-e.cx)) (0-(f.cy-e.cy)) (0-(f.cx-e.cx)) (0-(f.cy-e.cy)) (dR (radZ f-radZ e) (-1) (nFr e f) 1):=by
 simp only[zero_sub']
 rfl
theorem edges_4a(e f:Ed)(h1:e.ok=true)(h2:f.ok=true)(h3:(!(countE e f==0))=false)(L1:eqZ [.b (e.k==1),.b (f.k==1)] [.b true,.b false]=false)(L2:eqZ [.b (e.k==1),.b (f.k==1)] [.b false,.b true]=false)(L3:eqZ [.b (e.k==1),.b (f.k==1)] [.b false,.b false]=true)(IN:innerR e f=centR e f)(g:(radZ e+radZ f)*(radZ e+radZ f)<nFr e f):Fok Tryz.prog 41 [edV e 3 c26,edV f 3 c26] (edgV (leastP (candR e f))):=by
 have C:=centR_eq e f
 rw[if_pos g] at C
 unfold wF at C
 cases q1:inQ e (f.cx-e.cx) (f.cy-e.cy) with
 | false =>
  rw[leastP_cand e f (l:=[]) (by rw[IN,C,q1];rfl)]
  exact fok KE [false,false,false,false,false,true,true,true] [pF (chk_F h1),pF (chk_F h2),pF h3,pF L1,pF L2,pT L3,pP h1,pP h2,pT (gt_T g),pP h1,pT (not_T q1)] (by kernel_rfl)
 | true =>
  cases q2:inQ f (0-(f.cx-e.cx)) (0-(f.cy-e.cy)) with
  | false =>
   rw[leastP_cand e f (l:=[]) (by rw[IN,C,q1,q2];rfl)]
   exact fok KE [false,false,false,false,false,true,true,false,true] [pF (chk_F h1),pF (chk_F h2),pF h3,pF L1,pF L2,pT L3,pP h1,pP h2,pT (gt_T g),pP h1,pF (not_F q1),pP h2,pT (not_T q2)] (by kernel_rfl)
  | true =>
   rw[leastP_cand e f (l:=_) (by rw[IN,C,q1,q2,Bool.and_self,if_pos rfl])]
   exact fok KE [false,false,false,false,false,true,true,false,false] [pF (chk_F h1),pF (chk_F h2),pF h3,pF L1,pF L2,pT L3,pP h1,pP h2,pT (gt_T g),pP h1,pF (not_F q1),pP h2,pF (not_F q2)] (by kernel_rfl)
theorem edges_4b(e f:Ed)(h1:e.ok=true)(h2:f.ok=true)(h3:(!(countE e f==0))=false)(L1:eqZ [.b (e.k==1),.b (f.k==1)] [.b true,.b false]=false)(L2:eqZ [.b (e.k==1),.b (f.k==1)] [.b false,.b true]=false)(L3:eqZ [.b (e.k==1),.b (f.k==1)] [.b false,.b false]=true)(IN:innerR e f=centR e f)(g:¬(radZ e+radZ f)*(radZ e+radZ f)<nFr e f)(g2:¬(radZ e-radZ f)*(radZ e-radZ f)<=nFr e f)(g3:radZ f<radZ e):Fok Tryz.prog 41 [edV e 3 c26,edV f 3 c26] (edgV (leastP (candR e f))):=by
 have C:=centR_eq e f
 rw[if_neg g,if_neg g2,if_pos g3] at C
 unfold wF at C
 cases q1:inQ e (f.cx-e.cx) (f.cy-e.cy) with
 | false =>
  rw[leastP_cand e f (l:=[]) (by rw[IN,C,q1];rfl)]
  exact fok KE [false,false,false,false,false,true,false,false,true,true] [pF (chk_F h1),pF (chk_F h2),pF h3,pF L1,pF L2,pT L3,pP h1,pP h2,pF (gt_F g),pF (ge_F g2),pT (gt_T g3),pP h1,pT (not_T q1)] (by kernel_rfl)
 | true =>
  cases q2:inQ f (f.cx-e.cx) (f.cy-e.cy) with
  | false =>
   rw[leastP_cand e f (l:=[]) (by rw[IN,C,q1,q2];rfl)]
   exact fok KE [false,false,false,false,false,true,false,false,true,false,true] [pF (chk_F h1),pF (chk_F h2),pF h3,pF L1,pF L2,pT L3,pP h1,pP h2,pF (gt_F g),pF (ge_F g2),pT (gt_T g3),pP h1,pF (not_F q1),pP h2,pT (not_T q2)] (by kernel_rfl)
  | true =>
   rw[leastP_cand e f (l:=_) (by rw[IN,C,q1,q2,Bool.and_self,if_pos rfl])]
   exact fok KE [false,false,false,false,false,true,false,false,true,false,false] [pF (chk_F h1),pF (chk_F h2),pF h3,pF L1,pF L2,pT L3,pP h1,pP h2,pF (gt_F g),pF (ge_F g2),pT (gt_T g3),pP h1,pF (not_F q1),pP h2,pF (not_F q2)] (by kernel_rfl)
theorem edges_4c(e f:Ed)(h1:e.ok=true)(h2:f.ok=true)(h3:(!(countE e f==0))=false)(L1:eqZ [.b (e.k==1),.b (f.k==1)] [.b true,.b false]=false)(L2:eqZ [.b (e.k==1),.b (f.k==1)] [.b false,.b true]=false)(L3:eqZ [.b (e.k==1),.b (f.k==1)] [.b false,.b false]=true)(IN:innerR e f=centR e f)(g:¬(radZ e+radZ f)*(radZ e+radZ f)<nFr e f)(g2:¬(radZ e-radZ f)*(radZ e-radZ f)<=nFr e f)(g3:¬radZ f<radZ e):Fok Tryz.prog 41 [edV e 3 c26,edV f 3 c26] (edgV (leastP (candR e f))):=by
 have C:=centR_eq e f
 rw[if_neg g,if_neg g2,if_neg g3] at C
 unfold wF at C
 cases q1:inQ e (0-(f.cx-e.cx)) (0-(f.cy-e.cy)) with
 | false =>
  rw[leastP_cand e f (l:=[]) (by rw[IN,C,q1];rfl)]
  exact fok KE [false,false,false,false,false,true,false,false,false,true] [pF (chk_F h1),pF (chk_F h2),pF h3,pF L1,pF L2,pT L3,pP h1,pP h2,pF (gt_F g),pF (ge_F g2),pF (gt_F g3),pP h1,pT (not_T q1)] (by kernel_rfl)
 | true =>
  cases q2:inQ f (0-(f.cx-e.cx)) (0-(f.cy-e.cy)) with
  | false =>
   rw[leastP_cand e f (l:=[]) (by rw[IN,C,q1,q2];rfl)]
   exact fok KE [false,false,false,false,false,true,false,false,false,false,true] [pF (chk_F h1),pF (chk_F h2),pF h3,pF L1,pF L2,pT L3,pP h1,pP h2,pF (gt_F g),pF (ge_F g2),pF (gt_F g3),pP h1,pF (not_F q1),pP h2,pT (not_T q2)] (by kernel_rfl)
  | true =>
   rw[leastP_cand e f (l:=_) (by rw[IN,C,q1,q2,Bool.and_self,if_pos rfl])]
   exact fok KE [false,false,false,false,false,true,false,false,false,false,false] [pF (chk_F h1),pF (chk_F h2),pF h3,pF L1,pF L2,pT L3,pP h1,pP h2,pF (gt_F g),pF (ge_F g2),pF (gt_F g3),pP h1,pF (not_F q1),pP h2,pF (not_F q2)] (by kernel_rfl)
theorem edges_ok(e f:Ed)(h1:e.ok=true)(h2:f.ok=true)(h3:(!(countE e f==0))=false):Fok Tryz.prog 41 [edV e 3 c26,edV f 3 c26] (edgV (leastP (candR e f))):=by
 by_cases ke:e.k=1<;>by_cases kf:f.k=1
 ·have L1 : eqZ [.b (e.k == 1), .b (f.k == 1)] [.b true, .b false] = false := by rw [ke, kf]; rfl
  have L2:eqZ [.b (e.k==1),.b (f.k==1)] [.b false,.b true]=false:=by rw[ke,kf];rfl
  have L3:eqZ [.b (e.k==1),.b (f.k==1)] [.b false,.b false]=false:=by rw[ke,kf];rfl
  rw[leastP_cand e f (l:=[]) (by unfold innerR;rw[if_pos ke,if_pos kf])]
  exact fok KE [false,false,false,false,false,false] [pF (chk_F h1),pF (chk_F h2),pF h3,pF L1,pF L2,pF L3] (by kernel_rfl)
 ·have L1 : eqZ [.b (e.k == 1), .b (f.k == 1)] [.b true, .b false] = true := by rw [ke, show (f.k == 1) = false by simpa using kf]; rfl
  have IN:innerR e f=footR e f:=by unfold innerR;rw[if_pos ke,if_neg kf]
  by_cases hc:0<cF e f
  ·exact edges_2T e f h1 h2 h3 L1 kf IN hc
  ·exact edges_2F e f h1 h2 h3 L1 kf IN hc
 ·have L1 : eqZ [.b (e.k == 1), .b (f.k == 1)] [.b true, .b false] = false := by rw [kf, show (e.k == 1) = false by simpa using ke]; rfl
  have L2:eqZ [.b (e.k==1),.b (f.k==1)] [.b false,.b true]=true:=by rw[kf,show (e.k==1)=false by simpa using ke];rfl
  have IN:innerR e f=(footR f e).map Pr.swap:=by unfold innerR;rw[if_neg ke,if_pos kf]
  by_cases hc:0<cF f e
  ·exact edges_3T e f h1 h2 h3 L1 L2 ke IN hc
  ·exact edges_3F e f h1 h2 h3 L1 L2 ke IN hc
 ·have L1 : eqZ [.b (e.k == 1), .b (f.k == 1)] [.b true, .b false] = false := by rw [show (e.k == 1) = false by simpa using ke]; rfl
  have L2:eqZ [.b (e.k==1),.b (f.k==1)] [.b false,.b true]=false:=by rw[show (e.k==1)=false by simpa using ke,show (f.k==1)=false by simpa using kf];rfl
  have L3:eqZ [.b (e.k==1),.b (f.k==1)] [.b false,.b false]=true:=by rw[show (e.k==1)=false by simpa using ke,show (f.k==1)=false by simpa using kf];rfl
  have IN:innerR e f=centR e f:=by unfold innerR;rw[if_neg ke,if_neg kf]
  by_cases g:(radZ e+radZ f)*(radZ e+radZ f)<nFr e f
  ·exact edges_4a e f h1 h2 h3 L1 L2 L3 IN g
  ·by_cases g2 : (radZ e - radZ f) * (radZ e - radZ f) <= nFr e f
   ·rw [leastP_cand e f (l := []) (by rw [IN, centR_eq, if_neg g, if_pos g2])]
    exact fok KE [false,false,false,false,false,true,false,true] [pF (chk_F h1),pF (chk_F h2),pF h3,pF L1,pF L2,pT L3,pP h1,pP h2,pF (gt_F g),pT (ge_T g2)] (by kernel_rfl)
   ·by_cases g3 : radZ f < radZ e
    ·exact edges_4b e f h1 h2 h3 L1 L2 L3 IN g g2 g3
    ·exact edges_4c e f h1 h2 h3 L1 L2 L3 IN g g2 g3
def cEdges:Con where
 f:=41
 g:=fun | [⟨true,l⟩,⟨true,m⟩]=>(match toEd l,toEd m with|some e,some f=>some (edgV (edgesR e f),[])|_,_=>none)|_=>none
 ok:=by
  intro args res ps h hp
  split at h<;>try cases h
  split at h<;>cases h
  rename_i e f he hf
  cases hc:(e.ok&&f.ok&&(countE e f==0)) with
  | false =>
   rw[show edgesR e f=⟨Rt.no,Sp.no,Sp.no⟩ by unfold edgesR;rw[if_pos];revert hc;cases e.ok<;>cases f.ok<;>simp]
   exact (edges_no e f hc).pre fun W=>rvs_1 (ed_lim he) (rvs_1 (ed_lim hf) rvs_0)
  | true =>
   simp only[Bool.and_eq_true] at hc
   rw[show edgesR e f=leastP (candR e f) by unfold edgesR;rw[if_neg];rw[hc.1.1,hc.1.2,hc.2];decide]
   exact (edges_ok e f hc.1.1 hc.1.2 (by rw[hc.2];rfl)).pre fun W=>rvs_1 (ed_ok he hc.1.1) (rvs_1 (ed_ok hf hc.1.2) rvs_0)
end

set_option maxRecDepth 100000
section
def KGp:List Con:=[cShChk,cIns]
theorem right_fok(s:Sh):Fok Tryz.prog 37 [shpV s] (.one (blV (chkS s==0))):=fok KGp [] [pEd s] (by kernel_rfl)
def aroB(a b:Sh):Bool:=(a.k==2)&&insS a (b.e 0).ax (b.e 0).ay
theorem around_fok(a b:Sh)(ha:a.n<=1000)(hb:0<b.n):Fok Tryz.prog 30 [shpV a,shpV b] (.one (blV (aroB a b))):=by
 unfold aroB
 cases h:a.k==2 with
 | true=>exact fok KGp [true] [pT h,pP (show 0<=(0:Int)/\(0:Int)<b.n by omega),pEd a,pP ha] (by kernel_rfl)
 | false=>exact fok KGp [false] [pF h] (by kernel_rfl)
structure Gp where
 m:Bool
 d:Rt
 a:Sp
 b:Sp
def gpV(g:Gp):V1:=⟨true,[.v (.bool g.m)]++(rtV g.d).l++(spV g.a).l++(spV g.b).l⟩
def gpL(g:Gp):List It:=[.v (.bool g.m)]++(rtV g.d).l++(spV g.a).l++(spV g.b).l
theorem least_fok(g:Gp):Fok Tryz.prog 80 [⟨false,[.fp (gpL g)]⟩] (.one (gpV g)):=fok [] [] [] (by kernel_rfl)
end

set_option maxHeartbeats 4000000
set_option maxRecDepth 100000
section
open Go.RowKit Go.Shelf
attribute [local go_sem] Oper.semAt_some
attribute [local go_sem] Gives givesU
structure KpP (X:List Nat) (A B:World):Prop where
 size:A.heap.size<=B.heap.size
 same:∀(k:Nat) (o:Obj),A.heap[k]? = some o->o.isCells=true->k∉X->B.heap[k]? = some o
theorem KpP.refl(X:List Nat)(A:World):KpP X A A:=⟨Nat.le_refl _,fun _ _ h _ _=>h⟩
theorem KpP.trans{X:List Nat}{A B C:World}(h:KpP X A B)(k:KpP X B C):KpP X A C:=⟨Nat.le_trans h.size k.size,fun i o hi ho hx=>k.same i o (h.same i o hi ho hx) ho hx⟩
theorem KpP.ext{X:List Nat}{A B:World}(h:Ext A B):KpP X A B:=⟨h.size,fun i o hi _ _=>(h.block i (Array.getElem?_eq_some_iff.1 hi).1).trans hi⟩
theorem KpP.drew{X:List Nat}{A B:World}(h:KpP X A B):KpP X A B.drew:=h.trans ⟨Nat.le_refl _,fun _ _ h _ _=>h⟩
theorem KpP.cell{X:List Nat}{A B:World}(h:KpP X A B){k i:Nat}{v:Value}(hc:A.cell? ⟨k,i,none⟩=some v)(hk:k∉X):B.cell? ⟨k,i,none⟩=some v:=by
 obtain⟨o,ho,hcl⟩:=cells_of_cell hc
 exact (World.cell?_of_block (a:=⟨k,i,none⟩) ((h.same k o ho hcl hk).trans ho.symm)).trans hc
theorem EdAt.kept{X:List Nat}{A B:World}{g o:Nat}{e:Ed}(h:EdAt A g o e)(hk:KpP X A B)(hg:g∉X):EdAt B g o e:=⟨hk.cell h.c0 hg,hk.cell h.c1 hg,hk.cell h.c2 hg,hk.cell h.c3 hg,hk.cell h.c4 hg,hk.cell h.c5 hg,hk.cell h.c6 hg⟩
theorem pairs_stops(m:Nat)(hm:1<=m)(X:List Nat)(n n':Nat)(e e':Nat->Ed)(v B1 B2 c c':Nat)(p p':Option Addr)(w:World)(hB1:B1<w.heap.size)(hB2:B2<w.heap.size)(hv:v<=w.heap.size)(hX:∀x∈X,v<=x/\x<w.heap.size)(h1X:B1∉X)(h2X:B2∉X)
  (c0:w.cell? ⟨B1,1,none⟩=some (.slice p n c)) (c1:w.cell? ⟨B2,1,none⟩=some (.slice p' n' c')) (hR:EdRow v w p n e) (hR':EdRow v w p' n' e') (hn:n<=1000) (hn':n'<=1000) :
  SeqStopsK Fence.wide m Tryz.prog 81 #[.pointer (some ⟨B1,0,none⟩),.pointer (some ⟨B2,0,none⟩)] (fun i:Nat=>#[edA (e (i/n')),edA (e' (i%n'))]) (KpP X) (fun xs=>xs=upT (n*n')) (fun pre=>∃k,k<n*n'/\pre=upT (k+1)) (n*n') w:=fun L J Jx W hW hA hAx hY h0=>by
 have k0:W.cell? ⟨B1,1,none⟩=some (.slice p n c):=(hW.cell (p:=⟨B1,1,none⟩) hB1).trans c0
 have k1:W.cell? ⟨B2,1,none⟩=some (.slice p' n' c'):=(hW.cell (p:=⟨B2,1,none⟩) hB2).trans c1
 have hrW:EdRow v W p n e:=hR.below (hW.mono hv)
 have hrW':EdRow v W p' n' e':=hR'.below (hW.mono hv)
 have hWs:=hW.size
 have nX:∀k,W.heap.size<=k->k∉X:=fun k hk hx=>by have:=(hX k hx).2;omega
 have vX:∀k,k<v->k∉X:=fun k hk hx=>by have:=(hX k hx).1;omega
 clear c0 c1 hR hR'
 refine callsIn_of_wp Tryz.func81 rfl trivial ?_ rfl
 simp only[Tryz.ntmps81,List.size_toArray,List.length_cons,List.length_nil,Nat.reduceAdd,Nat.reduceSub,Array.replicate_succ,Array.replicate_zero,List.push_toArray,List.append_toArray,List.nil_append,List.cons_append]
 have NX:=Lib.hid nX
 have VX:=Lib.hid vX
 have HRW:=Lib.hid hrW
 have HRW':=Lib.hid hrW'
 have HA:=Lib.hid hA
 have HY:=Lib.hid hY
 clear nX vX hrW hrW' hA hY hAx
 gi_wp2
 gi_loopw [11] (fun i wr=>∃k:Nat,i=.int .i64 (k:Int)/\k<=n/\J (upT (k*n')) wr/\KpP X W wr) (fun i _=>n-(intOf i).toNat)
 case atStart=>exact⟨0,rfl,by omega,by rw[Nat.zero_mul];exact h0,KpP.refl _ _⟩
 case round =>
  obtain⟨k,rfl,hk,hJ,hK⟩:=hrel
  by_cases hlt:k<n
  ·obtain ⟨g, o, rfl, hg, E0⟩ := HRW.out k hlt
   obtain⟨a0,a1,a2,a3,a4,a5,a6⟩:=E0.kept hK (VX.out g hg)
   have m0:=hK.cell k0 h1X
   have m1:=hK.cell k1 h2X
   have ix0:0<=(k:Int):=by omega
   have ix2:(k:Int)<(n:Int):=by omega
   have b1:B1<wr.heap.size:=by have:=hK.size;omega
   have b2:B2<wr.heap.size:=by have:=hK.size;omega
   have HK:=Lib.hid hK
   have HJ:=Lib.hid hJ
   clear hK hJ E0
   gi_wp2
   have hg0:=KpP.ext (X:=X) (below_alloc wr (.cells #[.int .i64 (e k).k,.int .i64 (e k).ax,.int .i64 (e k).ay,.int .i64 (e k).bx,.int .i64 (e k).by',.int .i64 (e k).cx,.int .i64 (e k).cy] 37))
   have hJ0:J (upT (k*n'+0)) (wr.alloc (.cells #[.int .i64 (e k).k,.int .i64 (e k).ax,.int .i64 (e k).ay,.int .i64 (e k).bx,.int .i64 (e k).by',.int .i64 (e k).cx,.int .i64 (e k).cy] 37)):=HA.out _ _ _ none HJ.out (World.grownBy_alloc _ _ none) (fun r h=>by cases h)
   have hE0:EdAt (wr.alloc (.cells #[.int .i64 (e k).k,.int .i64 (e k).ax,.int .i64 (e k).ay,.int .i64 (e k).bx,.int .i64 (e k).by',.int .i64 (e k).cx,.int .i64 (e k).cy] 37)) wr.heap.size 0 (e k):=⟨by go_simp,by go_simp,by go_simp,by go_simp,by go_simp,by go_simp,by go_simp⟩
   have hK0:=HK.out.trans hg0
   have hsz:wr.heap.size<(wr.alloc (.cells #[.int .i64 (e k).k,.int .i64 (e k).ax,.int .i64 (e k).ay,.int .i64 (e k).bx,.int .i64 (e k).by',.int .i64 (e k).cx,.int .i64 (e k).cy] 37)).heap.size:=by simp
   have IN:=Lib.hid (And.intro hJ0 (And.intro hK0 (And.intro hE0 hsz)))
   have hWr:=Lib.hid (show W.heap.size<=wr.heap.size from HK.out.size)
   obtain⟨z,hz⟩:∃z,wr.heap.size=z:=⟨_,rfl⟩
   clear hg0 hJ0 hE0 hK0 hsz m0 m1 a0 a1 a2 a3 a4 a5 a6 b1 b2
   rw[hz] at IN hWr ⊢
   generalize wr.alloc (.cells #[.int .i64 (e k).k,.int .i64 (e k).ax,.int .i64 (e k).ay,.int .i64 (e k).bx,.int .i64 (e k).by',.int .i64 (e k).cx,.int .i64 (e k).cy] 37)=W0 at IN ⊢
   gi_loopw [18] (fun i W2=>∃q:Nat,i=.int .i64 (q:Int)/\q<=n'/\J (upT (k*n'+q)) W2/\KpP X W W2/\EdAt W2 z 0 (e k)/\z<W2.heap.size) (fun i _=>n'-(intOf i).toNat)
   case atStart=>exact⟨0,rfl,by omega,IN.out⟩
   case round =>
    obtain⟨q,rfl,hq,hJ,hK,hE,hzW⟩:=hrel
    by_cases hlq:q<n'
    ·obtain ⟨g', o', rfl, hg', E1⟩ := HRW'.out q hlq
     obtain⟨b0,b1,b2,b3,b4,b5,b6⟩:=E1.kept hK (VX.out g' hg')
     obtain⟨c0,c1,c2,c3,c4,c5,c6⟩:=hE
     have iy0:0<=(q:Int):=by omega
     have iy2:(q:Int)<(n':Int):=by omega
     have hkk:Hid (k*n'+q<n*n'):=Lib.hid (by have:=Nat.mul_le_mul_right n' (show k+1<=n by omega);rw[Nat.succ_mul] at this;omega)
     have hnX:z∉X:=NX.out z hWr.out
     have hJ1:J (upT (k*n'+q)) (wr.alloc (.cells #[.int .i64 (e' q).k,.int .i64 (e' q).ax,.int .i64 (e' q).ay,.int .i64 (e' q).bx,.int .i64 (e' q).by',.int .i64 (e' q).cx,.int .i64 (e' q).cy] 37)):=HA.out _ _ _ none hJ (World.grownBy_alloc _ _ none) (fun r h=>by cases h)
     obtain⟨f1,t1,x1,y1,hy1,hR1⟩:=HY.out (upT (k*n'+q)) (k*n'+q) _ hJ1 (by rw[upT_len];exact hkk.out)
     have ed:(k*n'+q)/n'=k:=by rw[Nat.mul_comm,Nat.mul_add_div (by omega),Nat.div_eq_of_lt hlq];rfl
     have em:(k*n'+q)%n'=q:=by rw[Nat.mul_comm,Nat.mul_add_mod,Nat.mod_eq_of_lt hlq]
     rw[ed,em] at hy1
     unfold edA at hy1
     have hK1:=hK.trans (KpP.ext (X:=X) (below_alloc wr (.cells #[.int .i64 (e' q).k,.int .i64 (e' q).ax,.int .i64 (e' q).ay,.int .i64 (e' q).bx,.int .i64 (e' q).by',.int .i64 (e' q).cx,.int .i64 (e' q).cy] 37)))
     have hE1:EdAt (wr.alloc (.cells #[.int .i64 (e' q).k,.int .i64 (e' q).ax,.int .i64 (e' q).ay,.int .i64 (e' q).bx,.int .i64 (e' q).by',.int .i64 (e' q).cx,.int .i64 (e' q).cy] 37)) z 0 (e k):=⟨by go_simp,by go_simp,by go_simp,by go_simp,by go_simp,by go_simp,by go_simp⟩
     have hs1:z<(wr.alloc (.cells #[.int .i64 (e' q).k,.int .i64 (e' q).ax,.int .i64 (e' q).ay,.int .i64 (e' q).bx,.int .i64 (e' q).by',.int .i64 (e' q).cx,.int .i64 (e' q).cy] 37)).heap.size:=by simp;omega
     have HK1:=Lib.hid hK1
     have HE1:=Lib.hid hE1
     have HS1:=Lib.hid hs1
     have hR2:=Lib.hid (RoundIn.mono hR1 (R':=fun e W'=>∃b:Bool,e=.returned (.bool b)/\Hid (if b then J (upT (k*n'+q)++[k*n'+q]) W'/\KpP X (wr.alloc (.cells #[.int .i64 (e' q).k,.int .i64 (e' q).ax,.int .i64 (e' q).ay,.int .i64 (e' q).bx,.int .i64 (e' q).by',.int .i64 (e' q).cx,.int .i64 (e' q).cy] 37)) W' else Jx (upT (k*n'+q)++[k*n'+q]) W')) (by
      rintro e' W1 (⟨rfl,h1,h2⟩|⟨rfl,h1⟩)
      ·exact⟨true,rfl,Lib.hid (by rw[if_pos rfl];exact⟨h1,h2⟩)⟩
      ·exact⟨false,rfl,Lib.hid (by rw[if_neg (by decide)];exact h1)⟩))
     clear hJ hJ1 hR1 hK hK1 hE1 hs1 E1 ed em
     gi_wp2
     refine RoundIn.mono hR2.out ?_
     rintro e2 W1 ⟨b,rfl,h1⟩
     cases b
     ·have h2 : Hid (Jx (upT (k * n' + q + 1)) W1) := Lib.hid (by have := h1.out; rw [if_neg (by decide)] at this; rw [upT_succ]; exact this)
      clear h1 hy1 hR2
      gi_wp2
      refine bodyPost_ret (results_none rfl _ _ _) rfl ?_
      exact⟨⟨_,rfl⟩,.inr ⟨_,⟨k*n'+q,hkk.out,rfl⟩,h2.out⟩⟩
     ·have h2:Hid (J (upT (k*n'+(q+1))) W1/\KpP X W W1/\EdAt W1 z 0 (e k)/\z<W1.heap.size):=Lib.hid (by
       have:=h1.out
       rw[if_pos rfl] at this
       rw[<- Nat.add_assoc,upT_succ]
       exact⟨this.1,HK1.out.trans this.2,HE1.out.kept this.2 hnX,Nat.lt_of_lt_of_le HS1.out this.2.size⟩)
      have wq:IntKind.i64.wrap ((q:Int)+1)=((q+1:Nat):Int):=by rw[wrap_in (by unfold I64;omega)];omega
      clear h1 hy1 hR2
      gi_wp2
      exact⟨⟨q+1,by simp,by omega,h2.out⟩,by simp[intOf];omega⟩
    ·obtain rfl : q = n' := by omega
     have ix:¬((q:Int)<(q:Int)):=by omega
     have h2:Hid (J (upT ((k+1)*q)) wr/\KpP X W wr):=Lib.hid ⟨by rw[Nat.succ_mul];exact hJ,hK⟩
     have wk:IntKind.i64.wrap ((k:Int)+1)=((k+1:Nat):Int):=by rw[wrap_in (by unfold I64;omega)];omega
     clear hJ hK hE
     gi_wp2
     exact⟨⟨k+1,by simp,by omega,h2.out⟩,by simp[intOf];omega⟩
  ·obtain rfl : k = n := by omega
   have ix:¬((k:Int)<(k:Int)):=by omega
   have h2:=Lib.hid hJ
   clear hJ hK
   gi_wp2
   go_end0
   first
    | exact⟨⟨_,rfl⟩,.inl ⟨_,rfl,h2.out⟩⟩
    | exact⟨⟨_,rfl⟩,.inl h2.out⟩
end
end Go.Proofs.YteajakbpmeebnaaGreat
