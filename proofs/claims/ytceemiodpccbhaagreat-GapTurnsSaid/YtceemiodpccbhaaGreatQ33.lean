import Derived.Test.YtceemiodpccbhaaGreatQ32
set_option linter.unusedVariables false
set_option linter.unusedSimpArgs false

namespace Go.Proofs.YtceemiodpccbhaaGreat
open Go.RowKit
theorem cmp_red1{g:Int}(h:0<g)(A s n d t m e:Int):cmpR A s (g*n) (g*d) t m e=cmpR A s n d t m e:=by
 unfold cmpR
 rw[show A*(g*d)=g*(A*d) by grind,show g*n*(g*d)=g*g*(n*d) by grind,sideZ_scale h,
  show A*A*(g*d)*e+g*n*e-m*(g*d)=g*(A*A*d*e+n*e-m*d) by grind,sideZ_scale h]
theorem cmp_red2{g:Int}(h:0<g)(A s n d t m e:Int):cmpR A s n d t (g*m) (g*e)=cmpR A s n d t m e:=by
 unfold cmpR
 rw[show A*A*d*(g*e)+n*(g*e)-g*m*d=g*(A*A*d*e+n*e-m*d) by grind,show 2*A*s*(g*e)=g*(2*A*s*e) by grind,sideZ_both h]
structure Q4 where
 a:Int
 s:Int
 n:Int
 d:Int
def Q4.rt(x:Q4):Rt:=dR x.a x.s x.n x.d
structure Q4.ok (x:Q4):Prop where
 s:x.s=1\/x.s = -1
 n0:0<=x.n
 n1:x.n<85070591730234615865843651857942052864*4
 d0:0<x.d
 d1:x.d<85070591730234615865843651857942052864*4
def nz(s n:Int):Int:=if n=0 then 0 else s
def cmpQ(x y:Q4):Int:=cmpR (x.a-y.a) (nz x.s x.n) x.n x.d (nz y.s y.n) y.n y.d
def intQ(i:Int):Q4:=⟨i,1,0,1⟩
theorem rootOf_nz{a s:Int}{n d:Nat}(hs:s=1\/s = -1)(hd:0<d):rootOf a s n d=⟨a,nz s n,ofZ ((n/Nat.gcd n d:Nat):Int),ofZ ((d/Nat.gcd n d:Nat):Int)⟩:=by
 unfold rootOf nz
 by_cases h:n=0
 ·subst h
  rw[if_pos (.inr rfl),if_pos (by simp),Nat.gcd_zero_left,Nat.zero_div,Nat.div_self hd]
  congr 1
  exact lit_0.symm
 ·rw[if_neg (by omega),if_neg (by omega)]
theorem Q4.ok.root{x:Q4}(h:x.ok):x.rt=rootOf x.a x.s x.n.toNat x.d.toNat/\x.rt.Ok/\x.rt.right=true:=by
 obtain⟨e,h1,h2,h3⟩:=dR_root (add:=x.a) (s:=x.s) (by rcases h.s with h|h<;>omega) h.n0 h.n1 h.d0 h.d1
 obtain⟨k1,k2⟩:=whole_ok (add:=x.a) (s:=x.s) (by rcases h.s with h|h<;>omega) h1 h2 h3
 have e:x.rt=rootOf x.a x.s x.n.toNat x.d.toNat:=e
 rw[e]
 exact⟨rfl,k1,k2⟩
theorem cmpQ_rt{x y:Q4}(hx:x.ok)(hy:y.ok):cmpRt x.rt y.rt=cmpQ x y:=by
 obtain⟨e1,_,r1⟩:=hx.root
 obtain⟨e2,_,r2⟩:=hy.root
 unfold cmpRt
 rw[r1,r2]
 simp only[Bool.and_self,if_true]
 have d1:=hx.d0
 have d2:=hy.d0
 have p1:0<x.d.toNat:=by omega
 have p2:0<y.d.toNat:=by omega
 rw[e1,e2,rootOf_nz hx.s p1,rootOf_nz hy.s p2]
 simp only[ofZ_z]
 have n1:((x.n.toNat:Nat):Int)=x.n:=Int.toNat_of_nonneg hx.n0
 have n2:((y.n.toNat:Nat):Int)=y.n:=Int.toNat_of_nonneg hy.n0
 have m1:((x.d.toNat:Nat):Int)=x.d:=Int.toNat_of_nonneg (by omega)
 have m2:((y.d.toNat:Nat):Int)=y.d:=Int.toNat_of_nonneg (by omega)
 rw[n1,n2]
 have key:∀n d:Nat,0<d->0<(Nat.gcd n d:Int)/\(n:Int)=(Nat.gcd n d:Int)*((n/Nat.gcd n d:Nat):Int)/\(d:Int)=(Nat.gcd n d:Int)*((d/Nat.gcd n d:Nat):Int):=fun n d h=>by
  have hg:0<Nat.gcd n d:=Nat.gcd_pos_of_pos_right _ h
  exact⟨by omega,by rw[<- Int.natCast_mul,Nat.mul_div_cancel' (Nat.gcd_dvd_left _ _)],by rw[<- Int.natCast_mul,Nat.mul_div_cancel' (Nat.gcd_dvd_right _ _)]⟩
 obtain⟨g1,a1,b1⟩:=key x.n.toNat x.d.toNat p1
 obtain⟨g2,a2,b2⟩:=key y.n.toNat y.d.toNat p2
 rw[n1] at a1
 rw[n2] at a2
 rw[m1] at b1
 rw[m2] at b2
 unfold cmpQ
 rw[<- cmp_red1 g1 _ _ _ _ _ _ _,<- cmp_red2 g2 _ _ _ _ _ _ _,<- a1,<- a2,<- b1,<- b2]
theorem u0:(0:Int)<1:=by decide
theorem u1:(1:Int)<85070591730234615865843651857942052864*4:=by decide
theorem uz:(0:Int)<85070591730234615865843651857942052864*4:=by decide
theorem intQ_ok(i:Int):(intQ i).ok:=⟨.inl rfl,Int.le_refl 0,uz,u0,u1⟩
theorem intQ_rt(i:Int):(intQ i).rt=⟨i,0,zero,ofZ 1⟩:=by
 rw[(intQ_ok i).root.1]
 unfold rootOf
 rw[if_pos (.inr rfl)]
 rfl
def simQ(x y:Q4):Prop:=∀z,cmpQ x z=cmpQ y z/\cmpQ z x=cmpQ z y
theorem simQ.refl(x:Q4):simQ x x:=fun _=>⟨rfl,rfl⟩
theorem nz_mul{g:Int}(h:0<g)(s n:Int):nz s (g*n)=nz s n:=by
 unfold nz
 have:g*n=0 <-> n=0:=by rw[Int.mul_eq_zero];omega
 simp only[this]
theorem simQ.mul{g:Int}(h:0<g)(a s n d:Int):simQ ⟨a,s,g*n,g*d⟩ ⟨a,s,n,d⟩:=fun z=>by
 unfold cmpQ
 simp only[nz_mul h]
 exact⟨cmp_red1 h _ _ _ _ _ _ _,cmp_red2 h _ _ _ _ _ _ _⟩
def leastQ:List Q4->Q4
 | []=>intQ 0
 | x::l=>l.foldl (fun x y=>if cmpQ y x<0 then y else x) x
def endQ(px py qx qy:Int):Q4:=⟨0,1,sqI (px-qx) (py-qy),1⟩
def lineQ(e:Ed)(px py:Int):Q4 :=
 if (px-e.ax)*(e.bx-e.ax)+(py-e.ay)*(e.by'-e.ay)<=0 then endQ px py e.ax e.ay
 else if sqI (e.bx-e.ax) (e.by'-e.ay)<=(px-e.ax)*(e.bx-e.ax)+(py-e.ay)*(e.by'-e.ay) then endQ px py e.bx e.by'
 else ⟨0,1,((e.bx-e.ax)*(py-e.ay)-(e.by'-e.ay)*(px-e.ax))*((e.bx-e.ax)*(py-e.ay)-(e.by'-e.ay)*(px-e.ax)),sqI (e.bx-e.ax) (e.by'-e.ay)⟩
def arcQ(e:Ed)(px py:Int):Q4 :=
 if inQ e (px-e.cx) (py-e.cy) then
  (if radZ e*radZ e<=sqI (px-e.cx) (py-e.cy) then ⟨-radZ e,1,sqI (px-e.cx) (py-e.cy),1⟩ else ⟨radZ e,-1,sqI (px-e.cx) (py-e.cy),1⟩)
 else if sqI (px-e.bx) (py-e.by')<sqI (px-e.ax) (py-e.ay) then endQ px py e.bx e.by' else endQ px py e.ax e.ay
def pointQ(e:Ed)(px py:Int):Q4:=if e.k=1 then lineQ e px py else arcQ e px py
def footQ(l a:Ed):List Q4 :=
 let dx:=l.bx-l.ax
 let dy:=l.by'-l.ay
 let t:=(a.cx-l.ax)*dx+(a.cy-l.ay)*dy
 let c:=dx*(a.cy-l.ay)-dy*(a.cx-l.ax)
 let nx:=if 0<c then dy else -dy
 let ny:=if 0<c then -dx else dx
 if t<=0\/sqI dx dy<=t\/c*c<=radZ a*radZ a*sqI dx dy\/inQ a nx ny=false then [] else [⟨-radZ a,1,c*c,sqI dx dy⟩]
def centQ(a b:Ed):List Q4 :=
 let vx:=b.cx-a.cx
 let vy:=b.cy-a.cy
 let r:=radZ a
 let s:=radZ b
 let n:=sqI vx vy
 if (r+s)*(r+s)<n then (if inQ a vx vy&&inQ b (-vx) (-vy) then [⟨-r-s,1,n,1⟩] else [])
 else if (r-s)*(r-s)<=n then []
 else if s<r then (if inQ a vx vy&&inQ b vx vy then [⟨r-s,-1,n,1⟩] else [])
 else (if inQ a (-vx) (-vy)&&inQ b (-vx) (-vy) then [⟨s-r,-1,n,1⟩] else [])
def innerQ(a b:Ed):List Q4:=if a.k=1 then (if b.k=1 then [] else footQ a b) else if b.k=1 then footQ b a else centQ a b
def candQ(a b:Ed):List Q4:=[pointQ b a.ax a.ay,pointQ b a.bx a.by',pointQ a b.ax b.ay,pointQ a b.bx b.by']++innerQ a b
theorem lt64{x:Int}(h:I64 x):x<85070591730234615865843651857942052864*4:=by unfold I64 at h;omega
theorem endQ_ok{px py qx qy:Int}(h1:Co px)(h2:Co py)(h3:Co qx)(h4:Co qy):(endQ px py qx qy).ok :=
 ⟨.inl rfl,sqI_nn _ _,lt64 ((h1.sub h3).sq (h2.sub h4)),u0,u1⟩
theorem pointQ_ok{e:Ed}{x y:Int}(he:e.ok=true)(hx:Co x)(hy:Co y):(pointQ e x y).ok:=by
 obtain⟨⟨a1,a2⟩,⟨b1,b2⟩,c1,c2⟩:=ok_right he
 unfold pointQ
 split
 ·unfold lineQ
  split
  ·exact endQ_ok hx hy a1 a2
  split
  ·exact endQ_ok hx hy b1 b2
  rename_i h1 h2
  have iC:I64 ((e.bx-e.ax)*(y-e.ay)-(e.by'-e.ay)*(x-e.ax)):=(b1.sub a1).cross (hy.sub a2) (b2.sub a2) (hx.sub a1)
  have iQ:I64 (sqI (e.bx-e.ax) (e.by'-e.ay)):=(b1.sub a1).sq (b2.sub a2)
  exact⟨.inl rfl,sqz_nn _,(sq_lt iC).2,by show 0<sqI _ _;omega,lt64 iQ⟩
 ·unfold arcQ
  have iN:I64 (sqI (x-e.cx) (y-e.cy)):=(hx.sub c1).sq (hy.sub c2)
  split
  ·split
   ·exact⟨.inl rfl,sqI_nn _ _,lt64 iN,u0,u1⟩
   ·exact⟨.inr rfl,sqI_nn _ _,lt64 iN,u0,u1⟩
  split
  ·exact endQ_ok hx hy b1 b2
  ·exact endQ_ok hx hy a1 a2
theorem pointR_Q{e:Ed}{x y:Int}(he:e.ok=true)(hp:coordB x y=true):(pointR e x y).1=(pointQ e x y).rt:=by
 unfold pointR pointQ
 rw[he,hp]
 simp only[Bool.and_self,Bool.not_true,Bool.false_eq_true,if_false]
 split
 ·unfold lineR lineQ
  (repeat' split)<;>rfl
 ·unfold arcR arcQ
  (repeat' split)<;>rfl
theorem ite_mem{p:Prop}[Decidable p]{x z:Q4}(h:z∈if p then [] else [x]):¬p/\z=x:=by
 split at h
 ·cases h
 ·exact⟨by assumption,List.mem_singleton.1 h⟩
theorem map_ite{α:Type}(f:α->Rt){p:Prop}[Decidable p](x:α):(if p then [] else [x]).map f=if p then [] else [f x]:=by split<;>rfl
theorem footQ_ok{l a:Ed}(hl:l.ok=true)(ha:a.ok=true):∀x∈footQ l a,x.ok:=by
 obtain⟨⟨l1,l2⟩,⟨l3,l4⟩,_⟩:=ok_right hl
 obtain⟨_,_,a5,a6⟩:=ok_right ha
 intro x hx
 unfold footQ at hx
 obtain⟨h,rfl⟩:=ite_mem hx
 have iC:I64 ((l.bx-l.ax)*(a.cy-l.ay)-(l.by'-l.ay)*(a.cx-l.ax)):=(l3.sub l1).cross (a6.sub l2) (l4.sub l2) (a5.sub l1)
 have iQ:I64 (sqI (l.bx-l.ax) (l.by'-l.ay)):=(l3.sub l1).sq (l4.sub l2)
 have h1:=Int.not_le.1 fun g=>h (.inl g)
 have h2:=Int.not_le.1 fun g=>h (.inr (.inl g))
 exact⟨.inl rfl,sqz_nn _,(sq_lt iC).2,Int.lt_trans h1 h2,lt64 iQ⟩
theorem centQ_ok{a b:Ed}(ha:a.ok=true)(hb:b.ok=true):∀x∈centQ a b,x.ok:=by
 obtain⟨_,_,a5,a6⟩:=ok_right ha
 obtain⟨_,_,b5,b6⟩:=ok_right hb
 have iN:I64 (sqI (b.cx-a.cx) (b.cy-a.cy)):=(b5.sub a5).sq (b6.sub a6)
 unfold centQ
 simp only
 intro x hx
 (repeat' split at hx)<;>first|(cases hx;done)|(first|exact List.mem_singleton.1 hx ▸ ⟨.inl rfl,sqI_nn _ _,lt64 iN,u0,u1⟩|exact List.mem_singleton.1 hx ▸ ⟨.inr rfl,sqI_nn _ _,lt64 iN,u0,u1⟩)
theorem innerQ_ok{a b:Ed}(ha:a.ok=true)(hb:b.ok=true):∀x∈innerQ a b,x.ok:=by
 intro x hx
 unfold innerQ at hx
 split at hx
 ·split at hx
  ·cases hx
  ·exact footQ_ok ha hb x hx
 ·split at hx
  ·exact footQ_ok hb ha x hx
  ·exact centQ_ok ha hb x hx
theorem footR_Q(l a:Ed):(footR l a).map Pr.d=(footQ l a).map Q4.rt:=by
 unfold footR footQ
 simp only[map_ite,Q4.rt]
theorem centR_Q(a b:Ed):(centR a b).map Pr.d=(centQ a b).map Q4.rt:=by
 unfold centR centQ
 simp only
 (repeat' split)<;>rfl
theorem innerR_Q(a b:Ed):(innerR a b).map Pr.d=(innerQ a b).map Q4.rt:=by
 unfold innerR innerQ
 split
 ·split
  ·rfl
  ·exact footR_Q a b
 ·split
  ·rw[List.map_map];exact footR_Q b a
  ·exact centR_Q a b
theorem candR_Q{a b:Ed}(ha:a.ok=true)(hb:b.ok=true):(candR a b).map Pr.d=(candQ a b).map Q4.rt:=by
 have ca:=ok_right ha
 have cb:=ok_right hb
 unfold candR candQ
 rw[List.map_append,List.map_append,innerR_Q,pointR_Q hb (coordB_iff.2 ca.1),pointR_Q hb (coordB_iff.2 ca.2.1),pointR_Q ha (coordB_iff.2 cb.1),pointR_Q ha (coordB_iff.2 cb.2.1)]
 rfl
theorem candQ_ok{a b:Ed}(ha:a.ok=true)(hb:b.ok=true):∀x∈candQ a b,x.ok:=by
 obtain⟨⟨a1,a2⟩,⟨a3,a4⟩,_⟩:=ok_right ha
 obtain⟨⟨b1,b2⟩,⟨b3,b4⟩,_⟩:=ok_right hb
 intro x hx
 unfold candQ at hx
 rcases List.mem_append.1 hx with hx|hx
 ·simp only [List.mem_cons, List.not_mem_nil, or_false] at hx
  rcases hx with rfl|rfl|rfl|rfl
  ·exact pointQ_ok hb a1 a2
  ·exact pointQ_ok hb a3 a4
  ·exact pointQ_ok ha b1 b2
  ·exact pointQ_ok ha b3 b4
 ·exact innerQ_ok ha hb x hx
theorem fold_Q:∀ {l:List Pr} {m:List Q4} {x:Pr} {y:Q4},x.d=y.rt->y.ok->l.map Pr.d=m.map Q4.rt->(∀z∈m,z.ok)->(l.foldl betterP x).d=(m.foldl (fun x y=>if cmpQ y x<0 then y else x) y).rt
 | [],[],_,_,h,_,_,_=>h
 | [],_::_,_,_,_,_,e,_=>by cases e
 | _::_,[],_,_,_,_,e,_=>by cases e
 | a::l,b::m,x,y,h,ho,e,hm=>by
  simp only[List.map_cons,List.cons.injEq] at e
  have hb:=hm b (List.mem_cons_self ..)
  have hm':∀z∈m,z.ok:=fun z hz=>hm z (List.mem_cons_of_mem _ hz)
  simp only[List.foldl_cons]
  have k:cmpRt a.d x.d=cmpQ b y:=by rw[e.1,h,cmpQ_rt hb ho]
  unfold betterP at *
  rw[k]
  split
  ·exact fold_Q e.1 hb e.2 hm'
  ·exact fold_Q h ho e.2 hm'
theorem least_Q{l:List Pr}{m:List Q4}(h0:l ≠ [])(e:l.map Pr.d=m.map Q4.rt)(hm:∀z∈m,z.ok):(leastP l).d=(leastQ m).rt:=by
 cases l with
 | nil=>exact absurd rfl h0
 | cons x l =>
  cases m with
  | nil=>cases e
  | cons y m =>
   simp only[List.map_cons,List.cons.injEq] at e
   exact fold_Q e.1 (hm y (List.mem_cons_self ..)) e.2 fun z hz=>hm z (List.mem_cons_of_mem _ hz)
theorem edgesR_Q{a b:Ed}(ha:a.ok=true)(hb:b.ok=true)(hc:countE a b=0):(edgesR a b).d=(leastQ (candQ a b)).rt:=by
 unfold edgesR
 rw[if_neg (by rw[ha,hb,hc];decide)]
 exact least_Q (by unfold candR;exact fun h=>nomatch h) (candR_Q ha hb) (candQ_ok ha hb)
theorem fold_mem:∀ {m:List Q4} {y:Q4},(m.foldl (fun x y=>if cmpQ y x<0 then y else x) y)=y\/(m.foldl (fun x y=>if cmpQ y x<0 then y else x) y)∈m
 | [],_=>.inl rfl
 | b::m,y=>by
  simp only[List.foldl_cons]
  split
  ·rcases fold_mem (m := m) (y := b) with h | h
   ·rw[h];exact .inr (List.mem_cons_self ..)
   ·exact .inr (List.mem_cons_of_mem _ h)
  ·rcases fold_mem (m := m) (y := y) with h | h
   ·exact .inl h
   ·exact .inr (List.mem_cons_of_mem _ h)
theorem candQ_ne(a b:Ed):candQ a b ≠ []:=fun h=>nomatch h
theorem leastQ_mem{m:List Q4}(h:m ≠ []):leastQ m∈m:=by
 cases m with
 | nil=>exact absurd rfl h
 | cons y m =>
  show m.foldl _ y∈y::m
  rcases fold_mem (m:=m) (y:=y) with h|h
  ·rw[h];exact List.mem_cons_self ..
  ·exact List.mem_cons_of_mem _ h
theorem abs_leP{x y:Int}(hy:0<=y)(h:x*x<=y*y) : -y<=x/\x<=y:=by
  constructor
  . rcases (show -y <= x \/ x < -y by omega) with g | g
    . exact g
    . have := Int.mul_lt_mul_of_pos_right (show y < -x by omega) (show 0 < -x by omega)
      have:=Int.mul_le_mul_of_nonneg_left (show y <= -x by omega) hy
      have e : -x * -x=x*x:=Int.neg_mul_neg ..
      omega
  . rcases (show x <= y \/ y < x by omega) with g | g
    . exact g
    . have := Int.mul_lt_mul_of_pos_right (show y < x by omega) (show 0 < x by omega)
      have:=Int.mul_le_mul_of_nonneg_left (show y<=x by omega) hy
      omega
theorem onE_arc_mk{e:Ed}{x y:Int}(ho:e.ok=true)(hk:¬e.k=1)(hq:inQ e (x-e.cx) (y-e.cy)=true)(hr:sqI (x-e.cx) (y-e.cy)=radZ e*radZ e):onE e x y=true:=by
  obtain⟨r0,hu,hv,a1,a2,a3,a4⟩:=arc_axes ho hk
  unfold onE
  rw[ho,if_neg hk]
  simp only[Bool.true_and,Bool.and_eq_true,beq_iff_eq]
  unfold sqI at hr
  obtain⟨r,R⟩:∃r,radZ e=r:=⟨_,rfl⟩
  rw[R] at a1 a2 a3 a4 hr r0
  obtain⟨p,P⟩:∃p,x-e.cx=p:=⟨_,rfl⟩
  obtain⟨q,Q⟩:∃q,y-e.cy=q:=⟨_,rfl⟩
  unfold inQ wiB at hq
  simp only[Bool.and_eq_true,Bool.not_eq_true'] at hq
  obtain⟨_,hq⟩:=hq
  rw[P,Q] at hr hq
  have hp:p*p<=r*r:=by have:=sqz_nn q;omega
  have hq2:q*q<=r*r:=by have:=sqz_nn p;omega
  have b1:=abs_leP (Int.le_of_lt r0) hp
  have b2:=abs_leP (Int.le_of_lt r0) hq2
  have m0:r*0=0:=by omega
  have m1:r*1=r:=by omega
  have m2:r * -1 = -r:=by omega
  have n0 : -(0:Int)=0:=rfl
  have n1 : -(-1:Int)=1:=rfl
  have f1:e.ax-e.cx=r*e.ux:=by omega
  have f2:e.ay-e.cy=r*e.uy:=by omega
  have f3:e.bx-e.cx=r*e.vx:=by omega
  have f4:e.by'-e.cy=r*e.vy:=by omega
  rw[f1,f2,f3,f4] at hq
  have sg:∀t:Int,0<=r*t->0<=t:=fun t h=>by
    rcases Int.lt_or_le t 0 with g|g
    . have:=Int.mul_neg_of_pos_of_neg r0 g;omega
    . exact g
  have sg1:=sg p
  have sg2:=sg q
  have sg3:=sg (-p)
  have sg4:=sg (-q)
  rw[Int.mul_neg] at sg3 sg4
  constructor
  . refine inB_iff.2 ⟨?_, ?_⟩
    all_goals
      rcases hu with⟨u1,u2⟩|⟨u1,u2⟩|⟨u1,u2⟩|⟨u1,u2⟩<;>rcases hv with⟨k0,v1,v2⟩|⟨k0,v1,v2⟩ <;>
      (rw [u1] at a1 v2 hq; rw [u2] at a2 v1 hq; rw [v1] at a3 hq; rw [v2] at a4 hq
       rw[k0] at hq
       simp only[show ¬(2:Int)=3 by decide,if_false,if_true,m0,m1,m2,n0,n1,Int.mul_zero,Int.zero_mul,Int.neg_mul,Int.mul_neg,Int.mul_one,Int.sub_zero,Int.zero_sub,Int.neg_neg,Bool.and_eq_true,decide_eq_true_eq,Int.mul_comm p r,Int.mul_comm q r] at a1 a2 a3 a4 hq
       unfold Btw
       omega)
  . unfold powerI
    rcases hu with⟨u1,u2⟩|⟨u1,u2⟩|⟨u1,u2⟩|⟨u1,u2⟩ <;>
      (rw [P, Q, f1, f2, u1, u2, hr]
       simp only[m0,m1,m2,Int.neg_mul_neg,Int.mul_zero,Int.zero_mul]
       omega)
theorem sgn_pP{x:Int}(h:0<x):sgn x=1:=by rcases sgn_cases x with⟨h,g⟩|⟨h,g⟩|⟨h,g⟩<;>omega
theorem sgn_mP{x:Int}(h:x<0):sgn x = -1:=by rcases sgn_cases x with⟨h,g⟩|⟨h,g⟩|⟨h,g⟩<;>omega
theorem side_l0P(a c:Int):sideZ a 0 c=sgn a:=by
  unfold sideZ
  rw[show sgn 0=0 from rfl,Int.zero_mul,Int.mul_zero,if_pos (Int.le_refl 0)]
  rcases sgn_cases a with⟨h,_⟩|⟨h,_⟩|⟨h,_⟩<;>rw[h]<;>decide
theorem nz0P{s n:Int}(h:n=0):nz s n=0:=by unfold nz;rw[if_pos h]
theorem nz1P{s n:Int}(h:¬n=0):nz s n=s:=by unfold nz;rw[if_neg h]
theorem gt0{a s n d:Int}(h:0<sideZ (a*d) (nz s n) (n*d)):0<cmpQ ⟨a,s,n,d⟩ (intQ 0):=by
  unfold cmpQ intQ cmpR
  simp only[Int.sub_zero]
  rw[show nz 1 0=0 from rfl,if_pos (by omega)]
  omega
theorem gt_posQ{n d:Int}(hn:0<n)(hd:0<d):0<cmpQ ⟨0,1,n,d⟩ (intQ 0):=by
  refine gt0 ?_
  have h2:0<n*d:=Int.mul_pos hn hd
  rw[Int.zero_mul,nz1P (by omega)]
  unfold sideZ
  rw[sgn_pP h2,show sgn 0=0 from rfl,show sgn 1=1 from rfl,if_pos (by decide)]
  decide
theorem gt_outQ{r n d:Int}(hr:0<=r)(hd:0<d)(h:r*r*d<n):0<cmpQ ⟨-r,1,n,d⟩ (intQ 0):=by
  have h0:0<=r*r*d:=Int.mul_nonneg (sqz_nn r) (Int.le_of_lt hd)
  rcases Int.lt_or_eq_of_le hr with h1|h1
  . refine gt0 ?_
    have h2:0<n*d:=Int.mul_pos (by omega) hd
    have h3:0<r*d:=Int.mul_pos h1 hd
    have h4:r*r*d*d<n*d:=Int.mul_lt_mul_of_pos_right h hd
    rw[nz1P (by omega),Int.neg_mul]
    unfold sideZ
    rw[sgn_mP (show -(r*d)<0 by omega),sgn_pP h2,show sgn 1=1 from rfl,if_neg (by decide),Int.neg_mul_neg,Int.one_mul,Int.one_mul]
    have e:r*d*(r*d)=r*r*d*d:=by grind
    unfold cmpZ
    rw[if_pos (by omega)]
    decide
  . subst h1
    exact gt_posQ (by omega) hd
theorem gt_inQ{r n:Int}(hr:0<r)(hn:0<=n)(h:n<r*r):0<cmpQ ⟨r,-1,n,1⟩ (intQ 0):=by
  refine gt0 ?_
  rw[Int.mul_one,Int.mul_one]
  by_cases h0:n=0
  . rw[nz0P h0,side_l0P,sgn_pP hr];decide
  . rw [nz1P h0]
    unfold sideZ
    rw[sgn_pP hr,sgn_pP (show 0<n by omega),show sgn (-1) = -1 from rfl,if_neg (by decide),Int.neg_mul_neg,Int.one_mul,Int.one_mul,Int.one_mul]
    unfold cmpZ
    rw[if_neg (by omega),if_neg (by omega)]
    decide
theorem end_gt{e:Ed}{x y a b:Int}(h:onE e x y=false)(ha:onE e a b=true):0<cmpQ (endQ x y a b) (intQ 0):=by
  refine gt_posQ (sqI_pos fun ⟨g1,g2⟩=>?_) (by decide)
  rw[show x=a by omega,show y=b by omega,ha] at h
  cases h
theorem between{a b p x y u v t q:Int}(hq:u*u+v*v=q)(hc:u*y-v*x=0)(ht:x*u+y*v=t)(t0:0<t)(t1:t<q)(ha:u=b-a)(hp:x=p-a):Btw a p b:=by
  have e1:q*x=t*u:=by subst hq ht;grind
  unfold Btw
  rcases Int.lt_trichotomy u 0 with h|h|h
  . have h1 : t * u < 0 := Int.mul_neg_of_pos_of_neg t0 h
    have h2:x<0:=by
      rcases Int.lt_or_le x 0 with g|g
      . exact g
      . have:=Int.mul_nonneg (show 0<=q by omega) g;omega
    have h3:u<=x:=by
      rcases Int.lt_or_le x u with g|g
      . have k1 := Int.mul_lt_mul_of_pos_left g (show 0 < q by omega)
        have k2:q*u<=t*u:=Int.mul_le_mul_of_nonpos_right (by omega) (by omega)
        omega
      . exact g
    omega
  . have : q * x = 0 := by rw [e1, h, Int.mul_zero]
    have:x=0:=by rcases Int.mul_eq_zero.1 this with g|g<;>omega
    omega
  . have h1 : 0 < t * u := Int.mul_pos t0 h
    have h2:0<x:=by
      rcases Int.lt_or_le 0 x with g|g
      . exact g
      . have:=Int.mul_nonpos_of_nonneg_of_nonpos (show 0<=q by omega) g;omega
    have h3:x<=u:=by
      rcases Int.lt_or_le u x with g|g
      . have k1 := Int.mul_lt_mul_of_pos_left g (show 0 < q by omega)
        have k2:t*u<=q*u:=Int.mul_le_mul_of_nonneg_right (by omega) (by omega)
        omega
      . exact g
    omega
theorem point_gt{e:Ed}{x y:Int}(ho:e.ok=true)(h:onE e x y=false):0<cmpQ (pointQ e x y) (intQ 0):=by
  unfold pointQ
  by_cases hk:e.k=1
  . rw [if_pos hk]
    unfold lineQ
    split
    . exact end_gt h (end_a ho)
    split
    . exact end_gt h (end_b ho)
    . rename_i h1 h2
      refine gt_posQ ?_ (by omega)
      have:=sqz_nn ((e.bx-e.ax)*(y-e.ay)-(e.by'-e.ay)*(x-e.ax))
      rcases Int.lt_or_eq_of_le this with g|g
      . exact g
      . exfalso
        have hc:(e.bx-e.ax)*(y-e.ay)-(e.by'-e.ay)*(x-e.ax)=0:=by rcases Int.mul_eq_zero.1 g.symm with g|g<;>exact g
        have b1:=between (a:=e.ax) (b:=e.bx) (p:=x) rfl hc rfl (by omega) (Int.not_le.1 h2) rfl rfl
        have b2:=between (a:=e.ay) (b:=e.by') (p:=y) (u:=e.by'-e.ay) (v:=e.bx-e.ax) (x:=y-e.ay) (y:=x-e.ax) (t:=(x-e.ax)*(e.bx-e.ax)+(y-e.ay)*(e.by'-e.ay)) (q:=sqI (e.bx-e.ax) (e.by'-e.ay)) (by unfold sqI;omega) (by omega) (by omega) (by omega) (by omega) rfl rfl
        rw[onE_line_mk hk ho b1 b2 (by omega)] at h
        cases h
  . rw [if_neg hk]
    have hr:=rad_pos ho hk
    unfold arcQ
    split
    . rename_i hq
      have hn:¬sqI (x-e.cx) (y-e.cy)=radZ e*radZ e:=fun g=>by rw[onE_arc_mk ho hk hq g] at h;cases h
      split
      . exact gt_outQ (Int.le_of_lt hr) (by decide) (by omega)
      . exact gt_inQ hr (sqI_nn _ _) (by omega)
    split
    . exact end_gt h (end_b ho)
    . exact end_gt h (end_a ho)
theorem foot_gt(l:Ed){a:Ed}(ha:a.ok=true)(hk:¬a.k=1):∀z∈footQ l a,0<cmpQ z (intQ 0):=by
  intro z hz
  by_cases h:((a.cx-l.ax)*(l.bx-l.ax)+(a.cy-l.ay)*(l.by'-l.ay)<=0\/sqI (l.bx-l.ax) (l.by'-l.ay)<=(a.cx-l.ax)*(l.bx-l.ax)+(a.cy-l.ay)*(l.by'-l.ay)\/((l.bx-l.ax)*(a.cy-l.ay)-(l.by'-l.ay)*(a.cx-l.ax))*((l.bx-l.ax)*(a.cy-l.ay)-(l.by'-l.ay)*(a.cx-l.ax))<=radZ a*radZ a*sqI (l.bx-l.ax) (l.by'-l.ay)\/inQ a (if 0<(l.bx-l.ax)*(a.cy-l.ay)-(l.by'-l.ay)*(a.cx-l.ax) then l.by'-l.ay else -(l.by'-l.ay)) (if 0<(l.bx-l.ax)*(a.cy-l.ay)-(l.by'-l.ay)*(a.cx-l.ax) then -(l.bx-l.ax) else l.bx-l.ax)=false)
  . rw[show footQ l a=[] from if_pos h] at hz;cases hz
  . rw [show footQ l a = [⟨-radZ a, 1, ((l.bx - l.ax) * (a.cy - l.ay) - (l.by' - l.ay) * (a.cx - l.ax)) * ((l.bx - l.ax) * (a.cy - l.ay) - (l.by' - l.ay) * (a.cx - l.ax)), sqI (l.bx - l.ax) (l.by' - l.ay)⟩] from if_neg h] at hz
    simp only[not_or,Int.not_le] at h
    obtain⟨h1,h2,h3,_⟩:=h
    simp only[List.mem_cons,List.not_mem_nil,or_false] at hz
    subst hz
    exact gt_outQ (Int.le_of_lt (rad_pos ha hk)) (by omega) h3
theorem cent_gt{a b:Ed}(ha:a.ok=true)(hb:b.ok=true)(hk:¬a.k=1)(gk:¬b.k=1):∀z∈centQ a b,0<cmpQ z (intQ 0):=by
  intro z hz
  have r1:=rad_pos ha hk
  have r2:=rad_pos hb gk
  have hn:=sqI_nn (b.cx-a.cx) (b.cy-a.cy)
  unfold centQ at hz
  simp only at hz
  generalize sqI (b.cx-a.cx) (b.cy-a.cy)=n at *
  split at hz
  . rename_i h1
    split at hz
    . simp only [List.mem_cons, List.not_mem_nil, or_false] at hz
      subst hz
      rw[show -radZ a-radZ b = -(radZ a+radZ b) by omega]
      exact gt_outQ (by omega) (by decide) (by omega)
    . cases hz
  split at hz
  . cases hz
  rename_i h1 h2
  split at hz
  . rename_i h3
    split at hz
    . simp only [List.mem_cons, List.not_mem_nil, or_false] at hz
      subst hz
      exact gt_inQ (by omega) hn (by omega)
    . cases hz
  . rename_i h3
    have h4:¬radZ a=radZ b:=fun h=>by rw[h] at h2;simp at h2;omega
    split at hz
    . simp only [List.mem_cons, List.not_mem_nil, or_false] at hz
      subst hz
      have e:(radZ b-radZ a)*(radZ b-radZ a)=(radZ a-radZ b)*(radZ a-radZ b):=by grind
      exact gt_inQ (by omega) hn (by omega)
    . cases hz
theorem least_gt{a b:Ed}(ha:a.ok=true)(hb:b.ok=true)(hc:countE a b=0):0<cmpQ (leastQ (candQ a b)) (intQ 0):=by
  have off:∀x y,onE a x y=true->onE b x y=false:=fun x y h=>by
    cases g:onE b x y with
    | false=>rfl
    | true=>exact absurd hc (common_point h g)
  have off':∀x y,onE b x y=true->onE a x y=false:=fun x y h=>by
    cases g:onE a x y with
    | false=>rfl
    | true=>exact absurd hc (common_point g h)
  have hm:=leastQ_mem (candQ_ne a b)
  revert hm
  generalize leastQ (candQ a b)=z
  intro hm
  unfold candQ at hm
  simp only[List.cons_append,List.nil_append,List.mem_cons] at hm
  rcases hm with rfl|rfl|rfl|rfl|hm
  . exact point_gt hb (off _ _ (end_a ha))
  . exact point_gt hb (off _ _ (end_b ha))
  . exact point_gt ha (off' _ _ (end_a hb))
  . exact point_gt ha (off' _ _ (end_b hb))
  . unfold innerQ at hm
    split at hm
    . split at hm
      . cases hm
      . exact foot_gt a hb (by assumption) _ hm
    . split at hm
      . exact foot_gt b ha (by assumption) _ hm
      . exact cent_gt ha hb (by assumption) (by assumption) _ hm
theorem mov_ok{s:Sh}(h:FineS s){x y:Int}(t:Int)(m:Bool)(hx : -1048576<=x/\x<=1048576)(hy : -1048576<=y/\y<=1048576):OkS (movS s x y t m):=by
 obtain⟨h,hs,_⟩:=h
 have ht:=modZ_bd t (m:=4) (by omega)
 refine⟨h.k,h.n0,h.n1,fun i hi=>?_,fun i hi=>?_,fun hk=>?_,h.r⟩
 ·obtain ⟨⟨s1, s2⟩, ⟨s3, s4⟩, s5, s6⟩ := hs i hi
  unfold Sm3 at *
  exact move_ok (h.ok i hi) x y (modZ t 4) m (by omega) hx hy (by omega) (by omega) (by omega) (by omega) (by omega) (by omega)
 ·obtain ⟨e1, e2⟩ := h.ch i hi
  show (applyP x y (modZ t 4) m (s.e (i+1)).ax (s.e (i+1)).ay).1=(applyP x y (modZ t 4) m (s.e i).bx (s.e i).by').1/\(applyP x y (modZ t 4) m (s.e (i+1)).ax (s.e (i+1)).ay).2=(applyP x y (modZ t 4) m (s.e i).bx (s.e i).by').2
  rw[e1,e2]
  exact⟨rfl,rfl⟩
 ·obtain ⟨e1, e2⟩ := h.cl hk
  show (applyP x y (modZ t 4) m (s.e 0).ax (s.e 0).ay).1=(applyP x y (modZ t 4) m (s.e (s.n-1)).bx (s.e (s.n-1)).by').1/\(applyP x y (modZ t 4) m (s.e 0).ax (s.e 0).ay).2=(applyP x y (modZ t 4) m (s.e (s.n-1)).bx (s.e (s.n-1)).by').2
  rw[e1,e2]
  exact⟨rfl,rfl⟩
def shQ(z:Q4)(n:Int):Q4:=⟨z.a+n,z.s,z.n,z.d⟩
theorem shQ_ok{z:Q4}(h:z.ok)(n:Int):(shQ z n).ok:=⟨h.s,h.n0,h.n1,h.d0,h.d1⟩
theorem q_rt{z:Q4}(h:z.ok):z.rt=⟨z.a,nz z.s z.n.toNat,ofZ ((z.n.toNat/Nat.gcd z.n.toNat z.d.toNat:Nat):Int),ofZ ((z.d.toNat/Nat.gcd z.n.toNat z.d.toNat:Nat):Int)⟩:=by
 rw[h.root.1,rootOf_nz h.s (by have:=h.d0;omega)]
theorem plus_q{z:Q4}(h:z.ok){n:Int}(hi:inI (z.a+n)=true):plusR z.rt n=((shQ z n).rt,true):=by
 unfold plusR
 have ha:z.rt.add=z.a:=by rw[q_rt h]
 rw[h.root.2.2,ha,hi,q_rt (shQ_ok h n),q_rt h]
 rfl
theorem zrt_q(a b:Sh):zrt a b=(shQ (intQ 0) (sumR a b)).rt:=by
 have e:(ofP (sumR a b) 0 (ofZ ((0:Nat):Int)) (ofZ ((1:Nat):Int)))=(rootOf (sumR a b) 0 0 1,true):=ofP_nat (by decide) (by decide) (by decide) (by decide)
 have e2:shQ (intQ 0) (sumR a b)=intQ (sumR a b):=by unfold shQ intQ;simp
 rw[e2,intQ_rt]
 exact congrArg Prod.fst e
def Bd30(x:Int):Prop := -1073741824<=x/\x<=1073741824
theorem point_a{e:Ed}(ho:e.ok=true)(x y:Int) : -134217728<=(pointQ e x y).a/\(pointQ e x y).a<=134217728:=by
 have hr:=(rad_b ho).1
 unfold pointQ lineQ arcQ endQ
 (repeat' split)<;>simp only<;>omega
theorem cand_a{a b:Ed}(ha:a.ok=true)(hb:b.ok=true):∀z∈candQ a b,Bd30 z.a:=by
 intro z hz
 have r1:=(rad_b ha).1
 have r2:=(rad_b hb).1
 unfold Bd30
 unfold candQ at hz
 rcases List.mem_append.1 hz with hz|hz
 ·simp only [List.mem_cons, List.not_mem_nil, or_false] at hz
  rcases hz with rfl|rfl|rfl|rfl
  ·have:=point_a hb a.ax a.ay;omega
  ·have:=point_a hb a.bx a.by';omega
  ·have:=point_a ha b.ax b.ay;omega
  ·have:=point_a ha b.bx b.by';omega
 ·unfold innerQ footQ centQ at hz
  simp only at hz
  (repeat' split at hz)<;>first|(cases hz;done)|(simp only[List.mem_cons,List.not_mem_nil,or_false] at hz;subst hz;simp only;omega)
theorem gap_some(c:Nat->Pr):∀k,0<k->∃i,i<k/\gapK c k=(c i).gp
 | 0,h=>absurd h (Nat.lt_irrefl _)
 | k+1,_=>by
  unfold gapK
  split
  ·exact⟨k,Nat.lt_succ_self _,rfl⟩
  ·rename_i h
   have hk:0<k:=by
    rcases Nat.eq_zero_or_pos k with h0|h0
    ·subst h0;simp at h
    ·exact h0
   obtain⟨i,h1,h2⟩:=gap_some c k hk
   exact⟨i,by omega,h2⟩
theorem sum_r{a b:Sh}(ha:OkS a)(hb:OkS b):sumR a b = -a.r-b.r:=by
 obtain⟨⟨a0,a1⟩,_⟩:=ha.r
 obtain⟨⟨b0,b1⟩,_⟩:=hb.r
 unfold sumR
 have e:IntKind.i64.wrap (0-a.r) = -a.r:=(wrap_in (by unfold I64;omega)).trans (by omega)
 rw[e,wrap_in (by unfold I64;omega)]
structure DistQ (a b:Sh) (z:Q4):Prop where
 ok:z.ok
 bd:Bd30 z.a
 eq:(ofQ a b).2=true/\(ofQ a b).1.m=metB a b/\(ofQ a b).1.d=(shQ z (-a.r-b.r)).rt
 met:metB a b=true->z=intQ 0/\(ofQ a b).1.a=Sp.no/\(ofQ a b).1.b=Sp.no
 far:metB a b=false->0<cmpQ z (intQ 0)
theorem n_pos{s:Sh}(h:OkS s):0<s.n:=by
 have:=h.n0
 unfold fewS at this
 split at this<;>omega
structure CoreQ (a b:Sh) (z:Q4):Prop where
 ok:z.ok
 bd:Bd30 z.a
 met:metB a b=true->z=intQ 0
 far:metB a b=false->0<cmpQ z (intQ 0)/\(gapK (cnd a b) (a.n*b.n)).d=z.rt/\(gapK (cnd a b) (a.n*b.n)).m=false
theorem core_q{a b:Sh}(ha:OkS a)(hb:OkS b):∃z,CoreQ a b z:=by
 cases hm:metB a b with
 | true=>exact⟨intQ 0,intQ_ok 0,by unfold Bd30 intQ;simp only;omega,fun _=>rfl,fun h=>(by rw[hm] at h;cases h)⟩
 | false =>
  have hn:0<a.n*b.n:=Nat.mul_pos (n_pos ha) (n_pos hb)
  obtain⟨i,hi,hg⟩:=gap_some (cnd a b) (a.n*b.n) hn
  have hbn:=n_pos hb
  have i1:i/b.n<a.n:=(Nat.div_lt_iff_lt_mul hbn).2 hi
  have i2:i%b.n<b.n:=Nat.mod_lt _ hbn
  have oa:=ha.ok _ i1
  have ob:=hb.ok _ i2
  have hsep:sep a b i=true:=by
   have hm':=hm
   unfold metB at hm'
   simp only[Bool.or_eq_false_iff,Bool.not_eq_false'] at hm'
   exact allB_t.1 hm'.2 i hi
  have hc:countE (a.e (i/b.n)) (b.e (i%b.n))=0:=by unfold sep at hsep;simpa using hsep
  have hd:(gapK (cnd a b) (a.n*b.n)).d=(leastQ (candQ (a.e (i/b.n)) (b.e (i%b.n)))).rt:=by
   rw[hg]
   exact edgesR_Q oa ob hc
  have hmem:=leastQ_mem (candQ_ne (a.e (i/b.n)) (b.e (i%b.n)))
  exact⟨_,candQ_ok oa ob _ hmem,cand_a oa ob _ hmem,fun h=>(by rw[hm] at h;cases h),fun _=>⟨least_gt oa ob hc,hd,by rw[hg];rfl⟩⟩
theorem core_dist{a b:Sh}(ha:OkS a)(hb:OkS b){z:Q4}(C:CoreQ a b z):DistQ a b z:=by
 have h0:¬(chkS a≠0\/chkS b≠0):=fun h=>h.elim (fun g=>g ha.chk) (fun g=>g hb.chk)
 have hs:=sum_r ha hb
 have ra:=ha.r.1
 have rb:=hb.r.1
 cases hm:metB a b with
 | true =>
  have e:ofQ a b=(metR a b,true):=by unfold ofQ;rw[if_neg h0,if_pos hm]
  refine⟨C.ok,C.bd,⟨by rw[e],by rw[e,hm];rfl,?_⟩,fun _=>⟨C.met hm,by rw[e];exact⟨rfl,rfl⟩⟩,fun h=>(by rw[hm] at h;cases h)⟩
  rw[e,<- hs,C.met hm]
  exact zrt_q a b
 | false =>
  have e:ofQ a b=({ gapK (cnd a b) (a.n*b.n) with d:=(plusR (gapK (cnd a b) (a.n*b.n)).d (sumR a b)).1 },true):=by unfold ofQ;rw[if_neg h0,if_neg (by rw[hm];decide)]
  obtain⟨hgt,hd,hmf⟩:=C.far hm
  have hba:=C.bd
  refine⟨C.ok,C.bd,⟨by rw[e],by rw[e,hm];exact hmf,?_⟩,fun h=>(by rw[hm] at h;cases h),fun _=>hgt⟩
  rw[e]
  show (plusR (gapK (cnd a b) (a.n*b.n)).d (sumR a b)).1=_
  unfold Bd30 at hba
  rw[hd,hs,plus_q C.ok (inI_iff.2 (by omega))]
def tI(e:Ed)(x y:Int):Int:=(x-e.ax)*(e.bx-e.ax)+(y-e.ay)*(e.by'-e.ay)
def cI(e:Ed)(x y:Int):Int:=(e.bx-e.ax)*(y-e.ay)-(e.by'-e.ay)*(x-e.ax)
def qI(e:Ed):Int:=sqI (e.bx-e.ax) (e.by'-e.ay)

section
theorem sgQ{x y:Q4}(hx:x.ok)(hy:y.ok):Sg (cmpQ x y) (df x.rt y.rt):=by
 obtain⟨_,k1,r1⟩:=hx.root
 obtain⟨_,k2,r2⟩:=hy.root
 rw[<- cmpQ_rt hx hy]
 unfold cmpRt
 rw[r1,r2]
 exact cmpRt_sg k1 k2
theorem cmpQ_anti{x y:Q4}(hx:x.ok)(hy:y.ok):cmpQ y x = -cmpQ x y:=by
 refine Sg.uniq (sgQ hy hx) (Sg.eq (sgQ hx hy).neg fun k=>?_)
 rw[neg_f,df_f,df_f]
 grind
theorem cmpQ_self{x:Q4}(hx:x.ok):cmpQ x x=0:=by have:=cmpQ_anti hx hx;omega
theorem cmpQ_trans{x y z:Q4}(hx:x.ok)(hy:y.ok)(hz:z.ok)(h1:cmpQ x y<=0)(h2:cmpQ y z<=0):cmpQ x z<=0 :=
 ((cmp_trans hx.root.2.1 hy.root.2.1 hz.root.2.1 (sgQ hx hy) (sgQ hy hz) (sgQ hx hz)).1 h1 h2).1
theorem fold_le:∀ {m:List Q4} {y:Q4},y.ok->(∀z∈m,z.ok)->(m.foldl (fun x y=>if cmpQ y x<0 then y else x) y).ok/\cmpQ (m.foldl (fun x y=>if cmpQ y x<0 then y else x) y) y<=0/\∀z∈m,cmpQ (m.foldl (fun x y=>if cmpQ y x<0 then y else x) y) z<=0
 | [],y,hy,_=>⟨hy,by rw[show List.foldl _ y []=y from rfl,cmpQ_self hy];exact Int.le_refl 0,nofun⟩
 | b::m,y,hy,hm=>by
  have hb:=hm b (List.mem_cons_self ..)
  have hm':∀z∈m,z.ok:=fun z hz=>hm z (List.mem_cons_of_mem _ hz)
  simp only[List.foldl_cons]
  split
  ·rename_i h
   obtain⟨k0,k1,k2⟩:=fold_le (y:=b) hb hm'
   refine⟨k0,cmpQ_trans k0 hb hy k1 (Int.le_of_lt h),fun z hz=>?_⟩
   rcases List.mem_cons.1 hz with rfl|hz
   ·exact k1
   ·exact k2 z hz
  ·rename_i h
   obtain⟨k0,k1,k2⟩:=fold_le (y:=y) hy hm'
   refine⟨k0,k1,fun z hz=>?_⟩
   rcases List.mem_cons.1 hz with rfl|hz
   ·exact cmpQ_trans k0 hy hb k1 (by rw[cmpQ_anti hb hy];omega)
   ·exact k2 z hz
theorem leastQ_le{m:List Q4}(h0:m ≠ [])(hm:∀z∈m,z.ok):(leastQ m).ok/\∀z∈m,cmpQ (leastQ m) z<=0:=by
 cases m with
 | nil=>exact absurd rfl h0
 | cons y m =>
  obtain⟨k0,k1,k2⟩:=fold_le (m:=m) (hm y (List.mem_cons_self ..)) fun z hz=>hm z (List.mem_cons_of_mem _ hz)
  refine⟨k0,fun z hz=>?_⟩
  rcases List.mem_cons.1 hz with rfl|hz
  ·exact k1
  ·exact k2 z hz
theorem leastQ_perm{m m':List Q4}(h0:m ≠ [])(hm:∀z∈m,z.ok)(h:∀z,z∈m <-> z∈m'):cmpQ (leastQ m) (leastQ m')=0:=by
 have h0':m' ≠ []:=fun e=>by
  cases m with
  | nil=>exact h0 rfl
  | cons y m=>have:=(h y).1 (List.mem_cons_self ..);rw[e] at this;cases this
 have hm':∀z∈m',z.ok:=fun z hz=>hm z ((h z).2 hz)
 obtain⟨k1,k2⟩:=leastQ_le h0 hm
 obtain⟨j1,j2⟩:=leastQ_le h0' hm'
 have a:=k2 _ ((h _).2 (leastQ_mem h0'))
 have b:=j2 _ ((h _).1 (leastQ_mem h0))
 rw[cmpQ_anti k1 j1] at b
 omega
theorem arc_ends{e:Ed}(h:e.ok=true)(hk:¬e.k=1):(e.k=2/\e.bx-e.cx = -(e.ay-e.cy)/\e.by'-e.cy=e.ax-e.cx)\/(e.k=3/\e.bx-e.cx=e.ay-e.cy/\e.by'-e.cy = -(e.ax-e.cx)):=by
 have hk':=kind_of h
 unfold Ed.ok at h
 simp only[Bool.and_eq_true] at h
 obtain⟨_,h2⟩:=h
 rcases hk' with k|k|k
 ·exact absurd k hk
 ·rw [k] at h2
  simp only[show ¬(2:Int)=1 by decide,if_false,if_true,Ed.quarter,quarterB,Bool.and_eq_true,beq_iff_eq,rot] at h2
  exact .inl ⟨k,h2.2.1,h2.2.2⟩
 ·rw [k] at h2
  simp only[show ¬(3:Int)=1 by decide,show ¬(3:Int)=2 by decide,if_false,if_true,Ed.quarter,quarterB,Bool.and_eq_true,beq_iff_eq,rot] at h2
  refine .inr ⟨k,?_,?_⟩<;>omega
def dotA(e:Ed)(x y:Int):Int:=x*(e.ax-e.cx)+y*(e.ay-e.cy)
def dotB(e:Ed)(x y:Int):Int:=x*(e.bx-e.cx)+y*(e.by'-e.cy)
theorem inQ_dot{e:Ed}(h:e.ok=true)(hk:¬e.k=1)(x y:Int):inQ e x y=(!(x==0&&y==0)&&(decide (0<=dotA e x y)&&decide (0<=dotB e x y))):=by
 unfold inQ wiB dotA dotB
 rcases arc_ends h hk with⟨k,e1,e2⟩|⟨k,e1,e2⟩
 ·rw [if_neg (by omega), e1, e2]
  rw[show (e.ax-e.cx)*y-(e.ay-e.cy)*x=x * -(e.ay-e.cy)+y*(e.ax-e.cx) by grind,show x*(e.ax-e.cx)-y * -(e.ay-e.cy)=x*(e.ax-e.cx)+y*(e.ay-e.cy) by grind]
  congr 1
  exact Bool.and_comm _ _
 ·rw [if_pos k, e1, e2]
  rw[show (e.ay-e.cy)*y - -(e.ax-e.cx)*x=x*(e.ax-e.cx)+y*(e.ay-e.cy) by grind,show x*(e.ay-e.cy)-y*(e.ax-e.cx)=x*(e.ay-e.cy)+y * -(e.ax-e.cx) by grind]
theorem footQ_eq(l a:Ed):footQ l a=if tI l a.cx a.cy<=0\/qI l<=tI l a.cx a.cy\/cI l a.cx a.cy*cI l a.cx a.cy<=radZ a*radZ a*qI l\/inQ a (if 0<cI l a.cx a.cy then l.by'-l.ay else -(l.by'-l.ay)) (if 0<cI l a.cx a.cy then -(l.bx-l.ax) else l.bx-l.ax)=false then [] else [⟨-radZ a,1,cI l a.cx a.cy*cI l a.cx a.cy,qI l⟩]:=rfl
theorem centQ_comm(a b:Ed):centQ b a=centQ a b:=by
 unfold centQ
 simp only
 have e1:a.cx-b.cx = -(b.cx-a.cx):=by omega
 have e2:a.cy-b.cy = -(b.cy-a.cy):=by omega
 have e3:sqI (-(b.cx-a.cx)) (-(b.cy-a.cy))=sqI (b.cx-a.cx) (b.cy-a.cy):=by unfold sqI;rw[Int.neg_mul_neg,Int.neg_mul_neg]
 have e4:(radZ b+radZ a)*(radZ b+radZ a)=(radZ a+radZ b)*(radZ a+radZ b):=by grind
 have e5:(radZ b-radZ a)*(radZ b-radZ a)=(radZ a-radZ b)*(radZ a-radZ b):=by grind
 have e6 : -radZ b-radZ a = -radZ a-radZ b:=by omega
 rw[e1,e2,e3,e4,e5,e6,Int.neg_neg,Int.neg_neg]
 have hn:=sqI_nn (b.cx-a.cx) (b.cy-a.cy)
 generalize sqI (b.cx-a.cx) (b.cy-a.cy)=n at *
 rw[Bool.and_comm (inQ b (-(b.cx-a.cx)) (-(b.cy-a.cy))) (inQ a (b.cx-a.cx) (b.cy-a.cy)),Bool.and_comm (inQ b (-(b.cx-a.cx)) (-(b.cy-a.cy))) (inQ a (-(b.cx-a.cx)) (-(b.cy-a.cy))),Bool.and_comm (inQ b (b.cx-a.cx) (b.cy-a.cy)) (inQ a (b.cx-a.cx) (b.cy-a.cy))]
 by_cases h1:(radZ a+radZ b)*(radZ a+radZ b)<n
 ·rw[if_pos h1,if_pos h1]
 by_cases h2:(radZ a-radZ b)*(radZ a-radZ b)<=n
 ·rw[if_neg h1,if_neg h1,if_pos h2,if_pos h2]
 have h3:¬radZ a=radZ b:=fun h=>by rw[h] at h2;simp at h2;omega
 by_cases h4:radZ a<radZ b
 ·rw[if_neg h1,if_neg h1,if_neg h2,if_neg h2,if_pos h4,if_neg (show ¬radZ b<radZ a by omega)]
 ·rw[if_neg h1,if_neg h1,if_neg h2,if_neg h2,if_neg h4,if_pos (show radZ b<radZ a by omega)]
theorem innerQ_comm(a b:Ed):innerQ b a=innerQ a b:=by
 unfold innerQ
 by_cases h1:a.k=1<;>by_cases h2:b.k=1
 ·simp only[if_pos h1,if_pos h2]
 ·simp only[if_pos h1,if_neg h2]
 ·simp only[if_neg h1,if_pos h2]
 ·simp only[if_neg h1,if_neg h2];exact centQ_comm a b
theorem mem4{a b c d:Q4}{l:List Q4}{z:Q4}:z ∈ [a,b,c,d]++l <-> (z=a\/z=b\/z=c\/z=d)\/z∈l:=by simp[or_assoc]
theorem candQ_comm(a b:Ed)(z:Q4):z∈candQ a b <-> z∈candQ b a:=by
 unfold candQ
 rw[mem4,mem4,innerQ_comm]
 constructor<;>rintro ((h|h|h|h)|h)<;>simp[h]
variable {a b c d x y:Int} {e e' f f':Ed}
theorem sq_iso(h:IsoOk a b c d)(u v:Int):sqI (a*u+b*v) (c*u+d*v)=sqI u v:=dot_iso h u v u v
theorem zero_iso(h:IsoOk a b c d)(u v:Int):(a*u+b*v==0&&c*u+d*v==0)=(u==0&&v==0):=by
 rw[Bool.eq_iff_iff]
 simp only[Bool.and_eq_true,beq_iff_eq]
 have:=eq_iso h u v 0 0
 simp only[Int.mul_zero,Int.add_zero] at this
 exact this
theorem Mvd.inQ(h:Mvd a b c d x y e e')(hk:¬e.k=1)(u v:Int):inQ e' (a*u+b*v) (c*u+d*v)=inQ e u v:=by
 rw[inQ_dot h.ok hk,inQ_dot h.ok' (fun g=>hk (h.k.1 g)),zero_iso h.iso]
 unfold dotA dotB
 rw[h.ax,h.ay,h.bx,h.by',h.cx hk,h.cy hk,sub_iso,sub_iso,sub_iso,sub_iso,dot_iso h.iso,dot_iso h.iso]
theorem endQ_iso(h:IsoOk a b c d)(p q r s:Int):endQ (a*p+b*q+x) (c*p+d*q+y) (a*r+b*s+x) (c*r+d*s+y)=endQ p q r s:=by
 unfold endQ
 rw[sub_iso,sub_iso,sq_iso h]
theorem crs_sq(h:IsoOk a b c d)(p q r s:Int):((a*p+b*q)*(c*r+d*s)-(c*p+d*q)*(a*r+b*s))*((a*p+b*q)*(c*r+d*s)-(c*p+d*q)*(a*r+b*s))=(p*s-q*r)*(p*s-q*r):=by
 rw[crs_iso]
 rcases det_iso h with g|g<;>rw[g]
 ·rw[Int.one_mul]
 ·rw[Int.neg_one_mul,Int.neg_mul_neg]
theorem Mvd.lineQ(h:Mvd a b c d x y e e')(p q:Int):lineQ e' (a*p+b*q+x) (c*p+d*q+y)=lineQ e p q:=by
 unfold Go.Proofs.YtceemiodpccbhaaGreat.lineQ
 simp only[h.ax,h.ay,h.bx,h.by',sub_iso,dot_iso h.iso,sq_iso h.iso,endQ_iso h.iso,crs_sq h.iso]
theorem Mvd.pointQ(h:Mvd a b c d x y e e')(p q:Int):pointQ e' (a*p+b*q+x) (c*p+d*q+y)=pointQ e p q:=by
 unfold Go.Proofs.YtceemiodpccbhaaGreat.pointQ
 by_cases hk:e.k=1
 ·rw[if_pos hk,if_pos (h.k.2 hk),h.lineQ]
 ·rw [if_neg hk, if_neg (fun g => hk (h.k.1 g))]
  unfold arcQ
  simp only[h.ax,h.ay,h.bx,h.by',h.cx hk,h.cy hk,sub_iso,h.inQ hk,h.rad hk,sq_iso h.iso,endQ_iso h.iso]
theorem Mvd.footQ(h:Mvd a b c d x y e e')(g:Mvd a b c d x y f f')(hk:¬f.k=1):footQ e' f'=footQ e f:=by
 rw[footQ_eq,footQ_eq]
 have e1:tI e' f'.cx f'.cy=tI e f.cx f.cy:=by unfold tI;simp only[h.ax,h.ay,h.bx,h.by',g.cx hk,g.cy hk,sub_iso,dot_iso h.iso]
 have e2:cI e' f'.cx f'.cy=(a*d-b*c)*cI e f.cx f.cy:=by unfold cI;simp only[h.ax,h.ay,h.bx,h.by',g.cx hk,g.cy hk,sub_iso];exact crs_iso ..
 have e3:qI e'=qI e:=by unfold qI;simp only[h.ax,h.ay,h.bx,h.by',sub_iso,sq_iso h.iso]
 have e4:e'.by'-e'.ay=c*(e.bx-e.ax)+d*(e.by'-e.ay):=by rw[h.ay,h.by',sub_iso]
 have e5:e'.bx-e'.ax=a*(e.bx-e.ax)+b*(e.by'-e.ay):=by rw[h.ax,h.bx,sub_iso]
 have hq:0<=qI e:=sqI_nn _ _
 have e6:(a*d-b*c)*cI e f.cx f.cy*((a*d-b*c)*cI e f.cx f.cy)=cI e f.cx f.cy*cI e f.cx f.cy:=by
  rcases det_iso h.iso with g|g<;>rw[g]
  ·rw[Int.one_mul]
  ·rw[Int.neg_one_mul,Int.neg_mul_neg]
 rw[e1,e2,e3,e4,e5,e6,g.rad hk]
 by_cases h0:cI e f.cx f.cy=0
 ·have h1:cI e f.cx f.cy*cI e f.cx f.cy<=radZ f*radZ f*qI e:=by
   rw[h0,Int.zero_mul];exact Int.mul_nonneg (sqz_nn _) hq
  rw[if_pos (.inr (.inr (.inl h1))),if_pos (.inr (.inr (.inl h1)))]
 ·generalize e.bx - e.ax = u
  generalize e.by'-e.ay=v
  have key:∃n m:Int,(n=if 0<cI e f.cx f.cy then v else -v)/\(m=if 0<cI e f.cx f.cy then -u else u)/\(if 0<(a*d-b*c)*cI e f.cx f.cy then c*u+d*v else -(c*u+d*v))=a*n+b*m/\(if 0<(a*d-b*c)*cI e f.cx f.cy then -(a*u+b*v) else a*u+b*v)=c*n+d*m:=by
   refine⟨_,_,rfl,rfl,?_⟩
   generalize cI e f.cx f.cy=C at *
   rcases h.iso with⟨rfl,rfl,rfl|rfl,rfl|rfl⟩|⟨rfl,rfl,rfl|rfl,rfl|rfl⟩<;>by_cases hC:0<C<;>simp[hC,h0]<;>(try (constructor))<;>(try split)<;>omega
  obtain⟨n,m,hn,hm,k1,k2⟩:=key
  rw[k1,k2,g.inQ hk,<- hn,<- hm]
theorem Mvd.centQ(h:Mvd a b c d x y e e')(g:Mvd a b c d x y f f')(hk:¬e.k=1)(gk:¬f.k=1):centQ e' f'=centQ e f:=by
 have n1:∀u v:Int,-(a*u+b*v)=a * -u+b * -v:=fun u v=>by grind
 have n2:∀u v:Int,-(c*u+d*v)=c * -u+d * -v:=fun u v=>by grind
 unfold Go.Proofs.YtceemiodpccbhaaGreat.centQ
 simp only[h.cx hk,h.cy hk,g.cx gk,g.cy gk,sub_iso,n1,n2,h.inQ hk,g.inQ gk,h.rad hk,g.rad gk,sq_iso h.iso]
theorem Mvd.candQ(h:Mvd a b c d x y e e')(g:Mvd a b c d x y f f'):candQ e' f'=candQ e f:=by
 have hi:innerQ e' f'=innerQ e f:=by
  unfold innerQ
  by_cases k1:e.k=1
  ·by_cases k2 : f.k = 1
   ·simp only[if_pos k1,if_pos k2,if_pos (h.k.2 k1),if_pos (g.k.2 k2)]
   ·simp only[if_pos k1,if_neg k2,if_pos (h.k.2 k1),if_neg (fun t=>k2 (g.k.1 t)),h.footQ g k2]
  ·by_cases k2 : f.k = 1
   ·simp only[if_neg k1,if_pos k2,if_neg (fun t=>k1 (h.k.1 t)),if_pos (g.k.2 k2),g.footQ h k1]
   ·simp only[if_neg k1,if_neg k2,if_neg (fun t=>k1 (h.k.1 t)),if_neg (fun t=>k2 (g.k.1 t)),h.centQ g k1 k2]
 unfold Go.Proofs.YtceemiodpccbhaaGreat.candQ
 rw[hi,h.ax,h.ay,h.bx,h.by',g.ax,g.ay,g.bx,g.by',g.pointQ,g.pointQ,h.pointQ,h.pointQ]
end

set_option maxHeartbeats 4000000
section
def rayM(x1 y1 x2 y2 s:Int):Int :=
  if y1<=0/\0<y2/\(0<min x1 x2\/(0<max x1 x2/\0<s)) then 1 else if y2<=0/\0<y1/\(0<min x1 x2\/(0<max x1 x2/\s<0)) then -1 else 0
def Bx0(x1 y1 x2 y2:Int):Prop:=(min x1 x2<=0/\0<=max x1 x2)/\min y1 y2<=0/\0<=max y1 y2
def Mono(x1 y1 x2 y2 s:Int):Prop:=(s=1\/s = -1)/\(Bx0 x1 y1 x2 y2 ->
  (x1=0->((0<x2/\y1<0\/x2<0/\0<y1)/\s=1\/(0<x2/\0<y1\/x2<0/\y1<0)/\s = -1)) /\
  (x2=0->((0<x1/\0<y2\/x1<0/\y2<0)/\s=1\/(0<x1/\y2<0\/x1<0/\0<y2)/\s = -1)) /\
  (y1=0->((0<x1/\0<y2\/x1<0/\y2<0)/\s=1\/(0<x1/\y2<0\/x1<0/\0<y2)/\s = -1)) /\
  (y2=0->((0<x2/\y1<0\/x2<0/\0<y1)/\s=1\/(0<x2/\0<y1\/x2<0/\y1<0)/\s = -1)))
def phI(a b c d x y:Int):Int :=
  if b=0 then
    (if a = 1 then (if d = 1 then 0 else if y = 0 /\ 0 < x then 1 else 0)
     else if d=1 then (if y<0\/y=0/\¬x=0 then 1 else 0) else if y<0\/y=0/\0<x then -1 else 0)
  else if b=1 then (if c=1 then (if 0<x/\0<y then 0 else 1) else if 0<=x/\0<y then 0 else -1)
  else if c=1 then (if 0<x/\y<=0 then -1 else 0) else if 0<=x/\y<=0 then 1 else 0
theorem ray_iso{a b c d:Int}(h:IsoOk a b c d){x1 y1 x2 y2 s:Int}(hm:Mono x1 y1 x2 y2 s)(h1:¬(x1=0/\y1=0))(h2:¬(x2=0/\y2=0)) :
    rayM (a*x1+b*y1) (c*x1+d*y1) (a*x2+b*y2) (c*x2+d*y2) ((a*d-b*c)*s)=(a*d-b*c)*rayM x1 y1 x2 y2 s+phI a b c d x1 y1-phI a b c d x2 y2:=by
  obtain⟨hs,hb⟩:=hm
  unfold Bx0 at hb
  have hb:(¬((min x1 x2<=0/\0<=max x1 x2)/\min y1 y2<=0/\0<=max y1 y2))\/_:=(Classical.em _).symm.imp_right hb
  unfold rayM phI
  rcases h with⟨rfl,rfl,rfl|rfl,rfl|rfl⟩|⟨rfl,rfl,rfl|rfl,rfl|rfl⟩ <;>
    simp only[Int.zero_mul,Int.one_mul,Int.neg_mul,Int.mul_zero,Int.mul_one,Int.mul_neg,Int.sub_zero,Int.zero_sub,Int.add_zero,Int.zero_add,Int.neg_neg,if_true,if_false,reduceCtorEq,show ¬((1:Int)=0) by decide,show ¬((-1:Int)=0) by decide,show ¬((-1:Int)=1) by decide,show -(1:Int) = -1 from rfl] <;>
    rcases hs with rfl|rfl <;>
    (repeat' split)<;>omega
end
end Go.Proofs.YtceemiodpccbhaaGreat
