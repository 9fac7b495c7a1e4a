import Derived.Test.YteajakbpmeebnaaGreatH31
set_option linter.unusedVariables false
set_option linter.unusedSimpArgs false

namespace Go.Proofs.YteajakbpmeebnaaGreat
open Go.RowKit
theorem side0(y t:Int):sideZ y t 0=sgn y:=by
 have:sgn 0=0:=rfl
 unfold sideZ
 rw[this,Int.mul_zero,Int.mul_zero,if_pos (Int.le_refl 0)]
 rcases sgn_cases y with⟨h,_⟩|⟨h,_⟩|⟨h,_⟩<;>rw[h]<;>decide
theorem cmp_red1{g:Int}(h:0<g)(A s n d t m e:Int):cmpR A s (g*n) (g*d) t m e=cmpR A s n d t m e:=by
 unfold cmpR
 rw[show A*(g*d)=g*(A*d) by grind,show g*n*(g*d)=g*g*(n*d) by grind,sideZ_scale h,
  show A*A*(g*d)*e+g*n*e-m*(g*d)=g*(A*A*d*e+n*e-m*d) by grind,sideZ_scale h]
theorem cmp_red2{g:Int}(h:0<g)(A s n d t m e:Int):cmpR A s n d t (g*m) (g*e)=cmpR A s n d t m e:=by
 unfold cmpR
 rw[show A*A*d*(g*e)+n*(g*e)-g*m*d=g*(A*A*d*e+n*e-m*d) by grind,show 2*A*s*(g*e)=g*(2*A*s*e) by grind,sideZ_both h]
structure Q4 where
 a:Int
 s:Int
 n:Int
 d:Int
def Q4.rt(x:Q4):Rt:=dR x.a x.s x.n x.d
structure Q4.ok (x:Q4):Prop where
 s:x.s=1\/x.s = -1
 n0:0<=x.n
 n1:x.n<85070591730234615865843651857942052864*4
 d0:0<x.d
 d1:x.d<85070591730234615865843651857942052864*4
def nz(s n:Int):Int:=if n=0 then 0 else s
def cmpQ(x y:Q4):Int:=cmpR (x.a-y.a) (nz x.s x.n) x.n x.d (nz y.s y.n) y.n y.d
def intQ(i:Int):Q4:=⟨i,1,0,1⟩
theorem rootOf_nz{a s:Int}{n d:Nat}(hs:s=1\/s = -1)(hd:0<d):rootOf a s n d=⟨a,nz s n,ofZ ((n/Nat.gcd n d:Nat):Int),ofZ ((d/Nat.gcd n d:Nat):Int)⟩:=by
 unfold rootOf nz
 by_cases h:n=0
 ·subst h
  rw[if_pos (.inr rfl),if_pos (by simp),Nat.gcd_zero_left,Nat.zero_div,Nat.div_self hd]
  congr 1
  exact lit_0.symm
 ·rw[if_neg (by omega),if_neg (by omega)]
theorem Q4.ok.root{x:Q4}(h:x.ok):x.rt=rootOf x.a x.s x.n.toNat x.d.toNat/\x.rt.Ok/\x.rt.right=true:=by
 obtain⟨e,h1,h2,h3⟩:=dR_root (add:=x.a) (s:=x.s) (by rcases h.s with h|h<;>omega) h.n0 h.n1 h.d0 h.d1
 obtain⟨k1,k2⟩:=whole_ok (add:=x.a) (s:=x.s) (by rcases h.s with h|h<;>omega) h1 h2 h3
 have e:x.rt=rootOf x.a x.s x.n.toNat x.d.toNat:=e
 rw[e]
 exact⟨rfl,k1,k2⟩
theorem cmpQ_rt{x y:Q4}(hx:x.ok)(hy:y.ok):cmpRt x.rt y.rt=cmpQ x y:=by
 obtain⟨e1,_,r1⟩:=hx.root
 obtain⟨e2,_,r2⟩:=hy.root
 unfold cmpRt
 rw[r1,r2]
 simp only[Bool.and_self,if_true]
 have d1:=hx.d0
 have d2:=hy.d0
 have p1:0<x.d.toNat:=by omega
 have p2:0<y.d.toNat:=by omega
 rw[e1,e2,rootOf_nz hx.s p1,rootOf_nz hy.s p2]
 simp only[ofZ_z]
 have n1:((x.n.toNat:Nat):Int)=x.n:=Int.toNat_of_nonneg hx.n0
 have n2:((y.n.toNat:Nat):Int)=y.n:=Int.toNat_of_nonneg hy.n0
 have m1:((x.d.toNat:Nat):Int)=x.d:=Int.toNat_of_nonneg (by omega)
 have m2:((y.d.toNat:Nat):Int)=y.d:=Int.toNat_of_nonneg (by omega)
 rw[n1,n2]
 have key:∀n d:Nat,0<d->0<(Nat.gcd n d:Int)/\(n:Int)=(Nat.gcd n d:Int)*((n/Nat.gcd n d:Nat):Int)/\(d:Int)=(Nat.gcd n d:Int)*((d/Nat.gcd n d:Nat):Int):=fun n d h=>by
  have hg:0<Nat.gcd n d:=Nat.gcd_pos_of_pos_right _ h
  exact⟨by omega,by rw[<- Int.natCast_mul,Nat.mul_div_cancel' (Nat.gcd_dvd_left _ _)],by rw[<- Int.natCast_mul,Nat.mul_div_cancel' (Nat.gcd_dvd_right _ _)]⟩
 obtain⟨g1,a1,b1⟩:=key x.n.toNat x.d.toNat p1
 obtain⟨g2,a2,b2⟩:=key y.n.toNat y.d.toNat p2
 rw[n1] at a1
 rw[n2] at a2
 rw[m1] at b1
 rw[m2] at b2
 unfold cmpQ
 rw[<- cmp_red1 g1 _ _ _ _ _ _ _,<- cmp_red2 g2 _ _ _ _ _ _ _,<- a1,<- a2,<- b1,<- b2]
theorem u0:(0:Int)<1:=by decide
theorem u1:(1:Int)<85070591730234615865843651857942052864*4:=by decide
theorem uz:(0:Int)<85070591730234615865843651857942052864*4:=by decide
theorem intQ_ok(i:Int):(intQ i).ok:=⟨.inl rfl,Int.le_refl 0,uz,u0,u1⟩
theorem intQ_rt(i:Int):(intQ i).rt=⟨i,0,zero,ofZ 1⟩:=by
 rw[(intQ_ok i).root.1]
 unfold rootOf
 rw[if_pos (.inr rfl)]
 rfl
def leastQ:List Q4->Q4
 | []=>intQ 0
 | x::l=>l.foldl (fun x y=>if cmpQ y x<0 then y else x) x
def endQ(px py qx qy:Int):Q4:=⟨0,1,sqI (px-qx) (py-qy),1⟩
def lineQ(e:Ed)(px py:Int):Q4 :=
 if (px-e.ax)*(e.bx-e.ax)+(py-e.ay)*(e.by'-e.ay)<=0 then endQ px py e.ax e.ay
 else if sqI (e.bx-e.ax) (e.by'-e.ay)<=(px-e.ax)*(e.bx-e.ax)+(py-e.ay)*(e.by'-e.ay) then endQ px py e.bx e.by'
 else ⟨0,1,((e.bx-e.ax)*(py-e.ay)-(e.by'-e.ay)*(px-e.ax))*((e.bx-e.ax)*(py-e.ay)-(e.by'-e.ay)*(px-e.ax)),sqI (e.bx-e.ax) (e.by'-e.ay)⟩
def arcQ(e:Ed)(px py:Int):Q4 :=
 if inQ e (px-e.cx) (py-e.cy) then
  (if radZ e*radZ e<=sqI (px-e.cx) (py-e.cy) then ⟨-radZ e,1,sqI (px-e.cx) (py-e.cy),1⟩ else ⟨radZ e,-1,sqI (px-e.cx) (py-e.cy),1⟩)
 else if sqI (px-e.bx) (py-e.by')<sqI (px-e.ax) (py-e.ay) then endQ px py e.bx e.by' else endQ px py e.ax e.ay
def pointQ(e:Ed)(px py:Int):Q4:=if e.k=1 then lineQ e px py else arcQ e px py
def footQ(l a:Ed):List Q4 :=
 let dx:=l.bx-l.ax
 let dy:=l.by'-l.ay
 let t:=(a.cx-l.ax)*dx+(a.cy-l.ay)*dy
 let c:=dx*(a.cy-l.ay)-dy*(a.cx-l.ax)
 let nx:=if 0<c then dy else -dy
 let ny:=if 0<c then -dx else dx
 if t<=0\/sqI dx dy<=t\/c*c<=radZ a*radZ a*sqI dx dy\/inQ a nx ny=false then [] else [⟨-radZ a,1,c*c,sqI dx dy⟩]
def centQ(a b:Ed):List Q4 :=
 let vx:=b.cx-a.cx
 let vy:=b.cy-a.cy
 let r:=radZ a
 let s:=radZ b
 let n:=sqI vx vy
 if (r+s)*(r+s)<n then (if inQ a vx vy&&inQ b (-vx) (-vy) then [⟨-r-s,1,n,1⟩] else [])
 else if (r-s)*(r-s)<=n then []
 else if s<r then (if inQ a vx vy&&inQ b vx vy then [⟨r-s,-1,n,1⟩] else [])
 else (if inQ a (-vx) (-vy)&&inQ b (-vx) (-vy) then [⟨s-r,-1,n,1⟩] else [])
def innerQ(a b:Ed):List Q4:=if a.k=1 then (if b.k=1 then [] else footQ a b) else if b.k=1 then footQ b a else centQ a b
def candQ(a b:Ed):List Q4:=[pointQ b a.ax a.ay,pointQ b a.bx a.by',pointQ a b.ax b.ay,pointQ a b.bx b.by']++innerQ a b
theorem lt64{x:Int}(h:I64 x):x<85070591730234615865843651857942052864*4:=by unfold I64 at h;omega
theorem endQ_ok{px py qx qy:Int}(h1:Co px)(h2:Co py)(h3:Co qx)(h4:Co qy):(endQ px py qx qy).ok :=
 ⟨.inl rfl,sqI_nn _ _,lt64 ((h1.sub h3).sq (h2.sub h4)),u0,u1⟩
theorem pointQ_ok{e:Ed}{x y:Int}(he:e.ok=true)(hx:Co x)(hy:Co y):(pointQ e x y).ok:=by
 obtain⟨⟨a1,a2⟩,⟨b1,b2⟩,c1,c2⟩:=ok_right he
 unfold pointQ
 split
 ·unfold lineQ
  split
  ·exact endQ_ok hx hy a1 a2
  split
  ·exact endQ_ok hx hy b1 b2
  rename_i h1 h2
  have iC:I64 ((e.bx-e.ax)*(y-e.ay)-(e.by'-e.ay)*(x-e.ax)):=(b1.sub a1).cross (hy.sub a2) (b2.sub a2) (hx.sub a1)
  have iQ:I64 (sqI (e.bx-e.ax) (e.by'-e.ay)):=(b1.sub a1).sq (b2.sub a2)
  exact⟨.inl rfl,sqz_nn _,(sq_lt iC).2,by show 0<sqI _ _;omega,lt64 iQ⟩
 ·unfold arcQ
  have iN:I64 (sqI (x-e.cx) (y-e.cy)):=(hx.sub c1).sq (hy.sub c2)
  split
  ·split
   ·exact⟨.inl rfl,sqI_nn _ _,lt64 iN,u0,u1⟩
   ·exact⟨.inr rfl,sqI_nn _ _,lt64 iN,u0,u1⟩
  split
  ·exact endQ_ok hx hy b1 b2
  ·exact endQ_ok hx hy a1 a2
theorem pointR_Q{e:Ed}{x y:Int}(he:e.ok=true)(hp:coordB x y=true):(pointR e x y).1=(pointQ e x y).rt:=by
 unfold pointR pointQ
 rw[he,hp]
 simp only[Bool.and_self,Bool.not_true,Bool.false_eq_true,if_false]
 split
 ·unfold lineR lineQ
  (repeat' split)<;>rfl
 ·unfold arcR arcQ
  (repeat' split)<;>rfl
theorem ite_mem{p:Prop}[Decidable p]{x z:Q4}(h:z∈if p then [] else [x]):¬p/\z=x:=by
 split at h
 ·cases h
 ·exact⟨by assumption,List.mem_singleton.1 h⟩
theorem map_ite{α:Type}(f:α->Rt){p:Prop}[Decidable p](x:α):(if p then [] else [x]).map f=if p then [] else [f x]:=by split<;>rfl
theorem footQ_ok{l a:Ed}(hl:l.ok=true)(ha:a.ok=true):∀x∈footQ l a,x.ok:=by
 obtain⟨⟨l1,l2⟩,⟨l3,l4⟩,_⟩:=ok_right hl
 obtain⟨_,_,a5,a6⟩:=ok_right ha
 intro x hx
 unfold footQ at hx
 obtain⟨h,rfl⟩:=ite_mem hx
 have iC:I64 ((l.bx-l.ax)*(a.cy-l.ay)-(l.by'-l.ay)*(a.cx-l.ax)):=(l3.sub l1).cross (a6.sub l2) (l4.sub l2) (a5.sub l1)
 have iQ:I64 (sqI (l.bx-l.ax) (l.by'-l.ay)):=(l3.sub l1).sq (l4.sub l2)
 have h1:=Int.not_le.1 fun g=>h (.inl g)
 have h2:=Int.not_le.1 fun g=>h (.inr (.inl g))
 exact⟨.inl rfl,sqz_nn _,(sq_lt iC).2,Int.lt_trans h1 h2,lt64 iQ⟩
theorem centQ_ok{a b:Ed}(ha:a.ok=true)(hb:b.ok=true):∀x∈centQ a b,x.ok:=by
 obtain⟨_,_,a5,a6⟩:=ok_right ha
 obtain⟨_,_,b5,b6⟩:=ok_right hb
 have iN:I64 (sqI (b.cx-a.cx) (b.cy-a.cy)):=(b5.sub a5).sq (b6.sub a6)
 unfold centQ
 simp only
 intro x hx
 (repeat' split at hx)<;>first|(cases hx;done)|(first|exact List.mem_singleton.1 hx ▸ ⟨.inl rfl,sqI_nn _ _,lt64 iN,u0,u1⟩|exact List.mem_singleton.1 hx ▸ ⟨.inr rfl,sqI_nn _ _,lt64 iN,u0,u1⟩)
theorem innerQ_ok{a b:Ed}(ha:a.ok=true)(hb:b.ok=true):∀x∈innerQ a b,x.ok:=by
 intro x hx
 unfold innerQ at hx
 split at hx
 ·split at hx
  ·cases hx
  ·exact footQ_ok ha hb x hx
 ·split at hx
  ·exact footQ_ok hb ha x hx
  ·exact centQ_ok ha hb x hx
theorem footR_Q(l a:Ed):(footR l a).map Pr.d=(footQ l a).map Q4.rt:=by
 unfold footR footQ
 simp only[map_ite,Q4.rt]
theorem centR_Q(a b:Ed):(centR a b).map Pr.d=(centQ a b).map Q4.rt:=by
 unfold centR centQ
 simp only
 (repeat' split)<;>rfl
theorem innerR_Q(a b:Ed):(innerR a b).map Pr.d=(innerQ a b).map Q4.rt:=by
 unfold innerR innerQ
 split
 ·split
  ·rfl
  ·exact footR_Q a b
 ·split
  ·rw[List.map_map];exact footR_Q b a
  ·exact centR_Q a b
theorem candR_Q{a b:Ed}(ha:a.ok=true)(hb:b.ok=true):(candR a b).map Pr.d=(candQ a b).map Q4.rt:=by
 have ca:=ok_right ha
 have cb:=ok_right hb
 unfold candR candQ
 rw[List.map_append,List.map_append,innerR_Q,pointR_Q hb (coordB_iff.2 ca.1),pointR_Q hb (coordB_iff.2 ca.2.1),pointR_Q ha (coordB_iff.2 cb.1),pointR_Q ha (coordB_iff.2 cb.2.1)]
 rfl
theorem candQ_ok{a b:Ed}(ha:a.ok=true)(hb:b.ok=true):∀x∈candQ a b,x.ok:=by
 obtain⟨⟨a1,a2⟩,⟨a3,a4⟩,_⟩:=ok_right ha
 obtain⟨⟨b1,b2⟩,⟨b3,b4⟩,_⟩:=ok_right hb
 intro x hx
 unfold candQ at hx
 rcases List.mem_append.1 hx with hx|hx
 ·simp only [List.mem_cons, List.not_mem_nil, or_false] at hx
  rcases hx with rfl|rfl|rfl|rfl
  ·exact pointQ_ok hb a1 a2
  ·exact pointQ_ok hb a3 a4
  ·exact pointQ_ok ha b1 b2
  ·exact pointQ_ok ha b3 b4
 ·exact innerQ_ok ha hb x hx
theorem fold_Q:∀ {l:List Pr} {m:List Q4} {x:Pr} {y:Q4},x.d=y.rt->y.ok->l.map Pr.d=m.map Q4.rt->(∀z∈m,z.ok)->(l.foldl betterP x).d=(m.foldl (fun x y=>if cmpQ y x<0 then y else x) y).rt
 | [],[],_,_,h,_,_,_=>h
 | [],_::_,_,_,_,_,e,_=>by cases e
 | _::_,[],_,_,_,_,e,_=>by cases e
 | a::l,b::m,x,y,h,ho,e,hm=>by
  simp only[List.map_cons,List.cons.injEq] at e
  have hb:=hm b (List.mem_cons_self ..)
  have hm':∀z∈m,z.ok:=fun z hz=>hm z (List.mem_cons_of_mem _ hz)
  simp only[List.foldl_cons]
  have k:cmpRt a.d x.d=cmpQ b y:=by rw[e.1,h,cmpQ_rt hb ho]
  unfold betterP at *
  rw[k]
  split
  ·exact fold_Q e.1 hb e.2 hm'
  ·exact fold_Q h ho e.2 hm'
theorem least_Q{l:List Pr}{m:List Q4}(h0:l ≠ [])(e:l.map Pr.d=m.map Q4.rt)(hm:∀z∈m,z.ok):(leastP l).d=(leastQ m).rt:=by
 cases l with
 | nil=>exact absurd rfl h0
 | cons x l =>
  cases m with
  | nil=>cases e
  | cons y m =>
   simp only[List.map_cons,List.cons.injEq] at e
   exact fold_Q e.1 (hm y (List.mem_cons_self ..)) e.2 fun z hz=>hm z (List.mem_cons_of_mem _ hz)
theorem edgesR_Q{a b:Ed}(ha:a.ok=true)(hb:b.ok=true)(hc:countE a b=0):(edgesR a b).d=(leastQ (candQ a b)).rt:=by
 unfold edgesR
 rw[if_neg (by rw[ha,hb,hc];decide)]
 exact least_Q (by unfold candR;exact fun h=>nomatch h) (candR_Q ha hb) (candQ_ok ha hb)
theorem fold_mem:∀ {m:List Q4} {y:Q4},(m.foldl (fun x y=>if cmpQ y x<0 then y else x) y)=y\/(m.foldl (fun x y=>if cmpQ y x<0 then y else x) y)∈m
 | [],_=>.inl rfl
 | b::m,y=>by
  simp only[List.foldl_cons]
  split
  ·rcases fold_mem (m := m) (y := b) with h | h
   ·rw[h];exact .inr (List.mem_cons_self ..)
   ·exact .inr (List.mem_cons_of_mem _ h)
  ·rcases fold_mem (m := m) (y := y) with h | h
   ·exact .inl h
   ·exact .inr (List.mem_cons_of_mem _ h)
theorem candQ_ne(a b:Ed):candQ a b ≠ []:=fun h=>nomatch h
theorem leastQ_mem{m:List Q4}(h:m ≠ []):leastQ m∈m:=by
 cases m with
 | nil=>exact absurd rfl h
 | cons y m =>
  show m.foldl _ y∈y::m
  rcases fold_mem (m:=m) (y:=y) with h|h
  ·rw[h];exact List.mem_cons_self ..
  ·exact List.mem_cons_of_mem _ h
def countC(d:Int)(l:List (Int×Int)):Int:=if d<0 then 0 else (if goodS d 1 l then 1 else 0)+(if d=0 then 0 else if goodS d (-1) l then 1 else 0)
theorem countZ_eq(d:Int)(l:List (Int×Int)):countZ d l=countC d l:=by
 unfold countZ countL countC signL
 by_cases h:d<0
 ·simp[h]
 ·have hd : decide (d < 0) = false := by simpa using h
  rw[hd,if_neg h]
  simp only[Bool.false_eq_true,if_false]
  by_cases h0:d=0
  ·subst h0
   have:(digs (Int.natAbs 0)).length=0:=by simp[digs_zero]
   rw[if_pos this,if_pos rfl]
   cases hg:goodS 0 1 l<;>simp[sP,hg]
  ·have:¬(digs d.natAbs).length=0:=by
    intro e
    have:=digs_eq_nil.1 (List.eq_nil_of_length_eq_zero e)
    omega
   rw[if_neg this,if_neg h0]
   cases hg:goodS d 1 l<;>cases hg':goodS d (-1) l<;>simp[sP,sM,hg,hg']
theorem line_ok{ax ay bx by':Int}(h1:Co ax)(h2:Co ay)(h3:Co bx)(h4:Co by'):(Ed.mk 1 ax ay bx by' 0 0).ok=true:=by
 simp only[Ed.ok,Ed.right,Bool.and_eq_true]
 exact⟨⟨⟨coordB_iff.2 ⟨h1,h2⟩,coordB_iff.2 ⟨h3,h4⟩⟩,coordB_iff.2 (by unfold Co;omega)⟩,by simp[Ed.lone]⟩
theorem sideI_pos{n:Int}(h:0<n):sideI n=1:=by unfold sideI;(repeat' split)<;>omega
theorem sideI_neg{n:Int}(h:n<0):sideI n = -1:=by unfold sideI;(repeat' split)<;>omega
theorem sgn_pos{n:Int}(h:0<n):sgn n=1:=by unfold sgn cmpZ;(repeat' split)<;>omega
theorem sgn_neg{n:Int}(h:n<0):sgn n = -1:=by unfold sgn cmpZ;(repeat' split)<;>omega
theorem sgn_zero:sgn 0=0:=rfl
theorem sgn_nneg{x:Int}(h:0<=x):0<=sgn x:=by unfold sgn cmpZ;(repeat' split)<;>omega
theorem sq_leM{a b:Int}(h0:0<=a)(h:a<=b):a*a<=b*b:=Int.mul_le_mul h h h0 (by omega)
theorem sideZ_sq{x z n:Int}(hn:0<=n)(h:0<=x+z*n):0<=sideZ x z (n*n):=by
 unfold sideZ
 rcases Int.lt_or_eq_of_le hn with h0|h0
 ·have hnn : 0 < n * n := Int.mul_pos h0 h0
  rw[sgn_pos hnn,Int.mul_one]
  rcases Int.lt_trichotomy x 0 with hx|hx|hx
  ·rw [sgn_neg hx]
   rcases Int.lt_trichotomy z 0 with hz|hz|hz
   ·exfalso
    have:=Int.mul_neg_of_neg_of_pos hz h0
    omega
   ·subst hz;exfalso;omega
   ·rw [sgn_pos hz, if_neg (by decide)]
    have h1:=sq_leM (a := -x) (b:=z*n) (by omega) (by omega)
    have e:z*z*(n*n)=z*n*(z*n):=by grind
    have e2 : -x * -x=x*x:=by grind
    rw[e]
    unfold cmpZ
    (repeat' split)<;>omega
  ·subst hx
   have:0<=z:=by
    rcases (show z<0\/0<=z by omega) with hz|hz
    ·have:=Int.mul_neg_of_neg_of_pos hz h0;omega
    ·exact hz
   have h2:=sgn_nneg this
   have h3:=sgn_bd z
   have e0:sgn 0=0:=rfl
   rw[e0,Int.zero_mul,if_pos (Int.le_refl _)]
   omega
  ·rw [sgn_pos hx]
   rcases Int.lt_trichotomy z 0 with hz|hz|hz
   ·rw [sgn_neg hz, if_neg (by decide)]
    have h1:=sq_leM (a := -(z*n)) (b:=x) (by have:=Int.mul_neg_of_neg_of_pos hz h0;omega) (by omega)
    have e:z*z*(n*n) = -(z*n) * -(z*n):=by grind
    rw[e]
    unfold cmpZ
    (repeat' split)<;>omega
   ·subst hz
    rw[show sgn 0=0 from rfl,if_pos (by omega)]
    decide
   ·rw [sgn_pos hz, if_pos (by decide)]
    decide
 ·subst h0
  have e0:sgn (0*0)=0:=rfl
  have hx:=sgn_nneg (show 0<=x by omega)
  have h3:=sgn_bd x
  rw[e0,Int.mul_zero,Int.mul_zero,if_pos (Int.le_refl _)]
  omega
theorem sideZ_m{x y m s:Int}(hs:(s=1/\0<=m)\/(s = -1/\m<0))(h:0<=x+y*m):0<=sideZ x (s*y) (m*m):=by
 rcases hs with⟨rfl,hm⟩|⟨rfl,hm⟩
 ·rw[Int.one_mul];exact sideZ_sq hm h
 ·have e : m * m = -m * -m := by grind
  rw[e]
  refine sideZ_sq (by omega) ?_
  have : -1*y * -m=y*m:=by grind
  omega
theorem countC_root{m:Int}{l:List (Int×Int)}(h:∀p∈l,0<=p.1+p.2*m):1<=countC (m*m) l:=by
 have hsq:0<=m*m:=by rw[<- Int.natAbs_mul_self];omega
 have hg (s:Int) (hs:(s=1/\0<=m)\/(s = -1/\m<0)):goodS (m*m) s l=true:=by
  unfold goodS
  rw[List.all_eq_true]
  intro p hp
  simpa using sideZ_m hs (h p hp)
 unfold countC
 rw[if_neg (by omega)]
 rcases (show m<0\/0<=m by omega) with hm|hm
 ·have hne:¬m*m=0:=by
   have:=Int.mul_pos_of_neg_of_neg hm hm
   omega
  rw[if_neg hne,hg (-1) (.inr ⟨rfl,hm⟩),if_pos rfl]
  split<;>omega
 ·rw [hg 1 (.inl ⟨rfl, hm⟩), if_pos rfl]
  split
  ·omega
  ·split<;>omega
def Btw(a x b:Int):Prop:=min a b<=x/\x<=max a b
theorem btw_mul{x d:Int}(h:Btw 0 x d):0<=x*d/\x*d<=d*d/\0<=x*(d-x):=by
 unfold Btw at h
 rcases Int.le_total 0 d with h0|h0
 ·have h1 : 0 <= x := by omega
  have h2:x<=d:=by omega
  exact⟨Int.mul_nonneg h1 h0,Int.mul_le_mul_of_nonneg_right h2 h0,Int.mul_nonneg h1 (by omega)⟩
 ·have h1 : x <= 0 := by omega
  have h2:d<=x:=by omega
  have a:=Int.mul_nonneg (show 0 <= -x by omega) (show 0 <= -d by omega)
  have b:=Int.mul_le_mul_of_nonneg_right (show -x <= -d by omega) (show 0 <= -d by omega)
  have c:=Int.mul_nonneg (show 0 <= -x by omega) (show 0 <= -(d-x) by omega)
  have e1 : -x * -d=x*d:=by grind
  have e2 : -d * -d=d*d:=by grind
  have e3 : -x * -(d-x)=x*(d-x):=by grind
  omega
theorem btw_shift{a x b:Int}(h:Btw a x b):Btw 0 (x-a) (b-a):=by unfold Btw at *;omega
theorem side_not{a b:Int}(h:a*b<=0):¬0<sideI a*sideI b:=by
 rcases Int.lt_trichotomy a 0 with ha|ha|ha<;>rcases Int.lt_trichotomy b 0 with hb|hb|hb
 ·have:=Int.mul_pos_of_neg_of_neg ha hb;omega
 ·subst hb;simp[sideI]
 ·rw[sideI_neg ha,sideI_pos hb];decide
 ·subst ha;simp[sideI]
 ·subst ha;simp[sideI]
 ·subst ha;simp[sideI]
 ·rw[sideI_pos ha,sideI_neg hb];decide
 ·subst hb;simp[sideI]
 ·have:=Int.mul_pos ha hb;omega
theorem nonneg_of_sq{p c:Int}(hc:c≠0)(h:0<=p*(c*c)):0<=p:=by
 have hcc:0<c*c:=by
  rcases Int.lt_or_gt_of_ne hc with h|h
  ·exact Int.mul_pos_of_neg_of_neg h h
  ·exact Int.mul_pos h h
 rcases (show p<0\/0<=p by omega) with hp|hp
 ·have:=Int.mul_neg_of_neg_of_pos hp hcc;omega
 ·exact hp
theorem zero_of_mul{p c:Int}(hc:c≠0)(h:p*c=0):p=0:=by
 rcases Int.mul_eq_zero.1 h with h|h
 ·exact h
 ·exact absurd h hc
theorem cut_prod{X Y dx dy gx gy:Int}(hX:Btw 0 X dx)(hY:Btw 0 Y dy)(hc:X*dy=Y*dx)(hd:¬(dx=0/\dy=0)) :
  0<=(gx*X+gy*Y)*(gx*(dx-X)+gy*(dy-Y)):=by
 have h1:=(btw_mul hX).2.2
 have h2:=(btw_mul hY).2.2
 have hg:0<=(gx*dx+gy*dy)*(gx*dx+gy*dy):=by rw[<- Int.natAbs_mul_self];omega
 by_cases h:dx=0
 ·have hy : dy ≠ 0 := fun e => hd ⟨h, e⟩
  refine nonneg_of_sq hy ?_
  have e:(gx*X+gy*Y)*(gx*(dx-X)+gy*(dy-Y))*(dy*dy)=Y*(dy-Y)*((gx*dx+gy*dy)*(gx*dx+gy*dy)):=by grind
  rw[e]
  exact Int.mul_nonneg h2 hg
 ·refine nonneg_of_sq h ?_
  have e:(gx*X+gy*Y)*(gx*(dx-X)+gy*(dy-Y))*(dx*dx)=X*(dx-X)*((gx*dx+gy*dy)*(gx*dx+gy*dy)):=by grind
  rw[e]
  exact Int.mul_nonneg h1 hg
theorem inB_iff{a b c d x y:Int}:inB (min a b) (min c d) (max a b) (max c d) x y=true <-> Btw a x b/\Btw c y d:=by
  unfold inB Btw
  simp only[Bool.and_eq_true,decide_eq_true_eq]
  constructor
  . rintro⟨h1,h2,h3,h4⟩;exact⟨⟨h1,h2⟩,h3,h4⟩
  . rintro⟨⟨h1,h2⟩,h3,h4⟩;exact⟨h1,h2,h3,h4⟩
theorem sideI_0{n:Int}:(sideI n==0)=true <-> n=0:=by
  unfold sideI
  rw[beq_iff_eq]
  constructor
  . intro h;(repeat' split at h)<;>omega
  . rintro rfl;rfl
theorem onE_line{e:Ed}{x y:Int}(hk:e.k=1)(h:onE e x y=true):e.ok=true/\Btw e.ax x e.bx/\Btw e.ay y e.by'/\(e.bx-e.ax)*(y-e.ay)=(e.by'-e.ay)*(x-e.ax):=by
  unfold onE at h
  rw[if_pos hk] at h
  simp only[Bool.and_eq_true] at h
  obtain⟨h1,h2,h3⟩:=h
  obtain⟨b1,b2⟩:=inB_iff.1 h2
  have:=sideI_0.1 h3
  exact⟨h1,b1,b2,by omega⟩
theorem onE_line_mk{e:Ed}{x y:Int}(hk:e.k=1)(ho:e.ok=true)(h1:Btw e.ax x e.bx)(h2:Btw e.ay y e.by')(h3:(e.bx-e.ax)*(y-e.ay)=(e.by'-e.ay)*(x-e.ax)):onE e x y=true:=by
  unfold onE
  rw[if_pos hk,ho]
  simp only[Bool.true_and,Bool.and_eq_true]
  exact⟨inB_iff.2 ⟨h1,h2⟩,sideI_0.2 (by omega)⟩
theorem onE_arc{e:Ed}{x y:Int}(hk:¬e.k=1)(h:onE e x y=true):e.ok=true/\(x-e.cx)*(x-e.cx)+(y-e.cy)*(y-e.cy)=radZ e*radZ e/\0<=(x-e.cx)*e.ux+(y-e.cy)*e.uy/\0<=(x-e.cx)*e.vx+(y-e.cy)*e.vy:=by
  unfold onE at h
  rw[if_neg hk] at h
  simp only[Bool.and_eq_true,beq_iff_eq] at h
  obtain⟨h1,h2,h3⟩:=h
  obtain⟨b1,b2⟩:=inB_iff.1 h2
  obtain⟨hr,hu,hv,a1,a2,a3,a4⟩:=arc_axes h1 hk
  refine⟨h1,?_⟩
  unfold powerI at h3
  unfold Btw at b1 b2
  obtain⟨r,R⟩:∃r,radZ e=r:=⟨_,rfl⟩
  rw[R] at a1 a2 a3 a4 hr ⊢
  have m0:r*0=0:=by omega
  have m1:r*1=r:=by omega
  have m2:r * -1 = -r:=by omega
  have n0 : -(0:Int)=0:=rfl
  have n1 : -(-1:Int)=1:=rfl
  rcases hu with⟨u1,u2⟩|⟨u1,u2⟩|⟨u1,u2⟩|⟨u1,u2⟩<;>rcases hv with⟨_,v1,v2⟩|⟨_,v1,v2⟩ <;>
    (rw [u1] at a1 v2 ⊢; rw [u2] at a2 v1 ⊢; rw [v1] at a3 ⊢; rw [v2] at a4 ⊢
     simp only[m0,m1,m2,n0,n1,Int.mul_zero,Int.mul_one,Int.mul_neg] at a1 a2 a3 a4 ⊢
     refine⟨?_,by omega,by omega⟩
     rw[a1,a2] at h3
     grind)
theorem ok_of_on{e:Ed}{x y:Int}(h:onE e x y=true):e.ok=true:=by
  unfold onE at h
  simp only[Bool.and_eq_true] at h
  exact h.1
theorem pt_on{e:Ed}{x y:Int}(hk:e.k=1)(hp:e.pt=true)(h:onE e x y=true):x=e.ax/\y=e.ay:=by
  obtain⟨_,b1,b2,_⟩:=onE_line hk h
  have:e.ax=e.bx/\e.ay=e.by':=by simpa[Ed.pt] using hp
  unfold Btw at b1 b2
  omega
theorem common_lines{ax ay bx by' cx cy dx dy x y:Int}(hn:¬(ax=bx/\ay=by'))(hm:¬(cx=dx/\cy=dy))(h1:Btw ax x bx)(h2:Btw ay y by')(h3:(bx-ax)*(y-ay)=(by'-ay)*(x-ax))
    (k1:Btw cx x dx) (k2:Btw cy y dy) (k3:(dx-cx)*(y-cy)=(dy-cy)*(x-cx)):linesZ ax ay bx by' cx cy dx dy≠0:=by
  have p1:=btw_shift h1
  have p2:=btw_shift h2
  have q1:=btw_shift k1
  have q2:=btw_shift k2
  unfold linesZ crI
  by_cases hD:(bx-ax)*(dy-cy)-(by'-ay)*(dx-cx)=0
  . rw [if_neg (by simpa using hD)]
    have hs:(bx-ax)*(cy-ay)-(by'-ay)*(cx-ax)=0:=by
      by_cases hx:dx-cx=0
      . refine zero_of_mul (c := dy - cy) (fun e => hm ⟨by omega, by omega⟩) ?_
        grind
      . refine zero_of_mul (c := dx - cx) hx ?_
        grind
    rw[hs]
    rw[if_neg (by simp[sideI])]
    obtain⟨t,ht⟩:∃t,(x-ax)*(bx-ax)+(y-ay)*(by'-ay)=t:=⟨_,rfl⟩
    have t1:=btw_mul p1
    have t2:=btw_mul p2
    have cp:=cut_prod (gx:=bx-ax) (gy:=by'-ay) q1 q2 (by grind) (fun e=>hm ⟨by omega,by omega⟩)
    obtain⟨lo,hlo⟩:∃z,(cx-ax)*(bx-ax)+(cy-ay)*(by'-ay)=z:=⟨_,rfl⟩
    obtain⟨hi,hhi⟩:∃z,(dx-ax)*(bx-ax)+(dy-ay)*(by'-ay)=z:=⟨_,rfl⟩
    obtain⟨S,hS⟩:∃z,(bx-ax)*(bx-ax)+(by'-ay)*(by'-ay)=z:=⟨_,rfl⟩
    rw[hlo,hhi,hS]
    have e1:(bx-ax)*(x-cx)+(by'-ay)*(y-cy)=t-lo:=by grind
    have e2:(bx-ax)*(dx-cx-(x-cx))+(by'-ay)*(dy-cy-(y-cy))=hi-t:=by grind
    rw[e1,e2] at cp
    have hb:min lo hi<=t/\t<=max lo hi:=by
      rcases Int.lt_trichotomy lo t with g|g|g
      . rcases Int.lt_trichotomy hi t with f | f | f
        . have:=Int.mul_neg_of_pos_of_neg (show 0<t-lo by omega) (show hi-t<0 by omega);omega
        . omega
        . omega
      . omega
      . rcases Int.lt_trichotomy hi t with f | f | f
        . omega
        . omega
        . have:=Int.mul_neg_of_neg_of_pos (show t-lo<0 by omega) (show 0<hi-t by omega);omega
    have h0:0<=t/\t<=S:=by omega
    (repeat' split)<;>omega
  . rw [if_pos (by simpa using hD)]
    have c1:=cut_prod (gx := -(by'-ay)) (gy:=bx-ax) q1 q2 (by grind) (fun e=>hm ⟨by omega,by omega⟩)
    have c2:=cut_prod (gx := -(dy-cy)) (gy:=dx-cx) p1 p2 (by grind) (fun e=>hn ⟨by omega,by omega⟩)
    have e1:((bx-ax)*(cy-ay)-(by'-ay)*(cx-ax))*((bx-ax)*(dy-ay)-(by'-ay)*(dx-ax)) = -((-(by'-ay)*(x-cx)+(bx-ax)*(y-cy))*(-(by'-ay)*(dx-cx-(x-cx))+(bx-ax)*(dy-cy-(y-cy)))):=by grind
    have e2:((dx-cx)*(ay-cy)-(dy-cy)*(ax-cx))*((dx-cx)*(by'-cy)-(dy-cy)*(bx-cx)) = -((-(dy-cy)*(x-ax)+(dx-cx)*(y-ay))*(-(dy-cy)*(bx-ax-(x-ax))+(dx-cx)*(by'-ay-(y-ay)))):=by grind
    rw[if_neg (side_not (by omega)),if_neg (side_not (by omega))]
    decide
theorem common_cross{l e:Ed}{x y:Int}(hl:l.k=1)(hk:¬e.k=1)(h:onE l x y=true)(h':onE e x y=true):crossZ l e≠0:=by
  obtain⟨_,b1,b2,hc⟩:=onE_line hl h
  obtain⟨_,hr,g1,g2⟩:=onE_arc hk h'
  have p1:=btw_mul (btw_shift b1)
  have p2:=btw_mul (btw_shift b2)
  unfold crossZ
  rw[countZ_eq]
  have hd:(laE l e).delta=((x-e.cx)*(l.bx-l.ax)+(y-e.cy)*(l.by'-l.ay))*((x-e.cx)*(l.bx-l.ax)+(y-e.cy)*(l.by'-l.ay)):=by
    unfold LA.delta laE
    simp only
    grind
  rw[hd]
  have hS:0<=(l.bx-l.ax)*(l.bx-l.ax)+(l.by'-l.ay)*(l.by'-l.ay):=by
    have a1:0<=(l.bx-l.ax)*(l.bx-l.ax):=by rw[<- Int.natAbs_mul_self];omega
    have a2:0<=(l.by'-l.ay)*(l.by'-l.ay):=by rw[<- Int.natAbs_mul_self];omega
    omega
  have:=countC_root (m:=(x-e.cx)*(l.bx-l.ax)+(y-e.cy)*(l.by'-l.ay)) (l:=(laE l e).list) (by
    intro p hp
    unfold LA.list laE at hp
    simp only[List.mem_cons,List.not_mem_nil,or_false] at hp
    rcases hp with rfl|rfl|rfl|rfl
    . have e1 : 0 - ((l.ax - e.cx) * (l.bx - l.ax) + (l.ay - e.cy) * (l.by' - l.ay)) + 1 * ((x - e.cx) * (l.bx - l.ax) + (y - e.cy) * (l.by' - l.ay)) = (x - l.ax) * (l.bx - l.ax) + (y - l.ay) * (l.by' - l.ay) := by grind
      simp only
      rw[e1]
      omega
    . have e1 : (l.bx - l.ax) * (l.bx - l.ax) + (l.by' - l.ay) * (l.by' - l.ay) - (0 - ((l.ax - e.cx) * (l.bx - l.ax) + (l.ay - e.cy) * (l.by' - l.ay))) + -1 * ((x - e.cx) * (l.bx - l.ax) + (y - e.cy) * (l.by' - l.ay)) = (l.bx - l.ax) * (l.bx - l.ax) + (l.by' - l.ay) * (l.by' - l.ay) - ((x - l.ax) * (l.bx - l.ax) + (y - l.ay) * (l.by' - l.ay)) := by grind
      simp only
      rw[e1]
      omega
    . have e1 : ((l.bx - l.ax) * (l.bx - l.ax) + (l.by' - l.ay) * (l.by' - l.ay)) * ((l.ax - e.cx) * e.ux + (l.ay - e.cy) * e.uy) - ((l.ax - e.cx) * (l.bx - l.ax) + (l.ay - e.cy) * (l.by' - l.ay)) * ((l.bx - l.ax) * e.ux + (l.by' - l.ay) * e.uy) + ((l.bx - l.ax) * e.ux + (l.by' - l.ay) * e.uy) * ((x - e.cx) * (l.bx - l.ax) + (y - e.cy) * (l.by' - l.ay)) = ((l.bx - l.ax) * (l.bx - l.ax) + (l.by' - l.ay) * (l.by' - l.ay)) * ((x - e.cx) * e.ux + (y - e.cy) * e.uy) := by grind
      simp only
      rw[e1]
      exact Int.mul_nonneg hS g1
    . have e1 : ((l.bx - l.ax) * (l.bx - l.ax) + (l.by' - l.ay) * (l.by' - l.ay)) * ((l.ax - e.cx) * e.vx + (l.ay - e.cy) * e.vy) - ((l.ax - e.cx) * (l.bx - l.ax) + (l.ay - e.cy) * (l.by' - l.ay)) * ((l.bx - l.ax) * e.vx + (l.by' - l.ay) * e.vy) + ((l.bx - l.ax) * e.vx + (l.by' - l.ay) * e.vy) * ((x - e.cx) * (l.bx - l.ax) + (y - e.cy) * (l.by' - l.ay)) = ((l.bx - l.ax) * (l.bx - l.ax) + (l.by' - l.ay) * (l.by' - l.ay)) * ((x - e.cx) * e.vx + (y - e.cy) * e.vy) := by grind
      simp only
      rw[e1]
      exact Int.mul_nonneg hS g2)
  omega
theorem common_apart{e f:Ed}{x y:Int}(hk:¬e.k=1)(hk':¬f.k=1)(hc:¬(e.cx=f.cx/\e.cy=f.cy))(h:onE e x y=true)(h':onE f x y=true):countZ (aaE e f).delta (aaE e f).list≠0:=by
 obtain⟨_,hr,g1,g2⟩:=onE_arc hk h
 obtain⟨_,hq,g3,g4⟩:=onE_arc hk' h'
 have hS:0<=(f.cx-e.cx)*(f.cx-e.cx)+(f.cy-e.cy)*(f.cy-e.cy):=by
  have a1:0<=(f.cx-e.cx)*(f.cx-e.cx):=by rw[<- Int.natAbs_mul_self];omega
  have a2:0<=(f.cy-e.cy)*(f.cy-e.cy):=by rw[<- Int.natAbs_mul_self];omega
  omega
 obtain⟨m,hm⟩:∃m,2*(-(f.cy-e.cy)*(x-e.cx)+(f.cx-e.cx)*(y-e.cy))=m:=⟨_,rfl⟩
 have hkk:(aaE e f).k=2*((f.cx-e.cx)*(x-e.cx)+(f.cy-e.cy)*(y-e.cy)):=by
  unfold AA.k aaE
  simp only
  rw[<- hr,<- hq]
  grind
 rw[countZ_eq]
 have hd:(aaE e f).delta=m*m:=by
  unfold AA.delta
  rw[hkk]
  unfold aaE
  simp only
  rw[<- hr,<- hm]
  grind
 rw[hd]
 have:=countC_root (m:=m) (l:=(aaE e f).list) (by
  intro p hp
  unfold AA.list at hp
  rw[hkk] at hp
  unfold aaE at hp
  simp only[List.mem_cons,List.not_mem_nil,or_false] at hp
  rcases hp with rfl|rfl|rfl|rfl
  ·have e1 : 2 * ((f.cx - e.cx) * (x - e.cx) + (f.cy - e.cy) * (y - e.cy)) * ((f.cx - e.cx) * e.ux + (f.cy - e.cy) * e.uy) + (-(f.cy - e.cy) * e.ux + (f.cx - e.cx) * e.uy) * m = 2 * (((f.cx - e.cx) * (f.cx - e.cx) + (f.cy - e.cy) * (f.cy - e.cy)) * ((x - e.cx) * e.ux + (y - e.cy) * e.uy)) := by rw [<- hm]; grind
   simp only
   rw[e1]
   have:=Int.mul_nonneg hS g1
   omega
  ·have e1 : 2 * ((f.cx - e.cx) * (x - e.cx) + (f.cy - e.cy) * (y - e.cy)) * ((f.cx - e.cx) * e.vx + (f.cy - e.cy) * e.vy) + (-(f.cy - e.cy) * e.vx + (f.cx - e.cx) * e.vy) * m = 2 * (((f.cx - e.cx) * (f.cx - e.cx) + (f.cy - e.cy) * (f.cy - e.cy)) * ((x - e.cx) * e.vx + (y - e.cy) * e.vy)) := by rw [<- hm]; grind
   simp only
   rw[e1]
   have:=Int.mul_nonneg hS g2
   omega
  ·have e1 : (2 * ((f.cx - e.cx) * (x - e.cx) + (f.cy - e.cy) * (y - e.cy)) - 2 * ((f.cx - e.cx) * (f.cx - e.cx) + (f.cy - e.cy) * (f.cy - e.cy))) * ((f.cx - e.cx) * f.ux + (f.cy - e.cy) * f.uy) + (-(f.cy - e.cy) * f.ux + (f.cx - e.cx) * f.uy) * m = 2 * (((f.cx - e.cx) * (f.cx - e.cx) + (f.cy - e.cy) * (f.cy - e.cy)) * ((x - f.cx) * f.ux + (y - f.cy) * f.uy)) := by rw [<- hm]; grind
   simp only
   rw[e1]
   have:=Int.mul_nonneg hS g3
   omega
  ·have e1 : (2 * ((f.cx - e.cx) * (x - e.cx) + (f.cy - e.cy) * (y - e.cy)) - 2 * ((f.cx - e.cx) * (f.cx - e.cx) + (f.cy - e.cy) * (f.cy - e.cy))) * ((f.cx - e.cx) * f.vx + (f.cy - e.cy) * f.vy) + (-(f.cy - e.cy) * f.vx + (f.cx - e.cx) * f.vy) * m = 2 * (((f.cx - e.cx) * (f.cx - e.cx) + (f.cy - e.cy) * (f.cy - e.cy)) * ((x - f.cx) * f.vx + (y - f.cy) * f.vy)) := by rw [<- hm]; grind
   simp only
   rw[e1]
   have:=Int.mul_nonneg hS g4
   omega)
 omega
theorem same_axes{wx wy ux uy vx vy sx sy tx ty:Int}(hw:¬(wx=0/\wy=0))
  (hu:(ux=1/\uy=0)\/(ux = -1/\uy=0)\/(ux=0/\uy=1)\/(ux=0/\uy = -1)) (hv:(vx = -uy/\vy=ux)\/(vx=uy/\vy = -ux))
  (hs:(sx=1/\sy=0)\/(sx = -1/\sy=0)\/(sx=0/\sy=1)\/(sx=0/\sy = -1)) (ht:(tx = -sy/\ty=sx)\/(tx=sy/\ty = -sx))
  (g1:0<=wx*ux+wy*uy) (g2:0<=wx*vx+wy*vy) (g3:0<=wx*sx+wy*sy) (g4:0<=wx*tx+wy*ty) :
  sameZ true (ux==sx&&uy==sy) (ux==tx&&uy==ty) (vx==sx&&vy==sy) (vx==tx&&vy==ty)≠0:=by
 have n0 : -(0:Int)=0:=rfl
 have n1 : -(-1:Int)=1:=rfl
 rcases hu with⟨rfl,rfl⟩|⟨rfl,rfl⟩|⟨rfl,rfl⟩|⟨rfl,rfl⟩<;>rcases hv with⟨rfl,rfl⟩|⟨rfl,rfl⟩<;>rcases hs with⟨rfl,rfl⟩|⟨rfl,rfl⟩|⟨rfl,rfl⟩|⟨rfl,rfl⟩<;>rcases ht with⟨rfl,rfl⟩|⟨rfl,rfl⟩ <;>
  first
   | decide
   | (exfalso;simp only[n0,n1,Int.mul_zero,Int.mul_one,Int.mul_neg] at g1 g2 g3 g4;omega)
theorem arc_axes'{e:Ed}(h:e.ok=true)(hk:¬e.k=1):((e.ux=1/\e.uy=0)\/(e.ux = -1/\e.uy=0)\/(e.ux=0/\e.uy=1)\/(e.ux=0/\e.uy = -1))/\((e.vx = -e.uy/\e.vy=e.ux)\/(e.vx=e.uy/\e.vy = -e.ux)):=by
 obtain⟨_,hu,hv,_⟩:=arc_axes h hk
 exact⟨hu,hv.elim (fun h=>.inl h.2) (fun h=>.inr h.2)⟩
theorem common_same{e f:Ed}{x y:Int}(hk:¬e.k=1)(hk':¬f.k=1)(hc:e.cx=f.cx/\e.cy=f.cy)(h:onE e x y=true)(h':onE f x y=true):arcsZ e f≠0:=by
 obtain⟨o1,hr,g1,g2⟩:=onE_arc hk h
 obtain⟨o2,hq,g3,g4⟩:=onE_arc hk' h'
 obtain⟨hu,hv⟩:=arc_axes' o1 hk
 obtain⟨hs,ht⟩:=arc_axes' o2 hk'
 have r0:=rad_pos o1 hk
 have q0:=rad_pos o2 hk'
 rw[<- hc.1] at g3 g4 hq
 rw[<- hc.2] at g3 g4 hq
 have hrq:radZ e=radZ f:=by
  have e1:radZ e*radZ e=radZ f*radZ f:=by omega
  rcases Int.lt_trichotomy (radZ e) (radZ f) with g|g|g
  ·have := Int.mul_lt_mul_of_pos_left g r0
   have:=Int.mul_lt_mul_of_pos_right g q0
   have e2:radZ e*radZ f=radZ e*radZ f:=rfl
   omega
  ·exact g
  ·have := Int.mul_lt_mul_of_pos_left g q0
   have:=Int.mul_lt_mul_of_pos_right g r0
   have e2:radZ f*radZ e=radZ f*radZ e:=rfl
   omega
 have hb:(radZ e==radZ f)=true:=by simpa using hrq
 unfold arcsZ
 rw[if_pos hc,hb]
 refine same_axes ?_ hu hv hs ht g1 g2 g3 g4
 rintro⟨a,b⟩
 rw[a,b] at hr
 have:=Int.mul_pos r0 r0
 omega
theorem common_point{e f:Ed}{x y:Int}(h:onE e x y=true)(h':onE f x y=true):countE e f≠0:=by
 have o1:=ok_of_on h
 have o2:=ok_of_on h'
 have one (g:Ed) (z v:Int) (hg:onE g z v=true):onZ g z v≠0:=by unfold onZ;rw[hg];decide
 unfold countE
 rw[o1,o2]
 simp only[Bool.and_self,Bool.not_true,Bool.false_eq_true,if_false]
 by_cases k1:e.k=1
 ·rw [if_pos k1]
  cases p1:e.pt with
  | true =>
   obtain⟨a,b⟩:=pt_on k1 p1 h
   rw[a,b] at h'
   exact one _ _ _ h'
  | false =>
   simp only[Bool.false_eq_true,if_false]
   have n1:¬(e.ax=e.bx/\e.ay=e.by'):=by
    intro g
    have:e.pt=true:=by simp[Ed.pt,g.1,g.2]
    rw[this] at p1;cases p1
   by_cases k2:f.k=1
   ·rw [if_pos k2]
    cases p2:f.pt with
    | true =>
     obtain⟨a,b⟩:=pt_on k2 p2 h'
     rw[a,b] at h
     exact one _ _ _ h
    | false =>
     simp only[Bool.false_eq_true,if_false]
     have n2:¬(f.ax=f.bx/\f.ay=f.by'):=by
      intro g
      have:f.pt=true:=by simp[Ed.pt,g.1,g.2]
      rw[this] at p2;cases p2
     obtain⟨_,a1,a2,a3⟩:=onE_line k1 h
     obtain⟨_,b1,b2,b3⟩:=onE_line k2 h'
     exact common_lines n1 n2 a1 a2 a3 b1 b2 b3
   ·rw [if_neg k2]
    exact common_cross k1 k2 h h'
 ·rw [if_neg k1]
  by_cases k2:f.k=1
  ·rw [if_pos k2]
   cases p2:f.pt with
   | true =>
    obtain⟨a,b⟩:=pt_on k2 p2 h'
    rw[a,b] at h
    exact one _ _ _ h
   | false =>
    simp only[Bool.false_eq_true,if_false]
    exact common_cross k2 k1 h' h
  ·rw [if_neg k2]
   by_cases hc:e.cx=f.cx/\e.cy=f.cy
   ·exact common_same k1 k2 hc h h'
   ·unfold arcsZ
    rw[if_neg hc]
    exact common_apart k1 k2 hc h h'
theorem end_a{e:Ed}(h:e.ok=true):onE e e.ax e.ay=true:=by
 by_cases hk:e.k=1
 ·exact onE_self h hk
 ·unfold onE
  rw[h,if_neg hk]
  simp only[Bool.true_and,Bool.and_eq_true,beq_iff_eq]
  refine⟨inB_iff.2 ?_,?_⟩
  ·unfold Btw;omega
  ·unfold powerI;omega
theorem end_b{e:Ed}(h:e.ok=true):onE e e.bx e.by'=true:=by
 by_cases hk:e.k=1
 ·refine onE_line_mk hk h ?_ ?_ ?_
  ·unfold Btw;omega
  ·unfold Btw;omega
  ·grind
 ·unfold onE
  rw[h,if_neg hk]
  simp only[Bool.true_and,Bool.and_eq_true,beq_iff_eq]
  refine⟨inB_iff.2 ?_,?_⟩
  ·unfold Btw;omega
  ·obtain ⟨_, hu, hv, a1, a2, a3, a4⟩ := arc_axes h hk
   have q:(e.bx-e.cx = -(e.ay-e.cy)/\e.by'-e.cy=e.ax-e.cx)\/(e.bx-e.cx=e.ay-e.cy/\e.by'-e.cy = -(e.ax-e.cx)):=by
    rcases hv with⟨_,v1,v2⟩|⟨_,v1,v2⟩
    ·left;rw[v1] at a3;rw[v2] at a4;refine⟨?_,by omega⟩;rw[a3,a2];grind
    ·right;rw[v1] at a3;rw[v2] at a4;refine⟨by omega,?_⟩;rw[a4,a1];grind
   unfold powerI
   rcases q with⟨q1,q2⟩|⟨q1,q2⟩<;>rw[q1,q2]<;>grind
theorem abs_leP{x y:Int}(hy:0<=y)(h:x*x<=y*y) : -y<=x/\x<=y:=by
  constructor
  . rcases (show -y <= x \/ x < -y by omega) with g | g
    . exact g
    . have := Int.mul_lt_mul_of_pos_right (show y < -x by omega) (show 0 < -x by omega)
      have:=Int.mul_le_mul_of_nonneg_left (show y <= -x by omega) hy
      have e : -x * -x=x*x:=Int.neg_mul_neg ..
      omega
  . rcases (show x <= y \/ y < x by omega) with g | g
    . exact g
    . have := Int.mul_lt_mul_of_pos_right (show y < x by omega) (show 0 < x by omega)
      have:=Int.mul_le_mul_of_nonneg_left (show y<=x by omega) hy
      omega
theorem onE_arc_mk{e:Ed}{x y:Int}(ho:e.ok=true)(hk:¬e.k=1)(hq:inQ e (x-e.cx) (y-e.cy)=true)(hr:sqI (x-e.cx) (y-e.cy)=radZ e*radZ e):onE e x y=true:=by
  obtain⟨r0,hu,hv,a1,a2,a3,a4⟩:=arc_axes ho hk
  unfold onE
  rw[ho,if_neg hk]
  simp only[Bool.true_and,Bool.and_eq_true,beq_iff_eq]
  unfold sqI at hr
  obtain⟨r,R⟩:∃r,radZ e=r:=⟨_,rfl⟩
  rw[R] at a1 a2 a3 a4 hr r0
  obtain⟨p,P⟩:∃p,x-e.cx=p:=⟨_,rfl⟩
  obtain⟨q,Q⟩:∃q,y-e.cy=q:=⟨_,rfl⟩
  unfold inQ wiB at hq
  simp only[Bool.and_eq_true,Bool.not_eq_true'] at hq
  obtain⟨_,hq⟩:=hq
  rw[P,Q] at hr hq
  have hp:p*p<=r*r:=by have:=sqz_nn q;omega
  have hq2:q*q<=r*r:=by have:=sqz_nn p;omega
  have b1:=abs_leP (Int.le_of_lt r0) hp
  have b2:=abs_leP (Int.le_of_lt r0) hq2
  have m0:r*0=0:=by omega
  have m1:r*1=r:=by omega
  have m2:r * -1 = -r:=by omega
  have n0 : -(0:Int)=0:=rfl
  have n1 : -(-1:Int)=1:=rfl
  have f1:e.ax-e.cx=r*e.ux:=by omega
  have f2:e.ay-e.cy=r*e.uy:=by omega
  have f3:e.bx-e.cx=r*e.vx:=by omega
  have f4:e.by'-e.cy=r*e.vy:=by omega
  rw[f1,f2,f3,f4] at hq
  have sg:∀t:Int,0<=r*t->0<=t:=fun t h=>by
    rcases Int.lt_or_le t 0 with g|g
    . have:=Int.mul_neg_of_pos_of_neg r0 g;omega
    . exact g
  have sg1:=sg p
  have sg2:=sg q
  have sg3:=sg (-p)
  have sg4:=sg (-q)
  rw[Int.mul_neg] at sg3 sg4
  constructor
  . refine inB_iff.2 ⟨?_, ?_⟩
    all_goals
      rcases hu with⟨u1,u2⟩|⟨u1,u2⟩|⟨u1,u2⟩|⟨u1,u2⟩<;>rcases hv with⟨k0,v1,v2⟩|⟨k0,v1,v2⟩ <;>
      (rw [u1] at a1 v2 hq; rw [u2] at a2 v1 hq; rw [v1] at a3 hq; rw [v2] at a4 hq
       rw[k0] at hq
       simp only[show ¬(2:Int)=3 by decide,if_false,if_true,m0,m1,m2,n0,n1,Int.mul_zero,Int.zero_mul,Int.neg_mul,Int.mul_neg,Int.mul_one,Int.sub_zero,Int.zero_sub,Int.neg_neg,Bool.and_eq_true,decide_eq_true_eq,Int.mul_comm p r,Int.mul_comm q r] at a1 a2 a3 a4 hq
       unfold Btw
       omega)
  . unfold powerI
    rcases hu with⟨u1,u2⟩|⟨u1,u2⟩|⟨u1,u2⟩|⟨u1,u2⟩ <;>
      (rw [P, Q, f1, f2, u1, u2, hr]
       simp only[m0,m1,m2,Int.neg_mul_neg,Int.mul_zero,Int.zero_mul]
       omega)
theorem sgn_pP{x:Int}(h:0<x):sgn x=1:=by rcases sgn_cases x with⟨h,g⟩|⟨h,g⟩|⟨h,g⟩<;>omega
theorem sgn_mP{x:Int}(h:x<0):sgn x = -1:=by rcases sgn_cases x with⟨h,g⟩|⟨h,g⟩|⟨h,g⟩<;>omega
theorem side_l0P(a c:Int):sideZ a 0 c=sgn a:=by
  unfold sideZ
  rw[show sgn 0=0 from rfl,Int.zero_mul,Int.mul_zero,if_pos (Int.le_refl 0)]
  rcases sgn_cases a with⟨h,_⟩|⟨h,_⟩|⟨h,_⟩<;>rw[h]<;>decide
theorem nz0P{s n:Int}(h:n=0):nz s n=0:=by unfold nz;rw[if_pos h]
theorem nz1P{s n:Int}(h:¬n=0):nz s n=s:=by unfold nz;rw[if_neg h]
theorem gt0{a s n d:Int}(h:0<sideZ (a*d) (nz s n) (n*d)):0<cmpQ ⟨a,s,n,d⟩ (intQ 0):=by
  unfold cmpQ intQ cmpR
  simp only[Int.sub_zero]
  rw[show nz 1 0=0 from rfl,if_pos (by omega)]
  omega
theorem gt_posQ{n d:Int}(hn:0<n)(hd:0<d):0<cmpQ ⟨0,1,n,d⟩ (intQ 0):=by
  refine gt0 ?_
  have h2:0<n*d:=Int.mul_pos hn hd
  rw[Int.zero_mul,nz1P (by omega)]
  unfold sideZ
  rw[sgn_pP h2,show sgn 0=0 from rfl,show sgn 1=1 from rfl,if_pos (by decide)]
  decide
theorem gt_outQ{r n d:Int}(hr:0<=r)(hd:0<d)(h:r*r*d<n):0<cmpQ ⟨-r,1,n,d⟩ (intQ 0):=by
  have h0:0<=r*r*d:=Int.mul_nonneg (sqz_nn r) (Int.le_of_lt hd)
  rcases Int.lt_or_eq_of_le hr with h1|h1
  . refine gt0 ?_
    have h2:0<n*d:=Int.mul_pos (by omega) hd
    have h3:0<r*d:=Int.mul_pos h1 hd
    have h4:r*r*d*d<n*d:=Int.mul_lt_mul_of_pos_right h hd
    rw[nz1P (by omega),Int.neg_mul]
    unfold sideZ
    rw[sgn_mP (show -(r*d)<0 by omega),sgn_pP h2,show sgn 1=1 from rfl,if_neg (by decide),Int.neg_mul_neg,Int.one_mul,Int.one_mul]
    have e:r*d*(r*d)=r*r*d*d:=by grind
    unfold cmpZ
    rw[if_pos (by omega)]
    decide
  . subst h1
    exact gt_posQ (by omega) hd
theorem gt_inQ{r n:Int}(hr:0<r)(hn:0<=n)(h:n<r*r):0<cmpQ ⟨r,-1,n,1⟩ (intQ 0):=by
  refine gt0 ?_
  rw[Int.mul_one,Int.mul_one]
  by_cases h0:n=0
  . rw[nz0P h0,side_l0P,sgn_pP hr];decide
  . rw [nz1P h0]
    unfold sideZ
    rw[sgn_pP hr,sgn_pP (show 0<n by omega),show sgn (-1) = -1 from rfl,if_neg (by decide),Int.neg_mul_neg,Int.one_mul,Int.one_mul,Int.one_mul]
    unfold cmpZ
    rw[if_neg (by omega),if_neg (by omega)]
    decide
theorem end_gt{e:Ed}{x y a b:Int}(h:onE e x y=false)(ha:onE e a b=true):0<cmpQ (endQ x y a b) (intQ 0):=by
  refine gt_posQ (sqI_pos fun ⟨g1,g2⟩=>?_) (by decide)
  rw[show x=a by omega,show y=b by omega,ha] at h
  cases h
theorem between{a b p x y u v t q:Int}(hq:u*u+v*v=q)(hc:u*y-v*x=0)(ht:x*u+y*v=t)(t0:0<t)(t1:t<q)(ha:u=b-a)(hp:x=p-a):Btw a p b:=by
  have e1:q*x=t*u:=by subst hq ht;grind
  unfold Btw
  rcases Int.lt_trichotomy u 0 with h|h|h
  . have h1 : t * u < 0 := Int.mul_neg_of_pos_of_neg t0 h
    have h2:x<0:=by
      rcases Int.lt_or_le x 0 with g|g
      . exact g
      . have:=Int.mul_nonneg (show 0<=q by omega) g;omega
    have h3:u<=x:=by
      rcases Int.lt_or_le x u with g|g
      . have k1 := Int.mul_lt_mul_of_pos_left g (show 0 < q by omega)
        have k2:q*u<=t*u:=Int.mul_le_mul_of_nonpos_right (by omega) (by omega)
        omega
      . exact g
    omega
  . have : q * x = 0 := by rw [e1, h, Int.mul_zero]
    have:x=0:=by rcases Int.mul_eq_zero.1 this with g|g<;>omega
    omega
  . have h1 : 0 < t * u := Int.mul_pos t0 h
    have h2:0<x:=by
      rcases Int.lt_or_le 0 x with g|g
      . exact g
      . have:=Int.mul_nonpos_of_nonneg_of_nonpos (show 0<=q by omega) g;omega
    have h3:x<=u:=by
      rcases Int.lt_or_le u x with g|g
      . have k1 := Int.mul_lt_mul_of_pos_left g (show 0 < q by omega)
        have k2:t*u<=q*u:=Int.mul_le_mul_of_nonneg_right (by omega) (by omega)
        omega
      . exact g
    omega
theorem point_gt{e:Ed}{x y:Int}(ho:e.ok=true)(h:onE e x y=false):0<cmpQ (pointQ e x y) (intQ 0):=by
  unfold pointQ
  by_cases hk:e.k=1
  . rw [if_pos hk]
    unfold lineQ
    split
    . exact end_gt h (end_a ho)
    split
    . exact end_gt h (end_b ho)
    . rename_i h1 h2
      refine gt_posQ ?_ (by omega)
      have:=sqz_nn ((e.bx-e.ax)*(y-e.ay)-(e.by'-e.ay)*(x-e.ax))
      rcases Int.lt_or_eq_of_le this with g|g
      . exact g
      . exfalso
        have hc:(e.bx-e.ax)*(y-e.ay)-(e.by'-e.ay)*(x-e.ax)=0:=by rcases Int.mul_eq_zero.1 g.symm with g|g<;>exact g
        have b1:=between (a:=e.ax) (b:=e.bx) (p:=x) rfl hc rfl (by omega) (Int.not_le.1 h2) rfl rfl
        have b2:=between (a:=e.ay) (b:=e.by') (p:=y) (u:=e.by'-e.ay) (v:=e.bx-e.ax) (x:=y-e.ay) (y:=x-e.ax) (t:=(x-e.ax)*(e.bx-e.ax)+(y-e.ay)*(e.by'-e.ay)) (q:=sqI (e.bx-e.ax) (e.by'-e.ay)) (by unfold sqI;omega) (by omega) (by omega) (by omega) (by omega) rfl rfl
        rw[onE_line_mk hk ho b1 b2 (by omega)] at h
        cases h
  . rw [if_neg hk]
    have hr:=rad_pos ho hk
    unfold arcQ
    split
    . rename_i hq
      have hn:¬sqI (x-e.cx) (y-e.cy)=radZ e*radZ e:=fun g=>by rw[onE_arc_mk ho hk hq g] at h;cases h
      split
      . exact gt_outQ (Int.le_of_lt hr) (by decide) (by omega)
      . exact gt_inQ hr (sqI_nn _ _) (by omega)
    split
    . exact end_gt h (end_b ho)
    . exact end_gt h (end_a ho)
theorem foot_gt(l:Ed){a:Ed}(ha:a.ok=true)(hk:¬a.k=1):∀z∈footQ l a,0<cmpQ z (intQ 0):=by
  intro z hz
  by_cases h:((a.cx-l.ax)*(l.bx-l.ax)+(a.cy-l.ay)*(l.by'-l.ay)<=0\/sqI (l.bx-l.ax) (l.by'-l.ay)<=(a.cx-l.ax)*(l.bx-l.ax)+(a.cy-l.ay)*(l.by'-l.ay)\/((l.bx-l.ax)*(a.cy-l.ay)-(l.by'-l.ay)*(a.cx-l.ax))*((l.bx-l.ax)*(a.cy-l.ay)-(l.by'-l.ay)*(a.cx-l.ax))<=radZ a*radZ a*sqI (l.bx-l.ax) (l.by'-l.ay)\/inQ a (if 0<(l.bx-l.ax)*(a.cy-l.ay)-(l.by'-l.ay)*(a.cx-l.ax) then l.by'-l.ay else -(l.by'-l.ay)) (if 0<(l.bx-l.ax)*(a.cy-l.ay)-(l.by'-l.ay)*(a.cx-l.ax) then -(l.bx-l.ax) else l.bx-l.ax)=false)
  . rw[show footQ l a=[] from if_pos h] at hz;cases hz
  . rw [show footQ l a = [⟨-radZ a, 1, ((l.bx - l.ax) * (a.cy - l.ay) - (l.by' - l.ay) * (a.cx - l.ax)) * ((l.bx - l.ax) * (a.cy - l.ay) - (l.by' - l.ay) * (a.cx - l.ax)), sqI (l.bx - l.ax) (l.by' - l.ay)⟩] from if_neg h] at hz
    simp only[not_or,Int.not_le] at h
    obtain⟨h1,h2,h3,_⟩:=h
    simp only[List.mem_cons,List.not_mem_nil,or_false] at hz
    subst hz
    exact gt_outQ (Int.le_of_lt (rad_pos ha hk)) (by omega) h3
theorem cent_gt{a b:Ed}(ha:a.ok=true)(hb:b.ok=true)(hk:¬a.k=1)(gk:¬b.k=1):∀z∈centQ a b,0<cmpQ z (intQ 0):=by
  intro z hz
  have r1:=rad_pos ha hk
  have r2:=rad_pos hb gk
  have hn:=sqI_nn (b.cx-a.cx) (b.cy-a.cy)
  unfold centQ at hz
  simp only at hz
  generalize sqI (b.cx-a.cx) (b.cy-a.cy)=n at *
  split at hz
  . rename_i h1
    split at hz
    . simp only [List.mem_cons, List.not_mem_nil, or_false] at hz
      subst hz
      rw[show -radZ a-radZ b = -(radZ a+radZ b) by omega]
      exact gt_outQ (by omega) (by decide) (by omega)
    . cases hz
  split at hz
  . cases hz
  rename_i h1 h2
  split at hz
  . rename_i h3
    split at hz
    . simp only [List.mem_cons, List.not_mem_nil, or_false] at hz
      subst hz
      exact gt_inQ (by omega) hn (by omega)
    . cases hz
  . rename_i h3
    have h4:¬radZ a=radZ b:=fun h=>by rw[h] at h2;simp at h2;omega
    split at hz
    . simp only [List.mem_cons, List.not_mem_nil, or_false] at hz
      subst hz
      have e:(radZ b-radZ a)*(radZ b-radZ a)=(radZ a-radZ b)*(radZ a-radZ b):=by grind
      exact gt_inQ (by omega) hn (by omega)
    . cases hz
theorem least_gt{a b:Ed}(ha:a.ok=true)(hb:b.ok=true)(hc:countE a b=0):0<cmpQ (leastQ (candQ a b)) (intQ 0):=by
  have off:∀x y,onE a x y=true->onE b x y=false:=fun x y h=>by
    cases g:onE b x y with
    | false=>rfl
    | true=>exact absurd hc (common_point h g)
  have off':∀x y,onE b x y=true->onE a x y=false:=fun x y h=>by
    cases g:onE a x y with
    | false=>rfl
    | true=>exact absurd hc (common_point g h)
  have hm:=leastQ_mem (candQ_ne a b)
  revert hm
  generalize leastQ (candQ a b)=z
  intro hm
  unfold candQ at hm
  simp only[List.cons_append,List.nil_append,List.mem_cons] at hm
  rcases hm with rfl|rfl|rfl|rfl|hm
  . exact point_gt hb (off _ _ (end_a ha))
  . exact point_gt hb (off _ _ (end_b ha))
  . exact point_gt ha (off' _ _ (end_a hb))
  . exact point_gt ha (off' _ _ (end_b hb))
  . unfold innerQ at hm
    split at hm
    . split at hm
      . cases hm
      . exact foot_gt a hb (by assumption) _ hm
    . split at hm
      . exact foot_gt b ha (by assumption) _ hm
      . exact cent_gt ha hb (by assumption) (by assumption) _ hm
end Go.Proofs.YteajakbpmeebnaaGreat
