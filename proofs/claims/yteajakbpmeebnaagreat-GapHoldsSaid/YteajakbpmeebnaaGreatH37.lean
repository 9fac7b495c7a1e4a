import Derived.Test.YteajakbpmeebnaaGreatH36
set_option linter.unusedVariables false
set_option linter.unusedSimpArgs false

namespace Go.Proofs.YteajakbpmeebnaaGreat
open Go.RowKit

set_option maxHeartbeats 2000000
section
structure DirH (α β:Int):Prop where
 c:α*α=1/\β=0\/α=0/\β*β=1
theorem DirH.le{α β:Int}(h:DirH α β)(x y:Int):(α*x+β*y)*(α*x+β*y)<=x*x+y*y:=by
 have:=sqz_nn x
 have:=sqz_nn y
 rcases h.c with⟨h1,rfl⟩|⟨rfl,h1⟩
 ·have : (α * x + 0 * y) * (α * x + 0 * y) = α * α * (x * x) := by grind
  rw[this,h1];omega
 ·have : (0 * x + β * y) * (0 * x + β * y) = β * β * (y * y) := by grind
  rw[this,h1];omega
theorem DirH.neg{α β:Int}(h:DirH α β):DirH (-α) (-β):=⟨by
 rcases h.c with⟨h1,rfl⟩|⟨rfl,h1⟩
 ·left;exact⟨by grind,rfl⟩
 ·right;exact⟨rfl,by grind⟩⟩
theorem DirH.pm{α:Int}(h:α*α=1):α=1\/α = -1:=by
 have h1:(α-1)*(α+1)=0:=by grind
 rcases Int.mul_eq_zero.1 h1 with g|g<;>omega
def Beh(α β:Int)(e:Ed)(m:Int):Prop:=m<=α*e.ax+β*e.ay/\m<=α*e.bx+β*e.by'
theorem end_geH{α β x y a b D:Int}(h:DirH α β)(hD:0<=D)(hp:α*x+β*y+D<=α*a+β*b):0<=cmpQ (endQ x y a b) (intQ D):=by
 refine (geE (sqI_nn _ _) (by decide) hD).2 ?_
 have h1:=h.le (x-a) (y-b)
 have h2:=sq_up (a:=D) (b:=α*a+β*b-(α*x+β*y)) hD (by omega)
 have e:(α*(x-a)+β*(y-b))*(α*(x-a)+β*(y-b))=(α*a+β*b-(α*x+β*y))*(α*a+β*b-(α*x+β*y)):=by grind
 unfold sqI
 omega
theorem point_geD{e:Ed}{α β x y D:Int}(h:DirH α β)(ho:e.ok=true)(hD:0<=D)(hb:Beh α β e (α*x+β*y+D)):0<=cmpQ (pointQ e x y) (intQ D):=by
 obtain⟨b1,b2⟩:=hb
 have eA:=end_geH h hD b1
 have eB:=end_geH h hD b2
 unfold pointQ
 by_cases hk:e.k=1
 ·rw [if_pos hk]
  unfold lineQ
  split
  ·exact eA
  split
  ·exact eB
  ·rename_i t0 t1
   obtain⟨q,hq⟩:∃q,sqI (e.bx-e.ax) (e.by'-e.ay)=q:=⟨_,rfl⟩
   obtain⟨t,ht⟩:∃t,(x-e.ax)*(e.bx-e.ax)+(y-e.ay)*(e.by'-e.ay)=t:=⟨_,rfl⟩
   obtain⟨c,hc⟩:∃c,(e.bx-e.ax)*(y-e.ay)-(e.by'-e.ay)*(x-e.ax)=c:=⟨_,rfl⟩
   rw[ht] at t0 t1
   rw[hq] at t1
   rw[hc,hq]
   have q0:0<q:=by omega
   refine (geE (sqz_nn c) q0 hD).2 ?_
   have h1:=h.le (t*(e.bx-e.ax)-q*(x-e.ax)) (t*(e.by'-e.ay)-q*(y-e.ay))
   have e1:(t*(e.bx-e.ax)-q*(x-e.ax))*(t*(e.bx-e.ax)-q*(x-e.ax))+(t*(e.by'-e.ay)-q*(y-e.ay))*(t*(e.by'-e.ay)-q*(y-e.ay))=q*(c*c):=by rw[<- hq,<- ht,<- hc];unfold sqI;grind
   have e2:α*(t*(e.bx-e.ax)-q*(x-e.ax))+β*(t*(e.by'-e.ay)-q*(y-e.ay))=(q-t)*(α*e.ax+β*e.ay-(α*x+β*y))+t*(α*e.bx+β*e.by'-(α*x+β*y)):=by grind
   have m1:=Int.mul_le_mul_of_nonneg_left (show D<=α*e.ax+β*e.ay-(α*x+β*y) by omega) (show 0<=q-t by omega)
   have m2:=Int.mul_le_mul_of_nonneg_left (show D<=α*e.bx+β*e.by'-(α*x+β*y) by omega) (show 0<=t by omega)
   have m3:(q-t)*D+t*D=q*D:=by grind
   rw[e2,e1] at h1
   have h2:=sq_up (Int.mul_nonneg (Int.le_of_lt q0) hD) (show q*D<=(q-t)*(α*e.ax+β*e.ay-(α*x+β*y))+t*(α*e.bx+β*e.by'-(α*x+β*y)) by omega)
   refine Int.le_of_mul_le_mul_left (a:=q) ?_ q0
   have e3:q*(D*D*q)=q*D*(q*D):=by grind
   omega
 ·rw [if_neg hk]
  obtain⟨σ,τ,Q⟩:=qf_of ho hk
  have r0:=Q.r0
  unfold arcQ
  cases hq:inQ e (x-e.cx) (y-e.cy) with
  | false =>
   rw[if_neg (by decide)]
   split
   ·exact eB
   ·exact eA
  | true =>
   rw[if_pos rfl]
   obtain⟨_,_,_,_,_,_,_,_,_,_,bT⟩:=arc_frame ho hk
   obtain⟨w1,w2⟩:=bT _ _ hq
   obtain⟨n,hn⟩:∃n,sqI (x-e.cx) (y-e.cy)=n:=⟨_,rfl⟩
   obtain⟨r,hr⟩:∃r,radZ e=r:=⟨_,rfl⟩
   have nn:0<=n:=by rw[<- hn];exact sqI_nn _ _
   have fr:0<=σ*(x-e.cx)/\0<=τ*(y-e.cy):=by
    rcases Q.c with⟨u1,u2,v1,v2,_⟩|⟨u1,u2,v1,v2,_⟩<;>rw[u1,u2] at w1<;>rw[v1,v2] at w2<;>exact⟨by grind,by grind⟩
   have key:(D=0\/(r+D)*(r+D)<=n):=by
    have hx:∀ {α σ u cc:Int},α*α=1->(σ=1\/σ = -1)->0<=σ*(u-cc)->α*u+D<=α*cc->α*u+D<=α*(cc+σ*r)->(u-cc)*(u-cc)<=n->D=0\/(r+D)*(r+D)<=n:=fun {α σ u cc} ha hs h1 h2 h3 h4=>by
     rcases DirH.pm ha with rfl|rfl<;>rcases hs with rfl|rfl
     ·left;omega
     ·right
      have:=sq_up (a:=r+D) (b:=cc-u) (by omega) (by omega)
      have:(cc-u)*(cc-u)=(u-cc)*(u-cc):=by grind
      omega
     ·right
      have:=sq_up (a:=r+D) (b:=u-cc) (by omega) (by omega)
      omega
     ·left;omega
    have nx:(x-e.cx)*(x-e.cx)<=n:=by rw[<- hn];unfold sqI;have:=sqz_nn (y-e.cy);omega
    have ny:(y-e.cy)*(y-e.cy)<=n:=by rw[<- hn];unfold sqI;have:=sqz_nn (x-e.cx);omega
    rw[<- hr] at *
    rcases h.c with⟨ha,rfl⟩|⟨rfl,ha⟩
    ·rcases Q.c with⟨_,_,_,_,c1,c2,c3,c4⟩|⟨_,_,_,_,c1,c2,c3,c4⟩<;>rw[c1] at b1<;>rw[c3] at b2<;>exact hx ha Q.s fr.1 (by omega) (by omega) nx
    ·rcases Q.c with⟨_,_,_,_,c1,c2,c3,c4⟩|⟨_,_,_,_,c1,c2,c3,c4⟩<;>rw[c2] at b1<;>rw[c4] at b2<;>exact hx ha Q.t fr.2 (by omega) (by omega) ny
   rw[hn,hr]
   rw[hr] at r0
   have rr:=Int.mul_pos r0 r0
   split
   ·rename_i g
    refine (geO (Int.le_of_lt r0) nn (by decide) hD).2 ?_
    rcases key with rfl|k
    ·rw[Int.add_zero];omega
    ·omega
   ·rename_i g
    refine (geI nn).2 ?_
    rcases key with rfl|k
    ·rw[Int.sub_zero];omega
    ·have := sq_up (a := r) (b := r + D) (by omega) (by omega)
     omega
theorem if_mem{P:Prop}[Decidable P]{z x:Q4}(h:z∈(if P then [] else [x])):¬P/\z=x:=by
 split at h
 ·cases h
 ·exact⟨by assumption,List.mem_singleton.1 h⟩
theorem foot_ge{l e:Ed}{α β m D:Int}(h:DirH α β)(oe:e.ok=true)(ke:¬e.k=1)(hD:0<=D)(l1:α*l.ax+β*l.ay=m)(l2:α*l.bx+β*l.by'=m)(hb:Beh α β e (m+D)):∀z∈footQ l e,0<=cmpQ z (intQ D):=by
 intro z hz
 obtain⟨σ,τ,Q⟩:=qf_of oe ke
 obtain⟨b1,b2⟩:=hb
 have r0:=Q.r0
 unfold footQ at hz
 obtain⟨hn,rfl⟩:=if_mem hz
 simp only[not_or,Bool.not_eq_false] at hn
 obtain⟨n1,n2,n3,n4⟩:=hn
 obtain⟨_,_,_,_,_,_,_,_,_,_,bT⟩:=arc_frame oe ke
 obtain⟨w1,w2⟩:=bT _ _ n4
 obtain⟨dx,hdx⟩:∃dx,l.bx-l.ax=dx:=⟨_,rfl⟩
 obtain⟨dy,hdy⟩:∃dy,l.by'-l.ay=dy:=⟨_,rfl⟩
 rw[hdx,hdy] at n1 n2 n3 w1 w2 ⊢
 obtain⟨r,hr⟩:∃r,radZ e=r:=⟨_,rfl⟩
 rw[hr] at r0 n3 ⊢
 have q0:0<sqI dx dy:=by omega
 refine (geO (Int.le_of_lt r0) (sqz_nn _) q0 hD).2 ?_
 have key:∀ {α σ cc a d c q nx:Int},α*α=1->(σ=1\/σ = -1)->c = -(d*(cc-a))\/c=d*(cc-a)->q=d*d->¬c*c<=r*r*q->0<=σ*nx->(nx=d/\0<d*(a-cc)\/nx = -d/\d*(a-cc)<=0)->α*a+D<=α*cc->α*a+D<=α*(cc+σ*r)->(r+D)*(r+D)*q<=c*c:=fun {α σ cc a d c q nx} ha hs hc hq h1 h2 h3 h4 h5=>by
  have ec:c*c=d*d*((cc-a)*(cc-a)):=by rcases hc with rfl|rfl<;>grind
  have d2:=sqz_nn d
  have hne:¬cc-a=0:=fun g=>h1 (by rw[ec,g,hq];have:=Int.mul_nonneg (sqz_nn r) d2;omega)
  have dne:¬d=0:=fun g=>h1 (by rw[ec,hq,g];simp)
  have hsg:σ*(a-cc)>0:=by
   rcases h3 with⟨rfl,h3⟩|⟨rfl,h3⟩
   ·rcases mul_posS h3 with⟨g1,g2⟩|⟨g1,g2⟩<;>rcases hs with rfl|rfl<;>omega
   ·have h3:0<d*(cc-a):=by
     have:¬d*(a-cc)=0:=fun g=>by rcases Int.mul_eq_zero.1 g with f|f<;>omega
     have:d*(cc-a) = -(d*(a-cc)):=by grind
     omega
    rcases mul_posS h3 with⟨g1,g2⟩|⟨g1,g2⟩<;>rcases hs with rfl|rfl<;>omega
  have hle:(r+D)*(r+D)<=(cc-a)*(cc-a):=by
   rcases DirH.pm ha with rfl|rfl<;>rcases hs with rfl|rfl
   ·omega
   ·exact sq_up (by omega) (by omega)
   ·have := sq_up (a := r + D) (b := a - cc) (by omega) (by omega)
    have:(a-cc)*(a-cc)=(cc-a)*(cc-a):=by grind
    omega
   ·omega
  rw[ec,hq,Int.mul_comm]
  exact Int.mul_le_mul_of_nonneg_left hle d2
 obtain⟨c,hc⟩:∃c,dx*(e.cy-l.ay)-dy*(e.cx-l.ax)=c:=⟨_,rfl⟩
 rw[hc] at n3 w1 w2 ⊢
 rcases h.c with⟨ha,rfl⟩|⟨rfl,ha⟩
 ·have hdx0:dx=0:=by
   have:α*dx=0:=by rw[<- hdx,Int.mul_sub];omega
   rcases Int.mul_eq_zero.1 this with g|g
   ·rw[g] at ha;cases ha
   ·exact g
  have hcc:c = -(dy*(e.cx-l.ax)):=by rw[<- hc,hdx0];omega
  have fr:0<=σ*(if 0<c then dy else -dy):=by
   generalize (if 0<c then dy else -dy)=X at *
   generalize (if 0<c then -dx else dx)=Y at *
   rcases Q.c with⟨u1,u2,v1,v2,_⟩|⟨u1,u2,v1,v2,_⟩
   ·rw[u1,u2,Int.mul_zero,Int.mul_comm X] at w1;omega
   ·rw[v1,v2,Int.mul_zero,Int.mul_comm X] at w2;omega
  refine key (cc:=e.cx) (a:=l.ax) (d:=dy) (nx:=if 0<c then dy else -dy) ha Q.s (.inl hcc) (by rw[hdx0];unfold sqI;omega) n3 fr ?_ ?_ ?_
  ·have : dy * (l.ax - e.cx) = c := by rw [hcc]; grind
   rw[this]
   split<;>omega
  ·rcases Q.c with⟨_,_,_,_,c1,c2,c3,c4⟩|⟨_,_,_,_,c1,c2,c3,c4⟩<;>rw[c1] at b1<;>rw[c3] at b2<;>omega
  ·rw[<- hr];rcases Q.c with⟨_,_,_,_,c1,c2,c3,c4⟩|⟨_,_,_,_,c1,c2,c3,c4⟩<;>rw[c1] at b1<;>rw[c3] at b2<;>omega
 ·have hdy0:dy=0:=by
   have:β*dy=0:=by rw[<- hdy,Int.mul_sub];omega
   rcases Int.mul_eq_zero.1 this with g|g
   ·rw[g] at ha;cases ha
   ·exact g
  have hcc:c=dx*(e.cy-l.ay):=by rw[<- hc,hdy0];omega
  have fr:0<=τ*(if 0<c then -dx else dx):=by
   generalize (if 0<c then dy else -dy)=X at *
   generalize (if 0<c then -dx else dx)=Y at *
   rcases Q.c with⟨u1,u2,v1,v2,_⟩|⟨u1,u2,v1,v2,_⟩
   ·rw[v1,v2,Int.mul_zero,Int.mul_comm Y] at w2;omega
   ·rw[u1,u2,Int.mul_zero,Int.mul_comm Y] at w1;omega
  refine key (cc:=e.cy) (a:=l.ay) (d := -dx) (nx:=if 0<c then -dx else dx) ha Q.t (.inl (by rw[hcc];grind)) (by rw[hdy0];unfold sqI;grind) n3 fr ?_ ?_ ?_
  ·have : -dx * (l.ay - e.cy) = c := by rw [hcc]; grind
   rw[this]
   split<;>omega
  ·rcases Q.c with⟨_,_,_,_,c1,c2,c3,c4⟩|⟨_,_,_,_,c1,c2,c3,c4⟩<;>rw[c2] at b1<;>rw[c4] at b2<;>omega
  ·rw[<- hr];rcases Q.c with⟨_,_,_,_,c1,c2,c3,c4⟩|⟨_,_,_,_,c1,c2,c3,c4⟩<;>rw[c2] at b1<;>rw[c4] at b2<;>omega
where
 mul_posS {x y:Int} (h:0<x*y):(0<x/\0<y)\/(x<0/\y<0):=by
  rcases Int.lt_trichotomy x 0 with g|g|g
  ·rcases Int.lt_or_le y 0 with f | f
   ·exact .inr ⟨g,f⟩
   ·have:=Int.mul_nonpos_of_nonpos_of_nonneg (Int.le_of_lt g) f;omega
  ·rw[g,Int.zero_mul] at h;omega
  ·rcases Int.lt_or_le 0 y with f | f
   ·exact .inl ⟨g,f⟩
   ·have:=Int.mul_nonpos_of_nonneg_of_nonpos (Int.le_of_lt g) f;omega
theorem count_noH{d:Int}{l:List (Int×Int)}(h:d<0\/∃z,(z,(0:Int))∈l/\z<0):countC d l=0:=by
 unfold countC
 by_cases h0:d<0
 ·rw[if_pos h0]
 ·obtain ⟨z, hz, hn⟩ := h.resolve_left h0
  have G:∀s,goodS d s l=false:=fun s=>by
   unfold goodS
   rw[List.all_eq_false]
   refine⟨_,hz,?_⟩
   rw[Int.mul_zero,side_l0P,sgn_mP hn]
   decide
  rw[if_neg h0,G,G]
  simp
theorem flat_apart{l e:Ed}{α β m:Int}(h:DirH α β)(ol:l.ok=true)(kl:l.k=1)(pl:l.pt=false)(oe:e.ok=true)(l1:α*l.ax+β*l.ay=m)(l2:α*l.bx+β*l.by'=m)(hb:Beh α β e (m+1)):countE l e=0:=by
 obtain⟨b1,b2⟩:=hb
 obtain⟨dx,hdx⟩:∃dx,l.bx-l.ax=dx:=⟨_,rfl⟩
 obtain⟨dy,hdy⟩:∃dy,l.by'-l.ay=dy:=⟨_,rfl⟩
 have hz:(α*α=1/\β=0/\dx=0)\/(α=0/\β*β=1/\dy=0):=by
  rcases h.c with⟨ha,rfl⟩|⟨rfl,ha⟩
  ·left
   refine⟨ha,rfl,?_⟩
   rcases DirH.pm ha with rfl|rfl<;>omega
  ·right
   refine⟨rfl,ha,?_⟩
   rcases DirH.pm ha with rfl|rfl<;>omega
 have dn:¬(dx=0/\dy=0):=fun ⟨g1,g2⟩=>by
  have:l.pt=true:=by unfold Ed.pt;simp only[Bool.and_eq_true,beq_iff_eq];omega
  rw[pl] at this;cases this
 unfold countE
 rw[ol,oe,if_pos kl,pl]
 simp only[Bool.and_self,Bool.not_true,Bool.false_eq_true,if_false]
 by_cases ke:e.k=1
 ·rw [if_pos ke]
  split
  ·have:onE l e.ax e.ay=false:=by
    cases g:onE l e.ax e.ay with
    | false=>rfl
    | true =>
     obtain⟨_,g1,g2,_⟩:=onE_line kl g
     unfold Btw at g1 g2
     rcases hz with⟨ha,rfl,z⟩|⟨rfl,ha,z⟩<;>rcases DirH.pm ha with rfl|rfl<;>omega
   unfold onZ;rw[this];rfl
  ·have sg:0<sideI (crI l.ax l.ay l.bx l.by' e.ax e.ay)*sideI (crI l.ax l.ay l.bx l.by' e.bx e.by'):=by
    unfold crI
    rw[hdx,hdy]
    have pos:∀ {d u v:Int},¬d=0->(0<u/\0<v\/u<0/\v<0)->0<sideI (d*u)*sideI (d*v):=fun {d u v} hd huv=>by
     have key:∀ {x y:Int},(0<x/\0<y\/x<0/\y<0)->0<sideI x*sideI y:=fun hxy=>by
      unfold sideI;rcases hxy with⟨g1,g2⟩|⟨g1,g2⟩
      ·rw[if_pos g1,if_pos g2];decide
      ·rw[if_neg (by omega),if_pos g1,if_neg (by omega),if_pos g2];decide
     refine key ?_
     rcases Int.lt_or_lt_of_ne hd with g|g<;>rcases huv with⟨g1,g2⟩|⟨g1,g2⟩
     ·exact .inr ⟨Int.mul_neg_of_neg_of_pos g g1,Int.mul_neg_of_neg_of_pos g g2⟩
     ·exact .inl ⟨Int.mul_pos_of_neg_of_neg g g1,Int.mul_pos_of_neg_of_neg g g2⟩
     ·exact .inl ⟨Int.mul_pos g g1,Int.mul_pos g g2⟩
     ·exact .inr ⟨Int.mul_neg_of_pos_of_neg g g1,Int.mul_neg_of_pos_of_neg g g2⟩
    rcases hz with⟨ha,rfl,rfl⟩|⟨rfl,ha,rfl⟩
    ·have := pos (d := -dy) (u := e.ax - l.ax) (v := e.bx - l.ax) (by omega) (by rcases DirH.pm ha with rfl | rfl <;> omega)
     rwa [show 0*(e.ay-l.ay)-dy*(e.ax-l.ax) = -dy*(e.ax-l.ax) by grind,show 0*(e.by'-l.ay)-dy*(e.bx-l.ax) = -dy*(e.bx-l.ax) by grind]
    ·have := pos (d := dx) (u := e.ay - l.ay) (v := e.by' - l.ay) (by omega) (by rcases DirH.pm ha with rfl | rfl <;> omega)
     rwa [show dx*(e.ay-l.ay)-0*(e.ax-l.ax)=dx*(e.ay-l.ay) by grind,show dx*(e.by'-l.ay)-0*(e.bx-l.ax)=dx*(e.by'-l.ay) by grind]
   unfold linesZ
   have hn:sideI (crI l.ax l.ay l.bx l.by' e.ax e.ay)≠0:=fun g=>by rw[g,Int.zero_mul] at sg;omega
   rw[if_pos sg,if_pos hn]
   split<;>rfl
 ·rw [if_neg ke]
  obtain⟨σ,τ,Q⟩:=qf_of oe ke
  have r0:=Q.r0
  unfold crossZ
  rw[countZ_eq]
  refine count_noH ?_
  have key:∀ {α σ cc a d r:Int},α*α=1->(σ=1\/σ = -1)->0<r->α*a+1<=α*cc->α*a+1<=α*(cc+σ*r)->σ*(a-cc)<0\/r*r<(a-cc)*(a-cc):=fun {α σ cc a d r} ha hs hr h1 h2=>by
   rcases DirH.pm ha with rfl|rfl<;>rcases hs with rfl|rfl
   ·left;omega
   ·right;have:=Int.mul_lt_mul_of_pos_left (show r<cc-a by omega) hr;have:=Int.mul_lt_mul_of_pos_right (show r<cc-a by omega) (show 0<cc-a by omega);grind
   ·right;have:=Int.mul_lt_mul_of_pos_left (show r<a-cc by omega) hr;have:=Int.mul_lt_mul_of_pos_right (show r<a-cc by omega) (show 0<a-cc by omega);grind
   ·left;omega
  unfold LA.delta LA.list laE
  simp only[hdx,hdy]
  rcases hz with⟨ha,rfl,rfl⟩|⟨rfl,ha,rfl⟩
  ·have d0 : 0 < dy * dy := sq_pos1 (by omega)
   rcases key (d:=dy) (cc:=e.cx) (a:=l.ax) ha Q.s r0 (by rcases Q.c with⟨_,_,_,_,c1,_,c2,_⟩|⟨_,_,_,_,c1,_,c2,_⟩<;>rw[c1] at b1<;>rw[c2] at b2<;>omega) (by rcases Q.c with⟨_,_,_,_,c1,_,c2,_⟩|⟨_,_,_,_,c1,_,c2,_⟩<;>rw[c1] at b1<;>rw[c2] at b2<;>omega) with g|g
   ·right
    have g2:=Int.mul_neg_of_pos_of_neg d0 g
    rcases Q.c with⟨u1,u2,v1,v2,_⟩|⟨u1,u2,v1,v2,_⟩<;>rw[u1,u2,v1,v2]
    ·exact⟨dy*dy*(σ*(l.ax-e.cx)),by simp only[List.mem_cons,Prod.mk.injEq];right;right;left;exact⟨by grind,by grind⟩,g2⟩
    ·exact⟨dy*dy*(σ*(l.ax-e.cx)),by simp only[List.mem_cons,Prod.mk.injEq];right;right;right;left;exact⟨by grind,by grind⟩,g2⟩
   ·left
    have:=Int.mul_lt_mul_of_pos_left g d0
    grind
  ·have d0 : 0 < dx * dx := sq_pos1 (by omega)
   rcases key (d:=dx) (cc:=e.cy) (a:=l.ay) ha Q.t r0 (by rcases Q.c with⟨_,_,_,_,_,c1,_,c2⟩|⟨_,_,_,_,_,c1,_,c2⟩<;>rw[c1] at b1<;>rw[c2] at b2<;>omega) (by rcases Q.c with⟨_,_,_,_,_,c1,_,c2⟩|⟨_,_,_,_,_,c1,_,c2⟩<;>rw[c1] at b1<;>rw[c2] at b2<;>omega) with g|g
   ·right
    have g2:=Int.mul_neg_of_pos_of_neg d0 g
    rcases Q.c with⟨u1,u2,v1,v2,_⟩|⟨u1,u2,v1,v2,_⟩<;>rw[u1,u2,v1,v2]
    ·exact⟨dx*dx*(τ*(l.ay-e.cy)),by simp only[List.mem_cons,Prod.mk.injEq];right;right;right;left;exact⟨by grind,by grind⟩,g2⟩
    ·exact⟨dx*dx*(τ*(l.ay-e.cy)),by simp only[List.mem_cons,Prod.mk.injEq];right;right;left;exact⟨by grind,by grind⟩,g2⟩
   ·left
    have:=Int.mul_lt_mul_of_pos_left g d0
    grind
where
 sq_pos1 {t:Int} (h:¬t=0):0<t*t:=by
  rcases Int.lt_or_lt_of_ne h with g|g
  ·exact Int.mul_pos_of_neg_of_neg g g
  ·exact Int.mul_pos g g
theorem cand_ge{l e:Ed}{α β m D:Int}(h:DirH α β)(ol:l.ok=true)(kl:l.k=1)(oe:e.ok=true)(hD:0<=D)(l1:α*l.ax+β*l.ay=m)(l2:α*l.bx+β*l.by'=m)(hb:Beh α β e (m+D)):0<=cmpQ (leastQ (candQ l e)) (intQ D):=by
 have hl:∀x y,m+D<=α*x+β*y->Beh (-α) (-β) l (-α*x + -β*y+D):=fun x y hp=>by
  unfold Beh
  simp only[Int.neg_mul]
  omega
 have key:∀z∈candQ l e,0<=cmpQ z (intQ D):=fun z hz=>by
  unfold candQ at hz
  rcases List.mem_append.1 hz with hz|hz
  ·simp only [List.mem_cons, List.not_mem_nil, or_false] at hz
   rcases hz with rfl|rfl|rfl|rfl
   ·exact point_geD h oe hD (by rw[l1];exact hb)
   ·exact point_geD h oe hD (by rw[l2];exact hb)
   ·exact point_geD h.neg ol hD (hl _ _ hb.1)
   ·exact point_geD h.neg ol hD (hl _ _ hb.2)
  ·unfold innerQ at hz
   rw[if_pos kl] at hz
   split at hz
   ·cases hz
   ·rename_i ke
    exact foot_ge h oe ke hD l1 l2 hb z hz
 exact key _ (leastQ_mem (candQ_ne _ _))
end
structure OkS (s:Sh):Prop where
 k:s.k=1\/s.k=2
 n0:fewS s<=s.n
 n1:s.n<=40
 ok:∀i,i<s.n->(s.e i).ok=true
 ch:∀i,i+1<s.n->(s.e (i+1)).ax=(s.e i).bx/\(s.e (i+1)).ay=(s.e i).by'
 cl:s.k=2->(s.e 0).ax=(s.e (s.n-1)).bx/\(s.e 0).ay=(s.e (s.n-1)).by'
 r:(0<=s.r/\s.r<=4194304)/\(s.k=2->s.r=0)
theorem errN_z{e:Nat->Ed}:∀ {n:Nat},(∀i,i<n->(e i).ok=true)->errN e n=0
 | 0,_=>rfl
 | n+1,h=>by
  unfold errN
  rw[if_pos (errN_z fun i hi=>h i (by omega))]
  unfold checkZ
  rw[if_pos (h n (by omega))]
theorem OkS.chk{s:Sh}(h:OkS s):chkS s=0:=by
 unfold chkS
 have h0:=h.n0
 have h1:=h.n1
 have hk:=h.k
 rw[if_neg (by omega),if_neg (by omega),if_neg (by omega),if_neg (by rw[errN_z h.ok];omega),if_neg,if_neg]
 ·obtain ⟨⟨r0, r1⟩, r2⟩ := h.r
  rintro (⟨k2,g⟩|g|g)
  ·exact g (r2 k2)
  ·omega
  ·omega
 ·rintro (g | ⟨k2, g⟩)
  ·have:allB (jn s.e) (s.n-1)=true:=allB_t.2 fun i hi=>by
    obtain⟨e1,e2⟩:=h.ch i (by omega)
    unfold jn
    rw[e1,e2]
    simp
   rw[this] at g
   cases g
  ·obtain ⟨e1, e2⟩ := h.cl k2
   unfold clsB at g
   rw[e1,e2] at g
   simp at g
def chainL:List Ed->Prop
 | []=>True
 | e::l=>(match l with | []=>True|f::_=>f.ax=e.bx/\f.ay=e.by')/\chainL l
theorem chainL_at:∀ {l:List Ed},chainL l->∀i,i+1<l.length->(rowE l (i+1)).ax=(rowE l i).bx/\(rowE l (i+1)).ay=(rowE l i).by'
 | [],_,i,hi=>absurd hi (Nat.not_lt_zero _)
 | [e],_,i,hi=>by simp at hi
 | e::f::l,h,0,_=>h.1
 | e::f::l,h,i+1,hi=>chainL_at (l:=f::l) h.2 i (by simpa using hi)
theorem rowE_mem{l:List Ed}{i:Nat}(h:i<l.length):rowE l i∈l:=by
 unfold rowE
 rw[List.getElem?_eq_getElem h]
 exact List.getElem_mem h
theorem okS_list{k:Int}{l:List Ed}{r:Int}(hk:k=1\/k=2)(h0:(if k=1 then 1 else 2)<=l.length)(h1:l.length<=40)(ho:∀e∈l,e.ok=true)(hc:chainL l)(hl:k=2->(rowE l 0).ax=(rowE l (l.length-1)).bx/\(rowE l 0).ay=(rowE l (l.length-1)).by')(hr:(0<=r/\r<=4194304)/\(k=2->r=0)):OkS (shL' k l r) :=
 ⟨hk,by show fewS (shL' k l r)<=(l.length:Int);unfold fewS;show (if k=1 then (1:Int) else 2)<=l.length;split<;>simp_all<;>omega,h1,fun i hi=>ho _ (rowE_mem hi),chainL_at hc,hl,hr⟩
def Sm3(x:Int):Prop := -1000<=x/\x<=1000
def EdSm(e:Ed):Prop:=(Sm3 e.ax/\Sm3 e.ay)/\(Sm3 e.bx/\Sm3 e.by')/\Sm3 e.cx/\Sm3 e.cy
theorem lnEd_ok{ax ay bx by':Int}(h1:Sm3 ax)(h2:Sm3 ay)(h3:Sm3 bx)(h4:Sm3 by'):(lnEd ax ay bx by').ok=true/\EdSm (lnEd ax ay bx by'):=by
 unfold Sm3 at h1 h2 h3 h4
 refine⟨?_,⟨⟨by unfold lnEd Sm3;exact h1,by unfold lnEd Sm3;exact h2⟩,⟨by unfold lnEd Sm3;exact h3,by unfold lnEd Sm3;exact h4⟩,by unfold lnEd Sm3;simp,by unfold lnEd Sm3;simp⟩⟩
 simp only[Ed.ok,Ed.right,lnEd,Bool.and_eq_true]
 refine⟨⟨⟨coordB_iff.2 ?_,coordB_iff.2 ?_⟩,coordB_iff.2 ?_⟩,by simp[Ed.lone]⟩
 all_goals (unfold Co;omega)
theorem arcEd_ok{k ax ay bx by' cx cy:Int}(h1:Sm3 ax)(h2:Sm3 ay)(h3:Sm3 bx)(h4:Sm3 by')(h5:Sm3 cx)(h6:Sm3 cy)(hd:(ax-cx=0/\ay-cy≠0)\/(ax-cx≠0/\ay-cy=0))
  (hk:(k=2/\bx-cx = -(ay-cy)/\by'-cy=ax-cx)\/(k=3/\bx-cx=ay-cy/\by'-cy = -(ax-cx))):(Ed.mk k ax ay bx by' cx cy).ok=true/\EdSm (Ed.mk k ax ay bx by' cx cy):=by
 refine⟨?_,⟨⟨h1,h2⟩,⟨h3,h4⟩,h5,h6⟩⟩
 unfold Sm3 at *
 simp only[Ed.ok,Ed.right,Bool.and_eq_true]
 refine⟨⟨⟨coordB_iff.2 ?_,coordB_iff.2 ?_⟩,coordB_iff.2 ?_⟩,?_⟩
 ·unfold Co;omega
 ·unfold Co;omega
 ·unfold Co;omega
 ·rcases hk with⟨rfl,g1,g2⟩|⟨rfl,g1,g2⟩<;>rcases hd with⟨d1,d2⟩|⟨d1,d2⟩<;>simp[Ed.quarter,quarterB,rot,g1,g2,d1,d2]
theorem quartE_ok{px py r t:Int}(g:Bool)(h1 : -900<=px/\px<=900)(h2 : -900<=py/\py<=900)(hr:1<=r/\r<=16)(ht:0<=t/\t<4):(quartE px py r t g).ok=true/\EdSm (quartE px py r t g):=by
 have m0:modZ 0 4=0:=by decide
 have m1:modZ 1 4=1:=by decide
 have m2:modZ 2 4=2:=by decide
 have m3:modZ 3 4=3:=by decide
 obtain rfl|rfl|rfl|rfl:t=0\/t=1\/t=2\/t=3:=by omega
 all_goals cases g
 all_goals
  simp only[quartE,tn0 m0,tn1 m1,tn2 m2,tn3 m3,Bool.false_eq_true,if_false,if_true]
  refine arcEd_ok ?_ ?_ ?_ ?_ ?_ ?_ ?_ ?_
  all_goals first|omega|(unfold Sm3;omega)
def FineS(s:Sh):Prop:=OkS s/\(∀i,i<s.n->EdSm (s.e i))/\s.r<=100
theorem fineS_list{k:Int}{l:List Ed}{r:Int}(hk:k=1\/k=2)(h0:(if k=1 then 1 else 2)<=l.length)(h1:l.length<=40)(ho:∀e∈l,e.ok=true/\EdSm e)(hc:chainL l)(hl:k=2->(rowE l 0).ax=(rowE l (l.length-1)).bx/\(rowE l 0).ay=(rowE l (l.length-1)).by')(hr:(0<=r/\r<=100)/\(k=2->r=0)):FineS (shL' k l r) :=
 ⟨okS_list hk h0 h1 (fun e he=>(ho e he).1) hc hl ⟨⟨hr.1.1,by omega⟩,hr.2⟩,fun i hi=>(ho _ (rowE_mem hi)).2,hr.1.2⟩
theorem all1{P:Ed->Prop}{a:Ed}{l:List Ed}(h1:P a)(h2:∀e∈l,P e):∀e∈a::l,P e:=fun e he=>by
 rcases List.mem_cons.1 he with rfl|he
 ·exact h1
 ·exact h2 e he
theorem all0{P:Ed->Prop}:∀e∈([]:List Ed),P e:=fun e he=>by cases he
theorem rect_fine{x y u v:Int}(h1:0<=x/\x<=500)(h2:0<=y/\y<=500)(h3:0<=u/\u<=500)(h4:0<=v/\v<=500):FineS (rectS x y u v):=by
 unfold rectS
 refine fineS_list (.inr rfl) (by simp) (by simp) (all1 (lnEd_ok ?_ ?_ ?_ ?_) (all1 (lnEd_ok ?_ ?_ ?_ ?_) (all1 (lnEd_ok ?_ ?_ ?_ ?_) (all1 (lnEd_ok ?_ ?_ ?_ ?_) all0)))) ⟨⟨rfl,rfl⟩,⟨rfl,rfl⟩,⟨rfl,rfl⟩,trivial,trivial⟩ (fun _=>⟨rfl,rfl⟩) ⟨by decide,fun _=>rfl⟩
 all_goals (unfold Sm3;omega)
theorem disc_fine{x y r:Int}(h1:0<=x/\x<=500)(h2:0<=y/\y<=500)(hr:0<=r/\r<=100):FineS (discS x y r):=by
 unfold discS
 refine fineS_list (.inl rfl) (by simp) (by simp) (all1 (lnEd_ok ?_ ?_ ?_ ?_) all0) ⟨trivial,trivial⟩ (fun h=>by cases h) ⟨hr,fun h=>by cases h⟩
 all_goals (unfold Sm3;omega)
theorem round_fine{x y r w h:Int}(h1:0<=x/\x<=100)(h2:0<=y/\y<=100)(hr:1<=r/\r<=16)(hw:0<=w/\w<=100)(hh:0<=h/\h<=100):FineS (roundS x y r w h):=by
 unfold roundS
 refine fineS_list (.inr rfl) (by simp) (by simp) (all1 (lnEd_ok ?_ ?_ ?_ ?_) (all1 (arcEd_ok ?_ ?_ ?_ ?_ ?_ ?_ ?_ ?_) (all1 (lnEd_ok ?_ ?_ ?_ ?_) (all1 (arcEd_ok ?_ ?_ ?_ ?_ ?_ ?_ ?_ ?_) (all1 (lnEd_ok ?_ ?_ ?_ ?_) (all1 (arcEd_ok ?_ ?_ ?_ ?_ ?_ ?_ ?_ ?_) (all1 (lnEd_ok ?_ ?_ ?_ ?_) (all1 (arcEd_ok ?_ ?_ ?_ ?_ ?_ ?_ ?_ ?_) all0)))))))) ⟨⟨rfl,rfl⟩,⟨rfl,rfl⟩,⟨rfl,rfl⟩,⟨rfl,rfl⟩,⟨rfl,rfl⟩,⟨rfl,rfl⟩,⟨rfl,rfl⟩,trivial,trivial⟩ (fun _=>⟨rfl,rfl⟩) ⟨by decide,fun _=>rfl⟩
 all_goals first|omega|(unfold Sm3;omega)
theorem path_fine{L:List Int}(n:Nat):∀(k a:Nat) (px py:Int),k+n<=4->(0<=k)->(-(64*(k:Int))-100<=px/\px<=64*(k:Int)+100)->(-(64*(k:Int))-100<=py/\py<=64*(k:Int)+100) ->
  (∀e∈pathL L n a px py,e.ok=true/\EdSm e)/\chainL (pathL L n a px py)/\(pathL L n a px py).length=n/\(∀f l,pathL L n a px py=f::l->f.ax=px/\f.ay=py):=by
 induction n with
 | zero=>intro k a px py _ _ _ _;exact⟨all0,trivial,rfl,fun f l h=>by cases h⟩
 | succ n ih =>
  intro k a px py hk hk0 hx hy
  have n0:=nV_bd L a (m:=21) (by omega)
  have n1:=nV_bd L (a+1) (m:=21) (by omega)
  have n3:=nV_bd L (a+3) (m:=9) (by omega)
  have n4:=nV_bd L (a+4) (m:=4) (by omega)
  have E:((pathE L a px py).ok=true/\EdSm (pathE L a px py))/\((pathE L a px py).ax=px/\(pathE L a px py).ay=py)/\(-(64*((k+1:Nat):Int))-100<=(pathE L a px py).bx/\(pathE L a px py).bx<=64*((k+1:Nat):Int)+100)/\(-(64*((k+1:Nat):Int))-100<=(pathE L a px py).by'/\(pathE L a px py).by'<=64*((k+1:Nat):Int)+100):=by
   unfold pathE
   split
   ·refine ⟨quartE_ok _ (by omega) (by omega) (by omega) n4, ⟨rfl, rfl⟩, ?_⟩
    obtain⟨⟨_,_,_⟩,⟨b1,b2⟩,_⟩:=quart_bd (px:=px-px) (py:=py-py) (r:=1+nV L (a+3) 9) (t:=nV L (a+4) 4) (g:=decide (nV L (a+5) 2=1)) (A:=0) (B:=0) (by omega) (by omega) (by omega)
    have e1:(quartE (px-px) (py-py) (1+nV L (a+3) 9) (nV L (a+4) 4) (decide (nV L (a+5) 2=1))).bx=(quartE px py (1+nV L (a+3) 9) (nV L (a+4) 4) (decide (nV L (a+5) 2=1))).bx-px:=by
     unfold quartE
     simp only
     rw[show px-px-(px-px+(applyQ 0 0 (nV L (a+4) 4) false (1+nV L (a+3) 9) 0).1)=px-(px+(applyQ 0 0 (nV L (a+4) 4) false (1+nV L (a+3) 9) 0).1) by omega,show py-py-(py-py+(applyQ 0 0 (nV L (a+4) 4) false (1+nV L (a+3) 9) 0).2)=py-(py+(applyQ 0 0 (nV L (a+4) 4) false (1+nV L (a+3) 9) 0).2) by omega]
     omega
    have e2:(quartE (px-px) (py-py) (1+nV L (a+3) 9) (nV L (a+4) 4) (decide (nV L (a+5) 2=1))).by'=(quartE px py (1+nV L (a+3) 9) (nV L (a+4) 4) (decide (nV L (a+5) 2=1))).by'-py:=by
     unfold quartE
     simp only
     rw[show px-px-(px-px+(applyQ 0 0 (nV L (a+4) 4) false (1+nV L (a+3) 9) 0).1)=px-(px+(applyQ 0 0 (nV L (a+4) 4) false (1+nV L (a+3) 9) 0).1) by omega,show py-py-(py-py+(applyQ 0 0 (nV L (a+4) 4) false (1+nV L (a+3) 9) 0).2)=py-(py+(applyQ 0 0 (nV L (a+4) 4) false (1+nV L (a+3) 9) 0).2) by omega]
     omega
    rw[e1] at b1
    rw[e2] at b2
    omega
   ·refine ⟨lnEd_ok ?_ ?_ ?_ ?_, ⟨rfl, rfl⟩, ?_⟩
    ·unfold Sm3;omega
    ·unfold Sm3;omega
    ·unfold Sm3;omega
    ·unfold Sm3;omega
    ·simp only [lnEd]
     omega
  obtain⟨E1,E2,E3,E4⟩:=E
  obtain⟨i1,i2,i3,i4⟩:=ih (k+1) (pathN L a) (pathE L a px py).bx (pathE L a px py).by' (by omega) (by omega) E3 E4
  refine⟨all1 E1 i1,⟨?_,i2⟩,by show _+1=n+1;rw[i3],fun f l h=>?_⟩
  ·cases hp : pathL L n (pathN L a) (pathE L a px py).bx (pathE L a px py).by' with
   | nil=>trivial
   | cons f l=>exact i4 f l hp
  ·obtain ⟨rfl, _⟩ := List.cons.inj h
   exact E2
theorem made_fine(L:List Int):FineS (madeS L):=by
 have b0:=nV_bd L 0 (m:=50) (by omega)
 have b1:=nV_bd L 1 (m:=50) (by omega)
 unfold madeS
 simp only
 split
 ·have b3 := nV_bd L 3 (m := 20) (by omega)
  have b4:=nV_bd L 4 (m:=20) (by omega)
  exact rect_fine (by omega) (by omega) (by omega) (by omega)
 split
 ·have b3 := nV_bd L 3 (m := 6) (by omega)
  have b4:=nV_bd L 4 (m:=9) (by omega)
  have b5:=nV_bd L 5 (m:=9) (by omega)
  exact round_fine (by omega) (by omega) (by omega) (by omega) (by omega)
 split
 ·have b3 := nV_bd L 3 (m := 20) (by omega)
  have b4:=nV_bd L 4 (m:=9) (by omega)
  have b5:=nV_bd L 5 (m:=9) (by omega)
  have b6:=nV_bd L 6 (m:=20) (by omega)
  refine fineS_list (.inr rfl) (by simp) (by simp) (all1 (lnEd_ok ?_ ?_ ?_ ?_) (all1 (lnEd_ok ?_ ?_ ?_ ?_) (all1 (lnEd_ok ?_ ?_ ?_ ?_) all0))) ⟨⟨rfl,rfl⟩,⟨rfl,rfl⟩,trivial,trivial⟩ (fun _=>⟨rfl,rfl⟩) ⟨by decide,fun _=>rfl⟩
  all_goals (unfold Sm3;omega)
 split
 ·have b3 := nV_bd L 3 (m := 9) (by omega)
  exact disc_fine (by omega) (by omega) (by omega)
 ·have b3 := nV_bd L 3 (m := 6) (by omega)
  have b4:=nV_bd L 4 (m:=3) (by omega)
  obtain⟨i1,i2,i3,_⟩:=path_fine (L:=L) (1+nV L 4 3).toNat 0 5 (nV L 0 50) (nV L 1 50) (by omega) (by omega) (by omega) (by omega)
  exact fineS_list (.inl rfl) (by rw[i3,if_pos rfl];omega) (by rw[i3];omega) i1 i2 (fun h=>by cases h) ⟨by omega,fun h=>by cases h⟩
theorem mov_ok{s:Sh}(h:FineS s){x y:Int}(t:Int)(m:Bool)(hx : -1048576<=x/\x<=1048576)(hy : -1048576<=y/\y<=1048576):OkS (movS s x y t m):=by
 obtain⟨h,hs,_⟩:=h
 have ht:=modZ_bd t (m:=4) (by omega)
 refine⟨h.k,h.n0,h.n1,fun i hi=>?_,fun i hi=>?_,fun hk=>?_,h.r⟩
 ·obtain ⟨⟨s1, s2⟩, ⟨s3, s4⟩, s5, s6⟩ := hs i hi
  unfold Sm3 at *
  exact move_ok (h.ok i hi) x y (modZ t 4) m (by omega) hx hy (by omega) (by omega) (by omega) (by omega) (by omega) (by omega)
 ·obtain ⟨e1, e2⟩ := h.ch i hi
  show (applyP x y (modZ t 4) m (s.e (i+1)).ax (s.e (i+1)).ay).1=(applyP x y (modZ t 4) m (s.e i).bx (s.e i).by').1/\(applyP x y (modZ t 4) m (s.e (i+1)).ax (s.e (i+1)).ay).2=(applyP x y (modZ t 4) m (s.e i).bx (s.e i).by').2
  rw[e1,e2]
  exact⟨rfl,rfl⟩
 ·obtain ⟨e1, e2⟩ := h.cl hk
  show (applyP x y (modZ t 4) m (s.e 0).ax (s.e 0).ay).1=(applyP x y (modZ t 4) m (s.e (s.n-1)).bx (s.e (s.n-1)).by').1/\(applyP x y (modZ t 4) m (s.e 0).ax (s.e 0).ay).2=(applyP x y (modZ t 4) m (s.e (s.n-1)).bx (s.e (s.n-1)).by').2
  rw[e1,e2]
  exact⟨rfl,rfl⟩
def shQ(z:Q4)(n:Int):Q4:=⟨z.a+n,z.s,z.n,z.d⟩
theorem shQ_ok{z:Q4}(h:z.ok)(n:Int):(shQ z n).ok:=⟨h.s,h.n0,h.n1,h.d0,h.d1⟩
theorem q_rt{z:Q4}(h:z.ok):z.rt=⟨z.a,nz z.s z.n.toNat,ofZ ((z.n.toNat/Nat.gcd z.n.toNat z.d.toNat:Nat):Int),ofZ ((z.d.toNat/Nat.gcd z.n.toNat z.d.toNat:Nat):Int)⟩:=by
 rw[h.root.1,rootOf_nz h.s (by have:=h.d0;omega)]
theorem plus_q{z:Q4}(h:z.ok){n:Int}(hi:inI (z.a+n)=true):plusR z.rt n=((shQ z n).rt,true):=by
 unfold plusR
 have ha:z.rt.add=z.a:=by rw[q_rt h]
 rw[h.root.2.2,ha,hi,q_rt (shQ_ok h n),q_rt h]
 rfl
theorem zrt_q(a b:Sh):zrt a b=(shQ (intQ 0) (sumR a b)).rt:=by
 have e:(ofP (sumR a b) 0 (ofZ ((0:Nat):Int)) (ofZ ((1:Nat):Int)))=(rootOf (sumR a b) 0 0 1,true):=ofP_nat (by decide) (by decide) (by decide) (by decide)
 have e2:shQ (intQ 0) (sumR a b)=intQ (sumR a b):=by unfold shQ intQ;simp
 rw[e2,intQ_rt]
 exact congrArg Prod.fst e
def Bd30(x:Int):Prop := -1073741824<=x/\x<=1073741824
theorem point_a{e:Ed}(ho:e.ok=true)(x y:Int) : -134217728<=(pointQ e x y).a/\(pointQ e x y).a<=134217728:=by
 have hr:=(rad_b ho).1
 unfold pointQ lineQ arcQ endQ
 (repeat' split)<;>simp only<;>omega
theorem cand_a{a b:Ed}(ha:a.ok=true)(hb:b.ok=true):∀z∈candQ a b,Bd30 z.a:=by
 intro z hz
 have r1:=(rad_b ha).1
 have r2:=(rad_b hb).1
 unfold Bd30
 unfold candQ at hz
 rcases List.mem_append.1 hz with hz|hz
 ·simp only [List.mem_cons, List.not_mem_nil, or_false] at hz
  rcases hz with rfl|rfl|rfl|rfl
  ·have:=point_a hb a.ax a.ay;omega
  ·have:=point_a hb a.bx a.by';omega
  ·have:=point_a ha b.ax b.ay;omega
  ·have:=point_a ha b.bx b.by';omega
 ·unfold innerQ footQ centQ at hz
  simp only at hz
  (repeat' split at hz)<;>first|(cases hz;done)|(simp only[List.mem_cons,List.not_mem_nil,or_false] at hz;subst hz;simp only;omega)
theorem gap_some(c:Nat->Pr):∀k,0<k->∃i,i<k/\gapK c k=(c i).gp
 | 0,h=>absurd h (Nat.lt_irrefl _)
 | k+1,_=>by
  unfold gapK
  split
  ·exact⟨k,Nat.lt_succ_self _,rfl⟩
  ·rename_i h
   have hk:0<k:=by
    rcases Nat.eq_zero_or_pos k with h0|h0
    ·subst h0;simp at h
    ·exact h0
   obtain⟨i,h1,h2⟩:=gap_some c k hk
   exact⟨i,by omega,h2⟩
theorem sum_r{a b:Sh}(ha:OkS a)(hb:OkS b):sumR a b = -a.r-b.r:=by
 obtain⟨⟨a0,a1⟩,_⟩:=ha.r
 obtain⟨⟨b0,b1⟩,_⟩:=hb.r
 unfold sumR
 have e:IntKind.i64.wrap (0-a.r) = -a.r:=(wrap_in (by unfold I64;omega)).trans (by omega)
 rw[e,wrap_in (by unfold I64;omega)]
structure DistQ (a b:Sh) (z:Q4):Prop where
 ok:z.ok
 bd:Bd30 z.a
 eq:(ofQ a b).2=true/\(ofQ a b).1.m=metB a b/\(ofQ a b).1.d=(shQ z (-a.r-b.r)).rt
 met:metB a b=true->z=intQ 0/\(ofQ a b).1.a=Sp.no/\(ofQ a b).1.b=Sp.no
 far:metB a b=false->0<cmpQ z (intQ 0)
theorem n_pos{s:Sh}(h:OkS s):0<s.n:=by
 have:=h.n0
 unfold fewS at this
 split at this<;>omega
structure CoreQ (a b:Sh) (z:Q4):Prop where
 ok:z.ok
 bd:Bd30 z.a
 met:metB a b=true->z=intQ 0
 far:metB a b=false->0<cmpQ z (intQ 0)/\(gapK (cnd a b) (a.n*b.n)).d=z.rt/\(gapK (cnd a b) (a.n*b.n)).m=false
theorem core_q{a b:Sh}(ha:OkS a)(hb:OkS b):∃z,CoreQ a b z:=by
 cases hm:metB a b with
 | true=>exact⟨intQ 0,intQ_ok 0,by unfold Bd30 intQ;simp only;omega,fun _=>rfl,fun h=>(by rw[hm] at h;cases h)⟩
 | false =>
  have hn:0<a.n*b.n:=Nat.mul_pos (n_pos ha) (n_pos hb)
  obtain⟨i,hi,hg⟩:=gap_some (cnd a b) (a.n*b.n) hn
  have hbn:=n_pos hb
  have i1:i/b.n<a.n:=(Nat.div_lt_iff_lt_mul hbn).2 hi
  have i2:i%b.n<b.n:=Nat.mod_lt _ hbn
  have oa:=ha.ok _ i1
  have ob:=hb.ok _ i2
  have hsep:sep a b i=true:=by
   have hm':=hm
   unfold metB at hm'
   simp only[Bool.or_eq_false_iff,Bool.not_eq_false'] at hm'
   exact allB_t.1 hm'.2 i hi
  have hc:countE (a.e (i/b.n)) (b.e (i%b.n))=0:=by unfold sep at hsep;simpa using hsep
  have hd:(gapK (cnd a b) (a.n*b.n)).d=(leastQ (candQ (a.e (i/b.n)) (b.e (i%b.n)))).rt:=by
   rw[hg]
   exact edgesR_Q oa ob hc
  have hmem:=leastQ_mem (candQ_ne (a.e (i/b.n)) (b.e (i%b.n)))
  exact⟨_,candQ_ok oa ob _ hmem,cand_a oa ob _ hmem,fun h=>(by rw[hm] at h;cases h),fun _=>⟨least_gt oa ob hc,hd,by rw[hg];rfl⟩⟩
theorem core_dist{a b:Sh}(ha:OkS a)(hb:OkS b){z:Q4}(C:CoreQ a b z):DistQ a b z:=by
 have h0:¬(chkS a≠0\/chkS b≠0):=fun h=>h.elim (fun g=>g ha.chk) (fun g=>g hb.chk)
 have hs:=sum_r ha hb
 have ra:=ha.r.1
 have rb:=hb.r.1
 cases hm:metB a b with
 | true =>
  have e:ofQ a b=(metR a b,true):=by unfold ofQ;rw[if_neg h0,if_pos hm]
  refine⟨C.ok,C.bd,⟨by rw[e],by rw[e,hm];rfl,?_⟩,fun _=>⟨C.met hm,by rw[e];exact⟨rfl,rfl⟩⟩,fun h=>(by rw[hm] at h;cases h)⟩
  rw[e,<- hs,C.met hm]
  exact zrt_q a b
 | false =>
  have e:ofQ a b=({ gapK (cnd a b) (a.n*b.n) with d:=(plusR (gapK (cnd a b) (a.n*b.n)).d (sumR a b)).1 },true):=by unfold ofQ;rw[if_neg h0,if_neg (by rw[hm];decide)]
  obtain⟨hgt,hd,hmf⟩:=C.far hm
  have hba:=C.bd
  refine⟨C.ok,C.bd,⟨by rw[e],by rw[e,hm];exact hmf,?_⟩,fun h=>(by rw[hm] at h;cases h),fun _=>hgt⟩
  rw[e]
  show (plusR (gapK (cnd a b) (a.n*b.n)).d (sumR a b)).1=_
  unfold Bd30 at hba
  rw[hd,hs,plus_q C.ok (inI_iff.2 (by omega))]
theorem dist_q{a b:Sh}(ha:OkS a)(hb:OkS b):∃z,DistQ a b z:=(core_q ha hb).imp fun _ C=>core_dist ha hb C

section
theorem ray_out{x1 y1 x2 y2:Int}(h:¬Bx0 x1 y1 x2 y2)(s t:Int):rayM x1 y1 x2 y2 s=rayM x1 y1 x2 y2 t:=by
 unfold Bx0 at h
 unfold rayM
 (repeat' split)<;>omega
section
variable {a b c d x y:Int} {e e':Ed}
theorem bx_iso(h:IsoOk a b c d){x1 y1 x2 y2:Int}:Bx0 (a*x1+b*y1) (c*x1+d*y1) (a*x2+b*y2) (c*x2+d*y2) <-> Bx0 x1 y1 x2 y2:=by
 unfold Bx0
 rcases h with⟨rfl,rfl,rfl|rfl,rfl|rfl⟩|⟨rfl,rfl,rfl|rfl,rfl|rfl⟩<;>omega
theorem side_mv(h:Mvd a b c d x y e e'){px py:Int}(off:onE e px py=false)(hb:Bx0 (e.ax-px) (e.ay-py) (e.bx-px) (e.by'-py)):sideE e' (a*px+b*py+x) (c*px+d*py+y)=(a*d-b*c)*sideE e px py:=by
 have hd:=det_iso h.iso
 unfold sideE
 by_cases hk:e.k=1
 ·have nz:¬(e.ax-px)*(e.by'-py)-(e.bx-px)*(e.ay-py)=0:=fun hc=>by
   unfold Bx0 at hb
   have:onE e px py=true:=onE_line_mk hk h.ok (by unfold Btw;omega) (by unfold Btw;omega) (by grind)
   rw[off] at this;cases this
  rw[if_pos hk,if_pos (h.k.2 hk),h.ax,h.ay,h.bx,h.by',sub_iso,sub_iso,sub_iso,sub_iso]
  have:=crs_iso (a:=a) (b:=b) (c:=c) (d:=d) (e.ax-px) (e.ay-py) (e.bx-px) (e.by'-py)
  have e1:(a*(e.ax-px)+b*(e.ay-py))*(c*(e.bx-px)+d*(e.by'-py))-(a*(e.bx-px)+b*(e.by'-py))*(c*(e.ax-px)+d*(e.ay-py))=(a*d-b*c)*((e.ax-px)*(e.by'-py)-(e.bx-px)*(e.ay-py)):=by grind
  rw[e1]
  generalize (e.ax-px)*(e.by'-py)-(e.bx-px)*(e.ay-py)=k at *
  rcases hd with g|g<;>rw[g]<;>(repeat' split)<;>omega
 ·have hk' : ¬ e'.k = 1 := fun g => hk (h.k.1 g)
  obtain⟨u1,u2,v1,v2⟩:=h.axes hk
  rw[if_neg hk,if_neg hk',h.rad hk,h.cx hk,h.cy hk,sub_iso,sub_iso,dot_iso h.iso,u1,u2,v1,v2]
  have e1:(a*e.ux+b*e.uy)*(c*e.vx+d*e.vy)-(c*e.ux+d*e.uy)*(a*e.vx+b*e.vy)=(a*d-b*c)*(e.ux*e.vy-e.uy*e.vx):=crs_iso ..
  rw[e1]
  split
  ·rfl
  ·rw[Int.mul_neg]
theorem ray_mv(h:Mvd a b c d x y e e'){px py:Int}(off:onE e px py=false):rayZ e' (a*px+b*py+x) (c*px+d*py+y)=(a*d-b*c)*rayZ e px py+phI a b c d (e.ax-px) (e.ay-py)-phI a b c d (e.bx-px) (e.by'-py):=by
 obtain⟨M,R⟩:=mono_e h.ok off
 have off':onE e' (a*px+b*py+x) (c*px+d*py+y)=false:=by rw[h.on];exact off
 obtain⟨_,R'⟩:=mono_e h.ok' off'
 have n1:¬(e.ax-px=0/\e.ay-py=0):=fun ⟨g1,g2⟩=>by
  have:=end_a h.ok
  rw[show e.ax=px by omega,show e.ay=py by omega,off] at this;cases this
 have n2:¬(e.bx-px=0/\e.by'-py=0):=fun ⟨g1,g2⟩=>by
  have:=end_b h.ok
  rw[show e.bx=px by omega,show e.by'=py by omega,off] at this;cases this
 have key:=ray_iso h.iso M n1 n2
 rw[R,<- key,R',h.ax,h.ay,h.bx,h.by',sub_iso,sub_iso,sub_iso,sub_iso]
 by_cases hb:Bx0 (e.ax-px) (e.ay-py) (e.bx-px) (e.by'-py)
 ·rw[side_mv h off hb]
 ·exact ray_out (fun g=>hb ((bx_iso h.iso).1 g)) _ _
theorem wnd_mv{E E':Nat->Ed}{px py:Int}:∀ {n:Nat},(∀i,i<=n->Mvd a b c d x y (E i) (E' i))->(∀i,i<=n->onE (E i) px py=false)->(∀i,i+1<=n->(E (i+1)).ax=(E i).bx/\(E (i+1)).ay=(E i).by') ->
  wnd E' (a*px+b*py+x) (c*px+d*py+y) (n+1)=(a*d-b*c)*wnd E px py (n+1)+phI a b c d ((E 0).ax-px) ((E 0).ay-py)-phI a b c d ((E n).bx-px) ((E n).by'-py)
 | 0,hM,off,_=>by
  unfold wnd wnd
  rw[ray_mv (hM 0 (Nat.le_refl _)) (off 0 (Nat.le_refl _)),Int.mul_add,Int.mul_zero]
  omega
 | n+1,hM,off,ch=>by
  have ih:=wnd_mv (n:=n) (fun i hi=>hM i (by omega)) (fun i hi=>off i (by omega)) (fun i hi=>ch i (by omega))
  obtain⟨c1,c2⟩:=ch n (Nat.le_refl _)
  have r:=ray_mv (hM (n+1) (Nat.le_refl _)) (off (n+1) (Nat.le_refl _))
  rw[c1,c2] at r
  show wnd E' _ _ (n+1)+rayZ (E' (n+1)) _ _=(a*d-b*c)*(wnd E px py (n+1)+rayZ (E (n+1)) px py)+_-_
  rw[ih,r,Int.mul_add]
  omega
theorem near_on{px py r:Int}(r0:0<=r)(h:onE e px py=true):nearC e px py r=true:=by
 have rr:=Int.mul_nonneg r0 r0
 unfold nearC
 by_cases h1:frZ px py e.ax e.ay<=r*r
 ·rw[if_pos h1]
 rw[if_neg h1]
 by_cases h2:frZ px py e.bx e.by'<=r*r
 ·rw[if_pos h2]
 rw[if_neg h2]
 by_cases hk:e.k=1
 ·rw [if_pos hk]
  obtain⟨_,b1,b2,hl⟩:=onE_line hk h
  have m1:=btw_mul (btw_shift b1)
  have m2:=btw_mul (btw_shift b2)
  have hz:∀u v:Int,u*u+v*v<=0->u=0/\v=0:=fun u v g=>by
   have:=sqz_nn u;have:=sqz_nn v
   constructor
   ·rcases Int.mul_eq_zero.1 (show u*u=0 by omega) with f|f<;>exact f
   ·rcases Int.mul_eq_zero.1 (show v*v=0 by omega) with f|f<;>exact f
  have sq:∀u v t:Int,u*v=t->0<=t->0<=t:=fun _ _ _ _ h=>h
  have l1:(px-e.ax)*(px-e.ax)<=(px-e.ax)*(e.bx-e.ax):=by have:=m1.2.2;rw[Int.mul_sub] at this;omega
  have l2:(py-e.ay)*(py-e.ay)<=(py-e.ay)*(e.by'-e.ay):=by have:=m2.2.2;rw[Int.mul_sub] at this;omega
  have al0:¬alZ e px py<=0:=fun g=>by
   unfold alZ at g
   unfold frZ at h1
   omega
  have al1:¬alZ e px py >= loZ e:=fun g=>by
   unfold alZ loZ at g
   unfold frZ at h2
   have q1:(px-e.bx)*(px-e.bx)=(px-e.ax)*(px-e.ax)-2*((px-e.ax)*(e.bx-e.ax))+(e.bx-e.ax)*(e.bx-e.ax):=by grind
   have q2:(py-e.by')*(py-e.by')=(py-e.ay)*(py-e.ay)-2*((py-e.ay)*(e.by'-e.ay))+(e.by'-e.ay)*(e.by'-e.ay):=by grind
   omega
  have cr0:crZ e px py=0:=by unfold crZ;omega
  rw[if_neg al0,if_neg al1,cr0]
  have lo:=sqI_nn (e.bx-e.ax) (e.by'-e.ay)
  have:loZ e=sqI (e.bx-e.ax) (e.by'-e.ay):=rfl
  have:=Int.mul_nonneg rr (show 0<=loZ e by omega)
  exact decide_eq_true (by omega)
 ·rw [if_neg hk]
  obtain⟨ho,hr,w1,w2⟩:=onE_arc hk h
  obtain⟨r0',hu,hv,a1,a2,a3,a4⟩:=arc_axes ho hk
  have R0:=rad_pos ho hk
  have hw:wiZ e px py >= 0:=by
   unfold wiZ
   obtain⟨R,hR⟩:∃R,radZ e=R:=⟨_,rfl⟩
   rw[hR] at a1 a2 a3 a4 r0'
   have f1:e.ax-e.cx=R*e.ux:=by omega
   have f2:e.ay-e.cy=R*e.uy:=by omega
   have f3:e.bx-e.cx=R*e.vx:=by omega
   have f4:e.by'-e.cy=R*e.vy:=by omega
   rw[f1,f2,f3,f4]
   have W1:=Int.mul_nonneg (Int.le_of_lt r0') w1
   have W2:=Int.mul_nonneg (Int.le_of_lt r0') w2
   rcases hv with⟨k0,v1,v2⟩|⟨k0,v1,v2⟩
   ·rw [k0, if_neg (by decide), v1, v2]
    rw[v1,v2] at W2
    have s1:R*e.ux*(py-e.cy)-R*e.uy*(px-e.cx)=R*((px-e.cx) * -e.uy+(py-e.cy)*e.ux):=by grind
    have s2:(px-e.cx)*(R*e.ux)-(py-e.cy)*(R * -e.uy)=R*((px-e.cx)*e.ux+(py-e.cy)*e.uy):=by grind
    omega
   ·rw [k0, if_pos rfl, v1, v2]
    rw[v1,v2] at W2
    have s1:R*e.uy*(py-e.cy)-R * -e.ux*(px-e.cx)=R*((px-e.cx)*e.ux+(py-e.cy)*e.uy):=by grind
    have s2:(px-e.cx)*(R*e.uy)-(py-e.cy)*(R*e.ux)=R*((px-e.cx)*e.uy+(py-e.cy) * -e.ux):=by grind
    omega
  have hf:frZ px py e.cx e.cy=radZ e*radZ e:=hr
  have k1:=sq_upR (Int.le_of_lt R0) (show radZ e<=radZ e+r by omega)
  have k2:=sq_upR (show 0<=max (radZ e-r) 0 by omega) (show max (radZ e-r) 0<=radZ e by omega)
  rw[if_pos hw,hf,if_pos k1]
  exact decide_eq_true k2
where sq_upR {a b:Int} (h0:0<=a) (h:a<=b):a*a<=b*b:=Int.mul_le_mul h h h0 (by omega)
theorem wi_inQ(e:Ed)(px py:Int):wiZ e px py >= 0 <-> ((px-e.cx=0/\py-e.cy=0)\/inQ e (px-e.cx) (py-e.cy)=true):=by
 unfold wiZ inQ wiB
 simp only[Bool.and_eq_true,Bool.not_eq_true',Bool.and_eq_false_iff,beq_eq_false_iff_ne]
 by_cases hz:px-e.cx=0/\py-e.cy=0
 ·rw [hz.1, hz.2]
  simp
 ·by_cases k : e.k = 3
  ·simp only[if_pos k,Bool.and_eq_true,decide_eq_true_eq];omega
  ·simp only[if_neg k,Bool.and_eq_true,decide_eq_true_eq];omega
theorem near_mv(h:Mvd a b c d x y e e')(px py r:Int):nearC e' (a*px+b*py+x) (c*px+d*py+y) r=nearC e px py r:=by
 have f:∀u v:Int,frZ (a*px+b*py+x) (c*px+d*py+y) (a*u+b*v+x) (c*u+d*v+y)=frZ px py u v:=fun u v=>by
  unfold frZ;rw[sub_iso,sub_iso,dot_iso h.iso]
 unfold nearC
 rw[h.ax,h.ay,h.bx,h.by',f,f]
 by_cases hk:e.k=1
 ·have e1 : alZ e' (a * px + b * py + x) (c * px + d * py + y) = alZ e px py := by unfold alZ; rw [h.ax, h.ay, h.bx, h.by', sub_iso, sub_iso, sub_iso, sub_iso, dot_iso h.iso]
  have e2:loZ e'=loZ e:=by unfold loZ;rw[h.ax,h.ay,h.bx,h.by',sub_iso,sub_iso,dot_iso h.iso]
  have e3:crZ e' (a*px+b*py+x) (c*px+d*py+y)=(a*d-b*c)*crZ e px py:=by
   unfold crZ;rw[h.ax,h.ay,h.bx,h.by',sub_iso,sub_iso,sub_iso,sub_iso]
   exact crs_iso ..
  have e4:crZ e' (a*px+b*py+x) (c*px+d*py+y)*crZ e' (a*px+b*py+x) (c*px+d*py+y)=crZ e px py*crZ e px py:=by
   rw[e3]
   rcases det_iso h.iso with g|g<;>rw[g]<;>grind
  rw[if_pos hk,if_pos (h.k.2 hk),e1,e2,e4]
 ·have e1:(wiZ e' (a*px+b*py+x) (c*px+d*py+y) >= 0)=(wiZ e px py >= 0):=by
   apply propext
   rw[wi_inQ,wi_inQ,h.cx hk,h.cy hk,sub_iso,sub_iso,h.inQ hk]
   have:(a*(px-e.cx)+b*(py-e.cy)=0/\c*(px-e.cx)+d*(py-e.cy)=0) <-> (px-e.cx=0/\py-e.cy=0):=by
    rcases h.iso with⟨rfl,rfl,rfl|rfl,rfl|rfl⟩|⟨rfl,rfl,rfl|rfl,rfl|rfl⟩<;>omega
   rw[this]
  rw[if_neg hk,if_neg (fun g=>hk (h.k.1 g)),h.cx hk,h.cy hk,f,h.rad hk]
  simp only[e1]
end
end
end Go.Proofs.YteajakbpmeebnaaGreat
